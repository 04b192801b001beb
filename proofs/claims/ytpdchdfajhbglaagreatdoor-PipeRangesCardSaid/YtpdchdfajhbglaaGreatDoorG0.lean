/- Parts of the proof: FpSeatP, FpEndP0. -/
import Derived.Test.YtpdchdfajhbglaaGreatDoorProg
import Derived.KernelRfl
import Derived.Test.YtpdchdfajhbglaaGreatDoorCards
import Derived.Test.YtpdchdfajhbglaaGreatDoorTie
import Derived.WalkKit
import Derived.ProofKit
import Derived.OpenShut
import Derived.Deep.DeepHandedRow
import Derived.Lib.LaidTab
import Derived.Test.YtpdchdfajhbglaaGreatDoorGs
import Derived.Test.YtpdchdfajhbglaaGreatDoorFb
import Derived.Test.YtpdchdfajhbglaaGreatDoorFd
import Derived.Test.YtpdchdfajhbglaaGreatDoorFb
namespace Go.Abs
open Go.Proofs
set_option maxRecDepth 100000
def qada : List Nat:=[0,0,0,518,521,520,517,595,280,281,527,285,311,528,529,530,470,471,286,531,532,416,533,411,537,294,295,302,303,304,538,296,67,298,536,77,290,293,310,152,210,172,133,522,523,138,524,139,525,140,526,141,147,83,158,463,474,176,173,142,614,8,596,11,597,195,60,598,95,291,312,313,314,315,539,322,540,316,324,326,541,542,145,175,148,486,82,177,146,154,159,429,437,107,430,438,79,431,318,319,320,323,325,330,178,544,89,321,96,51,52,153,74,225,106,186,187,188,189,190,191,192,90,156,198,204,480,481,482,94,489,207,208,193,194,38,610,39,611,20,40,17,41,42,29,43,44,9,31,12,18,23,27,48,599,600,601,602,108,109,93,92,327,196,197,174,202,206,57,98,499,160,500,501,209,203,182,205,445,442,149,448,444,446,443,447,423,211,548,78,80,85,244,245,246,119,221,216,217,104,105,165,164,223,224,493,494,495,265,199,200,496,502,503,504,505,230,218,58,612,613,46,50,53,75,68,32,70,49,54,55,56,63,65,603,604,605,606,607,219,220,226,227,228,229,97,509,510,511,512,513,238,514,231,232,233,185,214,184,451,449,450,234,99,100,101,102,103,261,114,115,262,235,222,236,237,112,257,258,506,507,508,253,515,516,240,239,241,254,110,64,61,88,76,81,91,84,86,87,608,609,242,247,248,249,250,251,252,259,111,215,117,118,255,243,256,116,264,266,260,113,263,120,271,272,267,268,269,270,273,274,0,0,0,0,0,0,0,0,0,0,0,0,0,0,0,0,0,0,0,0,0]
def q4y : List (Nat × List V):=[(0,[.int .u8 0,.int .u8 1,.int .u8 28,.int .u8 2,.int .u8 29,.int .u8 14,.int .u8 24,.int .u8 3,.int .u8 30,.int .u8 22,.int .u8 20,.int .u8 15,.int .u8 25,.int .u8 17,.int .u8 4,.int .u8 8,.int .u8 31,.int .u8 27,.int .u8 13,.int .u8 23,.int .u8 21,.int .u8 19,.int .u8 16,.int .u8 7,.int .u8 26,.int .u8 12,.int .u8 18,.int .u8 6,.int .u8 11,.int .u8 5,.int .u8 10,.int .u8 9])]
noncomputable def tab : Tab:=⟨Tryz.prog,⟨gidOf qada,q16 q4y⟩⟩
theorem k7 : RowOk tab ⟨7,595,qed⟩:=⟨Tryz.f7,Tryz.func7,by kernel_rfl⟩
theorem k16 : RowOk tab ⟨16,470,qoo⟩:=⟨Tryz.f16,Tryz.func16,by kernel_rfl⟩
theorem k17 : RowOk tab ⟨17,471,qop⟩:=⟨Tryz.f17,Tryz.func17,by kernel_rfl⟩
theorem k21 : RowOk tab ⟨21,416,qk6⟩:=⟨Tryz.f21,Tryz.func21,by kernel_rfl⟩
theorem k23 : RowOk tab ⟨23,411,qk5⟩:=⟨Tryz.f23,Tryz.func23,by kernel_rfl⟩
theorem k32 : RowOk tab ⟨32,67,qbk⟩:=⟨Tryz.f32,Tryz.func32,by kernel_rfl⟩
theorem k35 : RowOk tab ⟨35,77,qg2⟩:=⟨Tryz.f35,Tryz.func35,by kernel_rfl⟩
theorem k39 : RowOk tab ⟨39,152,qg6⟩:=⟨Tryz.f39,Tryz.func39,by kernel_rfl⟩
theorem k40 : RowOk tab ⟨40,210,qol⟩:=⟨Tryz.f40,Tryz.func40,by kernel_rfl⟩
theorem k45 : RowOk tab ⟨45,138,qks⟩:=⟨Tryz.f45,Tryz.func45,by kernel_rfl⟩
theorem k47 : RowOk tab ⟨47,139,qkm⟩:=⟨Tryz.f47,Tryz.func47,by kernel_rfl⟩
theorem k49 : RowOk tab ⟨49,140,qko⟩:=⟨Tryz.f49,Tryz.func49,by kernel_rfl⟩
theorem k51 : RowOk tab ⟨51,141,qf2⟩:=⟨Tryz.f51,Tryz.func51,by kernel_rfl⟩
theorem k52 : RowOk tab ⟨52,147,qkn⟩:=⟨Tryz.f52,Tryz.func52,by kernel_rfl⟩
theorem k53 : RowOk tab ⟨53,83,qf3⟩:=⟨Tryz.f53,Tryz.func53,by kernel_rfl⟩
theorem k54 : RowOk tab ⟨54,158,qg3⟩:=⟨Tryz.f54,Tryz.func54,by kernel_rfl⟩
theorem k57 : RowOk tab ⟨57,176,qiz⟩:=⟨Tryz.f57,Tryz.func57,by kernel_rfl⟩
theorem k58 : RowOk tab ⟨58,173,qi0⟩:=⟨Tryz.f58,Tryz.func58,by kernel_rfl⟩
theorem k59 : RowOk tab ⟨59,142,qkr⟩:=⟨Tryz.f59,Tryz.func59,by kernel_rfl⟩
theorem k60 : RowOk tab ⟨60,614,qhc⟩:=⟨Tryz.f60,Tryz.func60,by kernel_rfl⟩
theorem k61 : RowOk tab ⟨61,8,qjf⟩:=⟨Tryz.f61,Tryz.func61,by kernel_rfl⟩
theorem k62 : RowOk tab ⟨62,596,qof⟩:=⟨Tryz.f62,Tryz.func62,by kernel_rfl⟩
theorem k63 : RowOk tab ⟨63,11,qi3⟩:=⟨Tryz.f63,Tryz.func63,by kernel_rfl⟩
theorem k64 : RowOk tab ⟨64,597,qn9⟩:=⟨Tryz.f64,Tryz.func64,by kernel_rfl⟩
theorem k65 : RowOk tab ⟨65,195,qkw⟩:=⟨Tryz.f65,Tryz.func65,by kernel_rfl⟩
theorem k66 : RowOk tab ⟨66,60,qi9⟩:=⟨Tryz.f66,Tryz.func66,by kernel_rfl⟩
theorem k67 : RowOk tab ⟨67,598,qsa⟩:=⟨Tryz.f67,Tryz.func67,by kernel_rfl⟩
theorem k68 : RowOk tab ⟨68,95,qkx⟩:=⟨Tryz.f68,Tryz.func68,by kernel_rfl⟩
theorem k85 : RowOk tab ⟨85,486,qm9⟩:=⟨Tryz.f85,Tryz.func85,by kernel_rfl⟩
theorem k86 : RowOk tab ⟨86,82,qb3⟩:=⟨Tryz.f86,Tryz.func86,by kernel_rfl⟩
theorem k91 : RowOk tab ⟨91,429,qjg⟩:=⟨Tryz.f91,Tryz.func91,by kernel_rfl⟩
theorem k92 : RowOk tab ⟨92,437,qey⟩:=⟨Tryz.f92,Tryz.func92,by kernel_rfl⟩
theorem k93 : RowOk tab ⟨93,107,qg1⟩:=⟨Tryz.f93,Tryz.func93,by kernel_rfl⟩
theorem k94 : RowOk tab ⟨94,430,qjh⟩:=⟨Tryz.f94,Tryz.func94,by kernel_rfl⟩
theorem k95 : RowOk tab ⟨95,438,qhe⟩:=⟨Tryz.f95,Tryz.func95,by kernel_rfl⟩
theorem k96 : RowOk tab ⟨96,79,qm3⟩:=⟨Tryz.f96,Tryz.func96,by kernel_rfl⟩
theorem k97 : RowOk tab ⟨97,431,qee⟩:=⟨Tryz.f97,Tryz.func97,by kernel_rfl⟩
theorem k103 : RowOk tab ⟨103,330,qbm⟩:=⟨Tryz.f103,Tryz.func103,by kernel_rfl⟩
theorem k104 : RowOk tab ⟨104,178,qg5⟩:=⟨Tryz.f104,Tryz.func104,by kernel_rfl⟩
theorem k106 : RowOk tab ⟨106,89,qb2⟩:=⟨Tryz.f106,Tryz.func106,by kernel_rfl⟩
theorem k108 : RowOk tab ⟨108,96,qfm⟩:=⟨Tryz.f108,Tryz.func108,by kernel_rfl⟩
theorem k109 : RowOk tab ⟨109,51,qk7⟩:=⟨Tryz.f109,Tryz.func109,by kernel_rfl⟩
theorem k110 : RowOk tab ⟨110,52,qom⟩:=⟨Tryz.f110,Tryz.func110,by kernel_rfl⟩
theorem k112 : RowOk tab ⟨112,74,qm0⟩:=⟨Tryz.f112,Tryz.func112,by kernel_rfl⟩
theorem k113 : RowOk tab ⟨113,225,qfp⟩:=⟨Tryz.f113,Tryz.func113,by kernel_rfl⟩
theorem k114 : RowOk tab ⟨114,106,qgz⟩:=⟨Tryz.f114,Tryz.func114,by kernel_rfl⟩
theorem k115 : RowOk tab ⟨115,186,qec⟩:=⟨Tryz.f115,Tryz.func115,by kernel_rfl⟩
theorem k116 : RowOk tab ⟨116,187,qio⟩:=⟨Tryz.f116,Tryz.func116,by kernel_rfl⟩
theorem k117 : RowOk tab ⟨117,188,qmk⟩:=⟨Tryz.f117,Tryz.func117,by kernel_rfl⟩
theorem k118 : RowOk tab ⟨118,189,qiw⟩:=⟨Tryz.f118,Tryz.func118,by kernel_rfl⟩
theorem k119 : RowOk tab ⟨119,190,qiy⟩:=⟨Tryz.f119,Tryz.func119,by kernel_rfl⟩
theorem k120 : RowOk tab ⟨120,191,qim⟩:=⟨Tryz.f120,Tryz.func120,by kernel_rfl⟩
theorem k121 : RowOk tab ⟨121,192,qmi⟩:=⟨Tryz.f121,Tryz.func121,by kernel_rfl⟩
theorem k122 : RowOk tab ⟨122,90,qi1⟩:=⟨Tryz.f122,Tryz.func122,by kernel_rfl⟩
theorem k123 : RowOk tab ⟨123,156,qkt⟩:=⟨Tryz.f123,Tryz.func123,by kernel_rfl⟩
theorem k124 : RowOk tab ⟨124,198,qok⟩:=⟨Tryz.f124,Tryz.func124,by kernel_rfl⟩
theorem k125 : RowOk tab ⟨125,204,qk8⟩:=⟨Tryz.f125,Tryz.func125,by kernel_rfl⟩
theorem k126 : RowOk tab ⟨126,480,qhn⟩:=⟨Tryz.f126,Tryz.func126,by kernel_rfl⟩
theorem k127 : RowOk tab ⟨127,481,qm7⟩:=⟨Tryz.f127,Tryz.func127,by kernel_rfl⟩
theorem k128 : RowOk tab ⟨128,482,qql⟩:=⟨Tryz.f128,Tryz.func128,by kernel_rfl⟩
theorem k129 : RowOk tab ⟨129,94,qi2⟩:=⟨Tryz.f129,Tryz.func129,by kernel_rfl⟩
theorem k131 : RowOk tab ⟨131,207,qgs⟩:=⟨Tryz.f131,Tryz.func131,by kernel_rfl⟩
theorem k132 : RowOk tab ⟨132,208,qkf⟩:=⟨Tryz.f132,Tryz.func132,by kernel_rfl⟩
theorem k133 : RowOk tab ⟨133,193,qin⟩:=⟨Tryz.f133,Tryz.func133,by kernel_rfl⟩
theorem k134 : RowOk tab ⟨134,194,qmj⟩:=⟨Tryz.f134,Tryz.func134,by kernel_rfl⟩
theorem k135 : RowOk tab ⟨135,38,qf8⟩:=⟨Tryz.f135,Tryz.func135,by kernel_rfl⟩
theorem k136 : RowOk tab ⟨136,610,qsf⟩:=⟨Tryz.f136,Tryz.func136,by kernel_rfl⟩
theorem k137 : RowOk tab ⟨137,39,qqk⟩:=⟨Tryz.f137,Tryz.func137,by kernel_rfl⟩
theorem k138 : RowOk tab ⟨138,611,qqj⟩:=⟨Tryz.f138,Tryz.func138,by kernel_rfl⟩
theorem k139 : RowOk tab ⟨139,20,qi4⟩:=⟨Tryz.f139,Tryz.func139,by kernel_rfl⟩
theorem k140 : RowOk tab ⟨140,40,qoh⟩:=⟨Tryz.f140,Tryz.func140,by kernel_rfl⟩
theorem k141 : RowOk tab ⟨141,17,qoe⟩:=⟨Tryz.f141,Tryz.func141,by kernel_rfl⟩
theorem k142 : RowOk tab ⟨142,41,qca⟩:=⟨Tryz.f142,Tryz.func142,by kernel_rfl⟩
theorem k143 : RowOk tab ⟨143,42,qf7⟩:=⟨Tryz.f143,Tryz.func143,by kernel_rfl⟩
theorem k144 : RowOk tab ⟨144,29,qk3⟩:=⟨Tryz.f144,Tryz.func144,by kernel_rfl⟩
theorem k145 : RowOk tab ⟨145,43,qbq⟩:=⟨Tryz.f145,Tryz.func145,by kernel_rfl⟩
theorem k146 : RowOk tab ⟨146,44,qex⟩:=⟨Tryz.f146,Tryz.func146,by kernel_rfl⟩
theorem k147 : RowOk tab ⟨147,9,qk4⟩:=⟨Tryz.f147,Tryz.func147,by kernel_rfl⟩
theorem k148 : RowOk tab ⟨148,31,qmw⟩:=⟨Tryz.f148,Tryz.func148,by kernel_rfl⟩
theorem k149 : RowOk tab ⟨149,12,qjd⟩:=⟨Tryz.f149,Tryz.func149,by kernel_rfl⟩
theorem k150 : RowOk tab ⟨150,18,qm1⟩:=⟨Tryz.f150,Tryz.func150,by kernel_rfl⟩
theorem k151 : RowOk tab ⟨151,23,qje⟩:=⟨Tryz.f151,Tryz.func151,by kernel_rfl⟩
theorem k152 : RowOk tab ⟨152,27,qg7⟩:=⟨Tryz.f152,Tryz.func152,by kernel_rfl⟩
theorem k153 : RowOk tab ⟨153,48,qg9⟩:=⟨Tryz.f153,Tryz.func153,by kernel_rfl⟩
theorem k154 : RowOk tab ⟨154,599,qmd⟩:=⟨Tryz.f154,Tryz.func154,by kernel_rfl⟩
theorem k155 : RowOk tab ⟨155,600,qcj⟩:=⟨Tryz.f155,Tryz.func155,by kernel_rfl⟩
theorem k156 : RowOk tab ⟨156,601,qkd⟩:=⟨Tryz.f156,Tryz.func156,by kernel_rfl⟩
theorem k157 : RowOk tab ⟨157,602,qsb⟩:=⟨Tryz.f157,Tryz.func157,by kernel_rfl⟩
theorem k158 : RowOk tab ⟨158,108,qi6⟩:=⟨Tryz.f158,Tryz.func158,by kernel_rfl⟩
theorem k159 : RowOk tab ⟨159,109,qi7⟩:=⟨Tryz.f159,Tryz.func159,by kernel_rfl⟩
theorem k160 : RowOk tab ⟨160,93,qi5⟩:=⟨Tryz.f160,Tryz.func160,by kernel_rfl⟩
theorem k161 : RowOk tab ⟨161,92,qkv⟩:=⟨Tryz.f161,Tryz.func161,by kernel_rfl⟩
theorem k168 : RowOk tab ⟨168,57,qmz⟩:=⟨Tryz.f168,Tryz.func168,by kernel_rfl⟩
theorem k169 : RowOk tab ⟨169,98,qoj⟩:=⟨Tryz.f169,Tryz.func169,by kernel_rfl⟩
theorem k170 : RowOk tab ⟨170,499,qm6⟩:=⟨Tryz.f170,Tryz.func170,by kernel_rfl⟩
theorem k171 : RowOk tab ⟨171,160,qg0⟩:=⟨Tryz.f171,Tryz.func171,by kernel_rfl⟩
theorem k172 : RowOk tab ⟨172,500,qlb⟩:=⟨Tryz.f172,Tryz.func172,by kernel_rfl⟩
theorem k173 : RowOk tab ⟨173,501,qlc⟩:=⟨Tryz.f173,Tryz.func173,by kernel_rfl⟩
theorem k177 : RowOk tab ⟨177,205,qon⟩:=⟨Tryz.f177,Tryz.func177,by kernel_rfl⟩
theorem k178 : RowOk tab ⟨178,445,qhd⟩:=⟨Tryz.f178,Tryz.func178,by kernel_rfl⟩
theorem k179 : RowOk tab ⟨179,442,qhf⟩:=⟨Tryz.f179,Tryz.func179,by kernel_rfl⟩
theorem k180 : RowOk tab ⟨180,149,qg4⟩:=⟨Tryz.f180,Tryz.func180,by kernel_rfl⟩
theorem k181 : RowOk tab ⟨181,448,qcu⟩:=⟨Tryz.f181,Tryz.func181,by kernel_rfl⟩
theorem k182 : RowOk tab ⟨182,444,qdu⟩:=⟨Tryz.f182,Tryz.func182,by kernel_rfl⟩
theorem k183 : RowOk tab ⟨183,446,qdv⟩:=⟨Tryz.f183,Tryz.func183,by kernel_rfl⟩
theorem k184 : RowOk tab ⟨184,443,qds⟩:=⟨Tryz.f184,Tryz.func184,by kernel_rfl⟩
theorem k185 : RowOk tab ⟨185,447,qdr⟩:=⟨Tryz.f185,Tryz.func185,by kernel_rfl⟩
theorem k186 : RowOk tab ⟨186,423,qji⟩:=⟨Tryz.f186,Tryz.func186,by kernel_rfl⟩
theorem k187 : RowOk tab ⟨187,211,qkl⟩:=⟨Tryz.f187,Tryz.func187,by kernel_rfl⟩
theorem k189 : RowOk tab ⟨189,78,qhj⟩:=⟨Tryz.f189,Tryz.func189,by kernel_rfl⟩
theorem k190 : RowOk tab ⟨190,80,qhk⟩:=⟨Tryz.f190,Tryz.func190,by kernel_rfl⟩
theorem k191 : RowOk tab ⟨191,85,qog⟩:=⟨Tryz.f191,Tryz.func191,by kernel_rfl⟩
theorem k192 : RowOk tab ⟨192,244,qhh⟩:=⟨Tryz.f192,Tryz.func192,by kernel_rfl⟩
theorem k193 : RowOk tab ⟨193,245,qoi⟩:=⟨Tryz.f193,Tryz.func193,by kernel_rfl⟩
theorem k194 : RowOk tab ⟨194,246,qms⟩:=⟨Tryz.f194,Tryz.func194,by kernel_rfl⟩
theorem k195 : RowOk tab ⟨195,119,qeb⟩:=⟨Tryz.f195,Tryz.func195,by kernel_rfl⟩
theorem k196 : RowOk tab ⟨196,221,qdq⟩:=⟨Tryz.f196,Tryz.func196,by kernel_rfl⟩
theorem k197 : RowOk tab ⟨197,216,c_round_add⟩:=⟨Tryz.f197,Tryz.func197,by kernel_rfl⟩
theorem k198 : RowOk tab ⟨198,217,qqd⟩:=⟨Tryz.f198,Tryz.func198,by kernel_rfl⟩
theorem k199 : RowOk tab ⟨199,104,qiv⟩:=⟨Tryz.f199,Tryz.func199,by kernel_rfl⟩
theorem k200 : RowOk tab ⟨200,105,qix⟩:=⟨Tryz.f200,Tryz.func200,by kernel_rfl⟩
theorem k201 : RowOk tab ⟨201,165,qkp⟩:=⟨Tryz.f201,Tryz.func201,by kernel_rfl⟩
theorem k202 : RowOk tab ⟨202,164,qkq⟩:=⟨Tryz.f202,Tryz.func202,by kernel_rfl⟩
theorem k203 : RowOk tab ⟨203,223,qga⟩:=⟨Tryz.f203,Tryz.func203,by kernel_rfl⟩
theorem k204 : RowOk tab ⟨204,224,qhl⟩:=⟨Tryz.f204,Tryz.func204,by kernel_rfl⟩
theorem k205 : RowOk tab ⟨205,493,qm8⟩:=⟨Tryz.f205,Tryz.func205,by kernel_rfl⟩
theorem k206 : RowOk tab ⟨206,494,qfs⟩:=⟨Tryz.f206,Tryz.func206,by kernel_rfl⟩
theorem k207 : RowOk tab ⟨207,495,qeh⟩:=⟨Tryz.f207,Tryz.func207,by kernel_rfl⟩
theorem k208 : RowOk tab ⟨208,265,qm4⟩:=⟨Tryz.f208,Tryz.func208,by kernel_rfl⟩
theorem k209 : RowOk tab ⟨209,199,qob⟩:=⟨Tryz.f209,Tryz.func209,by kernel_rfl⟩
theorem k210 : RowOk tab ⟨210,200,qsd⟩:=⟨Tryz.f210,Tryz.func210,by kernel_rfl⟩
theorem k211 : RowOk tab ⟨211,496,qho⟩:=⟨Tryz.f211,Tryz.func211,by kernel_rfl⟩
theorem k213 : RowOk tab ⟨213,503,qqm⟩:=⟨Tryz.f213,Tryz.func213,by kernel_rfl⟩
theorem k214 : RowOk tab ⟨214,504,qla⟩:=⟨Tryz.f214,Tryz.func214,by kernel_rfl⟩
theorem k216 : RowOk tab ⟨216,230,qoa⟩:=⟨Tryz.f216,Tryz.func216,by kernel_rfl⟩
theorem k217 : RowOk tab ⟨217,218,qqe⟩:=⟨Tryz.f217,Tryz.func217,by kernel_rfl⟩
theorem k218 : RowOk tab ⟨218,58,qmm⟩:=⟨Tryz.f218,Tryz.func218,by kernel_rfl⟩
theorem k219 : RowOk tab ⟨219,612,qse⟩:=⟨Tryz.f219,Tryz.func219,by kernel_rfl⟩
theorem k220 : RowOk tab ⟨220,613,qgg⟩:=⟨Tryz.f220,Tryz.func220,by kernel_rfl⟩
theorem k221 : RowOk tab ⟨221,46,qqg⟩:=⟨Tryz.f221,Tryz.func221,by kernel_rfl⟩
theorem k222 : RowOk tab ⟨222,50,qqn⟩:=⟨Tryz.f222,Tryz.func222,by kernel_rfl⟩
theorem k223 : RowOk tab ⟨223,53,qoq⟩:=⟨Tryz.f223,Tryz.func223,by kernel_rfl⟩
theorem k224 : RowOk tab ⟨224,75,qcx⟩:=⟨Tryz.f224,Tryz.func224,by kernel_rfl⟩
theorem k225 : RowOk tab ⟨225,68,qhb⟩:=⟨Tryz.f225,Tryz.func225,by kernel_rfl⟩
theorem k226 : RowOk tab ⟨226,32,qb8⟩:=⟨Tryz.f226,Tryz.func226,by kernel_rfl⟩
theorem k227 : RowOk tab ⟨227,70,qi8⟩:=⟨Tryz.f227,Tryz.func227,by kernel_rfl⟩
theorem k228 : RowOk tab ⟨228,49,qk1⟩:=⟨Tryz.f228,Tryz.func228,by kernel_rfl⟩
theorem k229 : RowOk tab ⟨229,54,qk2⟩:=⟨Tryz.f229,Tryz.func229,by kernel_rfl⟩
theorem k230 : RowOk tab ⟨230,55,qmx⟩:=⟨Tryz.f230,Tryz.func230,by kernel_rfl⟩
theorem k231 : RowOk tab ⟨231,56,qmy⟩:=⟨Tryz.f231,Tryz.func231,by kernel_rfl⟩
theorem k232 : RowOk tab ⟨232,63,qf5⟩:=⟨Tryz.f232,Tryz.func232,by kernel_rfl⟩
theorem k233 : RowOk tab ⟨233,65,qha⟩:=⟨Tryz.f233,Tryz.func233,by kernel_rfl⟩
theorem k234 : RowOk tab ⟨234,603,qij⟩:=⟨Tryz.f234,Tryz.func234,by kernel_rfl⟩
theorem k235 : RowOk tab ⟨235,604,qml⟩:=⟨Tryz.f235,Tryz.func235,by kernel_rfl⟩
theorem k236 : RowOk tab ⟨236,605,qde⟩:=⟨Tryz.f236,Tryz.func236,by kernel_rfl⟩
theorem k237 : RowOk tab ⟨237,606,qip⟩:=⟨Tryz.f237,Tryz.func237,by kernel_rfl⟩
theorem k238 : RowOk tab ⟨238,607,qhg⟩:=⟨Tryz.f238,Tryz.func238,by kernel_rfl⟩
theorem k245 : RowOk tab ⟨245,97,qm2⟩:=⟨Tryz.f245,Tryz.func245,by kernel_rfl⟩
theorem k246 : RowOk tab ⟨246,509,qhm⟩:=⟨Tryz.f246,Tryz.func246,by kernel_rfl⟩
theorem k247 : RowOk tab ⟨247,510,qjk⟩:=⟨Tryz.f247,Tryz.func247,by kernel_rfl⟩
theorem k248 : RowOk tab ⟨248,511,qk9⟩:=⟨Tryz.f248,Tryz.func248,by kernel_rfl⟩
theorem k249 : RowOk tab ⟨249,512,qeg⟩:=⟨Tryz.f249,Tryz.func249,by kernel_rfl⟩
theorem k250 : RowOk tab ⟨250,513,qld⟩:=⟨Tryz.f250,Tryz.func250,by kernel_rfl⟩
theorem k251 : RowOk tab ⟨251,238,qmu⟩:=⟨Tryz.f251,Tryz.func251,by kernel_rfl⟩
theorem k252 : RowOk tab ⟨252,514,qez⟩:=⟨Tryz.f252,Tryz.func252,by kernel_rfl⟩
theorem k259 : RowOk tab ⟨259,451,qdt⟩:=⟨Tryz.f259,Tryz.func259,by kernel_rfl⟩
theorem k260 : RowOk tab ⟨260,449,qc4⟩:=⟨Tryz.f260,Tryz.func260,by kernel_rfl⟩
theorem k261 : RowOk tab ⟨261,450,qf9⟩:=⟨Tryz.f261,Tryz.func261,by kernel_rfl⟩
theorem k262 : RowOk tab ⟨262,234,qgy⟩:=⟨Tryz.f262,Tryz.func262,by kernel_rfl⟩
theorem k263 : RowOk tab ⟨263,99,qhx⟩:=⟨Tryz.f263,Tryz.func263,by kernel_rfl⟩
theorem k264 : RowOk tab ⟨264,100,qhi⟩:=⟨Tryz.f264,Tryz.func264,by kernel_rfl⟩
theorem k265 : RowOk tab ⟨265,101,qky⟩:=⟨Tryz.f265,Tryz.func265,by kernel_rfl⟩
theorem k266 : RowOk tab ⟨266,102,qja⟩:=⟨Tryz.f266,Tryz.func266,by kernel_rfl⟩
theorem k267 : RowOk tab ⟨267,103,qjb⟩:=⟨Tryz.f267,Tryz.func267,by kernel_rfl⟩
theorem k268 : RowOk tab ⟨268,261,qb4⟩:=⟨Tryz.f268,Tryz.func268,by kernel_rfl⟩
theorem k269 : RowOk tab ⟨269,114,qki⟩:=⟨Tryz.f269,Tryz.func269,by kernel_rfl⟩
theorem k270 : RowOk tab ⟨270,115,qkj⟩:=⟨Tryz.f270,Tryz.func270,by kernel_rfl⟩
theorem k271 : RowOk tab ⟨271,262,qmo⟩:=⟨Tryz.f271,Tryz.func271,by kernel_rfl⟩
theorem k272 : RowOk tab ⟨272,235,qmh⟩:=⟨Tryz.f272,Tryz.func272,by kernel_rfl⟩
theorem k273 : RowOk tab ⟨273,222,qmg⟩:=⟨Tryz.f273,Tryz.func273,by kernel_rfl⟩
theorem k274 : RowOk tab ⟨274,236,c_round_sum⟩:=⟨Tryz.f274,Tryz.func274,by kernel_rfl⟩
theorem k275 : RowOk tab ⟨275,237,qke⟩:=⟨Tryz.f275,Tryz.func275,by kernel_rfl⟩
theorem k276 : RowOk tab ⟨276,112,qmt⟩:=⟨Tryz.f276,Tryz.func276,by kernel_rfl⟩
theorem k277 : RowOk tab ⟨277,257,qmv⟩:=⟨Tryz.f277,Tryz.func277,by kernel_rfl⟩
theorem k278 : RowOk tab ⟨278,258,qmr⟩:=⟨Tryz.f278,Tryz.func278,by kernel_rfl⟩
theorem k279 : RowOk tab ⟨279,506,qef⟩:=⟨Tryz.f279,Tryz.func279,by kernel_rfl⟩
theorem k280 : RowOk tab ⟨280,507,qgb⟩:=⟨Tryz.f280,Tryz.func280,by kernel_rfl⟩
theorem k281 : RowOk tab ⟨281,508,qfq⟩:=⟨Tryz.f281,Tryz.func281,by kernel_rfl⟩
theorem k282 : RowOk tab ⟨282,253,qkk⟩:=⟨Tryz.f282,Tryz.func282,by kernel_rfl⟩
theorem k285 : RowOk tab ⟨285,240,qgx⟩:=⟨Tryz.f285,Tryz.func285,by kernel_rfl⟩
theorem k286 : RowOk tab ⟨286,239,qm5⟩:=⟨Tryz.f286,Tryz.func286,by kernel_rfl⟩
theorem k287 : RowOk tab ⟨287,241,qqc⟩:=⟨Tryz.f287,Tryz.func287,by kernel_rfl⟩
theorem k288 : RowOk tab ⟨288,254,c_round_cut⟩:=⟨Tryz.f288,Tryz.func288,by kernel_rfl⟩
theorem k289 : RowOk tab ⟨289,110,qgi⟩:=⟨Tryz.f289,Tryz.func289,by kernel_rfl⟩
theorem k290 : RowOk tab ⟨290,64,qod⟩:=⟨Tryz.f290,Tryz.func290,by kernel_rfl⟩
theorem k291 : RowOk tab ⟨291,61,qqh⟩:=⟨Tryz.f291,Tryz.func291,by kernel_rfl⟩
theorem k292 : RowOk tab ⟨292,88,qqi⟩:=⟨Tryz.f292,Tryz.func292,by kernel_rfl⟩
theorem k293 : RowOk tab ⟨293,76,qna⟩:=⟨Tryz.f293,Tryz.func293,by kernel_rfl⟩
theorem k294 : RowOk tab ⟨294,81,qwm⟩:=⟨Tryz.f294,Tryz.func294,by kernel_rfl⟩
theorem k295 : RowOk tab ⟨295,91,qku⟩:=⟨Tryz.f295,Tryz.func295,by kernel_rfl⟩
theorem k296 : RowOk tab ⟨296,84,qk0⟩:=⟨Tryz.f296,Tryz.func296,by kernel_rfl⟩
theorem k297 : RowOk tab ⟨297,86,qkz⟩:=⟨Tryz.f297,Tryz.func297,by kernel_rfl⟩
theorem k298 : RowOk tab ⟨298,87,qjc⟩:=⟨Tryz.f298,Tryz.func298,by kernel_rfl⟩
theorem k299 : RowOk tab ⟨299,608,qqf⟩:=⟨Tryz.f299,Tryz.func299,by kernel_rfl⟩
theorem k300 : RowOk tab ⟨300,609,qoc⟩:=⟨Tryz.f300,Tryz.func300,by kernel_rfl⟩
theorem k308 : RowOk tab ⟨308,259,qmp⟩:=⟨Tryz.f308,Tryz.func308,by kernel_rfl⟩
theorem k309 : RowOk tab ⟨309,111,qem⟩:=⟨Tryz.f309,Tryz.func309,by kernel_rfl⟩
theorem k311 : RowOk tab ⟨311,117,qbp⟩:=⟨Tryz.f311,Tryz.func311,by kernel_rfl⟩
theorem k312 : RowOk tab ⟨312,118,qgv⟩:=⟨Tryz.f312,Tryz.func312,by kernel_rfl⟩
theorem k313 : RowOk tab ⟨313,255,qil⟩:=⟨Tryz.f313,Tryz.func313,by kernel_rfl⟩
theorem k314 : RowOk tab ⟨314,243,qsc⟩:=⟨Tryz.f314,Tryz.func314,by kernel_rfl⟩
theorem k315 : RowOk tab ⟨315,256,qqb⟩:=⟨Tryz.f315,Tryz.func315,by kernel_rfl⟩
theorem k316 : RowOk tab ⟨316,116,qhw⟩:=⟨Tryz.f316,Tryz.func316,by kernel_rfl⟩
theorem k317 : RowOk tab ⟨317,264,qmq⟩:=⟨Tryz.f317,Tryz.func317,by kernel_rfl⟩
theorem k318 : RowOk tab ⟨318,266,qmn⟩:=⟨Tryz.f318,Tryz.func318,by kernel_rfl⟩
theorem k319 : RowOk tab ⟨319,260,qgw⟩:=⟨Tryz.f319,Tryz.func319,by kernel_rfl⟩
theorem k320 : RowOk tab ⟨320,113,qd6⟩:=⟨Tryz.f320,Tryz.func320,by kernel_rfl⟩
theorem k322 : RowOk tab ⟨322,120,qb7⟩:=⟨Tryz.f322,Tryz.func322,by kernel_rfl⟩
theorem k323 : RowOk tab ⟨323,271,qf1⟩:=⟨Tryz.f323,Tryz.func323,by kernel_rfl⟩
theorem k324 : RowOk tab ⟨324,272,qfz⟩:=⟨Tryz.f324,Tryz.func324,by kernel_rfl⟩
theorem k325 : RowOk tab ⟨325,267,qir⟩:=⟨Tryz.f325,Tryz.func325,by kernel_rfl⟩
theorem k326 : RowOk tab ⟨326,268,qcb⟩:=⟨Tryz.f326,Tryz.func326,by kernel_rfl⟩
theorem k327 : RowOk tab ⟨327,269,qis⟩:=⟨Tryz.f327,Tryz.func327,by kernel_rfl⟩
theorem k328 : RowOk tab ⟨328,270,qgh⟩:=⟨Tryz.f328,Tryz.func328,by kernel_rfl⟩
theorem k329 : RowOk tab ⟨329,273,qf0⟩:=⟨Tryz.f329,Tryz.func329,by kernel_rfl⟩
theorem k330 : RowOk tab ⟨330,274,qiu⟩:=⟨Tryz.f330,Tryz.func330,by kernel_rfl⟩
def rows : List Row:=
 [⟨7,595,qed⟩,
  ⟨16,470,qoo⟩,
  ⟨17,471,qop⟩,
  ⟨21,416,qk6⟩,
  ⟨23,411,qk5⟩,
  ⟨32,67,qbk⟩,
  ⟨35,77,qg2⟩,
  ⟨39,152,qg6⟩,
  ⟨40,210,qol⟩,
  ⟨45,138,qks⟩,
  ⟨47,139,qkm⟩,
  ⟨49,140,qko⟩,
  ⟨51,141,qf2⟩,
  ⟨52,147,qkn⟩,
  ⟨53,83,qf3⟩,
  ⟨54,158,qg3⟩,
  ⟨57,176,qiz⟩,
  ⟨58,173,qi0⟩,
  ⟨59,142,qkr⟩,
  ⟨60,614,qhc⟩,
  ⟨61,8,qjf⟩,
  ⟨62,596,qof⟩,
  ⟨63,11,qi3⟩,
  ⟨64,597,qn9⟩,
  ⟨65,195,qkw⟩,
  ⟨66,60,qi9⟩,
  ⟨67,598,qsa⟩,
  ⟨68,95,qkx⟩,
  ⟨85,486,qm9⟩,
  ⟨86,82,qb3⟩,
  ⟨91,429,qjg⟩,
  ⟨92,437,qey⟩,
  ⟨93,107,qg1⟩,
  ⟨94,430,qjh⟩,
  ⟨95,438,qhe⟩,
  ⟨96,79,qm3⟩,
  ⟨97,431,qee⟩,
  ⟨103,330,qbm⟩,
  ⟨104,178,qg5⟩,
  ⟨106,89,qb2⟩,
  ⟨108,96,qfm⟩,
  ⟨109,51,qk7⟩,
  ⟨110,52,qom⟩,
  ⟨112,74,qm0⟩,
  ⟨113,225,qfp⟩,
  ⟨114,106,qgz⟩,
  ⟨115,186,qec⟩,
  ⟨116,187,qio⟩,
  ⟨117,188,qmk⟩,
  ⟨118,189,qiw⟩,
  ⟨119,190,qiy⟩,
  ⟨120,191,qim⟩,
  ⟨121,192,qmi⟩,
  ⟨122,90,qi1⟩,
  ⟨123,156,qkt⟩,
  ⟨124,198,qok⟩,
  ⟨125,204,qk8⟩,
  ⟨126,480,qhn⟩,
  ⟨127,481,qm7⟩,
  ⟨128,482,qql⟩,
  ⟨129,94,qi2⟩,
  ⟨131,207,qgs⟩,
  ⟨132,208,qkf⟩,
  ⟨133,193,qin⟩,
  ⟨134,194,qmj⟩,
  ⟨135,38,qf8⟩,
  ⟨136,610,qsf⟩,
  ⟨137,39,qqk⟩,
  ⟨138,611,qqj⟩,
  ⟨139,20,qi4⟩,
  ⟨140,40,qoh⟩,
  ⟨141,17,qoe⟩,
  ⟨142,41,qca⟩,
  ⟨143,42,qf7⟩,
  ⟨144,29,qk3⟩,
  ⟨145,43,qbq⟩,
  ⟨146,44,qex⟩,
  ⟨147,9,qk4⟩,
  ⟨148,31,qmw⟩,
  ⟨149,12,qjd⟩,
  ⟨150,18,qm1⟩,
  ⟨151,23,qje⟩,
  ⟨152,27,qg7⟩,
  ⟨153,48,qg9⟩,
  ⟨154,599,qmd⟩,
  ⟨155,600,qcj⟩,
  ⟨156,601,qkd⟩,
  ⟨157,602,qsb⟩,
  ⟨158,108,qi6⟩,
  ⟨159,109,qi7⟩,
  ⟨160,93,qi5⟩,
  ⟨161,92,qkv⟩,
  ⟨168,57,qmz⟩,
  ⟨169,98,qoj⟩,
  ⟨170,499,qm6⟩,
  ⟨171,160,qg0⟩,
  ⟨172,500,qlb⟩,
  ⟨173,501,qlc⟩,
  ⟨177,205,qon⟩,
  ⟨178,445,qhd⟩,
  ⟨179,442,qhf⟩,
  ⟨180,149,qg4⟩,
  ⟨181,448,qcu⟩,
  ⟨182,444,qdu⟩,
  ⟨183,446,qdv⟩,
  ⟨184,443,qds⟩,
  ⟨185,447,qdr⟩,
  ⟨186,423,qji⟩,
  ⟨187,211,qkl⟩,
  ⟨189,78,qhj⟩,
  ⟨190,80,qhk⟩,
  ⟨191,85,qog⟩,
  ⟨192,244,qhh⟩,
  ⟨193,245,qoi⟩,
  ⟨194,246,qms⟩,
  ⟨195,119,qeb⟩,
  ⟨196,221,qdq⟩,
  ⟨197,216,c_round_add⟩,
  ⟨198,217,qqd⟩,
  ⟨199,104,qiv⟩,
  ⟨200,105,qix⟩,
  ⟨201,165,qkp⟩,
  ⟨202,164,qkq⟩,
  ⟨203,223,qga⟩,
  ⟨204,224,qhl⟩,
  ⟨205,493,qm8⟩,
  ⟨206,494,qfs⟩,
  ⟨207,495,qeh⟩,
  ⟨208,265,qm4⟩,
  ⟨209,199,qob⟩,
  ⟨210,200,qsd⟩,
  ⟨211,496,qho⟩,
  ⟨213,503,qqm⟩,
  ⟨214,504,qla⟩,
  ⟨216,230,qoa⟩,
  ⟨217,218,qqe⟩,
  ⟨218,58,qmm⟩,
  ⟨219,612,qse⟩,
  ⟨220,613,qgg⟩,
  ⟨221,46,qqg⟩,
  ⟨222,50,qqn⟩,
  ⟨223,53,qoq⟩,
  ⟨224,75,qcx⟩,
  ⟨225,68,qhb⟩,
  ⟨226,32,qb8⟩,
  ⟨227,70,qi8⟩,
  ⟨228,49,qk1⟩,
  ⟨229,54,qk2⟩,
  ⟨230,55,qmx⟩,
  ⟨231,56,qmy⟩,
  ⟨232,63,qf5⟩,
  ⟨233,65,qha⟩,
  ⟨234,603,qij⟩,
  ⟨235,604,qml⟩,
  ⟨236,605,qde⟩,
  ⟨237,606,qip⟩,
  ⟨238,607,qhg⟩,
  ⟨245,97,qm2⟩,
  ⟨246,509,qhm⟩,
  ⟨247,510,qjk⟩,
  ⟨248,511,qk9⟩,
  ⟨249,512,qeg⟩,
  ⟨250,513,qld⟩,
  ⟨251,238,qmu⟩,
  ⟨252,514,qez⟩,
  ⟨259,451,qdt⟩,
  ⟨260,449,qc4⟩,
  ⟨261,450,qf9⟩,
  ⟨262,234,qgy⟩,
  ⟨263,99,qhx⟩,
  ⟨264,100,qhi⟩,
  ⟨265,101,qky⟩,
  ⟨266,102,qja⟩,
  ⟨267,103,qjb⟩,
  ⟨268,261,qb4⟩,
  ⟨269,114,qki⟩,
  ⟨270,115,qkj⟩,
  ⟨271,262,qmo⟩,
  ⟨272,235,qmh⟩,
  ⟨273,222,qmg⟩,
  ⟨274,236,c_round_sum⟩,
  ⟨275,237,qke⟩,
  ⟨276,112,qmt⟩,
  ⟨277,257,qmv⟩,
  ⟨278,258,qmr⟩,
  ⟨279,506,qef⟩,
  ⟨280,507,qgb⟩,
  ⟨281,508,qfq⟩,
  ⟨282,253,qkk⟩,
  ⟨285,240,qgx⟩,
  ⟨286,239,qm5⟩,
  ⟨287,241,qqc⟩,
  ⟨288,254,c_round_cut⟩,
  ⟨289,110,qgi⟩,
  ⟨290,64,qod⟩,
  ⟨291,61,qqh⟩,
  ⟨292,88,qqi⟩,
  ⟨293,76,qna⟩,
  ⟨294,81,qwm⟩,
  ⟨295,91,qku⟩,
  ⟨296,84,qk0⟩,
  ⟨297,86,qkz⟩,
  ⟨298,87,qjc⟩,
  ⟨299,608,qqf⟩,
  ⟨300,609,qoc⟩,
  ⟨308,259,qmp⟩,
  ⟨309,111,qem⟩,
  ⟨311,117,qbp⟩,
  ⟨312,118,qgv⟩,
  ⟨313,255,qil⟩,
  ⟨314,243,qsc⟩,
  ⟨315,256,qqb⟩,
  ⟨316,116,qhw⟩,
  ⟨317,264,qmq⟩,
  ⟨318,266,qmn⟩,
  ⟨319,260,qgw⟩,
  ⟨320,113,qd6⟩,
  ⟨322,120,qb7⟩,
  ⟨323,271,qf1⟩,
  ⟨324,272,qfz⟩,
  ⟨325,267,qir⟩,
  ⟨326,268,qcb⟩,
  ⟨327,269,qis⟩,
  ⟨328,270,qgh⟩,
  ⟨329,273,qf0⟩,
  ⟨330,274,qiu⟩]
theorem fc {p:Row->Prop}{a:Row}{l:List Row}(h:p a)(t:∀x ∈ l,p x):∀x ∈ a :: l,p x:=List.forall_mem_cons.2 ⟨h,t⟩
theorem qajp : ∀r ∈ rows,RowOk tab r:=(fc k7 (fc k16 (fc k17 (fc k21 (fc k23 (fc k32 (fc k35 (fc k39 (fc k40 (fc k45 (fc k47 (fc k49 (fc k51 (fc k52 (fc k53 (fc k54 (fc k57 (fc k58 (fc k59 (fc k60 (fc k61 (fc k62 (fc k63 (fc k64 (fc k65 (fc k66 (fc k67 (fc k68 (fc k85 (fc k86 (fc k91 (fc k92 (fc k93 (fc k94 (fc k95 (fc k96 (fc k97 (fc k103 (fc k104 (fc k106 (fc k108 (fc k109 (fc k110 (fc k112 (fc k113 (fc k114 (fc k115 (fc k116 (fc k117 (fc k118 (fc k119 (fc k120 (fc k121 (fc k122 (fc k123 (fc k124 (fc k125 (fc k126 (fc k127 (fc k128 (fc k129 (fc k131 (fc k132 (fc k133 (fc k134 (fc k135 (fc k136 (fc k137 (fc k138 (fc k139 (fc k140 (fc k141 (fc k142 (fc k143 (fc k144 (fc k145 (fc k146 (fc k147 (fc k148 (fc k149 (fc k150 (fc k151 (fc k152 (fc k153 (fc k154 (fc k155 (fc k156 (fc k157 (fc k158 (fc k159 (fc k160 (fc k161 (fc k168 (fc k169 (fc k170 (fc k171 (fc k172 (fc k173 (fc k177 (fc k178 (fc k179 (fc k180 (fc k181 (fc k182 (fc k183 (fc k184 (fc k185 (fc k186 (fc k187 (fc k189 (fc k190 (fc k191 (fc k192 (fc k193 (fc k194 (fc k195 (fc k196 (fc k197 (fc k198 (fc k199 (fc k200 (fc k201 (fc k202 (fc k203 (fc k204 (fc k205 (fc k206 (fc k207 (fc k208 (fc k209 (fc k210 (fc k211 (fc k213 (fc k214 (fc k216 (fc k217 (fc k218 (fc k219 (fc k220 (fc k221 (fc k222 (fc k223 (fc k224 (fc k225 (fc k226 (fc k227 (fc k228 (fc k229 (fc k230 (fc k231 (fc k232 (fc k233 (fc k234 (fc k235 (fc k236 (fc k237 (fc k238 (fc k245 (fc k246 (fc k247 (fc k248 (fc k249 (fc k250 (fc k251 (fc k252 (fc k259 (fc k260 (fc k261 (fc k262 (fc k263 (fc k264 (fc k265 (fc k266 (fc k267 (fc k268 (fc k269 (fc k270 (fc k271 (fc k272 (fc k273 (fc k274 (fc k275 (fc k276 (fc k277 (fc k278 (fc k279 (fc k280 (fc k281 (fc k282 (fc k285 (fc k286 (fc k287 (fc k288 (fc k289 (fc k290 (fc k291 (fc k292 (fc k293 (fc k294 (fc k295 (fc k296 (fc k297 (fc k298 (fc k299 (fc k300 (fc k308 (fc k309 (fc k311 (fc k312 (fc k313 (fc k314 (fc k315 (fc k316 (fc k317 (fc k318 (fc k319 (fc k320 (fc k322 (fc k323 (fc k324 (fc k325 (fc k326 (fc k327 (fc k328 (fc k329 (fc k330 (fun _ h=>by cases h)))))))))))))))))))))))))))))))))))))))))))))))))))))))))))))))))))))))))))))))))))))))))))))))))))))))))))))))))))))))))))))))))))))))))))))))))))))))))))))))))))))))))))))))))))))))))))))))))))))))))))))))))))))))))))))))))))
theorem rs : rows.map (fun r=>look fnList r.gid)=rows.map (fun r=>some r.fn):=by kernel_rfl
theorem qabo : ∀r ∈ rows,look fnList r.gid=some r.fn:=List.map_inj_left.1 rs
theorem qaa0 : tab.P.follows .mixedOrders=true:=by kernel_rfl
theorem qajb : ∀ fid g f, tab.gid fid = some g → prog.fn g = some f → ∃ fn C, tab.P.funcs[fid]? = some fn ∧ fn.name ≠ "runtime.NumGoroutine" ∧ fn.body = some C ∧ comp tab fn.ntmps C = some f.body ∧ cRVs tab fn.results.toList = some f.results :=
 q50 (l:=qada) rfl (fns:=fnList) (S:=prog) rfl rows qajp (by kernel_rfl) qabo
end Go.Abs
namespace Go.Proofs.YtpdchdfajhbglaaGreatDoor
open Go.ChangeShapes Go.WideShapes Go.ChangeAt Go.RowKit
theorem own : ownKnob Tryz.prog.godebug = none := by kernel_rfl
theorem laidOut : laidOutB Tryz.prog = true := by kernel_rfl
theorem seat : Go.Abs.Seat Go.Abs.tab Go.Abs.prog := ⟨Go.Abs.qaa0, Go.Abs.qajb, fun _ _ _ _ _ _ h => by cases h⟩
section
variable {H : Type} {enc : TypeId × Value → H} {w : World}
theorem r_u32s : Go.Abs.Rd enc Tryz.prog w Go.Abs.tab.gid 30 (fun v => ∃ l : List Nat, v = Go.Abs.lim l ∧ Go.Abs.Li l ∧ l.length ≤ maxLen) := Go.Abs.W.qajt Tryz.underlying30 Tryz.underlying99 (by kernel_rfl)
theorem r_dy : Go.Abs.Rd enc Tryz.prog w Go.Abs.tab.gid 32 (fun v => ∃ d : Go.Abs.W.Dy, v = d.v ∧ d.T) := Go.Abs.W.rd_dy Tryz.underlying32 (by kernel_rfl) Tryz.underlying4 r_u32s Tryz.underlying3 (by kernel_rfl)
theorem r_iv : Go.Abs.Rd enc Tryz.prog w Go.Abs.tab.gid 34 (fun v => ∃ x : Go.Abs.W.Iv, v = x.v ∧ x.T) := Go.Abs.W.rd_iv Tryz.underlying34 (by kernel_rfl) r_dy r_dy Tryz.underlying4 (by kernel_rfl)
theorem r_ivs : Go.Abs.Rd enc Tryz.prog w Go.Abs.tab.gid 22 (fun v => ∃ l : List Go.Abs.W.Iv, v = Go.Abs.W.ivs l ∧ Go.Abs.W.BxT l) := Go.Abs.W.qamp Tryz.underlying22 (by kernel_rfl) r_iv
theorem r_sg : Go.Abs.Rd enc Tryz.prog w Go.Abs.tab.gid 76 (fun v => ∃ s : Go.Abs.W.Sg, v = s.v ∧ s.T) := Go.Abs.W.rd_sg Tryz.underlying76 (by kernel_rfl) r_dy r_dy r_ivs r_ivs (by kernel_rfl)
theorem r_sgs : Go.Abs.Rd enc Tryz.prog w Go.Abs.tab.gid 61 (fun v => ∃ l : List Go.Abs.W.Sg, v = Go.Abs.W.sgs l ∧ (∀ s ∈ l, s.T) ∧ l.length ≤ maxLen) := Go.Abs.W.qamn Tryz.underlying61 (by kernel_rfl) r_sg
theorem r_pp : Go.Abs.Rd enc Tryz.prog w Go.Abs.tab.gid 63 (fun v => ∃ p : Go.Abs.W.Pp, v = p.v ∧ p.T) := Go.Abs.W.rd_pp Tryz.underlying63 (by kernel_rfl) r_ivs r_sgs (by kernel_rfl)
theorem r_rt : Go.Abs.Rd enc Tryz.prog w Go.Abs.tab.gid 127 (fun v => ∃ n d : Int, v = .agg [.int .i64 n, .int .i64 d]) := Go.Abs.W.rd_rt Tryz.underlying127 (by kernel_rfl) Tryz.underlying3 Tryz.underlying3 (by kernel_rfl)
theorem r_op : Go.Abs.Rd enc Tryz.prog w Go.Abs.tab.gid 129 (fun v => ∃ o : Go.Abs.W.Op6, v = o.v ∧ True) := Go.Abs.W.rd_op Tryz.underlying129 (by kernel_rfl) Tryz.underlying3 Tryz.underlying3 Tryz.underlying3 Tryz.underlying3 r_rt (by kernel_rfl)
theorem r_ops : Go.Abs.Rd enc Tryz.prog w Go.Abs.tab.gid 64 (fun v => ∃ l : List Go.Abs.W.Op6, v = .sl (l.map Go.Abs.W.Op6.v) ∧ l.length ≤ maxLen) := Go.Abs.W.qamo Tryz.underlying64 (by kernel_rfl) r_op
theorem r_ints : Go.Abs.Rd enc Tryz.prog w Go.Abs.tab.gid 65 (fun v => ∃ l : List Int, v = .sl (l.map Go.Abs.W.iv64) ∧ l.length ≤ maxLen) := Go.Abs.W.qaju Tryz.underlying65 (by kernel_rfl) Tryz.underlying3
theorem r_tp : Go.Abs.Rd enc Tryz.prog w Go.Abs.tab.gid 67 (fun v => ∃ x : Go.Abs.W.Tp, v = x.v ∧ x.T) := Go.Abs.W.rd_tp Tryz.underlying67 (by kernel_rfl) Tryz.underlying3 r_ops r_ints (by kernel_rfl)
theorem r_int : Go.Abs.Rd enc Tryz.prog w Go.Abs.tab.gid 3 (fun v => ∃ n, v = .int .i64 n ∧ IntKind.i64.min ≤ n ∧ n ≤ IntKind.i64.max) := Go.Abs.qnq Tryz.underlying3
end
def zPp : Value := .agg #[.slice none 0 0, .slice none 0 0]
def zTp : Value := .agg #[.int .i64 0, .slice none 0 0, .slice none 0 0]
def dPp {H : Type} : DataW H := .agg [.nil, .nil]
def dTp {H : Type} : DataW H := .agg [.lit (.int .i64 0), .nil, .nil]
theorem gTab : Tryz.prog.globalNamed "math/bits.deBruijn32tab" = some 0 := by kernel_rfl
theorem gTabType : (Tryz.prog.globals[0]?).map (·.type) = some 211 := by kernel_rfl
theorem cells211 : Tryz.prog.cellsOf 211 = 32 := by kernel_rfl
theorem cells5 : Tryz.prog.cellsOf 5 = 1 := by kernel_rfl
def nums : List Int := [0, 1, 28, 2, 29, 14, 24, 3, 30, 22, 20, 15, 25, 17, 4, 8, 31, 27, 13, 23, 21, 19, 16, 7, 26, 12, 18, 6, 11, 5, 10, 9]
theorem table {W : World} (h : laidMetH Tryz.prog [("math/bits.deBruijn32tab", Rows.laid_math_bits_deBruijn32tab)] W) : Lib.TabIs Tryz.prog W "math/bits.deBruijn32tab" .u8 nums :=
  Lib.tabIs_of_head (rest := []) gTab gTabType Tryz.underlying211 Tryz.underlying5 cells5 cells211 h
theorem tabs {W : World} (h : laidMetH Tryz.prog [("math/bits.deBruijn32tab", Rows.laid_math_bits_deBruijn32tab)] W) : Go.Abs.Tabs Go.Abs.tab.gid W fun _ => False := by
  intro g cs hg
  have hg' : Go.Abs.q16 Go.Abs.q4y g = some cs := hg
  unfold Go.Abs.q4y Go.Abs.q16 at hg'
  split at hg'
  · rename_i h0
    subst h0
    have hc : cs = nums.map (fun n => Go.Abs.V.int .u8 n) := by injection hg' with hg'; rw [← hg']; rfl
    subst hc
    have cell : ∀ i (hi : i < nums.length), W.cell? ⟨0, i, none⟩ = some (.int .u8 (nums.getD i 0)) := fun i hi => (table h).cell gTab i hi
    have hb : 0 < W.heap.size := World.block_lt_of_cell? W ⟨0, 0, none⟩ (cell 0 (by decide))
    have get : ∀ (j : Nat) (c : Go.Abs.V), (nums.map (fun n => Go.Abs.V.int .u8 n))[j]? = some c → j < nums.length ∧ c = .int .u8 (nums.getD j 0) := by
      intro j c hj
      rw [List.getElem?_map] at hj
      obtain ⟨a, ha, rfl⟩ := Option.map_eq_some_iff.1 hj
      refine ⟨(List.getElem?_eq_some_iff.1 ha).1, ?_⟩
      rw [List.getD_eq_getElem?_getD, ha]
      rfl
    refine .eptr _ _ (fun j => .int .u8 (nums.getD j 0)) rfl (fun h => h) hb ?_ ?_
    · intro j c hj
      have hl := (get j c hj).1
      have := cell j hl
      simpa using this
    · intro j c hj
      rw [(get j c hj).2]
      exact .int _ _
  · unfold Go.Abs.q16 at hg'
    cases hg'
noncomputable def laidWorld (os : Os) : World :=
  { World.holding Tryz.prog os ⟨#[], #[], []⟩ with heap := (World.holding Tryz.prog os ⟨#[], #[], []⟩).heap.modify 0 fun
      | .cells _ t frozen => .cells (nums.map fun n => .int .u8 n).toArray t frozen
      | o => o }
end Go.Proofs.YtpdchdfajhbglaaGreatDoor
