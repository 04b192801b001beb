/- Parts of the proof: FpSeatR, FpEndR0. -/
import Derived.Test.YtpdchdfajhbglaaGreatDoorProg
import Derived.KernelRfl
import Derived.Test.YtpdchdfajhbglaaGreatDoorCards
import Derived.Test.YtpdchdfajhbglaaGreatDoorTie
import Derived.WalkKit
import Derived.ProofKit
import Derived.OpenShut
import Derived.Deep.DeepHandedRow
import Derived.Lib.LaidTab
import Derived.Test.YtpdchdfajhbglaaGreatDoorGr
import Derived.Test.YtpdchdfajhbglaaGreatDoorFb
import Derived.Test.YtpdchdfajhbglaaGreatDoorFd
import Derived.Test.YtpdchdfajhbglaaGreatDoorFb
namespace Go.Abs
open Go.Proofs
set_option maxRecDepth 100000
def qaae : List Nat:=[0,0,0,518,521,520,517,0,280,281,527,285,311,528,529,530,470,471,286,531,532,416,533,411,537,294,295,302,303,304,538,296,67,298,536,77,290,293,310,152,210,172,133,522,523,138,524,139,525,140,526,141,147,83,158,463,474,176,173,142,0,0,596,11,597,195,60,598,95,291,312,313,314,315,539,322,540,316,324,326,541,542,145,175,148,486,82,177,146,154,159,429,437,107,430,438,79,431,318,319,320,323,325,330,178,544,89,321,96,51,52,153,74,225,106,186,187,188,189,190,191,192,90,156,198,204,480,481,482,94,489,207,208,193,194,0,0,0,0,20,0,17,41,0,0,43,0,0,31,12,18,23,27,48,599,600,601,602,108,109,93,92,327,196,197,174,202,206,57,98,499,160,500,501,209,203,182,205,445,442,149,448,444,446,443,447,423,211,548,78,80,85,244,245,246,119,221,216,217,104,105,165,164,223,224,493,494,495,265,199,200,496,502,503,504,505,230,218,0,0,0,46,50,53,75,0,32,70,49,54,55,56,63,65,603,604,605,606,607,219,220,226,227,228,229,97,509,510,511,512,513,238,514,231,232,233,185,214,184,451,449,450,234,99,100,101,102,103,261,114,115,262,235,222,236,237,112,257,258,506,507,508,253,515,516,240,239,241,254,110,64,61,0,76,81,91,84,86,87,608,609,242,247,248,249,250,251,252,259,111,215,117,118,255,243,256,116,264,266,260,113,263,120,271,272,267,268,269,270,273,274,0,0,0,0,0,0,0,0,0,0,0,0,0,0,0,0,0,0,0,0,0]
def q1j : List (Nat × List V):=[(0,[.int .u8 0,.int .u8 1,.int .u8 28,.int .u8 2,.int .u8 29,.int .u8 14,.int .u8 24,.int .u8 3,.int .u8 30,.int .u8 22,.int .u8 20,.int .u8 15,.int .u8 25,.int .u8 17,.int .u8 4,.int .u8 8,.int .u8 31,.int .u8 27,.int .u8 13,.int .u8 23,.int .u8 21,.int .u8 19,.int .u8 16,.int .u8 7,.int .u8 26,.int .u8 12,.int .u8 18,.int .u8 6,.int .u8 11,.int .u8 5,.int .u8 10,.int .u8 9])]
noncomputable def tab : Tab:=⟨Tryz.prog,⟨gidOf qaae,qym q1j⟩⟩
theorem k6 : RowOk tab ⟨6,517,qcv⟩:=⟨Tryz.f6,Tryz.func6,by kernel_rfl⟩
theorem k16 : RowOk tab ⟨16,470,qmi⟩:=⟨Tryz.f16,Tryz.func16,by kernel_rfl⟩
theorem k17 : RowOk tab ⟨17,471,qmj⟩:=⟨Tryz.f17,Tryz.func17,by kernel_rfl⟩
theorem k21 : RowOk tab ⟨21,416,qji⟩:=⟨Tryz.f21,Tryz.func21,by kernel_rfl⟩
theorem k23 : RowOk tab ⟨23,411,qjh⟩:=⟨Tryz.f23,Tryz.func23,by kernel_rfl⟩
theorem k35 : RowOk tab ⟨35,77,qgi⟩:=⟨Tryz.f35,Tryz.func35,by kernel_rfl⟩
theorem k39 : RowOk tab ⟨39,152,qgl⟩:=⟨Tryz.f39,Tryz.func39,by kernel_rfl⟩
theorem k40 : RowOk tab ⟨40,210,qme⟩:=⟨Tryz.f40,Tryz.func40,by kernel_rfl⟩
theorem k41 : RowOk tab ⟨41,172,qgm⟩:=⟨Tryz.f41,Tryz.func41,by kernel_rfl⟩
theorem k42 : RowOk tab ⟨42,133,qjc⟩:=⟨Tryz.f42,Tryz.func42,by kernel_rfl⟩
theorem k43 : RowOk tab ⟨43,522,qh6⟩:=⟨Tryz.f43,Tryz.func43,by kernel_rfl⟩
theorem k44 : RowOk tab ⟨44,523,qb7⟩:=⟨Tryz.f44,Tryz.func44,by kernel_rfl⟩
theorem k45 : RowOk tab ⟨45,138,qje⟩:=⟨Tryz.f45,Tryz.func45,by kernel_rfl⟩
theorem k46 : RowOk tab ⟨46,524,qb6⟩:=⟨Tryz.f46,Tryz.func46,by kernel_rfl⟩
theorem k47 : RowOk tab ⟨47,139,qi7⟩:=⟨Tryz.f47,Tryz.func47,by kernel_rfl⟩
theorem k48 : RowOk tab ⟨48,525,qb5⟩:=⟨Tryz.f48,Tryz.func48,by kernel_rfl⟩
theorem k49 : RowOk tab ⟨49,140,qi9⟩:=⟨Tryz.f49,Tryz.func49,by kernel_rfl⟩
theorem k50 : RowOk tab ⟨50,526,qjg⟩:=⟨Tryz.f50,Tryz.func50,by kernel_rfl⟩
theorem k51 : RowOk tab ⟨51,141,qfq⟩:=⟨Tryz.f51,Tryz.func51,by kernel_rfl⟩
theorem k52 : RowOk tab ⟨52,147,qi8⟩:=⟨Tryz.f52,Tryz.func52,by kernel_rfl⟩
theorem k53 : RowOk tab ⟨53,83,qfr⟩:=⟨Tryz.f53,Tryz.func53,by kernel_rfl⟩
theorem k54 : RowOk tab ⟨54,158,qgj⟩:=⟨Tryz.f54,Tryz.func54,by kernel_rfl⟩
theorem k55 : RowOk tab ⟨55,463,qof⟩:=⟨Tryz.f55,Tryz.func55,by kernel_rfl⟩
theorem k56 : RowOk tab ⟨56,474,qld⟩:=⟨Tryz.f56,Tryz.func56,by kernel_rfl⟩
theorem k57 : RowOk tab ⟨57,176,qh2⟩:=⟨Tryz.f57,Tryz.func57,by kernel_rfl⟩
theorem k58 : RowOk tab ⟨58,173,qh3⟩:=⟨Tryz.f58,Tryz.func58,by kernel_rfl⟩
theorem k59 : RowOk tab ⟨59,142,qjd⟩:=⟨Tryz.f59,Tryz.func59,by kernel_rfl⟩
theorem k85 : RowOk tab ⟨85,486,qlc⟩:=⟨Tryz.f85,Tryz.func85,by kernel_rfl⟩
theorem k91 : RowOk tab ⟨91,429,qh7⟩:=⟨Tryz.f91,Tryz.func91,by kernel_rfl⟩
theorem k92 : RowOk tab ⟨92,437,qei⟩:=⟨Tryz.f92,Tryz.func92,by kernel_rfl⟩
theorem k93 : RowOk tab ⟨93,107,qgh⟩:=⟨Tryz.f93,Tryz.func93,by kernel_rfl⟩
theorem k94 : RowOk tab ⟨94,430,qh8⟩:=⟨Tryz.f94,Tryz.func94,by kernel_rfl⟩
theorem k95 : RowOk tab ⟨95,438,qgo⟩:=⟨Tryz.f95,Tryz.func95,by kernel_rfl⟩
theorem k96 : RowOk tab ⟨96,79,qk6⟩:=⟨Tryz.f96,Tryz.func96,by kernel_rfl⟩
theorem k97 : RowOk tab ⟨97,431,qd2⟩:=⟨Tryz.f97,Tryz.func97,by kernel_rfl⟩
theorem k108 : RowOk tab ⟨108,96,qe8⟩:=⟨Tryz.f108,Tryz.func108,by kernel_rfl⟩
theorem k109 : RowOk tab ⟨109,51,qjj⟩:=⟨Tryz.f109,Tryz.func109,by kernel_rfl⟩
theorem k110 : RowOk tab ⟨110,52,qmf⟩:=⟨Tryz.f110,Tryz.func110,by kernel_rfl⟩
theorem k113 : RowOk tab ⟨113,225,qe9⟩:=⟨Tryz.f113,Tryz.func113,by kernel_rfl⟩
theorem k114 : RowOk tab ⟨114,106,qgf⟩:=⟨Tryz.f114,Tryz.func114,by kernel_rfl⟩
theorem k115 : RowOk tab ⟨115,186,qd1⟩:=⟨Tryz.f115,Tryz.func115,by kernel_rfl⟩
theorem k116 : RowOk tab ⟨116,187,qht⟩:=⟨Tryz.f116,Tryz.func116,by kernel_rfl⟩
theorem k117 : RowOk tab ⟨117,188,qkv⟩:=⟨Tryz.f117,Tryz.func117,by kernel_rfl⟩
theorem k118 : RowOk tab ⟨118,189,qhz⟩:=⟨Tryz.f118,Tryz.func118,by kernel_rfl⟩
theorem k119 : RowOk tab ⟨119,190,qh1⟩:=⟨Tryz.f119,Tryz.func119,by kernel_rfl⟩
theorem k120 : RowOk tab ⟨120,191,qhr⟩:=⟨Tryz.f120,Tryz.func120,by kernel_rfl⟩
theorem k121 : RowOk tab ⟨121,192,qkt⟩:=⟨Tryz.f121,Tryz.func121,by kernel_rfl⟩
theorem k122 : RowOk tab ⟨122,90,qh4⟩:=⟨Tryz.f122,Tryz.func122,by kernel_rfl⟩
theorem k123 : RowOk tab ⟨123,156,qjf⟩:=⟨Tryz.f123,Tryz.func123,by kernel_rfl⟩
theorem k124 : RowOk tab ⟨124,198,qmd⟩:=⟨Tryz.f124,Tryz.func124,by kernel_rfl⟩
theorem k125 : RowOk tab ⟨125,204,qjk⟩:=⟨Tryz.f125,Tryz.func125,by kernel_rfl⟩
theorem k126 : RowOk tab ⟨126,480,qgw⟩:=⟨Tryz.f126,Tryz.func126,by kernel_rfl⟩
theorem k127 : RowOk tab ⟨127,481,qla⟩:=⟨Tryz.f127,Tryz.func127,by kernel_rfl⟩
theorem k128 : RowOk tab ⟨128,482,qod⟩:=⟨Tryz.f128,Tryz.func128,by kernel_rfl⟩
theorem k129 : RowOk tab ⟨129,94,qh5⟩:=⟨Tryz.f129,Tryz.func129,by kernel_rfl⟩
theorem k130 : RowOk tab ⟨130,489,qjr⟩:=⟨Tryz.f130,Tryz.func130,by kernel_rfl⟩
theorem k131 : RowOk tab ⟨131,207,qf9⟩:=⟨Tryz.f131,Tryz.func131,by kernel_rfl⟩
theorem k132 : RowOk tab ⟨132,208,qi3⟩:=⟨Tryz.f132,Tryz.func132,by kernel_rfl⟩
theorem k133 : RowOk tab ⟨133,193,qhs⟩:=⟨Tryz.f133,Tryz.func133,by kernel_rfl⟩
theorem k134 : RowOk tab ⟨134,194,qku⟩:=⟨Tryz.f134,Tryz.func134,by kernel_rfl⟩
theorem k169 : RowOk tab ⟨169,98,qmc⟩:=⟨Tryz.f169,Tryz.func169,by kernel_rfl⟩
theorem k170 : RowOk tab ⟨170,499,qk9⟩:=⟨Tryz.f170,Tryz.func170,by kernel_rfl⟩
theorem k171 : RowOk tab ⟨171,160,qgg⟩:=⟨Tryz.f171,Tryz.func171,by kernel_rfl⟩
theorem k172 : RowOk tab ⟨172,500,qjn⟩:=⟨Tryz.f172,Tryz.func172,by kernel_rfl⟩
theorem k173 : RowOk tab ⟨173,501,qjo⟩:=⟨Tryz.f173,Tryz.func173,by kernel_rfl⟩
theorem k177 : RowOk tab ⟨177,205,qmg⟩:=⟨Tryz.f177,Tryz.func177,by kernel_rfl⟩
theorem k178 : RowOk tab ⟨178,445,qgn⟩:=⟨Tryz.f178,Tryz.func178,by kernel_rfl⟩
theorem k179 : RowOk tab ⟨179,442,qgp⟩:=⟨Tryz.f179,Tryz.func179,by kernel_rfl⟩
theorem k180 : RowOk tab ⟨180,149,qgk⟩:=⟨Tryz.f180,Tryz.func180,by kernel_rfl⟩
theorem k181 : RowOk tab ⟨181,448,qcj⟩:=⟨Tryz.f181,Tryz.func181,by kernel_rfl⟩
theorem k182 : RowOk tab ⟨182,444,qdj⟩:=⟨Tryz.f182,Tryz.func182,by kernel_rfl⟩
theorem k183 : RowOk tab ⟨183,446,qdk⟩:=⟨Tryz.f183,Tryz.func183,by kernel_rfl⟩
theorem k184 : RowOk tab ⟨184,443,qdh⟩:=⟨Tryz.f184,Tryz.func184,by kernel_rfl⟩
theorem k185 : RowOk tab ⟨185,447,qdg⟩:=⟨Tryz.f185,Tryz.func185,by kernel_rfl⟩
theorem k186 : RowOk tab ⟨186,423,qh9⟩:=⟨Tryz.f186,Tryz.func186,by kernel_rfl⟩
theorem k189 : RowOk tab ⟨189,78,qgs⟩:=⟨Tryz.f189,Tryz.func189,by kernel_rfl⟩
theorem k190 : RowOk tab ⟨190,80,qgt⟩:=⟨Tryz.f190,Tryz.func190,by kernel_rfl⟩
theorem k192 : RowOk tab ⟨192,244,qgq⟩:=⟨Tryz.f192,Tryz.func192,by kernel_rfl⟩
theorem k193 : RowOk tab ⟨193,245,qmb⟩:=⟨Tryz.f193,Tryz.func193,by kernel_rfl⟩
theorem k194 : RowOk tab ⟨194,246,qk1⟩:=⟨Tryz.f194,Tryz.func194,by kernel_rfl⟩
theorem k195 : RowOk tab ⟨195,119,qd0⟩:=⟨Tryz.f195,Tryz.func195,by kernel_rfl⟩
theorem k196 : RowOk tab ⟨196,221,qdf⟩:=⟨Tryz.f196,Tryz.func196,by kernel_rfl⟩
theorem k197 : RowOk tab ⟨197,216,c_round_add⟩:=⟨Tryz.f197,Tryz.func197,by kernel_rfl⟩
theorem k198 : RowOk tab ⟨198,217,qob⟩:=⟨Tryz.f198,Tryz.func198,by kernel_rfl⟩
theorem k199 : RowOk tab ⟨199,104,qhy⟩:=⟨Tryz.f199,Tryz.func199,by kernel_rfl⟩
theorem k200 : RowOk tab ⟨200,105,qh0⟩:=⟨Tryz.f200,Tryz.func200,by kernel_rfl⟩
theorem k201 : RowOk tab ⟨201,165,qja⟩:=⟨Tryz.f201,Tryz.func201,by kernel_rfl⟩
theorem k202 : RowOk tab ⟨202,164,qjb⟩:=⟨Tryz.f202,Tryz.func202,by kernel_rfl⟩
theorem k203 : RowOk tab ⟨203,223,qft⟩:=⟨Tryz.f203,Tryz.func203,by kernel_rfl⟩
theorem k204 : RowOk tab ⟨204,224,qgu⟩:=⟨Tryz.f204,Tryz.func204,by kernel_rfl⟩
theorem k205 : RowOk tab ⟨205,493,qlb⟩:=⟨Tryz.f205,Tryz.func205,by kernel_rfl⟩
theorem k206 : RowOk tab ⟨206,494,qfc⟩:=⟨Tryz.f206,Tryz.func206,by kernel_rfl⟩
theorem k207 : RowOk tab ⟨207,495,qd5⟩:=⟨Tryz.f207,Tryz.func207,by kernel_rfl⟩
theorem k208 : RowOk tab ⟨208,265,qk7⟩:=⟨Tryz.f208,Tryz.func208,by kernel_rfl⟩
theorem k209 : RowOk tab ⟨209,199,qma⟩:=⟨Tryz.f209,Tryz.func209,by kernel_rfl⟩
theorem k210 : RowOk tab ⟨210,200,qp0⟩:=⟨Tryz.f210,Tryz.func210,by kernel_rfl⟩
theorem k211 : RowOk tab ⟨211,496,qgx⟩:=⟨Tryz.f211,Tryz.func211,by kernel_rfl⟩
theorem k212 : RowOk tab ⟨212,502,qmh⟩:=⟨Tryz.f212,Tryz.func212,by kernel_rfl⟩
theorem k213 : RowOk tab ⟨213,503,qoe⟩:=⟨Tryz.f213,Tryz.func213,by kernel_rfl⟩
theorem k214 : RowOk tab ⟨214,504,qjm⟩:=⟨Tryz.f214,Tryz.func214,by kernel_rfl⟩
theorem k215 : RowOk tab ⟨215,505,qej⟩:=⟨Tryz.f215,Tryz.func215,by kernel_rfl⟩
theorem k216 : RowOk tab ⟨216,230,ql9⟩:=⟨Tryz.f216,Tryz.func216,by kernel_rfl⟩
theorem k217 : RowOk tab ⟨217,218,qoc⟩:=⟨Tryz.f217,Tryz.func217,by kernel_rfl⟩
theorem k245 : RowOk tab ⟨245,97,qk5⟩:=⟨Tryz.f245,Tryz.func245,by kernel_rfl⟩
theorem k246 : RowOk tab ⟨246,509,qgv⟩:=⟨Tryz.f246,Tryz.func246,by kernel_rfl⟩
theorem k247 : RowOk tab ⟨247,510,qib⟩:=⟨Tryz.f247,Tryz.func247,by kernel_rfl⟩
theorem k248 : RowOk tab ⟨248,511,qjl⟩:=⟨Tryz.f248,Tryz.func248,by kernel_rfl⟩
theorem k249 : RowOk tab ⟨249,512,qd4⟩:=⟨Tryz.f249,Tryz.func249,by kernel_rfl⟩
theorem k250 : RowOk tab ⟨250,513,qjp⟩:=⟨Tryz.f250,Tryz.func250,by kernel_rfl⟩
theorem k251 : RowOk tab ⟨251,238,qk3⟩:=⟨Tryz.f251,Tryz.func251,by kernel_rfl⟩
theorem k252 : RowOk tab ⟨252,514,qek⟩:=⟨Tryz.f252,Tryz.func252,by kernel_rfl⟩
theorem k259 : RowOk tab ⟨259,451,qdi⟩:=⟨Tryz.f259,Tryz.func259,by kernel_rfl⟩
theorem k260 : RowOk tab ⟨260,449,qcx⟩:=⟨Tryz.f260,Tryz.func260,by kernel_rfl⟩
theorem k261 : RowOk tab ⟨261,450,qfs⟩:=⟨Tryz.f261,Tryz.func261,by kernel_rfl⟩
theorem k263 : RowOk tab ⟨263,99,qg5⟩:=⟨Tryz.f263,Tryz.func263,by kernel_rfl⟩
theorem k264 : RowOk tab ⟨264,100,qgr⟩:=⟨Tryz.f264,Tryz.func264,by kernel_rfl⟩
theorem k268 : RowOk tab ⟨268,261,qbv⟩:=⟨Tryz.f268,Tryz.func268,by kernel_rfl⟩
theorem k269 : RowOk tab ⟨269,114,qi4⟩:=⟨Tryz.f269,Tryz.func269,by kernel_rfl⟩
theorem k270 : RowOk tab ⟨270,115,qi5⟩:=⟨Tryz.f270,Tryz.func270,by kernel_rfl⟩
theorem k271 : RowOk tab ⟨271,262,qkx⟩:=⟨Tryz.f271,Tryz.func271,by kernel_rfl⟩
theorem k272 : RowOk tab ⟨272,235,qks⟩:=⟨Tryz.f272,Tryz.func272,by kernel_rfl⟩
theorem k273 : RowOk tab ⟨273,222,qkr⟩:=⟨Tryz.f273,Tryz.func273,by kernel_rfl⟩
theorem k274 : RowOk tab ⟨274,236,c_round_sum⟩:=⟨Tryz.f274,Tryz.func274,by kernel_rfl⟩
theorem k275 : RowOk tab ⟨275,237,qi2⟩:=⟨Tryz.f275,Tryz.func275,by kernel_rfl⟩
theorem k276 : RowOk tab ⟨276,112,qk2⟩:=⟨Tryz.f276,Tryz.func276,by kernel_rfl⟩
theorem k277 : RowOk tab ⟨277,257,qk4⟩:=⟨Tryz.f277,Tryz.func277,by kernel_rfl⟩
theorem k278 : RowOk tab ⟨278,258,qk0⟩:=⟨Tryz.f278,Tryz.func278,by kernel_rfl⟩
theorem k279 : RowOk tab ⟨279,506,qd3⟩:=⟨Tryz.f279,Tryz.func279,by kernel_rfl⟩
theorem k280 : RowOk tab ⟨280,507,qfu⟩:=⟨Tryz.f280,Tryz.func280,by kernel_rfl⟩
theorem k281 : RowOk tab ⟨281,508,qfa⟩:=⟨Tryz.f281,Tryz.func281,by kernel_rfl⟩
theorem k282 : RowOk tab ⟨282,253,qi6⟩:=⟨Tryz.f282,Tryz.func282,by kernel_rfl⟩
theorem k283 : RowOk tab ⟨283,515,qel⟩:=⟨Tryz.f283,Tryz.func283,by kernel_rfl⟩
theorem k284 : RowOk tab ⟨284,516,qjq⟩:=⟨Tryz.f284,Tryz.func284,by kernel_rfl⟩
theorem k285 : RowOk tab ⟨285,240,qge⟩:=⟨Tryz.f285,Tryz.func285,by kernel_rfl⟩
theorem k286 : RowOk tab ⟨286,239,qk8⟩:=⟨Tryz.f286,Tryz.func286,by kernel_rfl⟩
theorem k287 : RowOk tab ⟨287,241,qoa⟩:=⟨Tryz.f287,Tryz.func287,by kernel_rfl⟩
theorem k288 : RowOk tab ⟨288,254,c_round_cut⟩:=⟨Tryz.f288,Tryz.func288,by kernel_rfl⟩
theorem k289 : RowOk tab ⟨289,110,qf0⟩:=⟨Tryz.f289,Tryz.func289,by kernel_rfl⟩
theorem k308 : RowOk tab ⟨308,259,qky⟩:=⟨Tryz.f308,Tryz.func308,by kernel_rfl⟩
theorem k309 : RowOk tab ⟨309,111,qea⟩:=⟨Tryz.f309,Tryz.func309,by kernel_rfl⟩
theorem k311 : RowOk tab ⟨311,117,qbm⟩:=⟨Tryz.f311,Tryz.func311,by kernel_rfl⟩
theorem k312 : RowOk tab ⟨312,118,qgc⟩:=⟨Tryz.f312,Tryz.func312,by kernel_rfl⟩
theorem k313 : RowOk tab ⟨313,255,qhq⟩:=⟨Tryz.f313,Tryz.func313,by kernel_rfl⟩
theorem k314 : RowOk tab ⟨314,243,qpz⟩:=⟨Tryz.f314,Tryz.func314,by kernel_rfl⟩
theorem k315 : RowOk tab ⟨315,256,qn9⟩:=⟨Tryz.f315,Tryz.func315,by kernel_rfl⟩
theorem k316 : RowOk tab ⟨316,116,qg4⟩:=⟨Tryz.f316,Tryz.func316,by kernel_rfl⟩
theorem k317 : RowOk tab ⟨317,264,qkz⟩:=⟨Tryz.f317,Tryz.func317,by kernel_rfl⟩
theorem k318 : RowOk tab ⟨318,266,qkw⟩:=⟨Tryz.f318,Tryz.func318,by kernel_rfl⟩
theorem k319 : RowOk tab ⟨319,260,qgd⟩:=⟨Tryz.f319,Tryz.func319,by kernel_rfl⟩
theorem k320 : RowOk tab ⟨320,113,qdt⟩:=⟨Tryz.f320,Tryz.func320,by kernel_rfl⟩
theorem k322 : RowOk tab ⟨322,120,qbz⟩:=⟨Tryz.f322,Tryz.func322,by kernel_rfl⟩
theorem k323 : RowOk tab ⟨323,271,qfp⟩:=⟨Tryz.f323,Tryz.func323,by kernel_rfl⟩
theorem k324 : RowOk tab ⟨324,272,qfn⟩:=⟨Tryz.f324,Tryz.func324,by kernel_rfl⟩
theorem k325 : RowOk tab ⟨325,267,qhu⟩:=⟨Tryz.f325,Tryz.func325,by kernel_rfl⟩
theorem k326 : RowOk tab ⟨326,268,qb0⟩:=⟨Tryz.f326,Tryz.func326,by kernel_rfl⟩
theorem k327 : RowOk tab ⟨327,269,qhv⟩:=⟨Tryz.f327,Tryz.func327,by kernel_rfl⟩
theorem k328 : RowOk tab ⟨328,270,qfz⟩:=⟨Tryz.f328,Tryz.func328,by kernel_rfl⟩
theorem k329 : RowOk tab ⟨329,273,qfo⟩:=⟨Tryz.f329,Tryz.func329,by kernel_rfl⟩
theorem k330 : RowOk tab ⟨330,274,qhx⟩:=⟨Tryz.f330,Tryz.func330,by kernel_rfl⟩
def rows : List Row:=
 [⟨6,517,qcv⟩,
  ⟨16,470,qmi⟩,
  ⟨17,471,qmj⟩,
  ⟨21,416,qji⟩,
  ⟨23,411,qjh⟩,
  ⟨35,77,qgi⟩,
  ⟨39,152,qgl⟩,
  ⟨40,210,qme⟩,
  ⟨41,172,qgm⟩,
  ⟨42,133,qjc⟩,
  ⟨43,522,qh6⟩,
  ⟨44,523,qb7⟩,
  ⟨45,138,qje⟩,
  ⟨46,524,qb6⟩,
  ⟨47,139,qi7⟩,
  ⟨48,525,qb5⟩,
  ⟨49,140,qi9⟩,
  ⟨50,526,qjg⟩,
  ⟨51,141,qfq⟩,
  ⟨52,147,qi8⟩,
  ⟨53,83,qfr⟩,
  ⟨54,158,qgj⟩,
  ⟨55,463,qof⟩,
  ⟨56,474,qld⟩,
  ⟨57,176,qh2⟩,
  ⟨58,173,qh3⟩,
  ⟨59,142,qjd⟩,
  ⟨85,486,qlc⟩,
  ⟨91,429,qh7⟩,
  ⟨92,437,qei⟩,
  ⟨93,107,qgh⟩,
  ⟨94,430,qh8⟩,
  ⟨95,438,qgo⟩,
  ⟨96,79,qk6⟩,
  ⟨97,431,qd2⟩,
  ⟨108,96,qe8⟩,
  ⟨109,51,qjj⟩,
  ⟨110,52,qmf⟩,
  ⟨113,225,qe9⟩,
  ⟨114,106,qgf⟩,
  ⟨115,186,qd1⟩,
  ⟨116,187,qht⟩,
  ⟨117,188,qkv⟩,
  ⟨118,189,qhz⟩,
  ⟨119,190,qh1⟩,
  ⟨120,191,qhr⟩,
  ⟨121,192,qkt⟩,
  ⟨122,90,qh4⟩,
  ⟨123,156,qjf⟩,
  ⟨124,198,qmd⟩,
  ⟨125,204,qjk⟩,
  ⟨126,480,qgw⟩,
  ⟨127,481,qla⟩,
  ⟨128,482,qod⟩,
  ⟨129,94,qh5⟩,
  ⟨130,489,qjr⟩,
  ⟨131,207,qf9⟩,
  ⟨132,208,qi3⟩,
  ⟨133,193,qhs⟩,
  ⟨134,194,qku⟩,
  ⟨169,98,qmc⟩,
  ⟨170,499,qk9⟩,
  ⟨171,160,qgg⟩,
  ⟨172,500,qjn⟩,
  ⟨173,501,qjo⟩,
  ⟨177,205,qmg⟩,
  ⟨178,445,qgn⟩,
  ⟨179,442,qgp⟩,
  ⟨180,149,qgk⟩,
  ⟨181,448,qcj⟩,
  ⟨182,444,qdj⟩,
  ⟨183,446,qdk⟩,
  ⟨184,443,qdh⟩,
  ⟨185,447,qdg⟩,
  ⟨186,423,qh9⟩,
  ⟨189,78,qgs⟩,
  ⟨190,80,qgt⟩,
  ⟨192,244,qgq⟩,
  ⟨193,245,qmb⟩,
  ⟨194,246,qk1⟩,
  ⟨195,119,qd0⟩,
  ⟨196,221,qdf⟩,
  ⟨197,216,c_round_add⟩,
  ⟨198,217,qob⟩,
  ⟨199,104,qhy⟩,
  ⟨200,105,qh0⟩,
  ⟨201,165,qja⟩,
  ⟨202,164,qjb⟩,
  ⟨203,223,qft⟩,
  ⟨204,224,qgu⟩,
  ⟨205,493,qlb⟩,
  ⟨206,494,qfc⟩,
  ⟨207,495,qd5⟩,
  ⟨208,265,qk7⟩,
  ⟨209,199,qma⟩,
  ⟨210,200,qp0⟩,
  ⟨211,496,qgx⟩,
  ⟨212,502,qmh⟩,
  ⟨213,503,qoe⟩,
  ⟨214,504,qjm⟩,
  ⟨215,505,qej⟩,
  ⟨216,230,ql9⟩,
  ⟨217,218,qoc⟩,
  ⟨245,97,qk5⟩,
  ⟨246,509,qgv⟩,
  ⟨247,510,qib⟩,
  ⟨248,511,qjl⟩,
  ⟨249,512,qd4⟩,
  ⟨250,513,qjp⟩,
  ⟨251,238,qk3⟩,
  ⟨252,514,qek⟩,
  ⟨259,451,qdi⟩,
  ⟨260,449,qcx⟩,
  ⟨261,450,qfs⟩,
  ⟨263,99,qg5⟩,
  ⟨264,100,qgr⟩,
  ⟨268,261,qbv⟩,
  ⟨269,114,qi4⟩,
  ⟨270,115,qi5⟩,
  ⟨271,262,qkx⟩,
  ⟨272,235,qks⟩,
  ⟨273,222,qkr⟩,
  ⟨274,236,c_round_sum⟩,
  ⟨275,237,qi2⟩,
  ⟨276,112,qk2⟩,
  ⟨277,257,qk4⟩,
  ⟨278,258,qk0⟩,
  ⟨279,506,qd3⟩,
  ⟨280,507,qfu⟩,
  ⟨281,508,qfa⟩,
  ⟨282,253,qi6⟩,
  ⟨283,515,qel⟩,
  ⟨284,516,qjq⟩,
  ⟨285,240,qge⟩,
  ⟨286,239,qk8⟩,
  ⟨287,241,qoa⟩,
  ⟨288,254,c_round_cut⟩,
  ⟨289,110,qf0⟩,
  ⟨308,259,qky⟩,
  ⟨309,111,qea⟩,
  ⟨311,117,qbm⟩,
  ⟨312,118,qgc⟩,
  ⟨313,255,qhq⟩,
  ⟨314,243,qpz⟩,
  ⟨315,256,qn9⟩,
  ⟨316,116,qg4⟩,
  ⟨317,264,qkz⟩,
  ⟨318,266,qkw⟩,
  ⟨319,260,qgd⟩,
  ⟨320,113,qdt⟩,
  ⟨322,120,qbz⟩,
  ⟨323,271,qfp⟩,
  ⟨324,272,qfn⟩,
  ⟨325,267,qhu⟩,
  ⟨326,268,qb0⟩,
  ⟨327,269,qhv⟩,
  ⟨328,270,qfz⟩,
  ⟨329,273,qfo⟩,
  ⟨330,274,qhx⟩]
theorem fc {p:Row->Prop}{a:Row}{l:List Row}(h:p a)(t:∀x ∈ l,p x):∀x ∈ a :: l,p x:=List.forall_mem_cons.2 ⟨h,t⟩
theorem qag2 : ∀r ∈ rows,RowOk tab r:=(fc k6 (fc k16 (fc k17 (fc k21 (fc k23 (fc k35 (fc k39 (fc k40 (fc k41 (fc k42 (fc k43 (fc k44 (fc k45 (fc k46 (fc k47 (fc k48 (fc k49 (fc k50 (fc k51 (fc k52 (fc k53 (fc k54 (fc k55 (fc k56 (fc k57 (fc k58 (fc k59 (fc k85 (fc k91 (fc k92 (fc k93 (fc k94 (fc k95 (fc k96 (fc k97 (fc k108 (fc k109 (fc k110 (fc k113 (fc k114 (fc k115 (fc k116 (fc k117 (fc k118 (fc k119 (fc k120 (fc k121 (fc k122 (fc k123 (fc k124 (fc k125 (fc k126 (fc k127 (fc k128 (fc k129 (fc k130 (fc k131 (fc k132 (fc k133 (fc k134 (fc k169 (fc k170 (fc k171 (fc k172 (fc k173 (fc k177 (fc k178 (fc k179 (fc k180 (fc k181 (fc k182 (fc k183 (fc k184 (fc k185 (fc k186 (fc k189 (fc k190 (fc k192 (fc k193 (fc k194 (fc k195 (fc k196 (fc k197 (fc k198 (fc k199 (fc k200 (fc k201 (fc k202 (fc k203 (fc k204 (fc k205 (fc k206 (fc k207 (fc k208 (fc k209 (fc k210 (fc k211 (fc k212 (fc k213 (fc k214 (fc k215 (fc k216 (fc k217 (fc k245 (fc k246 (fc k247 (fc k248 (fc k249 (fc k250 (fc k251 (fc k252 (fc k259 (fc k260 (fc k261 (fc k263 (fc k264 (fc k268 (fc k269 (fc k270 (fc k271 (fc k272 (fc k273 (fc k274 (fc k275 (fc k276 (fc k277 (fc k278 (fc k279 (fc k280 (fc k281 (fc k282 (fc k283 (fc k284 (fc k285 (fc k286 (fc k287 (fc k288 (fc k289 (fc k308 (fc k309 (fc k311 (fc k312 (fc k313 (fc k314 (fc k315 (fc k316 (fc k317 (fc k318 (fc k319 (fc k320 (fc k322 (fc k323 (fc k324 (fc k325 (fc k326 (fc k327 (fc k328 (fc k329 (fc k330 (fun _ h=>by cases h))))))))))))))))))))))))))))))))))))))))))))))))))))))))))))))))))))))))))))))))))))))))))))))))))))))))))))))))))))))))))))))))))))))))))))))))))))))))))))))))
theorem rs : rows.map (fun r=>look fnList r.gid)=rows.map (fun r=>some r.fn):=by kernel_rfl
theorem q8l : ∀r ∈ rows,look fnList r.gid=some r.fn:=List.map_inj_left.1 rs
theorem q7u : tab.P.follows .mixedOrders=true:=by kernel_rfl
theorem qago : ∀ fid g f, tab.gid fid = some g → prog.fn g = some f → ∃ fn C, tab.P.funcs[fid]? = some fn ∧ fn.name ≠ "runtime.NumGoroutine" ∧ fn.body = some C ∧ comp tab fn.ntmps C = some f.body ∧ cRVs tab fn.results.toList = some f.results :=
 q2g (l:=qaae) rfl (fns:=fnList) (S:=prog) rfl rows qag2 (by kernel_rfl) q8l
end Go.Abs
namespace Go.Proofs.YtpdchdfajhbglaaGreatDoor
open Go.ChangeShapes Go.WideShapes Go.ChangeAt Go.RowKit
theorem own : ownKnob Tryz.prog.godebug = none := by kernel_rfl
theorem laidOut : laidOutB Tryz.prog = true := by kernel_rfl
theorem seat : Go.Abs.Seat Go.Abs.tab Go.Abs.prog := ⟨Go.Abs.q7u, Go.Abs.qago, fun _ _ _ _ _ _ h => by cases h⟩
section
variable {H : Type} {enc : TypeId × Value → H} {w : World}
theorem r_u32s : Go.Abs.Rd enc Tryz.prog w Go.Abs.tab.gid 30 (fun v => ∃ l : List Nat, v = Go.Abs.lim l ∧ Go.Abs.Li l ∧ l.length ≤ maxLen) := Go.Abs.W.qag6 Tryz.underlying30 Tryz.underlying99 (by kernel_rfl)
theorem r_dy : Go.Abs.Rd enc Tryz.prog w Go.Abs.tab.gid 32 (fun v => ∃ d : Go.Abs.W.Dy, v = d.v ∧ d.T) := Go.Abs.W.rd_dy Tryz.underlying32 (by kernel_rfl) Tryz.underlying4 r_u32s Tryz.underlying3 (by kernel_rfl)
theorem r_iv : Go.Abs.Rd enc Tryz.prog w Go.Abs.tab.gid 34 (fun v => ∃ x : Go.Abs.W.Iv, v = x.v ∧ x.T) := Go.Abs.W.rd_iv Tryz.underlying34 (by kernel_rfl) r_dy r_dy Tryz.underlying4 (by kernel_rfl)
theorem r_int : Go.Abs.Rd enc Tryz.prog w Go.Abs.tab.gid 3 (fun v => ∃ n, v = .int .i64 n ∧ IntKind.i64.min ≤ n ∧ n ≤ IntKind.i64.max) := Go.Abs.q8q Tryz.underlying3
end
def zIvV : Value := .agg #[.bool false, .slice none 0 0, .int .i64 0, .bool false, .slice none 0 0, .int .i64 0, .bool false]
def dDy {H : Type} : DataW H := .agg [.lit (.bool false), .nil, .lit (.int .i64 0)]
def dIv {H : Type} : DataW H := .agg [dDy, dDy, .lit (.bool false)]
theorem gTab : Tryz.prog.globalNamed "math/bits.deBruijn32tab" = some 0 := by kernel_rfl
theorem gTabType : (Tryz.prog.globals[0]?).map (·.type) = some 211 := by kernel_rfl
theorem cells211 : Tryz.prog.cellsOf 211 = 32 := by kernel_rfl
theorem cells5 : Tryz.prog.cellsOf 5 = 1 := by kernel_rfl
def nums : List Int := [0, 1, 28, 2, 29, 14, 24, 3, 30, 22, 20, 15, 25, 17, 4, 8, 31, 27, 13, 23, 21, 19, 16, 7, 26, 12, 18, 6, 11, 5, 10, 9]
theorem table {W : World} (h : laidMetH Tryz.prog [("math/bits.deBruijn32tab", Rows.laid_math_bits_deBruijn32tab)] W) : Lib.TabIs Tryz.prog W "math/bits.deBruijn32tab" .u8 nums :=
  Lib.tabIs_of_head (rest := []) gTab gTabType Tryz.underlying211 Tryz.underlying5 cells5 cells211 h
theorem tabs {W : World} (h : laidMetH Tryz.prog [("math/bits.deBruijn32tab", Rows.laid_math_bits_deBruijn32tab)] W) : Go.Abs.Tabs Go.Abs.tab.gid W fun _ => False := by
  intro g cs hg
  have hg' : Go.Abs.qym Go.Abs.q1j g = some cs := hg
  unfold Go.Abs.q1j Go.Abs.qym at hg'
  split at hg'
  · rename_i h0
    subst h0
    have hc : cs = nums.map (fun n => Go.Abs.V.int .u8 n) := by injection hg' with hg'; rw [← hg']; rfl
    subst hc
    have cell : ∀ i (hi : i < nums.length), W.cell? ⟨0, i, none⟩ = some (.int .u8 (nums.getD i 0)) := fun i hi => (table h).cell gTab i hi
    have hb : 0 < W.heap.size := World.block_lt_of_cell? W ⟨0, 0, none⟩ (cell 0 (by decide))
    have get : ∀ (j : Nat) (c : Go.Abs.V), (nums.map (fun n => Go.Abs.V.int .u8 n))[j]? = some c → j < nums.length ∧ c = .int .u8 (nums.getD j 0) := by
      intro j c hj
      rw [List.getElem?_map] at hj
      obtain ⟨a, ha, rfl⟩ := Option.map_eq_some_iff.1 hj
      refine ⟨(List.getElem?_eq_some_iff.1 ha).1, ?_⟩
      rw [List.getD_eq_getElem?_getD, ha]
      rfl
    refine .eptr _ _ (fun j => .int .u8 (nums.getD j 0)) rfl (fun h => h) hb ?_ ?_
    · intro j c hj
      have hl := (get j c hj).1
      have := cell j hl
      simpa using this
    · intro j c hj
      rw [(get j c hj).2]
      exact .int _ _
  · unfold Go.Abs.qym at hg'
    cases hg'
noncomputable def laidWorld (os : Os) : World :=
  { World.holding Tryz.prog os ⟨#[], #[], []⟩ with heap := (World.holding Tryz.prog os ⟨#[], #[], []⟩).heap.modify 0 fun
      | .cells _ t frozen => .cells (nums.map fun n => .int .u8 n).toArray t frozen
      | o => o }
end Go.Proofs.YtpdchdfajhbglaaGreatDoor
