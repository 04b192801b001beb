/- Parts of the proof: FpSeatE, FpEndE0. -/
import Derived.Test.YtedfjcdjmnaaiaaGreatDoorProg
import Derived.KernelRfl
import Derived.Test.YtedfjcdjmnaaiaaGreatDoorCards
import Derived.Test.YtedfjcdjmnaaiaaGreatDoorTie
import Derived.WalkKit
import Derived.ProofKit
import Derived.OpenShut
import Derived.Deep.DeepHandedRow
import Derived.Lib.LaidTab
import Derived.Test.YtedfjcdjmnaaiaaGreatDoorGr
import Derived.Test.YtedfjcdjmnaaiaaGreatDoorFb
import Derived.Test.YtedfjcdjmnaaiaaGreatDoorFd
import Derived.Test.YtedfjcdjmnaaiaaGreatDoorFb
namespace Go.Abs
open Go.Proofs
set_option maxRecDepth 100000
def qac0 : List Nat := [0, 0, 0, 400, 401, 402, 403, 404, 405, 406, 407, 408, 409, 410, 411, 412, 413, 414, 77, 415, 416, 83, 417, 90, 140, 138, 418, 419, 420, 421, 422, 109, 195, 423, 70, 60, 174, 424, 425, 23, 18, 74, 426, 427, 428, 133, 139, 141, 182, 429, 79, 107, 430, 431, 163, 71, 55, 159, 153, 432, 433, 434, 435, 96, 51, 52, 436, 437, 438, 104, 105, 106, 186, 190, 191, 192, 187, 188, 189, 439, 440, 156, 210, 441, 146, 57, 442, 149, 443, 444, 445, 91, 12, 108, 54, 63, 56, 85, 147, 214, 184, 98, 158, 152, 446, 447, 196, 169, 92, 93, 49, 197, 175, 145, 155, 154, 78, 80, 205, 448, 217, 216, 198, 165, 164, 225, 166, 148, 199, 200, 449, 450, 142, 84, 86, 87, 101, 102, 103, 97, 204, 219, 220, 202, 206, 157, 203, 99, 100, 221, 451, 235, 238, 237, 222, 236, 173, 244, 245, 246, 119, 193, 194, 110, 223, 224, 242, 229, 226, 227, 228, 167, 185, 111, 112, 255, 114, 115, 259, 254, 243, 241, 256, 257, 258, 261, 262, 218, 113, 247, 250, 232, 251, 252, 248, 249, 215, 116, 117, 118, 265, 264, 266, 239, 240, 263, 120, 271, 272, 260, 267, 268, 269, 270, 273, 274, 0, 0, 0, 0, 0, 0, 0, 0, 0, 0, 0, 0, 0, 0, 0, 0, 0, 0, 0, 0, 0]
def q40 : List (Nat × List V) := [(0, [.int .u8 0, .int .u8 1, .int .u8 28, .int .u8 2, .int .u8 29, .int .u8 14, .int .u8 24, .int .u8 3, .int .u8 30, .int .u8 22, .int .u8 20, .int .u8 15, .int .u8 25, .int .u8 17, .int .u8 4, .int .u8 8, .int .u8 31, .int .u8 27, .int .u8 13, .int .u8 23, .int .u8 21, .int .u8 19, .int .u8 16, .int .u8 7, .int .u8 26, .int .u8 12, .int .u8 18, .int .u8 6, .int .u8 11, .int .u8 5, .int .u8 10, .int .u8 9])]
noncomputable def tab : Tab := ⟨Tryz.prog, ⟨gidOf qac0, q2o q40⟩⟩
theorem k3 : RowOk tab ⟨3, 400, qdj⟩ := ⟨Tryz.f3, Tryz.func3, by kernel_rfl⟩
theorem k4 : RowOk tab ⟨4, 401, qci⟩ := ⟨Tryz.f4, Tryz.func4, by kernel_rfl⟩
theorem k5 : RowOk tab ⟨5, 402, qdi⟩ := ⟨Tryz.f5, Tryz.func5, by kernel_rfl⟩
theorem k6 : RowOk tab ⟨6, 403, qcb⟩ := ⟨Tryz.f6, Tryz.func6, by kernel_rfl⟩
theorem k7 : RowOk tab ⟨7, 404, qcu⟩ := ⟨Tryz.f7, Tryz.func7, by kernel_rfl⟩
theorem k8 : RowOk tab ⟨8, 405, qdk⟩ := ⟨Tryz.f8, Tryz.func8, by kernel_rfl⟩
theorem k9 : RowOk tab ⟨9, 406, qc8⟩ := ⟨Tryz.f9, Tryz.func9, by kernel_rfl⟩
theorem k10 : RowOk tab ⟨10, 407, qby⟩ := ⟨Tryz.f10, Tryz.func10, by kernel_rfl⟩
theorem k11 : RowOk tab ⟨11, 408, qj2⟩ := ⟨Tryz.f11, Tryz.func11, by kernel_rfl⟩
theorem k12 : RowOk tab ⟨12, 409, qj1⟩ := ⟨Tryz.f12, Tryz.func12, by kernel_rfl⟩
theorem k13 : RowOk tab ⟨13, 410, qhs⟩ := ⟨Tryz.f13, Tryz.func13, by kernel_rfl⟩
theorem k14 : RowOk tab ⟨14, 411, qlr⟩ := ⟨Tryz.f14, Tryz.func14, by kernel_rfl⟩
theorem k15 : RowOk tab ⟨15, 412, qgn⟩ := ⟨Tryz.f15, Tryz.func15, by kernel_rfl⟩
theorem k16 : RowOk tab ⟨16, 413, qji⟩ := ⟨Tryz.f16, Tryz.func16, by kernel_rfl⟩
theorem k17 : RowOk tab ⟨17, 414, qng⟩ := ⟨Tryz.f17, Tryz.func17, by kernel_rfl⟩
theorem k18 : RowOk tab ⟨18, 77, qhl⟩ := ⟨Tryz.f18, Tryz.func18, by kernel_rfl⟩
theorem k19 : RowOk tab ⟨19, 415, qjz⟩ := ⟨Tryz.f19, Tryz.func19, by kernel_rfl⟩
theorem k20 : RowOk tab ⟨20, 416, qls⟩ := ⟨Tryz.f20, Tryz.func20, by kernel_rfl⟩
theorem k21 : RowOk tab ⟨21, 83, qgg⟩ := ⟨Tryz.f21, Tryz.func21, by kernel_rfl⟩
theorem k22 : RowOk tab ⟨22, 417, qct⟩ := ⟨Tryz.f22, Tryz.func22, by kernel_rfl⟩
theorem k23 : RowOk tab ⟨23, 90, qjh⟩ := ⟨Tryz.f23, Tryz.func23, by kernel_rfl⟩
theorem k24 : RowOk tab ⟨24, 140, qk1⟩ := ⟨Tryz.f24, Tryz.func24, by kernel_rfl⟩
theorem k25 : RowOk tab ⟨25, 138, qk6⟩ := ⟨Tryz.f25, Tryz.func25, by kernel_rfl⟩
theorem k26 : RowOk tab ⟨26, 418, qj5⟩ := ⟨Tryz.f26, Tryz.func26, by kernel_rfl⟩
theorem k27 : RowOk tab ⟨27, 419, qj7⟩ := ⟨Tryz.f27, Tryz.func27, by kernel_rfl⟩
theorem k28 : RowOk tab ⟨28, 420, qnh⟩ := ⟨Tryz.f28, Tryz.func28, by kernel_rfl⟩
theorem k29 : RowOk tab ⟨29, 421, qk8⟩ := ⟨Tryz.f29, Tryz.func29, by kernel_rfl⟩
theorem k30 : RowOk tab ⟨30, 422, qla⟩ := ⟨Tryz.f30, Tryz.func30, by kernel_rfl⟩
theorem k31 : RowOk tab ⟨31, 109, qjl⟩ := ⟨Tryz.f31, Tryz.func31, by kernel_rfl⟩
theorem k32 : RowOk tab ⟨32, 195, qlg⟩ := ⟨Tryz.f32, Tryz.func32, by kernel_rfl⟩
theorem k33 : RowOk tab ⟨33, 423, qj6⟩ := ⟨Tryz.f33, Tryz.func33, by kernel_rfl⟩
theorem k34 : RowOk tab ⟨34, 70, qjm⟩ := ⟨Tryz.f34, Tryz.func34, by kernel_rfl⟩
theorem k35 : RowOk tab ⟨35, 60, qjp⟩ := ⟨Tryz.f35, Tryz.func35, by kernel_rfl⟩
theorem k36 : RowOk tab ⟨36, 174, qlf⟩ := ⟨Tryz.f36, Tryz.func36, by kernel_rfl⟩
theorem k37 : RowOk tab ⟨37, 424, qcv⟩ := ⟨Tryz.f37, Tryz.func37, by kernel_rfl⟩
theorem k38 : RowOk tab ⟨38, 425, qj0⟩ := ⟨Tryz.f38, Tryz.func38, by kernel_rfl⟩
theorem k39 : RowOk tab ⟨39, 23, qjy⟩ := ⟨Tryz.f39, Tryz.func39, by kernel_rfl⟩
theorem k40 : RowOk tab ⟨40, 18, qnz⟩ := ⟨Tryz.f40, Tryz.func40, by kernel_rfl⟩
theorem k41 : RowOk tab ⟨41, 74, qny⟩ := ⟨Tryz.f41, Tryz.func41, by kernel_rfl⟩
theorem k42 : RowOk tab ⟨42, 426, qnf⟩ := ⟨Tryz.f42, Tryz.func42, by kernel_rfl⟩
theorem k43 : RowOk tab ⟨43, 427, qk9⟩ := ⟨Tryz.f43, Tryz.func43, by kernel_rfl⟩
theorem k44 : RowOk tab ⟨44, 428, qht⟩ := ⟨Tryz.f44, Tryz.func44, by kernel_rfl⟩
theorem k45 : RowOk tab ⟨45, 133, qk4⟩ := ⟨Tryz.f45, Tryz.func45, by kernel_rfl⟩
theorem k46 : RowOk tab ⟨46, 139, qkz⟩ := ⟨Tryz.f46, Tryz.func46, by kernel_rfl⟩
theorem k47 : RowOk tab ⟨47, 141, qgf⟩ := ⟨Tryz.f47, Tryz.func47, by kernel_rfl⟩
theorem k48 : RowOk tab ⟨48, 182, qjx⟩ := ⟨Tryz.f48, Tryz.func48, by kernel_rfl⟩
theorem k49 : RowOk tab ⟨49, 429, qj3⟩ := ⟨Tryz.f49, Tryz.func49, by kernel_rfl⟩
theorem k50 : RowOk tab ⟨50, 79, qn6⟩ := ⟨Tryz.f50, Tryz.func50, by kernel_rfl⟩
theorem k51 : RowOk tab ⟨51, 107, qhk⟩ := ⟨Tryz.f51, Tryz.func51, by kernel_rfl⟩
theorem k52 : RowOk tab ⟨52, 430, qj4⟩ := ⟨Tryz.f52, Tryz.func52, by kernel_rfl⟩
theorem k53 : RowOk tab ⟨53, 431, qen⟩ := ⟨Tryz.f53, Tryz.func53, by kernel_rfl⟩
theorem k54 : RowOk tab ⟨54, 163, qnm⟩ := ⟨Tryz.f54, Tryz.func54, by kernel_rfl⟩
theorem k55 : RowOk tab ⟨55, 71, qlh⟩ := ⟨Tryz.f55, Tryz.func55, by kernel_rfl⟩
theorem k56 : RowOk tab ⟨56, 55, qnv⟩ := ⟨Tryz.f56, Tryz.func56, by kernel_rfl⟩
theorem k57 : RowOk tab ⟨57, 159, qjn⟩ := ⟨Tryz.f57, Tryz.func57, by kernel_rfl⟩
theorem k58 : RowOk tab ⟨58, 153, qjo⟩ := ⟨Tryz.f58, Tryz.func58, by kernel_rfl⟩
theorem k59 : RowOk tab ⟨59, 432, qnd⟩ := ⟨Tryz.f59, Tryz.func59, by kernel_rfl⟩
theorem k60 : RowOk tab ⟨60, 433, qne⟩ := ⟨Tryz.f60, Tryz.func60, by kernel_rfl⟩
theorem k61 : RowOk tab ⟨61, 434, qhp⟩ := ⟨Tryz.f61, Tryz.func61, by kernel_rfl⟩
theorem k62 : RowOk tab ⟨62, 435, qnc⟩ := ⟨Tryz.f62, Tryz.func62, by kernel_rfl⟩
theorem k63 : RowOk tab ⟨63, 96, qfu⟩ := ⟨Tryz.f63, Tryz.func63, by kernel_rfl⟩
theorem k64 : RowOk tab ⟨64, 51, qlt⟩ := ⟨Tryz.f64, Tryz.func64, by kernel_rfl⟩
theorem k65 : RowOk tab ⟨65, 52, qpe⟩ := ⟨Tryz.f65, Tryz.func65, by kernel_rfl⟩
theorem k66 : RowOk tab ⟨66, 436, qhr⟩ := ⟨Tryz.f66, Tryz.func66, by kernel_rfl⟩
theorem k67 : RowOk tab ⟨67, 437, qe6⟩ := ⟨Tryz.f67, Tryz.func67, by kernel_rfl⟩
theorem k68 : RowOk tab ⟨68, 438, qh2⟩ := ⟨Tryz.f68, Tryz.func68, by kernel_rfl⟩
theorem k69 : RowOk tab ⟨69, 104, qjc⟩ := ⟨Tryz.f69, Tryz.func69, by kernel_rfl⟩
theorem k70 : RowOk tab ⟨70, 105, qje⟩ := ⟨Tryz.f70, Tryz.func70, by kernel_rfl⟩
theorem k71 : RowOk tab ⟨71, 106, qhj⟩ := ⟨Tryz.f71, Tryz.func71, by kernel_rfl⟩
theorem k72 : RowOk tab ⟨72, 186, qem⟩ := ⟨Tryz.f72, Tryz.func72, by kernel_rfl⟩
theorem k73 : RowOk tab ⟨73, 190, qjf⟩ := ⟨Tryz.f73, Tryz.func73, by kernel_rfl⟩
theorem k74 : RowOk tab ⟨74, 191, qi5⟩ := ⟨Tryz.f74, Tryz.func74, by kernel_rfl⟩
theorem k75 : RowOk tab ⟨75, 192, qm0⟩ := ⟨Tryz.f75, Tryz.func75, by kernel_rfl⟩
theorem k76 : RowOk tab ⟨76, 187, qi7⟩ := ⟨Tryz.f76, Tryz.func76, by kernel_rfl⟩
theorem k77 : RowOk tab ⟨77, 188, qm2⟩ := ⟨Tryz.f77, Tryz.func77, by kernel_rfl⟩
theorem k78 : RowOk tab ⟨78, 189, qjd⟩ := ⟨Tryz.f78, Tryz.func78, by kernel_rfl⟩
theorem k79 : RowOk tab ⟨79, 439, qgp⟩ := ⟨Tryz.f79, Tryz.func79, by kernel_rfl⟩
theorem k80 : RowOk tab ⟨80, 440, qdz⟩ := ⟨Tryz.f80, Tryz.func80, by kernel_rfl⟩
theorem k81 : RowOk tab ⟨81, 156, qk7⟩ := ⟨Tryz.f81, Tryz.func81, by kernel_rfl⟩
theorem k82 : RowOk tab ⟨82, 210, qpd⟩ := ⟨Tryz.f82, Tryz.func82, by kernel_rfl⟩
theorem k83 : RowOk tab ⟨83, 441, qhq⟩ := ⟨Tryz.f83, Tryz.func83, by kernel_rfl⟩
theorem k84 : RowOk tab ⟨84, 146, qni⟩ := ⟨Tryz.f84, Tryz.func84, by kernel_rfl⟩
theorem k85 : RowOk tab ⟨85, 57, qnx⟩ := ⟨Tryz.f85, Tryz.func85, by kernel_rfl⟩
theorem k86 : RowOk tab ⟨86, 442, qh3⟩ := ⟨Tryz.f86, Tryz.func86, by kernel_rfl⟩
theorem k87 : RowOk tab ⟨87, 149, qhn⟩ := ⟨Tryz.f87, Tryz.func87, by kernel_rfl⟩
theorem k88 : RowOk tab ⟨88, 443, qd1⟩ := ⟨Tryz.f88, Tryz.func88, by kernel_rfl⟩
theorem k89 : RowOk tab ⟨89, 444, qd3⟩ := ⟨Tryz.f89, Tryz.func89, by kernel_rfl⟩
theorem k90 : RowOk tab ⟨90, 445, qh1⟩ := ⟨Tryz.f90, Tryz.func90, by kernel_rfl⟩
theorem k91 : RowOk tab ⟨91, 91, qlb⟩ := ⟨Tryz.f91, Tryz.func91, by kernel_rfl⟩
theorem k92 : RowOk tab ⟨92, 12, qjw⟩ := ⟨Tryz.f92, Tryz.func92, by kernel_rfl⟩
theorem k93 : RowOk tab ⟨93, 108, qjk⟩ := ⟨Tryz.f93, Tryz.func93, by kernel_rfl⟩
theorem k94 : RowOk tab ⟨94, 54, qln⟩ := ⟨Tryz.f94, Tryz.func94, by kernel_rfl⟩
theorem k95 : RowOk tab ⟨95, 63, qgi⟩ := ⟨Tryz.f95, Tryz.func95, by kernel_rfl⟩
theorem k96 : RowOk tab ⟨96, 56, qnw⟩ := ⟨Tryz.f96, Tryz.func96, by kernel_rfl⟩
theorem k97 : RowOk tab ⟨97, 85, qo8⟩ := ⟨Tryz.f97, Tryz.func97, by kernel_rfl⟩
theorem k98 : RowOk tab ⟨98, 147, qk0⟩ := ⟨Tryz.f98, Tryz.func98, by kernel_rfl⟩
theorem k99 : RowOk tab ⟨99, 214, qf0⟩ := ⟨Tryz.f99, Tryz.func99, by kernel_rfl⟩
theorem k100 : RowOk tab ⟨100, 184, qgl⟩ := ⟨Tryz.f100, Tryz.func100, by kernel_rfl⟩
theorem k101 : RowOk tab ⟨101, 98, qpb⟩ := ⟨Tryz.f101, Tryz.func101, by kernel_rfl⟩
theorem k102 : RowOk tab ⟨102, 158, qhm⟩ := ⟨Tryz.f102, Tryz.func102, by kernel_rfl⟩
theorem k103 : RowOk tab ⟨103, 152, qho⟩ := ⟨Tryz.f103, Tryz.func103, by kernel_rfl⟩
theorem k104 : RowOk tab ⟨104, 446, qd4⟩ := ⟨Tryz.f104, Tryz.func104, by kernel_rfl⟩
theorem k105 : RowOk tab ⟨105, 447, qd0⟩ := ⟨Tryz.f105, Tryz.func105, by kernel_rfl⟩
theorem k106 : RowOk tab ⟨106, 196, qnu⟩ := ⟨Tryz.f106, Tryz.func106, by kernel_rfl⟩
theorem k107 : RowOk tab ⟨107, 169, qno⟩ := ⟨Tryz.f107, Tryz.func107, by kernel_rfl⟩
theorem k108 : RowOk tab ⟨108, 92, qlc⟩ := ⟨Tryz.f108, Tryz.func108, by kernel_rfl⟩
theorem k109 : RowOk tab ⟨109, 93, qjj⟩ := ⟨Tryz.f109, Tryz.func109, by kernel_rfl⟩
theorem k110 : RowOk tab ⟨110, 49, qlm⟩ := ⟨Tryz.f110, Tryz.func110, by kernel_rfl⟩
theorem k111 : RowOk tab ⟨111, 197, qld⟩ := ⟨Tryz.f111, Tryz.func111, by kernel_rfl⟩
theorem k112 : RowOk tab ⟨112, 175, qnp⟩ := ⟨Tryz.f112, Tryz.func112, by kernel_rfl⟩
theorem k113 : RowOk tab ⟨113, 145, qnq⟩ := ⟨Tryz.f113, Tryz.func113, by kernel_rfl⟩
theorem k114 : RowOk tab ⟨114, 155, qhw⟩ := ⟨Tryz.f114, Tryz.func114, by kernel_rfl⟩
theorem k115 : RowOk tab ⟨115, 154, qnk⟩ := ⟨Tryz.f115, Tryz.func115, by kernel_rfl⟩
theorem k116 : RowOk tab ⟨116, 78, qh6⟩ := ⟨Tryz.f116, Tryz.func116, by kernel_rfl⟩
theorem k117 : RowOk tab ⟨117, 80, qh7⟩ := ⟨Tryz.f117, Tryz.func117, by kernel_rfl⟩
theorem k118 : RowOk tab ⟨118, 205, qpf⟩ := ⟨Tryz.f118, Tryz.func118, by kernel_rfl⟩
theorem k119 : RowOk tab ⟨119, 448, qcw⟩ := ⟨Tryz.f119, Tryz.func119, by kernel_rfl⟩
theorem k120 : RowOk tab ⟨120, 217, qqy⟩ := ⟨Tryz.f120, Tryz.func120, by kernel_rfl⟩
theorem k121 : RowOk tab ⟨121, 216, c_round_add⟩ := ⟨Tryz.f121, Tryz.func121, by kernel_rfl⟩
theorem k122 : RowOk tab ⟨122, 198, qpc⟩ := ⟨Tryz.f122, Tryz.func122, by kernel_rfl⟩
theorem k123 : RowOk tab ⟨123, 165, qk2⟩ := ⟨Tryz.f123, Tryz.func123, by kernel_rfl⟩
theorem k124 : RowOk tab ⟨124, 164, qk3⟩ := ⟨Tryz.f124, Tryz.func124, by kernel_rfl⟩
theorem k125 : RowOk tab ⟨125, 225, qf1⟩ := ⟨Tryz.f125, Tryz.func125, by kernel_rfl⟩
theorem k126 : RowOk tab ⟨126, 166, qnn⟩ := ⟨Tryz.f126, Tryz.func126, by kernel_rfl⟩
theorem k127 : RowOk tab ⟨127, 148, qnj⟩ := ⟨Tryz.f127, Tryz.func127, by kernel_rfl⟩
theorem k128 : RowOk tab ⟨128, 199, qo7⟩ := ⟨Tryz.f128, Tryz.func128, by kernel_rfl⟩
theorem k129 : RowOk tab ⟨129, 200, qsx⟩ := ⟨Tryz.f129, Tryz.func129, by kernel_rfl⟩
theorem k130 : RowOk tab ⟨130, 449, qda⟩ := ⟨Tryz.f130, Tryz.func130, by kernel_rfl⟩
theorem k131 : RowOk tab ⟨131, 450, qgo⟩ := ⟨Tryz.f131, Tryz.func131, by kernel_rfl⟩
theorem k132 : RowOk tab ⟨132, 142, qk5⟩ := ⟨Tryz.f132, Tryz.func132, by kernel_rfl⟩
theorem k133 : RowOk tab ⟨133, 84, qll⟩ := ⟨Tryz.f133, Tryz.func133, by kernel_rfl⟩
theorem k134 : RowOk tab ⟨134, 86, qlk⟩ := ⟨Tryz.f134, Tryz.func134, by kernel_rfl⟩
theorem k135 : RowOk tab ⟨135, 87, qjv⟩ := ⟨Tryz.f135, Tryz.func135, by kernel_rfl⟩
theorem k136 : RowOk tab ⟨136, 101, qlj⟩ := ⟨Tryz.f136, Tryz.func136, by kernel_rfl⟩
theorem k137 : RowOk tab ⟨137, 102, qjs⟩ := ⟨Tryz.f137, Tryz.func137, by kernel_rfl⟩
theorem k138 : RowOk tab ⟨138, 103, qju⟩ := ⟨Tryz.f138, Tryz.func138, by kernel_rfl⟩
theorem k139 : RowOk tab ⟨139, 97, qn5⟩ := ⟨Tryz.f139, Tryz.func139, by kernel_rfl⟩
theorem k140 : RowOk tab ⟨140, 204, qlu⟩ := ⟨Tryz.f140, Tryz.func140, by kernel_rfl⟩
theorem k141 : RowOk tab ⟨141, 219, qjq⟩ := ⟨Tryz.f141, Tryz.func141, by kernel_rfl⟩
theorem k142 : RowOk tab ⟨142, 220, qjr⟩ := ⟨Tryz.f142, Tryz.func142, by kernel_rfl⟩
theorem k143 : RowOk tab ⟨143, 202, qle⟩ := ⟨Tryz.f143, Tryz.func143, by kernel_rfl⟩
theorem k144 : RowOk tab ⟨144, 206, qnt⟩ := ⟨Tryz.f144, Tryz.func144, by kernel_rfl⟩
theorem k145 : RowOk tab ⟨145, 157, qnr⟩ := ⟨Tryz.f145, Tryz.func145, by kernel_rfl⟩
theorem k146 : RowOk tab ⟨146, 203, qns⟩ := ⟨Tryz.f146, Tryz.func146, by kernel_rfl⟩
theorem k147 : RowOk tab ⟨147, 99, qil⟩ := ⟨Tryz.f147, Tryz.func147, by kernel_rfl⟩
theorem k148 : RowOk tab ⟨148, 100, qh5⟩ := ⟨Tryz.f148, Tryz.func148, by kernel_rfl⟩
theorem k149 : RowOk tab ⟨149, 221, qdy⟩ := ⟨Tryz.f149, Tryz.func149, by kernel_rfl⟩
theorem k150 : RowOk tab ⟨150, 451, qd2⟩ := ⟨Tryz.f150, Tryz.func150, by kernel_rfl⟩
theorem k151 : RowOk tab ⟨151, 235, qmz⟩ := ⟨Tryz.f151, Tryz.func151, by kernel_rfl⟩
theorem k152 : RowOk tab ⟨152, 238, qna⟩ := ⟨Tryz.f152, Tryz.func152, by kernel_rfl⟩
theorem k153 : RowOk tab ⟨153, 237, qkw⟩ := ⟨Tryz.f153, Tryz.func153, by kernel_rfl⟩
theorem k154 : RowOk tab ⟨154, 222, qmy⟩ := ⟨Tryz.f154, Tryz.func154, by kernel_rfl⟩
theorem k155 : RowOk tab ⟨155, 236, c_round_sum⟩ := ⟨Tryz.f155, Tryz.func155, by kernel_rfl⟩
theorem k156 : RowOk tab ⟨156, 173, qjg⟩ := ⟨Tryz.f156, Tryz.func156, by kernel_rfl⟩
theorem k157 : RowOk tab ⟨157, 244, qh4⟩ := ⟨Tryz.f157, Tryz.func157, by kernel_rfl⟩
theorem k158 : RowOk tab ⟨158, 245, qpa⟩ := ⟨Tryz.f158, Tryz.func158, by kernel_rfl⟩
theorem k159 : RowOk tab ⟨159, 246, qm8⟩ := ⟨Tryz.f159, Tryz.func159, by kernel_rfl⟩
theorem k160 : RowOk tab ⟨160, 119, qel⟩ := ⟨Tryz.f160, Tryz.func160, by kernel_rfl⟩
theorem k161 : RowOk tab ⟨161, 193, qi6⟩ := ⟨Tryz.f161, Tryz.func161, by kernel_rfl⟩
theorem k162 : RowOk tab ⟨162, 194, qm1⟩ := ⟨Tryz.f162, Tryz.func162, by kernel_rfl⟩
theorem k163 : RowOk tab ⟨163, 110, qg0⟩ := ⟨Tryz.f163, Tryz.func163, by kernel_rfl⟩
theorem k164 : RowOk tab ⟨164, 223, qgq⟩ := ⟨Tryz.f164, Tryz.func164, by kernel_rfl⟩
theorem k165 : RowOk tab ⟨165, 224, qh8⟩ := ⟨Tryz.f165, Tryz.func165, by kernel_rfl⟩
theorem k166 : RowOk tab ⟨166, 242, qli⟩ := ⟨Tryz.f166, Tryz.func166, by kernel_rfl⟩
theorem k167 : RowOk tab ⟨167, 229, c_fpref03_Cut⟩ := ⟨Tryz.f167, Tryz.func167, by kernel_rfl⟩
theorem k168 : RowOk tab ⟨168, 226, qlq⟩ := ⟨Tryz.f168, Tryz.func168, by kernel_rfl⟩
theorem k169 : RowOk tab ⟨169, 227, qh0⟩ := ⟨Tryz.f169, Tryz.func169, by kernel_rfl⟩
theorem k170 : RowOk tab ⟨170, 228, qn2⟩ := ⟨Tryz.f170, Tryz.func170, by kernel_rfl⟩
theorem k171 : RowOk tab ⟨171, 167, qnl⟩ := ⟨Tryz.f171, Tryz.func171, by kernel_rfl⟩
theorem k172 : RowOk tab ⟨172, 185, qgk⟩ := ⟨Tryz.f172, Tryz.func172, by kernel_rfl⟩
theorem k173 : RowOk tab ⟨173, 111, qeu⟩ := ⟨Tryz.f173, Tryz.func173, by kernel_rfl⟩
theorem k174 : RowOk tab ⟨174, 112, qm9⟩ := ⟨Tryz.f174, Tryz.func174, by kernel_rfl⟩
theorem k175 : RowOk tab ⟨175, 255, qi4⟩ := ⟨Tryz.f175, Tryz.func175, by kernel_rfl⟩
theorem k176 : RowOk tab ⟨176, 114, qkx⟩ := ⟨Tryz.f176, Tryz.func176, by kernel_rfl⟩
theorem k177 : RowOk tab ⟨177, 115, qky⟩ := ⟨Tryz.f177, Tryz.func177, by kernel_rfl⟩
theorem k178 : RowOk tab ⟨178, 259, qm5⟩ := ⟨Tryz.f178, Tryz.func178, by kernel_rfl⟩
theorem k179 : RowOk tab ⟨179, 254, c_round_cut⟩ := ⟨Tryz.f179, Tryz.func179, by kernel_rfl⟩
theorem k180 : RowOk tab ⟨180, 243, qsw⟩ := ⟨Tryz.f180, Tryz.func180, by kernel_rfl⟩
theorem k181 : RowOk tab ⟨181, 241, qqx⟩ := ⟨Tryz.f181, Tryz.func181, by kernel_rfl⟩
theorem k182 : RowOk tab ⟨182, 256, qqw⟩ := ⟨Tryz.f182, Tryz.func182, by kernel_rfl⟩
theorem k183 : RowOk tab ⟨183, 257, qnb⟩ := ⟨Tryz.f183, Tryz.func183, by kernel_rfl⟩
theorem k184 : RowOk tab ⟨184, 258, qm7⟩ := ⟨Tryz.f184, Tryz.func184, by kernel_rfl⟩
theorem k185 : RowOk tab ⟨185, 261, qb5⟩ := ⟨Tryz.f185, Tryz.func185, by kernel_rfl⟩
theorem k186 : RowOk tab ⟨186, 262, qm4⟩ := ⟨Tryz.f186, Tryz.func186, by kernel_rfl⟩
theorem k187 : RowOk tab ⟨187, 218, qqz⟩ := ⟨Tryz.f187, Tryz.func187, by kernel_rfl⟩
theorem k188 : RowOk tab ⟨188, 113, qed⟩ := ⟨Tryz.f188, Tryz.func188, by kernel_rfl⟩
theorem k189 : RowOk tab ⟨189, 247, qlp⟩ := ⟨Tryz.f189, Tryz.func189, by kernel_rfl⟩
theorem k190 : RowOk tab ⟨190, 250, qn1⟩ := ⟨Tryz.f190, Tryz.func190, by kernel_rfl⟩
theorem k191 : RowOk tab ⟨191, 232, qn3⟩ := ⟨Tryz.f191, Tryz.func191, by kernel_rfl⟩
theorem k192 : RowOk tab ⟨192, 251, qn4⟩ := ⟨Tryz.f192, Tryz.func192, by kernel_rfl⟩
theorem k193 : RowOk tab ⟨193, 252, qfv⟩ := ⟨Tryz.f193, Tryz.func193, by kernel_rfl⟩
theorem k194 : RowOk tab ⟨194, 248, qlo⟩ := ⟨Tryz.f194, Tryz.func194, by kernel_rfl⟩
theorem k195 : RowOk tab ⟨195, 249, qo9⟩ := ⟨Tryz.f195, Tryz.func195, by kernel_rfl⟩
theorem k196 : RowOk tab ⟨196, 215, qjt⟩ := ⟨Tryz.f196, Tryz.func196, by kernel_rfl⟩
theorem k197 : RowOk tab ⟨197, 116, qik⟩ := ⟨Tryz.f197, Tryz.func197, by kernel_rfl⟩
theorem k198 : RowOk tab ⟨198, 117, qbt⟩ := ⟨Tryz.f198, Tryz.func198, by kernel_rfl⟩
theorem k199 : RowOk tab ⟨199, 118, qhg⟩ := ⟨Tryz.f199, Tryz.func199, by kernel_rfl⟩
theorem k200 : RowOk tab ⟨200, 265, qn7⟩ := ⟨Tryz.f200, Tryz.func200, by kernel_rfl⟩
theorem k201 : RowOk tab ⟨201, 264, qm6⟩ := ⟨Tryz.f201, Tryz.func201, by kernel_rfl⟩
theorem k202 : RowOk tab ⟨202, 266, qm3⟩ := ⟨Tryz.f202, Tryz.func202, by kernel_rfl⟩
theorem k203 : RowOk tab ⟨203, 239, qn8⟩ := ⟨Tryz.f203, Tryz.func203, by kernel_rfl⟩
theorem k204 : RowOk tab ⟨204, 240, qhi⟩ := ⟨Tryz.f204, Tryz.func204, by kernel_rfl⟩
theorem k205 : RowOk tab ⟨205, 263, qn0⟩ := ⟨Tryz.f205, Tryz.func205, by kernel_rfl⟩
theorem k206 : RowOk tab ⟨206, 120, qb9⟩ := ⟨Tryz.f206, Tryz.func206, by kernel_rfl⟩
theorem k207 : RowOk tab ⟨207, 271, qge⟩ := ⟨Tryz.f207, Tryz.func207, by kernel_rfl⟩
theorem k208 : RowOk tab ⟨208, 272, qgc⟩ := ⟨Tryz.f208, Tryz.func208, by kernel_rfl⟩
theorem k209 : RowOk tab ⟨209, 260, qhh⟩ := ⟨Tryz.f209, Tryz.func209, by kernel_rfl⟩
theorem k210 : RowOk tab ⟨210, 267, qi8⟩ := ⟨Tryz.f210, Tryz.func210, by kernel_rfl⟩
theorem k211 : RowOk tab ⟨211, 268, qca⟩ := ⟨Tryz.f211, Tryz.func211, by kernel_rfl⟩
theorem k212 : RowOk tab ⟨212, 269, qi9⟩ := ⟨Tryz.f212, Tryz.func212, by kernel_rfl⟩
theorem k213 : RowOk tab ⟨213, 270, qgz⟩ := ⟨Tryz.f213, Tryz.func213, by kernel_rfl⟩
theorem k214 : RowOk tab ⟨214, 273, qgd⟩ := ⟨Tryz.f214, Tryz.func214, by kernel_rfl⟩
theorem k215 : RowOk tab ⟨215, 274, qjb⟩ := ⟨Tryz.f215, Tryz.func215, by kernel_rfl⟩
def rows : List Row :=
 [⟨3, 400, qdj⟩,
  ⟨4, 401, qci⟩,
  ⟨5, 402, qdi⟩,
  ⟨6, 403, qcb⟩,
  ⟨7, 404, qcu⟩,
  ⟨8, 405, qdk⟩,
  ⟨9, 406, qc8⟩,
  ⟨10, 407, qby⟩,
  ⟨11, 408, qj2⟩,
  ⟨12, 409, qj1⟩,
  ⟨13, 410, qhs⟩,
  ⟨14, 411, qlr⟩,
  ⟨15, 412, qgn⟩,
  ⟨16, 413, qji⟩,
  ⟨17, 414, qng⟩,
  ⟨18, 77, qhl⟩,
  ⟨19, 415, qjz⟩,
  ⟨20, 416, qls⟩,
  ⟨21, 83, qgg⟩,
  ⟨22, 417, qct⟩,
  ⟨23, 90, qjh⟩,
  ⟨24, 140, qk1⟩,
  ⟨25, 138, qk6⟩,
  ⟨26, 418, qj5⟩,
  ⟨27, 419, qj7⟩,
  ⟨28, 420, qnh⟩,
  ⟨29, 421, qk8⟩,
  ⟨30, 422, qla⟩,
  ⟨31, 109, qjl⟩,
  ⟨32, 195, qlg⟩,
  ⟨33, 423, qj6⟩,
  ⟨34, 70, qjm⟩,
  ⟨35, 60, qjp⟩,
  ⟨36, 174, qlf⟩,
  ⟨37, 424, qcv⟩,
  ⟨38, 425, qj0⟩,
  ⟨39, 23, qjy⟩,
  ⟨40, 18, qnz⟩,
  ⟨41, 74, qny⟩,
  ⟨42, 426, qnf⟩,
  ⟨43, 427, qk9⟩,
  ⟨44, 428, qht⟩,
  ⟨45, 133, qk4⟩,
  ⟨46, 139, qkz⟩,
  ⟨47, 141, qgf⟩,
  ⟨48, 182, qjx⟩,
  ⟨49, 429, qj3⟩,
  ⟨50, 79, qn6⟩,
  ⟨51, 107, qhk⟩,
  ⟨52, 430, qj4⟩,
  ⟨53, 431, qen⟩,
  ⟨54, 163, qnm⟩,
  ⟨55, 71, qlh⟩,
  ⟨56, 55, qnv⟩,
  ⟨57, 159, qjn⟩,
  ⟨58, 153, qjo⟩,
  ⟨59, 432, qnd⟩,
  ⟨60, 433, qne⟩,
  ⟨61, 434, qhp⟩,
  ⟨62, 435, qnc⟩,
  ⟨63, 96, qfu⟩,
  ⟨64, 51, qlt⟩,
  ⟨65, 52, qpe⟩,
  ⟨66, 436, qhr⟩,
  ⟨67, 437, qe6⟩,
  ⟨68, 438, qh2⟩,
  ⟨69, 104, qjc⟩,
  ⟨70, 105, qje⟩,
  ⟨71, 106, qhj⟩,
  ⟨72, 186, qem⟩,
  ⟨73, 190, qjf⟩,
  ⟨74, 191, qi5⟩,
  ⟨75, 192, qm0⟩,
  ⟨76, 187, qi7⟩,
  ⟨77, 188, qm2⟩,
  ⟨78, 189, qjd⟩,
  ⟨79, 439, qgp⟩,
  ⟨80, 440, qdz⟩,
  ⟨81, 156, qk7⟩,
  ⟨82, 210, qpd⟩,
  ⟨83, 441, qhq⟩,
  ⟨84, 146, qni⟩,
  ⟨85, 57, qnx⟩,
  ⟨86, 442, qh3⟩,
  ⟨87, 149, qhn⟩,
  ⟨88, 443, qd1⟩,
  ⟨89, 444, qd3⟩,
  ⟨90, 445, qh1⟩,
  ⟨91, 91, qlb⟩,
  ⟨92, 12, qjw⟩,
  ⟨93, 108, qjk⟩,
  ⟨94, 54, qln⟩,
  ⟨95, 63, qgi⟩,
  ⟨96, 56, qnw⟩,
  ⟨97, 85, qo8⟩,
  ⟨98, 147, qk0⟩,
  ⟨99, 214, qf0⟩,
  ⟨100, 184, qgl⟩,
  ⟨101, 98, qpb⟩,
  ⟨102, 158, qhm⟩,
  ⟨103, 152, qho⟩,
  ⟨104, 446, qd4⟩,
  ⟨105, 447, qd0⟩,
  ⟨106, 196, qnu⟩,
  ⟨107, 169, qno⟩,
  ⟨108, 92, qlc⟩,
  ⟨109, 93, qjj⟩,
  ⟨110, 49, qlm⟩,
  ⟨111, 197, qld⟩,
  ⟨112, 175, qnp⟩,
  ⟨113, 145, qnq⟩,
  ⟨114, 155, qhw⟩,
  ⟨115, 154, qnk⟩,
  ⟨116, 78, qh6⟩,
  ⟨117, 80, qh7⟩,
  ⟨118, 205, qpf⟩,
  ⟨119, 448, qcw⟩,
  ⟨120, 217, qqy⟩,
  ⟨121, 216, c_round_add⟩,
  ⟨122, 198, qpc⟩,
  ⟨123, 165, qk2⟩,
  ⟨124, 164, qk3⟩,
  ⟨125, 225, qf1⟩,
  ⟨126, 166, qnn⟩,
  ⟨127, 148, qnj⟩,
  ⟨128, 199, qo7⟩,
  ⟨129, 200, qsx⟩,
  ⟨130, 449, qda⟩,
  ⟨131, 450, qgo⟩,
  ⟨132, 142, qk5⟩,
  ⟨133, 84, qll⟩,
  ⟨134, 86, qlk⟩,
  ⟨135, 87, qjv⟩,
  ⟨136, 101, qlj⟩,
  ⟨137, 102, qjs⟩,
  ⟨138, 103, qju⟩,
  ⟨139, 97, qn5⟩,
  ⟨140, 204, qlu⟩,
  ⟨141, 219, qjq⟩,
  ⟨142, 220, qjr⟩,
  ⟨143, 202, qle⟩,
  ⟨144, 206, qnt⟩,
  ⟨145, 157, qnr⟩,
  ⟨146, 203, qns⟩,
  ⟨147, 99, qil⟩,
  ⟨148, 100, qh5⟩,
  ⟨149, 221, qdy⟩,
  ⟨150, 451, qd2⟩,
  ⟨151, 235, qmz⟩,
  ⟨152, 238, qna⟩,
  ⟨153, 237, qkw⟩,
  ⟨154, 222, qmy⟩,
  ⟨155, 236, c_round_sum⟩,
  ⟨156, 173, qjg⟩,
  ⟨157, 244, qh4⟩,
  ⟨158, 245, qpa⟩,
  ⟨159, 246, qm8⟩,
  ⟨160, 119, qel⟩,
  ⟨161, 193, qi6⟩,
  ⟨162, 194, qm1⟩,
  ⟨163, 110, qg0⟩,
  ⟨164, 223, qgq⟩,
  ⟨165, 224, qh8⟩,
  ⟨166, 242, qli⟩,
  ⟨167, 229, c_fpref03_Cut⟩,
  ⟨168, 226, qlq⟩,
  ⟨169, 227, qh0⟩,
  ⟨170, 228, qn2⟩,
  ⟨171, 167, qnl⟩,
  ⟨172, 185, qgk⟩,
  ⟨173, 111, qeu⟩,
  ⟨174, 112, qm9⟩,
  ⟨175, 255, qi4⟩,
  ⟨176, 114, qkx⟩,
  ⟨177, 115, qky⟩,
  ⟨178, 259, qm5⟩,
  ⟨179, 254, c_round_cut⟩,
  ⟨180, 243, qsw⟩,
  ⟨181, 241, qqx⟩,
  ⟨182, 256, qqw⟩,
  ⟨183, 257, qnb⟩,
  ⟨184, 258, qm7⟩,
  ⟨185, 261, qb5⟩,
  ⟨186, 262, qm4⟩,
  ⟨187, 218, qqz⟩,
  ⟨188, 113, qed⟩,
  ⟨189, 247, qlp⟩,
  ⟨190, 250, qn1⟩,
  ⟨191, 232, qn3⟩,
  ⟨192, 251, qn4⟩,
  ⟨193, 252, qfv⟩,
  ⟨194, 248, qlo⟩,
  ⟨195, 249, qo9⟩,
  ⟨196, 215, qjt⟩,
  ⟨197, 116, qik⟩,
  ⟨198, 117, qbt⟩,
  ⟨199, 118, qhg⟩,
  ⟨200, 265, qn7⟩,
  ⟨201, 264, qm6⟩,
  ⟨202, 266, qm3⟩,
  ⟨203, 239, qn8⟩,
  ⟨204, 240, qhi⟩,
  ⟨205, 263, qn0⟩,
  ⟨206, 120, qb9⟩,
  ⟨207, 271, qge⟩,
  ⟨208, 272, qgc⟩,
  ⟨209, 260, qhh⟩,
  ⟨210, 267, qi8⟩,
  ⟨211, 268, qca⟩,
  ⟨212, 269, qi9⟩,
  ⟨213, 270, qgz⟩,
  ⟨214, 273, qgd⟩,
  ⟨215, 274, qjb⟩]
theorem fc {p : Row → Prop} {a : Row} {l : List Row} (h : p a) (t : ∀ x ∈ l, p x) : ∀ x ∈ a :: l, p x := List.forall_mem_cons.2 ⟨h, t⟩
theorem qai3 : ∀ r ∈ rows, RowOk tab r := (fc k3 (fc k4 (fc k5 (fc k6 (fc k7 (fc k8 (fc k9 (fc k10 (fc k11 (fc k12 (fc k13 (fc k14 (fc k15 (fc k16 (fc k17 (fc k18 (fc k19 (fc k20 (fc k21 (fc k22 (fc k23 (fc k24 (fc k25 (fc k26 (fc k27 (fc k28 (fc k29 (fc k30 (fc k31 (fc k32 (fc k33 (fc k34 (fc k35 (fc k36 (fc k37 (fc k38 (fc k39 (fc k40 (fc k41 (fc k42 (fc k43 (fc k44 (fc k45 (fc k46 (fc k47 (fc k48 (fc k49 (fc k50 (fc k51 (fc k52 (fc k53 (fc k54 (fc k55 (fc k56 (fc k57 (fc k58 (fc k59 (fc k60 (fc k61 (fc k62 (fc k63 (fc k64 (fc k65 (fc k66 (fc k67 (fc k68 (fc k69 (fc k70 (fc k71 (fc k72 (fc k73 (fc k74 (fc k75 (fc k76 (fc k77 (fc k78 (fc k79 (fc k80 (fc k81 (fc k82 (fc k83 (fc k84 (fc k85 (fc k86 (fc k87 (fc k88 (fc k89 (fc k90 (fc k91 (fc k92 (fc k93 (fc k94 (fc k95 (fc k96 (fc k97 (fc k98 (fc k99 (fc k100 (fc k101 (fc k102 (fc k103 (fc k104 (fc k105 (fc k106 (fc k107 (fc k108 (fc k109 (fc k110 (fc k111 (fc k112 (fc k113 (fc k114 (fc k115 (fc k116 (fc k117 (fc k118 (fc k119 (fc k120 (fc k121 (fc k122 (fc k123 (fc k124 (fc k125 (fc k126 (fc k127 (fc k128 (fc k129 (fc k130 (fc k131 (fc k132 (fc k133 (fc k134 (fc k135 (fc k136 (fc k137 (fc k138 (fc k139 (fc k140 (fc k141 (fc k142 (fc k143 (fc k144 (fc k145 (fc k146 (fc k147 (fc k148 (fc k149 (fc k150 (fc k151 (fc k152 (fc k153 (fc k154 (fc k155 (fc k156 (fc k157 (fc k158 (fc k159 (fc k160 (fc k161 (fc k162 (fc k163 (fc k164 (fc k165 (fc k166 (fc k167 (fc k168 (fc k169 (fc k170 (fc k171 (fc k172 (fc k173 (fc k174 (fc k175 (fc k176 (fc k177 (fc k178 (fc k179 (fc k180 (fc k181 (fc k182 (fc k183 (fc k184 (fc k185 (fc k186 (fc k187 (fc k188 (fc k189 (fc k190 (fc k191 (fc k192 (fc k193 (fc k194 (fc k195 (fc k196 (fc k197 (fc k198 (fc k199 (fc k200 (fc k201 (fc k202 (fc k203 (fc k204 (fc k205 (fc k206 (fc k207 (fc k208 (fc k209 (fc k210 (fc k211 (fc k212 (fc k213 (fc k214 (fc k215 (fun _ h => by cases h))))))))))))))))))))))))))))))))))))))))))))))))))))))))))))))))))))))))))))))))))))))))))))))))))))))))))))))))))))))))))))))))))))))))))))))))))))))))))))))))))))))))))))))))))))))))))))))))))))))))))))))))))))))
theorem rs : rows.map (fun r => look fnList r.gid) = rows.map (fun r => some r.fn) := by kernel_rfl
theorem qabl : ∀ r ∈ rows, look fnList r.gid = some r.fn := List.map_inj_left.1 rs
theorem qaar : tab.P.follows .mixedOrders = true := by kernel_rfl
theorem qait : ∀ fid g f, tab.gid fid = some g → prog.fn g = some f → ∃ fn C, tab.P.funcs[fid]? = some fn ∧ fn.name ≠ "runtime.NumGoroutine" ∧ fn.body = some C ∧ comp tab fn.ntmps C = some f.body ∧ cRVs tab fn.results.toList = some f.results :=
 q5y (l := qac0) rfl (fns := fnList) (S := prog) rfl rows qai3 (by kernel_rfl) qabl
end Go.Abs
namespace Go.Proofs.YtedfjcdjmnaaiaaGreatDoor
open Go.ChangeShapes Go.WideShapes Go.ChangeAt Go.RowKit
theorem own : ownKnob Tryz.prog.godebug = none := by kernel_rfl
theorem laidOut : laidOutB Tryz.prog = true := by kernel_rfl
theorem seat : Go.Abs.Seat Go.Abs.tab Go.Abs.prog := ⟨Go.Abs.qaar, Go.Abs.qait, fun _ _ _ _ _ _ h => by cases h⟩
section
variable {H : Type} {enc : TypeId × Value → H} {w : World}
theorem r_u32s : Go.Abs.Rd enc Tryz.prog w Go.Abs.tab.gid 22 (fun v => ∃ l : List Nat, v = Go.Abs.lim l ∧ Go.Abs.Li l ∧ l.length ≤ maxLen) := Go.Abs.W.qai5 Tryz.underlying22 Tryz.underlying74 (by kernel_rfl)
theorem r_dy : Go.Abs.Rd enc Tryz.prog w Go.Abs.tab.gid 24 (fun v => ∃ d : Go.Abs.W.Dy, v = d.v ∧ d.T) := Go.Abs.W.rd_dy Tryz.underlying24 (by kernel_rfl) Tryz.underlying4 r_u32s Tryz.underlying3 (by kernel_rfl)
theorem r_iv : Go.Abs.Rd enc Tryz.prog w Go.Abs.tab.gid 26 (fun v => ∃ x : Go.Abs.W.Iv, v = x.v ∧ x.T) := Go.Abs.W.rd_iv Tryz.underlying26 (by kernel_rfl) r_dy r_dy Tryz.underlying4 (by kernel_rfl)
theorem r_int : Go.Abs.Rd enc Tryz.prog w Go.Abs.tab.gid 3 (fun v => ∃ n, v = .int .i64 n ∧ IntKind.i64.min ≤ n ∧ n ≤ IntKind.i64.max) := Go.Abs.qabr Tryz.underlying3
end
def zIvV : Value := .agg #[.bool false, .slice none 0 0, .int .i64 0, .bool false, .slice none 0 0, .int .i64 0, .bool false]
def dDy {H : Type} : DataW H := .agg [.lit (.bool false), .nil, .lit (.int .i64 0)]
def dIv {H : Type} : DataW H := .agg [dDy, dDy, .lit (.bool false)]
theorem gTab : Tryz.prog.globalNamed "math/bits.deBruijn32tab" = some 0 := by kernel_rfl
theorem gTabType : (Tryz.prog.globals[0]?).map (·.type) = some 123 := by kernel_rfl
theorem cells123 : Tryz.prog.cellsOf 123 = 32 := by kernel_rfl
theorem cells5 : Tryz.prog.cellsOf 5 = 1 := by kernel_rfl
def nums : List Int := [0, 1, 28, 2, 29, 14, 24, 3, 30, 22, 20, 15, 25, 17, 4, 8, 31, 27, 13, 23, 21, 19, 16, 7, 26, 12, 18, 6, 11, 5, 10, 9]
theorem table {W : World} (h : laidMetH Tryz.prog [("math/bits.deBruijn32tab", Rows.laid_math_bits_deBruijn32tab)] W) : Lib.TabIs Tryz.prog W "math/bits.deBruijn32tab" .u8 nums :=
 Lib.tabIs_of_head (rest := []) gTab gTabType Tryz.underlying123 Tryz.underlying5 cells5 cells123 h
theorem tabs {W : World} (h : laidMetH Tryz.prog [("math/bits.deBruijn32tab", Rows.laid_math_bits_deBruijn32tab)] W) : Go.Abs.Tabs Go.Abs.tab.gid W fun _ => False := by
 intro g cs hg
 have hg' : Go.Abs.q2o Go.Abs.q40 g = some cs := hg
 unfold Go.Abs.q40 Go.Abs.q2o at hg'
 split at hg'
 · rename_i h0
   subst h0
   have hc : cs = nums.map (fun n => Go.Abs.V.int .u8 n) := by injection hg' with hg'; rw [← hg']; rfl
   subst hc
   have cell : ∀ i (hi : i < nums.length), W.cell? ⟨0, i, none⟩ = some (.int .u8 (nums.getD i 0)) := fun i hi => (table h).cell gTab i hi
   have hb : 0 < W.heap.size := World.block_lt_of_cell? W ⟨0, 0, none⟩ (cell 0 (by decide))
   have get : ∀ (j : Nat) (c : Go.Abs.V), (nums.map (fun n => Go.Abs.V.int .u8 n))[j]? = some c → j < nums.length ∧ c = .int .u8 (nums.getD j 0) := by
     intro j c hj
     rw [List.getElem?_map] at hj
     obtain ⟨a, ha, rfl⟩ := Option.map_eq_some_iff.1 hj
     refine ⟨(List.getElem?_eq_some_iff.1 ha).1, ?_⟩
     rw [List.getD_eq_getElem?_getD, ha]
     rfl
   refine .eptr _ _ (fun j => .int .u8 (nums.getD j 0)) rfl (fun h => h) hb ?_ ?_
   · intro j c hj
     have hl := (get j c hj).1
     have := cell j hl
     simpa using this
   · intro j c hj
     rw [(get j c hj).2]
     exact .int _ _
 · unfold Go.Abs.q2o at hg'
   cases hg'
noncomputable def laidWorld (os : Os) : World :=
 { World.holding Tryz.prog os ⟨#[], #[], []⟩ with heap := (World.holding Tryz.prog os ⟨#[], #[], []⟩).heap.modify 0 fun
     | .cells _ t frozen => .cells (nums.map fun n => .int .u8 n).toArray t frozen
     | o => o }
end Go.Proofs.YtedfjcdjmnaaiaaGreatDoor
