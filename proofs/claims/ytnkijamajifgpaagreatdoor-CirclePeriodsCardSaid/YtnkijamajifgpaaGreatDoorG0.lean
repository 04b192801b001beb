/- Parts of the proof: FpSeatC, FpEndC0. -/
import Derived.Test.YtnkijamajifgpaaGreatDoorProg
import Derived.KernelRfl
import Derived.Test.YtnkijamajifgpaaGreatDoorCards
import Derived.Test.YtnkijamajifgpaaGreatDoorTie
import Derived.WalkKit
import Derived.ProofKit
import Derived.OpenShut
import Derived.Deep.DeepHandedRow
import Derived.Lib.LaidTab
import Derived.Test.YtnkijamajifgpaaGreatDoorGr
import Derived.Test.YtnkijamajifgpaaGreatDoorFb
import Derived.Test.YtnkijamajifgpaaGreatDoorFd
import Derived.Test.YtnkijamajifgpaaGreatDoorFb
namespace Go.Abs
open Go.Proofs
set_option maxRecDepth 100000
def q49 : List Nat := [0, 0, 0, 452, 453, 454, 455, 456, 457, 458, 459, 460, 461, 462, 463, 70, 464, 465, 466, 467, 468, 469, 152, 470, 471, 472, 65, 473, 55, 474, 475, 476, 74, 477, 478, 133, 18, 56, 57, 60, 138, 141, 210, 140, 147, 158, 142, 79, 479, 139, 173, 480, 107, 481, 482, 91, 12, 71, 483, 175, 484, 146, 154, 485, 153, 51, 486, 159, 145, 487, 488, 148, 49, 77, 94, 489, 157, 177, 155, 85, 490, 491, 52, 54, 84, 86, 63, 87, 23, 106, 186, 187, 188, 189, 156, 191, 192, 225, 190, 198, 204, 193, 194, 492, 493, 494, 495, 265, 199, 200, 496, 92, 93, 497, 195, 108, 174, 109, 202, 206, 203, 498, 78, 98, 499, 160, 90, 500, 501, 182, 197, 196, 96, 105, 104, 205, 502, 503, 504, 505, 167, 166, 209, 101, 102, 103, 80, 216, 165, 164, 217, 244, 245, 246, 119, 221, 223, 224, 218, 100, 257, 99, 258, 112, 222, 506, 507, 508, 219, 226, 227, 228, 229, 220, 185, 214, 184, 97, 509, 510, 511, 512, 513, 238, 514, 253, 515, 516, 240, 231, 232, 233, 235, 236, 237, 261, 114, 115, 262, 239, 241, 110, 264, 111, 266, 116, 243, 242, 247, 248, 249, 250, 251, 252, 215, 259, 260, 255, 256, 254, 117, 118, 113, 271, 272, 263, 267, 268, 269, 270, 120, 273, 274, 0, 0, 0, 0, 0, 0, 0, 0, 0, 0, 0, 0, 0, 0, 0, 0, 0, 0, 0, 0, 0]
def qya : List (Nat × List V) := [(0, [.int .u8 0, .int .u8 1, .int .u8 28, .int .u8 2, .int .u8 29, .int .u8 14, .int .u8 24, .int .u8 3, .int .u8 30, .int .u8 22, .int .u8 20, .int .u8 15, .int .u8 25, .int .u8 17, .int .u8 4, .int .u8 8, .int .u8 31, .int .u8 27, .int .u8 13, .int .u8 23, .int .u8 21, .int .u8 19, .int .u8 16, .int .u8 7, .int .u8 26, .int .u8 12, .int .u8 18, .int .u8 6, .int .u8 11, .int .u8 5, .int .u8 10, .int .u8 9])]
noncomputable def tab : Tab := ⟨Tryz.prog, ⟨gidOf q49, qvu qya⟩⟩
theorem k9 : RowOk tab ⟨9, 458, qcb⟩ := ⟨Tryz.f9, Tryz.func9, by kernel_rfl⟩
theorem k10 : RowOk tab ⟨10, 459, qcc⟩ := ⟨Tryz.f10, Tryz.func10, by kernel_rfl⟩
theorem k13 : RowOk tab ⟨13, 462, qg9⟩ := ⟨Tryz.f13, Tryz.func13, by kernel_rfl⟩
theorem k14 : RowOk tab ⟨14, 463, qmm⟩ := ⟨Tryz.f14, Tryz.func14, by kernel_rfl⟩
theorem k15 : RowOk tab ⟨15, 70, qgz⟩ := ⟨Tryz.f15, Tryz.func15, by kernel_rfl⟩
theorem k16 : RowOk tab ⟨16, 464, qg7⟩ := ⟨Tryz.f16, Tryz.func16, by kernel_rfl⟩
theorem k19 : RowOk tab ⟨19, 467, qg8⟩ := ⟨Tryz.f19, Tryz.func19, by kernel_rfl⟩
theorem k20 : RowOk tab ⟨20, 468, qfm⟩ := ⟨Tryz.f20, Tryz.func20, by kernel_rfl⟩
theorem k21 : RowOk tab ⟨21, 469, qik⟩ := ⟨Tryz.f21, Tryz.func21, by kernel_rfl⟩
theorem k22 : RowOk tab ⟨22, 152, qfl⟩ := ⟨Tryz.f22, Tryz.func22, by kernel_rfl⟩
theorem k23 : RowOk tab ⟨23, 470, qk7⟩ := ⟨Tryz.f23, Tryz.func23, by kernel_rfl⟩
theorem k24 : RowOk tab ⟨24, 471, qk8⟩ := ⟨Tryz.f24, Tryz.func24, by kernel_rfl⟩
theorem k28 : RowOk tab ⟨28, 55, qjz⟩ := ⟨Tryz.f28, Tryz.func28, by kernel_rfl⟩
theorem k29 : RowOk tab ⟨29, 474, qkb⟩ := ⟨Tryz.f29, Tryz.func29, by kernel_rfl⟩
theorem k32 : RowOk tab ⟨32, 74, qj2⟩ := ⟨Tryz.f32, Tryz.func32, by kernel_rfl⟩
theorem k35 : RowOk tab ⟨35, 133, qh9⟩ := ⟨Tryz.f35, Tryz.func35, by kernel_rfl⟩
theorem k36 : RowOk tab ⟨36, 18, qj3⟩ := ⟨Tryz.f36, Tryz.func36, by kernel_rfl⟩
theorem k37 : RowOk tab ⟨37, 56, qj0⟩ := ⟨Tryz.f37, Tryz.func37, by kernel_rfl⟩
theorem k38 : RowOk tab ⟨38, 57, qj1⟩ := ⟨Tryz.f38, Tryz.func38, by kernel_rfl⟩
theorem k39 : RowOk tab ⟨39, 60, qg1⟩ := ⟨Tryz.f39, Tryz.func39, by kernel_rfl⟩
theorem k40 : RowOk tab ⟨40, 138, qia⟩ := ⟨Tryz.f40, Tryz.func40, by kernel_rfl⟩
theorem k41 : RowOk tab ⟨41, 141, qer⟩ := ⟨Tryz.f41, Tryz.func41, by kernel_rfl⟩
theorem k42 : RowOk tab ⟨42, 210, qk3⟩ := ⟨Tryz.f42, Tryz.func42, by kernel_rfl⟩
theorem k43 : RowOk tab ⟨43, 140, qh6⟩ := ⟨Tryz.f43, Tryz.func43, by kernel_rfl⟩
theorem k44 : RowOk tab ⟨44, 147, qh5⟩ := ⟨Tryz.f44, Tryz.func44, by kernel_rfl⟩
theorem k45 : RowOk tab ⟨45, 158, qfk⟩ := ⟨Tryz.f45, Tryz.func45, by kernel_rfl⟩
theorem k47 : RowOk tab ⟨47, 79, qj5⟩ := ⟨Tryz.f47, Tryz.func47, by kernel_rfl⟩
theorem k50 : RowOk tab ⟨50, 173, qgv⟩ := ⟨Tryz.f50, Tryz.func50, by kernel_rfl⟩
theorem k51 : RowOk tab ⟨51, 480, qft⟩ := ⟨Tryz.f51, Tryz.func51, by kernel_rfl⟩
theorem k52 : RowOk tab ⟨52, 107, qfi⟩ := ⟨Tryz.f52, Tryz.func52, by kernel_rfl⟩
theorem k53 : RowOk tab ⟨53, 481, qj8⟩ := ⟨Tryz.f53, Tryz.func53, by kernel_rfl⟩
theorem k54 : RowOk tab ⟨54, 482, qmk⟩ := ⟨Tryz.f54, Tryz.func54, by kernel_rfl⟩
theorem k55 : RowOk tab ⟨55, 91, qic⟩ := ⟨Tryz.f55, Tryz.func55, by kernel_rfl⟩
theorem k56 : RowOk tab ⟨56, 12, qg5⟩ := ⟨Tryz.f56, Tryz.func56, by kernel_rfl⟩
theorem k57 : RowOk tab ⟨57, 71, qie⟩ := ⟨Tryz.f57, Tryz.func57, by kernel_rfl⟩
theorem k64 : RowOk tab ⟨64, 153, qg0⟩ := ⟨Tryz.f64, Tryz.func64, by kernel_rfl⟩
theorem k65 : RowOk tab ⟨65, 51, qil⟩ := ⟨Tryz.f65, Tryz.func65, by kernel_rfl⟩
theorem k66 : RowOk tab ⟨66, 486, qka⟩ := ⟨Tryz.f66, Tryz.func66, by kernel_rfl⟩
theorem k72 : RowOk tab ⟨72, 49, qii⟩ := ⟨Tryz.f72, Tryz.func72, by kernel_rfl⟩
theorem k73 : RowOk tab ⟨73, 77, qfj⟩ := ⟨Tryz.f73, Tryz.func73, by kernel_rfl⟩
theorem k74 : RowOk tab ⟨74, 94, qgx⟩ := ⟨Tryz.f74, Tryz.func74, by kernel_rfl⟩
theorem k75 : RowOk tab ⟨75, 489, qit⟩ := ⟨Tryz.f75, Tryz.func75, by kernel_rfl⟩
theorem k79 : RowOk tab ⟨79, 85, qkz⟩ := ⟨Tryz.f79, Tryz.func79, by kernel_rfl⟩
theorem k82 : RowOk tab ⟨82, 52, qk4⟩ := ⟨Tryz.f82, Tryz.func82, by kernel_rfl⟩
theorem k83 : RowOk tab ⟨83, 54, qij⟩ := ⟨Tryz.f83, Tryz.func83, by kernel_rfl⟩
theorem k84 : RowOk tab ⟨84, 84, qih⟩ := ⟨Tryz.f84, Tryz.func84, by kernel_rfl⟩
theorem k85 : RowOk tab ⟨85, 86, qig⟩ := ⟨Tryz.f85, Tryz.func85, by kernel_rfl⟩
theorem k86 : RowOk tab ⟨86, 63, qet⟩ := ⟨Tryz.f86, Tryz.func86, by kernel_rfl⟩
theorem k87 : RowOk tab ⟨87, 87, qg4⟩ := ⟨Tryz.f87, Tryz.func87, by kernel_rfl⟩
theorem k88 : RowOk tab ⟨88, 23, qg6⟩ := ⟨Tryz.f88, Tryz.func88, by kernel_rfl⟩
theorem k89 : RowOk tab ⟨89, 106, qfg⟩ := ⟨Tryz.f89, Tryz.func89, by kernel_rfl⟩
theorem k90 : RowOk tab ⟨90, 186, qdc⟩ := ⟨Tryz.f90, Tryz.func90, by kernel_rfl⟩
theorem k91 : RowOk tab ⟨91, 187, qgm⟩ := ⟨Tryz.f91, Tryz.func91, by kernel_rfl⟩
theorem k92 : RowOk tab ⟨92, 188, qjp⟩ := ⟨Tryz.f92, Tryz.func92, by kernel_rfl⟩
theorem k93 : RowOk tab ⟨93, 189, qgs⟩ := ⟨Tryz.f93, Tryz.func93, by kernel_rfl⟩
theorem k94 : RowOk tab ⟨94, 156, qib⟩ := ⟨Tryz.f94, Tryz.func94, by kernel_rfl⟩
theorem k95 : RowOk tab ⟨95, 191, qgl⟩ := ⟨Tryz.f95, Tryz.func95, by kernel_rfl⟩
theorem k96 : RowOk tab ⟨96, 192, qjo⟩ := ⟨Tryz.f96, Tryz.func96, by kernel_rfl⟩
theorem k97 : RowOk tab ⟨97, 225, qef⟩ := ⟨Tryz.f97, Tryz.func97, by kernel_rfl⟩
theorem k98 : RowOk tab ⟨98, 190, qgu⟩ := ⟨Tryz.f98, Tryz.func98, by kernel_rfl⟩
theorem k99 : RowOk tab ⟨99, 198, qk2⟩ := ⟨Tryz.f99, Tryz.func99, by kernel_rfl⟩
theorem k100 : RowOk tab ⟨100, 204, qim⟩ := ⟨Tryz.f100, Tryz.func100, by kernel_rfl⟩
theorem k104 : RowOk tab ⟨104, 493, qj9⟩ := ⟨Tryz.f104, Tryz.func104, by kernel_rfl⟩
theorem k105 : RowOk tab ⟨105, 494, qei⟩ := ⟨Tryz.f105, Tryz.func105, by kernel_rfl⟩
theorem k106 : RowOk tab ⟨106, 495, qdf⟩ := ⟨Tryz.f106, Tryz.func106, by kernel_rfl⟩
theorem k107 : RowOk tab ⟨107, 265, qj6⟩ := ⟨Tryz.f107, Tryz.func107, by kernel_rfl⟩
theorem k108 : RowOk tab ⟨108, 199, qky⟩ := ⟨Tryz.f108, Tryz.func108, by kernel_rfl⟩
theorem k109 : RowOk tab ⟨109, 200, qn0⟩ := ⟨Tryz.f109, Tryz.func109, by kernel_rfl⟩
theorem k110 : RowOk tab ⟨110, 496, qfu⟩ := ⟨Tryz.f110, Tryz.func110, by kernel_rfl⟩
theorem k111 : RowOk tab ⟨111, 92, qid⟩ := ⟨Tryz.f111, Tryz.func111, by kernel_rfl⟩
theorem k112 : RowOk tab ⟨112, 93, qgy⟩ := ⟨Tryz.f112, Tryz.func112, by kernel_rfl⟩
theorem k122 : RowOk tab ⟨122, 78, qfp⟩ := ⟨Tryz.f122, Tryz.func122, by kernel_rfl⟩
theorem k123 : RowOk tab ⟨123, 98, qk1⟩ := ⟨Tryz.f123, Tryz.func123, by kernel_rfl⟩
theorem k124 : RowOk tab ⟨124, 499, qj7⟩ := ⟨Tryz.f124, Tryz.func124, by kernel_rfl⟩
theorem k125 : RowOk tab ⟨125, 160, qfh⟩ := ⟨Tryz.f125, Tryz.func125, by kernel_rfl⟩
theorem k126 : RowOk tab ⟨126, 90, qgw⟩ := ⟨Tryz.f126, Tryz.func126, by kernel_rfl⟩
theorem k127 : RowOk tab ⟨127, 500, qip⟩ := ⟨Tryz.f127, Tryz.func127, by kernel_rfl⟩
theorem k128 : RowOk tab ⟨128, 501, qiq⟩ := ⟨Tryz.f128, Tryz.func128, by kernel_rfl⟩
theorem k132 : RowOk tab ⟨132, 96, qed⟩ := ⟨Tryz.f132, Tryz.func132, by kernel_rfl⟩
theorem k133 : RowOk tab ⟨133, 105, qgt⟩ := ⟨Tryz.f133, Tryz.func133, by kernel_rfl⟩
theorem k134 : RowOk tab ⟨134, 104, qgr⟩ := ⟨Tryz.f134, Tryz.func134, by kernel_rfl⟩
theorem k135 : RowOk tab ⟨135, 205, qk5⟩ := ⟨Tryz.f135, Tryz.func135, by kernel_rfl⟩
theorem k136 : RowOk tab ⟨136, 502, qk6⟩ := ⟨Tryz.f136, Tryz.func136, by kernel_rfl⟩
theorem k137 : RowOk tab ⟨137, 503, qml⟩ := ⟨Tryz.f137, Tryz.func137, by kernel_rfl⟩
theorem k138 : RowOk tab ⟨138, 504, qio⟩ := ⟨Tryz.f138, Tryz.func138, by kernel_rfl⟩
theorem k139 : RowOk tab ⟨139, 505, qdw⟩ := ⟨Tryz.f139, Tryz.func139, by kernel_rfl⟩
theorem k143 : RowOk tab ⟨143, 101, qif⟩ := ⟨Tryz.f143, Tryz.func143, by kernel_rfl⟩
theorem k144 : RowOk tab ⟨144, 102, qg2⟩ := ⟨Tryz.f144, Tryz.func144, by kernel_rfl⟩
theorem k145 : RowOk tab ⟨145, 103, qg3⟩ := ⟨Tryz.f145, Tryz.func145, by kernel_rfl⟩
theorem k146 : RowOk tab ⟨146, 80, qfq⟩ := ⟨Tryz.f146, Tryz.func146, by kernel_rfl⟩
theorem k147 : RowOk tab ⟨147, 216, c_round_add⟩ := ⟨Tryz.f147, Tryz.func147, by kernel_rfl⟩
theorem k148 : RowOk tab ⟨148, 165, qh7⟩ := ⟨Tryz.f148, Tryz.func148, by kernel_rfl⟩
theorem k149 : RowOk tab ⟨149, 164, qh8⟩ := ⟨Tryz.f149, Tryz.func149, by kernel_rfl⟩
theorem k150 : RowOk tab ⟨150, 217, qmj⟩ := ⟨Tryz.f150, Tryz.func150, by kernel_rfl⟩
theorem k151 : RowOk tab ⟨151, 244, qfn⟩ := ⟨Tryz.f151, Tryz.func151, by kernel_rfl⟩
theorem k152 : RowOk tab ⟨152, 245, qk0⟩ := ⟨Tryz.f152, Tryz.func152, by kernel_rfl⟩
theorem k153 : RowOk tab ⟨153, 246, qjv⟩ := ⟨Tryz.f153, Tryz.func153, by kernel_rfl⟩
theorem k154 : RowOk tab ⟨154, 119, qdb⟩ := ⟨Tryz.f154, Tryz.func154, by kernel_rfl⟩
theorem k155 : RowOk tab ⟨155, 221, qcx⟩ := ⟨Tryz.f155, Tryz.func155, by kernel_rfl⟩
theorem k156 : RowOk tab ⟨156, 223, qev⟩ := ⟨Tryz.f156, Tryz.func156, by kernel_rfl⟩
theorem k157 : RowOk tab ⟨157, 224, qfr⟩ := ⟨Tryz.f157, Tryz.func157, by kernel_rfl⟩
theorem k159 : RowOk tab ⟨159, 100, qfo⟩ := ⟨Tryz.f159, Tryz.func159, by kernel_rfl⟩
theorem k160 : RowOk tab ⟨160, 257, qjy⟩ := ⟨Tryz.f160, Tryz.func160, by kernel_rfl⟩
theorem k161 : RowOk tab ⟨161, 99, qf3⟩ := ⟨Tryz.f161, Tryz.func161, by kernel_rfl⟩
theorem k162 : RowOk tab ⟨162, 258, qju⟩ := ⟨Tryz.f162, Tryz.func162, by kernel_rfl⟩
theorem k163 : RowOk tab ⟨163, 112, qjw⟩ := ⟨Tryz.f163, Tryz.func163, by kernel_rfl⟩
theorem k164 : RowOk tab ⟨164, 222, qjm⟩ := ⟨Tryz.f164, Tryz.func164, by kernel_rfl⟩
theorem k165 : RowOk tab ⟨165, 506, qdd⟩ := ⟨Tryz.f165, Tryz.func165, by kernel_rfl⟩
theorem k166 : RowOk tab ⟨166, 507, qew⟩ := ⟨Tryz.f166, Tryz.func166, by kernel_rfl⟩
theorem k167 : RowOk tab ⟨167, 508, qeg⟩ := ⟨Tryz.f167, Tryz.func167, by kernel_rfl⟩
theorem k177 : RowOk tab ⟨177, 97, qj4⟩ := ⟨Tryz.f177, Tryz.func177, by kernel_rfl⟩
theorem k178 : RowOk tab ⟨178, 509, qfs⟩ := ⟨Tryz.f178, Tryz.func178, by kernel_rfl⟩
theorem k179 : RowOk tab ⟨179, 510, qhb⟩ := ⟨Tryz.f179, Tryz.func179, by kernel_rfl⟩
theorem k180 : RowOk tab ⟨180, 511, qin⟩ := ⟨Tryz.f180, Tryz.func180, by kernel_rfl⟩
theorem k181 : RowOk tab ⟨181, 512, qde⟩ := ⟨Tryz.f181, Tryz.func181, by kernel_rfl⟩
theorem k182 : RowOk tab ⟨182, 513, qir⟩ := ⟨Tryz.f182, Tryz.func182, by kernel_rfl⟩
theorem k183 : RowOk tab ⟨183, 238, qjx⟩ := ⟨Tryz.f183, Tryz.func183, by kernel_rfl⟩
theorem k184 : RowOk tab ⟨184, 514, qdx⟩ := ⟨Tryz.f184, Tryz.func184, by kernel_rfl⟩
theorem k185 : RowOk tab ⟨185, 253, qh4⟩ := ⟨Tryz.f185, Tryz.func185, by kernel_rfl⟩
theorem k186 : RowOk tab ⟨186, 515, qdy⟩ := ⟨Tryz.f186, Tryz.func186, by kernel_rfl⟩
theorem k187 : RowOk tab ⟨187, 516, qis⟩ := ⟨Tryz.f187, Tryz.func187, by kernel_rfl⟩
theorem k188 : RowOk tab ⟨188, 240, qff⟩ := ⟨Tryz.f188, Tryz.func188, by kernel_rfl⟩
theorem k192 : RowOk tab ⟨192, 235, qjn⟩ := ⟨Tryz.f192, Tryz.func192, by kernel_rfl⟩
theorem k193 : RowOk tab ⟨193, 236, c_round_sum⟩ := ⟨Tryz.f193, Tryz.func193, by kernel_rfl⟩
theorem k194 : RowOk tab ⟨194, 237, qh1⟩ := ⟨Tryz.f194, Tryz.func194, by kernel_rfl⟩
theorem k195 : RowOk tab ⟨195, 261, qbp⟩ := ⟨Tryz.f195, Tryz.func195, by kernel_rfl⟩
theorem k196 : RowOk tab ⟨196, 114, qh2⟩ := ⟨Tryz.f196, Tryz.func196, by kernel_rfl⟩
theorem k197 : RowOk tab ⟨197, 115, qh3⟩ := ⟨Tryz.f197, Tryz.func197, by kernel_rfl⟩
theorem k198 : RowOk tab ⟨198, 262, qjr⟩ := ⟨Tryz.f198, Tryz.func198, by kernel_rfl⟩
theorem k200 : RowOk tab ⟨200, 241, qmi⟩ := ⟨Tryz.f200, Tryz.func200, by kernel_rfl⟩
theorem k201 : RowOk tab ⟨201, 110, qe1⟩ := ⟨Tryz.f201, Tryz.func201, by kernel_rfl⟩
theorem k202 : RowOk tab ⟨202, 264, qjt⟩ := ⟨Tryz.f202, Tryz.func202, by kernel_rfl⟩
theorem k203 : RowOk tab ⟨203, 111, qdm⟩ := ⟨Tryz.f203, Tryz.func203, by kernel_rfl⟩
theorem k204 : RowOk tab ⟨204, 266, qjq⟩ := ⟨Tryz.f204, Tryz.func204, by kernel_rfl⟩
theorem k205 : RowOk tab ⟨205, 116, qf2⟩ := ⟨Tryz.f205, Tryz.func205, by kernel_rfl⟩
theorem k206 : RowOk tab ⟨206, 243, qnz⟩ := ⟨Tryz.f206, Tryz.func206, by kernel_rfl⟩
theorem k215 : RowOk tab ⟨215, 259, qjs⟩ := ⟨Tryz.f215, Tryz.func215, by kernel_rfl⟩
theorem k216 : RowOk tab ⟨216, 260, qfe⟩ := ⟨Tryz.f216, Tryz.func216, by kernel_rfl⟩
theorem k217 : RowOk tab ⟨217, 255, qgk⟩ := ⟨Tryz.f217, Tryz.func217, by kernel_rfl⟩
theorem k218 : RowOk tab ⟨218, 256, qmh⟩ := ⟨Tryz.f218, Tryz.func218, by kernel_rfl⟩
theorem k219 : RowOk tab ⟨219, 254, c_round_cut⟩ := ⟨Tryz.f219, Tryz.func219, by kernel_rfl⟩
theorem k220 : RowOk tab ⟨220, 117, qbc⟩ := ⟨Tryz.f220, Tryz.func220, by kernel_rfl⟩
theorem k221 : RowOk tab ⟨221, 118, qfd⟩ := ⟨Tryz.f221, Tryz.func221, by kernel_rfl⟩
theorem k222 : RowOk tab ⟨222, 113, qc6⟩ := ⟨Tryz.f222, Tryz.func222, by kernel_rfl⟩
theorem k223 : RowOk tab ⟨223, 271, qeq⟩ := ⟨Tryz.f223, Tryz.func223, by kernel_rfl⟩
theorem k224 : RowOk tab ⟨224, 272, qeo⟩ := ⟨Tryz.f224, Tryz.func224, by kernel_rfl⟩
theorem k226 : RowOk tab ⟨226, 267, qgn⟩ := ⟨Tryz.f226, Tryz.func226, by kernel_rfl⟩
theorem k227 : RowOk tab ⟨227, 268, qbu⟩ := ⟨Tryz.f227, Tryz.func227, by kernel_rfl⟩
theorem k228 : RowOk tab ⟨228, 269, qgo⟩ := ⟨Tryz.f228, Tryz.func228, by kernel_rfl⟩
theorem k229 : RowOk tab ⟨229, 270, qe0⟩ := ⟨Tryz.f229, Tryz.func229, by kernel_rfl⟩
theorem k230 : RowOk tab ⟨230, 120, qbt⟩ := ⟨Tryz.f230, Tryz.func230, by kernel_rfl⟩
theorem k231 : RowOk tab ⟨231, 273, qep⟩ := ⟨Tryz.f231, Tryz.func231, by kernel_rfl⟩
theorem k232 : RowOk tab ⟨232, 274, qgq⟩ := ⟨Tryz.f232, Tryz.func232, by kernel_rfl⟩
def rows : List Row :=
 [⟨9, 458, qcb⟩,
  ⟨10, 459, qcc⟩,
  ⟨13, 462, qg9⟩,
  ⟨14, 463, qmm⟩,
  ⟨15, 70, qgz⟩,
  ⟨16, 464, qg7⟩,
  ⟨19, 467, qg8⟩,
  ⟨20, 468, qfm⟩,
  ⟨21, 469, qik⟩,
  ⟨22, 152, qfl⟩,
  ⟨23, 470, qk7⟩,
  ⟨24, 471, qk8⟩,
  ⟨28, 55, qjz⟩,
  ⟨29, 474, qkb⟩,
  ⟨32, 74, qj2⟩,
  ⟨35, 133, qh9⟩,
  ⟨36, 18, qj3⟩,
  ⟨37, 56, qj0⟩,
  ⟨38, 57, qj1⟩,
  ⟨39, 60, qg1⟩,
  ⟨40, 138, qia⟩,
  ⟨41, 141, qer⟩,
  ⟨42, 210, qk3⟩,
  ⟨43, 140, qh6⟩,
  ⟨44, 147, qh5⟩,
  ⟨45, 158, qfk⟩,
  ⟨47, 79, qj5⟩,
  ⟨50, 173, qgv⟩,
  ⟨51, 480, qft⟩,
  ⟨52, 107, qfi⟩,
  ⟨53, 481, qj8⟩,
  ⟨54, 482, qmk⟩,
  ⟨55, 91, qic⟩,
  ⟨56, 12, qg5⟩,
  ⟨57, 71, qie⟩,
  ⟨64, 153, qg0⟩,
  ⟨65, 51, qil⟩,
  ⟨66, 486, qka⟩,
  ⟨72, 49, qii⟩,
  ⟨73, 77, qfj⟩,
  ⟨74, 94, qgx⟩,
  ⟨75, 489, qit⟩,
  ⟨79, 85, qkz⟩,
  ⟨82, 52, qk4⟩,
  ⟨83, 54, qij⟩,
  ⟨84, 84, qih⟩,
  ⟨85, 86, qig⟩,
  ⟨86, 63, qet⟩,
  ⟨87, 87, qg4⟩,
  ⟨88, 23, qg6⟩,
  ⟨89, 106, qfg⟩,
  ⟨90, 186, qdc⟩,
  ⟨91, 187, qgm⟩,
  ⟨92, 188, qjp⟩,
  ⟨93, 189, qgs⟩,
  ⟨94, 156, qib⟩,
  ⟨95, 191, qgl⟩,
  ⟨96, 192, qjo⟩,
  ⟨97, 225, qef⟩,
  ⟨98, 190, qgu⟩,
  ⟨99, 198, qk2⟩,
  ⟨100, 204, qim⟩,
  ⟨104, 493, qj9⟩,
  ⟨105, 494, qei⟩,
  ⟨106, 495, qdf⟩,
  ⟨107, 265, qj6⟩,
  ⟨108, 199, qky⟩,
  ⟨109, 200, qn0⟩,
  ⟨110, 496, qfu⟩,
  ⟨111, 92, qid⟩,
  ⟨112, 93, qgy⟩,
  ⟨122, 78, qfp⟩,
  ⟨123, 98, qk1⟩,
  ⟨124, 499, qj7⟩,
  ⟨125, 160, qfh⟩,
  ⟨126, 90, qgw⟩,
  ⟨127, 500, qip⟩,
  ⟨128, 501, qiq⟩,
  ⟨132, 96, qed⟩,
  ⟨133, 105, qgt⟩,
  ⟨134, 104, qgr⟩,
  ⟨135, 205, qk5⟩,
  ⟨136, 502, qk6⟩,
  ⟨137, 503, qml⟩,
  ⟨138, 504, qio⟩,
  ⟨139, 505, qdw⟩,
  ⟨143, 101, qif⟩,
  ⟨144, 102, qg2⟩,
  ⟨145, 103, qg3⟩,
  ⟨146, 80, qfq⟩,
  ⟨147, 216, c_round_add⟩,
  ⟨148, 165, qh7⟩,
  ⟨149, 164, qh8⟩,
  ⟨150, 217, qmj⟩,
  ⟨151, 244, qfn⟩,
  ⟨152, 245, qk0⟩,
  ⟨153, 246, qjv⟩,
  ⟨154, 119, qdb⟩,
  ⟨155, 221, qcx⟩,
  ⟨156, 223, qev⟩,
  ⟨157, 224, qfr⟩,
  ⟨159, 100, qfo⟩,
  ⟨160, 257, qjy⟩,
  ⟨161, 99, qf3⟩,
  ⟨162, 258, qju⟩,
  ⟨163, 112, qjw⟩,
  ⟨164, 222, qjm⟩,
  ⟨165, 506, qdd⟩,
  ⟨166, 507, qew⟩,
  ⟨167, 508, qeg⟩,
  ⟨177, 97, qj4⟩,
  ⟨178, 509, qfs⟩,
  ⟨179, 510, qhb⟩,
  ⟨180, 511, qin⟩,
  ⟨181, 512, qde⟩,
  ⟨182, 513, qir⟩,
  ⟨183, 238, qjx⟩,
  ⟨184, 514, qdx⟩,
  ⟨185, 253, qh4⟩,
  ⟨186, 515, qdy⟩,
  ⟨187, 516, qis⟩,
  ⟨188, 240, qff⟩,
  ⟨192, 235, qjn⟩,
  ⟨193, 236, c_round_sum⟩,
  ⟨194, 237, qh1⟩,
  ⟨195, 261, qbp⟩,
  ⟨196, 114, qh2⟩,
  ⟨197, 115, qh3⟩,
  ⟨198, 262, qjr⟩,
  ⟨200, 241, qmi⟩,
  ⟨201, 110, qe1⟩,
  ⟨202, 264, qjt⟩,
  ⟨203, 111, qdm⟩,
  ⟨204, 266, qjq⟩,
  ⟨205, 116, qf2⟩,
  ⟨206, 243, qnz⟩,
  ⟨215, 259, qjs⟩,
  ⟨216, 260, qfe⟩,
  ⟨217, 255, qgk⟩,
  ⟨218, 256, qmh⟩,
  ⟨219, 254, c_round_cut⟩,
  ⟨220, 117, qbc⟩,
  ⟨221, 118, qfd⟩,
  ⟨222, 113, qc6⟩,
  ⟨223, 271, qeq⟩,
  ⟨224, 272, qeo⟩,
  ⟨226, 267, qgn⟩,
  ⟨227, 268, qbu⟩,
  ⟨228, 269, qgo⟩,
  ⟨229, 270, qe0⟩,
  ⟨230, 120, qbt⟩,
  ⟨231, 273, qep⟩,
  ⟨232, 274, qgq⟩]
theorem fc {p : Row → Prop} {a : Row} {l : List Row} (h : p a) (t : ∀ x ∈ l, p x) : ∀ x ∈ a :: l, p x := List.forall_mem_cons.2 ⟨h, t⟩
theorem qaa8 : ∀ r ∈ rows, RowOk tab r := (fc k9 (fc k10 (fc k13 (fc k14 (fc k15 (fc k16 (fc k19 (fc k20 (fc k21 (fc k22 (fc k23 (fc k24 (fc k28 (fc k29 (fc k32 (fc k35 (fc k36 (fc k37 (fc k38 (fc k39 (fc k40 (fc k41 (fc k42 (fc k43 (fc k44 (fc k45 (fc k47 (fc k50 (fc k51 (fc k52 (fc k53 (fc k54 (fc k55 (fc k56 (fc k57 (fc k64 (fc k65 (fc k66 (fc k72 (fc k73 (fc k74 (fc k75 (fc k79 (fc k82 (fc k83 (fc k84 (fc k85 (fc k86 (fc k87 (fc k88 (fc k89 (fc k90 (fc k91 (fc k92 (fc k93 (fc k94 (fc k95 (fc k96 (fc k97 (fc k98 (fc k99 (fc k100 (fc k104 (fc k105 (fc k106 (fc k107 (fc k108 (fc k109 (fc k110 (fc k111 (fc k112 (fc k122 (fc k123 (fc k124 (fc k125 (fc k126 (fc k127 (fc k128 (fc k132 (fc k133 (fc k134 (fc k135 (fc k136 (fc k137 (fc k138 (fc k139 (fc k143 (fc k144 (fc k145 (fc k146 (fc k147 (fc k148 (fc k149 (fc k150 (fc k151 (fc k152 (fc k153 (fc k154 (fc k155 (fc k156 (fc k157 (fc k159 (fc k160 (fc k161 (fc k162 (fc k163 (fc k164 (fc k165 (fc k166 (fc k167 (fc k177 (fc k178 (fc k179 (fc k180 (fc k181 (fc k182 (fc k183 (fc k184 (fc k185 (fc k186 (fc k187 (fc k188 (fc k192 (fc k193 (fc k194 (fc k195 (fc k196 (fc k197 (fc k198 (fc k200 (fc k201 (fc k202 (fc k203 (fc k204 (fc k205 (fc k206 (fc k215 (fc k216 (fc k217 (fc k218 (fc k219 (fc k220 (fc k221 (fc k222 (fc k223 (fc k224 (fc k226 (fc k227 (fc k228 (fc k229 (fc k230 (fc k231 (fc k232 (fun _ h => by cases h))))))))))))))))))))))))))))))))))))))))))))))))))))))))))))))))))))))))))))))))))))))))))))))))))))))))))))))))))))))))))))))))))))))))))))))))))))))))))
theorem rs : rows.map (fun r => look fnList r.gid) = rows.map (fun r => some r.fn) := by kernel_rfl
theorem q37 : ∀ r ∈ rows, look fnList r.gid = some r.fn := List.map_inj_left.1 rs
theorem q3i : tab.P.follows .mixedOrders = true := by kernel_rfl
theorem qaav : ∀ fid g f, tab.gid fid = some g → prog.fn g = some f → ∃ fn C, tab.P.funcs[fid]? = some fn ∧ fn.name ≠ "runtime.NumGoroutine" ∧ fn.body = some C ∧ comp tab fn.ntmps C = some f.body ∧ cRVs tab fn.results.toList = some f.results :=
 qy8 (l := q49) rfl (fns := fnList) (S := prog) rfl rows qaa8 (by kernel_rfl) q37
end Go.Abs
namespace Go.Proofs.YtnkijamajifgpaaGreatDoor
open Go.ChangeShapes Go.WideShapes Go.ChangeAt Go.RowKit
theorem own : ownKnob Tryz.prog.godebug = none := by kernel_rfl
theorem laidOut : laidOutB Tryz.prog = true := by kernel_rfl
theorem seat : Go.Abs.Seat Go.Abs.tab Go.Abs.prog := ⟨Go.Abs.q3i, Go.Abs.qaav, fun _ _ _ _ _ _ h => by cases h⟩
section
variable {H : Type} {enc : TypeId × Value → H} {w : World}
theorem r_u32s : Go.Abs.Rd enc Tryz.prog w Go.Abs.tab.gid 23 (fun v => ∃ l : List Nat, v = Go.Abs.lim l ∧ Go.Abs.Li l ∧ l.length ≤ maxLen) := Go.Abs.W.qabb Tryz.underlying23 Tryz.underlying75 (by kernel_rfl)
theorem r_dy : Go.Abs.Rd enc Tryz.prog w Go.Abs.tab.gid 25 (fun v => ∃ d : Go.Abs.W.Dy, v = d.v ∧ d.T) := Go.Abs.W.rd_dy Tryz.underlying25 (by kernel_rfl) Tryz.underlying4 r_u32s Tryz.underlying3 (by kernel_rfl)
end
def zDy : Value := .agg #[.bool false, .slice none 0 0, .int .i64 0]
def dDy {H : Type} : DataW H := .agg [.lit (.bool false), .nil, .lit (.int .i64 0)]
theorem gTab : Tryz.prog.globalNamed "math/bits.deBruijn32tab" = some 0 := by kernel_rfl
theorem gTabType : (Tryz.prog.globals[0]?).map (·.type) = some 148 := by kernel_rfl
theorem cells148 : Tryz.prog.cellsOf 148 = 32 := by kernel_rfl
theorem cells5 : Tryz.prog.cellsOf 5 = 1 := by kernel_rfl
def nums : List Int := [0, 1, 28, 2, 29, 14, 24, 3, 30, 22, 20, 15, 25, 17, 4, 8, 31, 27, 13, 23, 21, 19, 16, 7, 26, 12, 18, 6, 11, 5, 10, 9]
theorem table {W : World} (h : laidMetH Tryz.prog [("math/bits.deBruijn32tab", Rows.laid_math_bits_deBruijn32tab)] W) : Lib.TabIs Tryz.prog W "math/bits.deBruijn32tab" .u8 nums :=
 Lib.tabIs_of_head (rest := []) gTab gTabType Tryz.underlying148 Tryz.underlying5 cells5 cells148 h
theorem tabs {W : World} (h : laidMetH Tryz.prog [("math/bits.deBruijn32tab", Rows.laid_math_bits_deBruijn32tab)] W) : Go.Abs.Tabs Go.Abs.tab.gid W fun _ => False := by
 intro g cs hg
 have hg' : Go.Abs.qvu Go.Abs.qya g = some cs := hg
 unfold Go.Abs.qya Go.Abs.qvu at hg'
 split at hg'
 · rename_i h0
   subst h0
   have hc : cs = nums.map (fun n => Go.Abs.V.int .u8 n) := by injection hg' with hg'; rw [← hg']; rfl
   subst hc
   have cell : ∀ i (hi : i < nums.length), W.cell? ⟨0, i, none⟩ = some (.int .u8 (nums.getD i 0)) := fun i hi => (table h).cell gTab i hi
   have hb : 0 < W.heap.size := World.block_lt_of_cell? W ⟨0, 0, none⟩ (cell 0 (by decide))
   have get : ∀ (j : Nat) (c : Go.Abs.V), (nums.map (fun n => Go.Abs.V.int .u8 n))[j]? = some c → j < nums.length ∧ c = .int .u8 (nums.getD j 0) := by
     intro j c hj
     rw [List.getElem?_map] at hj
     obtain ⟨a, ha, rfl⟩ := Option.map_eq_some_iff.1 hj
     refine ⟨(List.getElem?_eq_some_iff.1 ha).1, ?_⟩
     rw [List.getD_eq_getElem?_getD, ha]
     rfl
   refine .eptr _ _ (fun j => .int .u8 (nums.getD j 0)) rfl (fun h => h) hb ?_ ?_
   · intro j c hj
     have hl := (get j c hj).1
     have := cell j hl
     simpa using this
   · intro j c hj
     rw [(get j c hj).2]
     exact .int _ _
 · unfold Go.Abs.qvu at hg'
   cases hg'
noncomputable def laidWorld (os : Os) : World :=
 { World.holding Tryz.prog os ⟨#[], #[], []⟩ with heap := (World.holding Tryz.prog os ⟨#[], #[], []⟩).heap.modify 0 fun
     | .cells _ t frozen => .cells (nums.map fun n => .int .u8 n).toArray t frozen
     | o => o }
end Go.Proofs.YtnkijamajifgpaaGreatDoor
