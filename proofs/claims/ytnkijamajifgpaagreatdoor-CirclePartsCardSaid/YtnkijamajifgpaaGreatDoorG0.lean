/- Parts of the proof: FpSeatC, FpEndC0. -/
import Derived.Test.YtnkijamajifgpaaGreatDoorProg
import Derived.KernelRfl
import Derived.Test.YtnkijamajifgpaaGreatDoorCards
import Derived.Test.YtnkijamajifgpaaGreatDoorTie
import Derived.WalkKit
import Derived.ProofKit
import Derived.OpenShut
import Derived.Deep.DeepHandedRow
import Derived.Lib.LaidTab
import Derived.Test.YtnkijamajifgpaaGreatDoorGr
import Derived.Test.YtnkijamajifgpaaGreatDoorFb
import Derived.Test.YtnkijamajifgpaaGreatDoorFd
import Derived.Test.YtnkijamajifgpaaGreatDoorFb
namespace Go.Abs
open Go.Proofs
set_option maxRecDepth 100000
def q7c : List Nat := [0, 0, 0, 452, 453, 454, 455, 456, 457, 458, 459, 460, 461, 462, 463, 70, 464, 465, 466, 467, 468, 469, 152, 470, 471, 472, 65, 473, 55, 474, 475, 476, 74, 477, 478, 133, 18, 56, 57, 60, 138, 141, 210, 140, 147, 158, 142, 79, 479, 139, 173, 480, 107, 481, 482, 91, 12, 71, 483, 175, 484, 146, 154, 485, 153, 51, 486, 159, 145, 487, 488, 148, 49, 77, 94, 489, 157, 177, 155, 85, 490, 491, 52, 54, 84, 86, 63, 87, 23, 106, 186, 187, 188, 189, 156, 191, 192, 225, 190, 198, 204, 193, 194, 492, 493, 494, 495, 265, 199, 200, 496, 92, 93, 497, 195, 108, 174, 109, 202, 206, 203, 498, 78, 98, 499, 160, 90, 500, 501, 182, 197, 196, 96, 105, 104, 205, 502, 503, 504, 505, 167, 166, 209, 101, 102, 103, 80, 216, 165, 164, 217, 244, 245, 246, 119, 221, 223, 224, 218, 100, 257, 99, 258, 112, 222, 506, 507, 508, 219, 226, 227, 228, 229, 220, 185, 214, 184, 97, 509, 510, 511, 512, 513, 238, 514, 253, 515, 516, 240, 231, 232, 233, 235, 236, 237, 261, 114, 115, 262, 239, 241, 110, 264, 111, 266, 116, 243, 242, 247, 248, 249, 250, 251, 252, 215, 259, 260, 255, 256, 254, 117, 118, 113, 271, 272, 263, 267, 268, 269, 270, 120, 273, 274, 0, 0, 0, 0, 0, 0, 0, 0, 0, 0, 0, 0, 0, 0, 0, 0, 0, 0, 0, 0, 0]
def qzq : List (Nat × List V) := [(0, [.int .u8 0, .int .u8 1, .int .u8 28, .int .u8 2, .int .u8 29, .int .u8 14, .int .u8 24, .int .u8 3, .int .u8 30, .int .u8 22, .int .u8 20, .int .u8 15, .int .u8 25, .int .u8 17, .int .u8 4, .int .u8 8, .int .u8 31, .int .u8 27, .int .u8 13, .int .u8 23, .int .u8 21, .int .u8 19, .int .u8 16, .int .u8 7, .int .u8 26, .int .u8 12, .int .u8 18, .int .u8 6, .int .u8 11, .int .u8 5, .int .u8 10, .int .u8 9])]
noncomputable def tab : Tab := ⟨Tryz.prog, ⟨gidOf q7c, qxa qzq⟩⟩
theorem k8 : RowOk tab ⟨8, 457, qc6⟩ := ⟨Tryz.f8, Tryz.func8, by kernel_rfl⟩
theorem k11 : RowOk tab ⟨11, 460, qce⟩ := ⟨Tryz.f11, Tryz.func11, by kernel_rfl⟩
theorem k12 : RowOk tab ⟨12, 461, qdm⟩ := ⟨Tryz.f12, Tryz.func12, by kernel_rfl⟩
theorem k13 : RowOk tab ⟨13, 462, qhy⟩ := ⟨Tryz.f13, Tryz.func13, by kernel_rfl⟩
theorem k14 : RowOk tab ⟨14, 463, qnn⟩ := ⟨Tryz.f14, Tryz.func14, by kernel_rfl⟩
theorem k15 : RowOk tab ⟨15, 70, qho⟩ := ⟨Tryz.f15, Tryz.func15, by kernel_rfl⟩
theorem k16 : RowOk tab ⟨16, 464, qhw⟩ := ⟨Tryz.f16, Tryz.func16, by kernel_rfl⟩
theorem k19 : RowOk tab ⟨19, 467, qhx⟩ := ⟨Tryz.f19, Tryz.func19, by kernel_rfl⟩
theorem k20 : RowOk tab ⟨20, 468, qf2⟩ := ⟨Tryz.f20, Tryz.func20, by kernel_rfl⟩
theorem k21 : RowOk tab ⟨21, 469, qi7⟩ := ⟨Tryz.f21, Tryz.func21, by kernel_rfl⟩
theorem k22 : RowOk tab ⟨22, 152, qf0⟩ := ⟨Tryz.f22, Tryz.func22, by kernel_rfl⟩
theorem k23 : RowOk tab ⟨23, 470, ql0⟩ := ⟨Tryz.f23, Tryz.func23, by kernel_rfl⟩
theorem k24 : RowOk tab ⟨24, 471, ql1⟩ := ⟨Tryz.f24, Tryz.func24, by kernel_rfl⟩
theorem k27 : RowOk tab ⟨27, 473, qi6⟩ := ⟨Tryz.f27, Tryz.func27, by kernel_rfl⟩
theorem k28 : RowOk tab ⟨28, 55, qkm⟩ := ⟨Tryz.f28, Tryz.func28, by kernel_rfl⟩
theorem k29 : RowOk tab ⟨29, 474, qkz⟩ := ⟨Tryz.f29, Tryz.func29, by kernel_rfl⟩
theorem k31 : RowOk tab ⟨31, 476, qf1⟩ := ⟨Tryz.f31, Tryz.func31, by kernel_rfl⟩
theorem k32 : RowOk tab ⟨32, 74, qkp⟩ := ⟨Tryz.f32, Tryz.func32, by kernel_rfl⟩
theorem k35 : RowOk tab ⟨35, 133, qiv⟩ := ⟨Tryz.f35, Tryz.func35, by kernel_rfl⟩
theorem k36 : RowOk tab ⟨36, 18, qkq⟩ := ⟨Tryz.f36, Tryz.func36, by kernel_rfl⟩
theorem k37 : RowOk tab ⟨37, 56, qkn⟩ := ⟨Tryz.f37, Tryz.func37, by kernel_rfl⟩
theorem k38 : RowOk tab ⟨38, 57, qko⟩ := ⟨Tryz.f38, Tryz.func38, by kernel_rfl⟩
theorem k39 : RowOk tab ⟨39, 60, qhq⟩ := ⟨Tryz.f39, Tryz.func39, by kernel_rfl⟩
theorem k40 : RowOk tab ⟨40, 138, qix⟩ := ⟨Tryz.f40, Tryz.func40, by kernel_rfl⟩
theorem k42 : RowOk tab ⟨42, 210, qlv⟩ := ⟨Tryz.f42, Tryz.func42, by kernel_rfl⟩
theorem k43 : RowOk tab ⟨43, 140, qiu⟩ := ⟨Tryz.f43, Tryz.func43, by kernel_rfl⟩
theorem k44 : RowOk tab ⟨44, 147, qit⟩ := ⟨Tryz.f44, Tryz.func44, by kernel_rfl⟩
theorem k45 : RowOk tab ⟨45, 158, qfz⟩ := ⟨Tryz.f45, Tryz.func45, by kernel_rfl⟩
theorem k46 : RowOk tab ⟨46, 142, qiw⟩ := ⟨Tryz.f46, Tryz.func46, by kernel_rfl⟩
theorem k47 : RowOk tab ⟨47, 79, qks⟩ := ⟨Tryz.f47, Tryz.func47, by kernel_rfl⟩
theorem k48 : RowOk tab ⟨48, 479, qlx⟩ := ⟨Tryz.f48, Tryz.func48, by kernel_rfl⟩
theorem k49 : RowOk tab ⟨49, 139, qis⟩ := ⟨Tryz.f49, Tryz.func49, by kernel_rfl⟩
theorem k50 : RowOk tab ⟨50, 173, qhk⟩ := ⟨Tryz.f50, Tryz.func50, by kernel_rfl⟩
theorem k51 : RowOk tab ⟨51, 480, qf9⟩ := ⟨Tryz.f51, Tryz.func51, by kernel_rfl⟩
theorem k52 : RowOk tab ⟨52, 107, qfx⟩ := ⟨Tryz.f52, Tryz.func52, by kernel_rfl⟩
theorem k53 : RowOk tab ⟨53, 481, qkw⟩ := ⟨Tryz.f53, Tryz.func53, by kernel_rfl⟩
theorem k54 : RowOk tab ⟨54, 482, qnl⟩ := ⟨Tryz.f54, Tryz.func54, by kernel_rfl⟩
theorem k55 : RowOk tab ⟨55, 91, qiy⟩ := ⟨Tryz.f55, Tryz.func55, by kernel_rfl⟩
theorem k56 : RowOk tab ⟨56, 12, qhu⟩ := ⟨Tryz.f56, Tryz.func56, by kernel_rfl⟩
theorem k57 : RowOk tab ⟨57, 71, qi0⟩ := ⟨Tryz.f57, Tryz.func57, by kernel_rfl⟩
theorem k64 : RowOk tab ⟨64, 153, qhp⟩ := ⟨Tryz.f64, Tryz.func64, by kernel_rfl⟩
theorem k65 : RowOk tab ⟨65, 51, qi8⟩ := ⟨Tryz.f65, Tryz.func65, by kernel_rfl⟩
theorem k66 : RowOk tab ⟨66, 486, qky⟩ := ⟨Tryz.f66, Tryz.func66, by kernel_rfl⟩
theorem k72 : RowOk tab ⟨72, 49, qi4⟩ := ⟨Tryz.f72, Tryz.func72, by kernel_rfl⟩
theorem k73 : RowOk tab ⟨73, 77, qfy⟩ := ⟨Tryz.f73, Tryz.func73, by kernel_rfl⟩
theorem k74 : RowOk tab ⟨74, 94, qhm⟩ := ⟨Tryz.f74, Tryz.func74, by kernel_rfl⟩
theorem k75 : RowOk tab ⟨75, 489, qjg⟩ := ⟨Tryz.f75, Tryz.func75, by kernel_rfl⟩
theorem k79 : RowOk tab ⟨79, 85, qlq⟩ := ⟨Tryz.f79, Tryz.func79, by kernel_rfl⟩
theorem k82 : RowOk tab ⟨82, 52, qlw⟩ := ⟨Tryz.f82, Tryz.func82, by kernel_rfl⟩
theorem k83 : RowOk tab ⟨83, 54, qi5⟩ := ⟨Tryz.f83, Tryz.func83, by kernel_rfl⟩
theorem k84 : RowOk tab ⟨84, 84, qi3⟩ := ⟨Tryz.f84, Tryz.func84, by kernel_rfl⟩
theorem k85 : RowOk tab ⟨85, 86, qi2⟩ := ⟨Tryz.f85, Tryz.func85, by kernel_rfl⟩
theorem k86 : RowOk tab ⟨86, 63, qe6⟩ := ⟨Tryz.f86, Tryz.func86, by kernel_rfl⟩
theorem k87 : RowOk tab ⟨87, 87, qht⟩ := ⟨Tryz.f87, Tryz.func87, by kernel_rfl⟩
theorem k88 : RowOk tab ⟨88, 23, qhv⟩ := ⟨Tryz.f88, Tryz.func88, by kernel_rfl⟩
theorem k89 : RowOk tab ⟨89, 106, qfv⟩ := ⟨Tryz.f89, Tryz.func89, by kernel_rfl⟩
theorem k90 : RowOk tab ⟨90, 186, qdl⟩ := ⟨Tryz.f90, Tryz.func90, by kernel_rfl⟩
theorem k91 : RowOk tab ⟨91, 187, qhb⟩ := ⟨Tryz.f91, Tryz.func91, by kernel_rfl⟩
theorem k92 : RowOk tab ⟨92, 188, qkc⟩ := ⟨Tryz.f92, Tryz.func92, by kernel_rfl⟩
theorem k93 : RowOk tab ⟨93, 189, qhh⟩ := ⟨Tryz.f93, Tryz.func93, by kernel_rfl⟩
theorem k95 : RowOk tab ⟨95, 191, qg9⟩ := ⟨Tryz.f95, Tryz.func95, by kernel_rfl⟩
theorem k96 : RowOk tab ⟨96, 192, qka⟩ := ⟨Tryz.f96, Tryz.func96, by kernel_rfl⟩
theorem k97 : RowOk tab ⟨97, 225, qeq⟩ := ⟨Tryz.f97, Tryz.func97, by kernel_rfl⟩
theorem k98 : RowOk tab ⟨98, 190, qhj⟩ := ⟨Tryz.f98, Tryz.func98, by kernel_rfl⟩
theorem k99 : RowOk tab ⟨99, 198, qlu⟩ := ⟨Tryz.f99, Tryz.func99, by kernel_rfl⟩
theorem k100 : RowOk tab ⟨100, 204, qi9⟩ := ⟨Tryz.f100, Tryz.func100, by kernel_rfl⟩
theorem k101 : RowOk tab ⟨101, 193, qha⟩ := ⟨Tryz.f101, Tryz.func101, by kernel_rfl⟩
theorem k102 : RowOk tab ⟨102, 194, qkb⟩ := ⟨Tryz.f102, Tryz.func102, by kernel_rfl⟩
theorem k103 : RowOk tab ⟨103, 492, qlr⟩ := ⟨Tryz.f103, Tryz.func103, by kernel_rfl⟩
theorem k104 : RowOk tab ⟨104, 493, qkx⟩ := ⟨Tryz.f104, Tryz.func104, by kernel_rfl⟩
theorem k105 : RowOk tab ⟨105, 494, qet⟩ := ⟨Tryz.f105, Tryz.func105, by kernel_rfl⟩
theorem k106 : RowOk tab ⟨106, 495, qdp⟩ := ⟨Tryz.f106, Tryz.func106, by kernel_rfl⟩
theorem k107 : RowOk tab ⟨107, 265, qkt⟩ := ⟨Tryz.f107, Tryz.func107, by kernel_rfl⟩
theorem k108 : RowOk tab ⟨108, 199, qlp⟩ := ⟨Tryz.f108, Tryz.func108, by kernel_rfl⟩
theorem k109 : RowOk tab ⟨109, 200, qo6⟩ := ⟨Tryz.f109, Tryz.func109, by kernel_rfl⟩
theorem k110 : RowOk tab ⟨110, 496, qga⟩ := ⟨Tryz.f110, Tryz.func110, by kernel_rfl⟩
theorem k111 : RowOk tab ⟨111, 92, qiz⟩ := ⟨Tryz.f111, Tryz.func111, by kernel_rfl⟩
theorem k112 : RowOk tab ⟨112, 93, qhn⟩ := ⟨Tryz.f112, Tryz.func112, by kernel_rfl⟩
theorem k122 : RowOk tab ⟨122, 78, qf5⟩ := ⟨Tryz.f122, Tryz.func122, by kernel_rfl⟩
theorem k123 : RowOk tab ⟨123, 98, qlt⟩ := ⟨Tryz.f123, Tryz.func123, by kernel_rfl⟩
theorem k124 : RowOk tab ⟨124, 499, qkv⟩ := ⟨Tryz.f124, Tryz.func124, by kernel_rfl⟩
theorem k125 : RowOk tab ⟨125, 160, qfw⟩ := ⟨Tryz.f125, Tryz.func125, by kernel_rfl⟩
theorem k126 : RowOk tab ⟨126, 90, qhl⟩ := ⟨Tryz.f126, Tryz.func126, by kernel_rfl⟩
theorem k127 : RowOk tab ⟨127, 500, qjc⟩ := ⟨Tryz.f127, Tryz.func127, by kernel_rfl⟩
theorem k128 : RowOk tab ⟨128, 501, qjd⟩ := ⟨Tryz.f128, Tryz.func128, by kernel_rfl⟩
theorem k132 : RowOk tab ⟨132, 96, qeo⟩ := ⟨Tryz.f132, Tryz.func132, by kernel_rfl⟩
theorem k133 : RowOk tab ⟨133, 105, qhi⟩ := ⟨Tryz.f133, Tryz.func133, by kernel_rfl⟩
theorem k134 : RowOk tab ⟨134, 104, qhg⟩ := ⟨Tryz.f134, Tryz.func134, by kernel_rfl⟩
theorem k135 : RowOk tab ⟨135, 205, qly⟩ := ⟨Tryz.f135, Tryz.func135, by kernel_rfl⟩
theorem k136 : RowOk tab ⟨136, 502, qlz⟩ := ⟨Tryz.f136, Tryz.func136, by kernel_rfl⟩
theorem k137 : RowOk tab ⟨137, 503, qnm⟩ := ⟨Tryz.f137, Tryz.func137, by kernel_rfl⟩
theorem k138 : RowOk tab ⟨138, 504, qjb⟩ := ⟨Tryz.f138, Tryz.func138, by kernel_rfl⟩
theorem k139 : RowOk tab ⟨139, 505, qd4⟩ := ⟨Tryz.f139, Tryz.func139, by kernel_rfl⟩
theorem k143 : RowOk tab ⟨143, 101, qi1⟩ := ⟨Tryz.f143, Tryz.func143, by kernel_rfl⟩
theorem k144 : RowOk tab ⟨144, 102, qhr⟩ := ⟨Tryz.f144, Tryz.func144, by kernel_rfl⟩
theorem k145 : RowOk tab ⟨145, 103, qhs⟩ := ⟨Tryz.f145, Tryz.func145, by kernel_rfl⟩
theorem k146 : RowOk tab ⟨146, 80, qf6⟩ := ⟨Tryz.f146, Tryz.func146, by kernel_rfl⟩
theorem k147 : RowOk tab ⟨147, 216, c_round_add⟩ := ⟨Tryz.f147, Tryz.func147, by kernel_rfl⟩
theorem k150 : RowOk tab ⟨150, 217, qnj⟩ := ⟨Tryz.f150, Tryz.func150, by kernel_rfl⟩
theorem k151 : RowOk tab ⟨151, 244, qf3⟩ := ⟨Tryz.f151, Tryz.func151, by kernel_rfl⟩
theorem k152 : RowOk tab ⟨152, 245, qls⟩ := ⟨Tryz.f152, Tryz.func152, by kernel_rfl⟩
theorem k153 : RowOk tab ⟨153, 246, qki⟩ := ⟨Tryz.f153, Tryz.func153, by kernel_rfl⟩
theorem k154 : RowOk tab ⟨154, 119, qdk⟩ := ⟨Tryz.f154, Tryz.func154, by kernel_rfl⟩
theorem k155 : RowOk tab ⟨155, 221, qc5⟩ := ⟨Tryz.f155, Tryz.func155, by kernel_rfl⟩
theorem k156 : RowOk tab ⟨156, 223, qe8⟩ := ⟨Tryz.f156, Tryz.func156, by kernel_rfl⟩
theorem k157 : RowOk tab ⟨157, 224, qf7⟩ := ⟨Tryz.f157, Tryz.func157, by kernel_rfl⟩
theorem k158 : RowOk tab ⟨158, 218, qnk⟩ := ⟨Tryz.f158, Tryz.func158, by kernel_rfl⟩
theorem k159 : RowOk tab ⟨159, 100, qf4⟩ := ⟨Tryz.f159, Tryz.func159, by kernel_rfl⟩
theorem k160 : RowOk tab ⟨160, 257, qkl⟩ := ⟨Tryz.f160, Tryz.func160, by kernel_rfl⟩
theorem k161 : RowOk tab ⟨161, 99, qgk⟩ := ⟨Tryz.f161, Tryz.func161, by kernel_rfl⟩
theorem k162 : RowOk tab ⟨162, 258, qkh⟩ := ⟨Tryz.f162, Tryz.func162, by kernel_rfl⟩
theorem k163 : RowOk tab ⟨163, 112, qkj⟩ := ⟨Tryz.f163, Tryz.func163, by kernel_rfl⟩
theorem k164 : RowOk tab ⟨164, 222, qj8⟩ := ⟨Tryz.f164, Tryz.func164, by kernel_rfl⟩
theorem k165 : RowOk tab ⟨165, 506, qdn⟩ := ⟨Tryz.f165, Tryz.func165, by kernel_rfl⟩
theorem k166 : RowOk tab ⟨166, 507, qe9⟩ := ⟨Tryz.f166, Tryz.func166, by kernel_rfl⟩
theorem k167 : RowOk tab ⟨167, 508, qer⟩ := ⟨Tryz.f167, Tryz.func167, by kernel_rfl⟩
theorem k177 : RowOk tab ⟨177, 97, qkr⟩ := ⟨Tryz.f177, Tryz.func177, by kernel_rfl⟩
theorem k178 : RowOk tab ⟨178, 509, qf8⟩ := ⟨Tryz.f178, Tryz.func178, by kernel_rfl⟩
theorem k179 : RowOk tab ⟨179, 510, qh0⟩ := ⟨Tryz.f179, Tryz.func179, by kernel_rfl⟩
theorem k180 : RowOk tab ⟨180, 511, qja⟩ := ⟨Tryz.f180, Tryz.func180, by kernel_rfl⟩
theorem k181 : RowOk tab ⟨181, 512, qdo⟩ := ⟨Tryz.f181, Tryz.func181, by kernel_rfl⟩
theorem k182 : RowOk tab ⟨182, 513, qje⟩ := ⟨Tryz.f182, Tryz.func182, by kernel_rfl⟩
theorem k183 : RowOk tab ⟨183, 238, qkk⟩ := ⟨Tryz.f183, Tryz.func183, by kernel_rfl⟩
theorem k184 : RowOk tab ⟨184, 514, qd5⟩ := ⟨Tryz.f184, Tryz.func184, by kernel_rfl⟩
theorem k185 : RowOk tab ⟨185, 253, qir⟩ := ⟨Tryz.f185, Tryz.func185, by kernel_rfl⟩
theorem k186 : RowOk tab ⟨186, 515, qd6⟩ := ⟨Tryz.f186, Tryz.func186, by kernel_rfl⟩
theorem k187 : RowOk tab ⟨187, 516, qjf⟩ := ⟨Tryz.f187, Tryz.func187, by kernel_rfl⟩
theorem k188 : RowOk tab ⟨188, 240, qfu⟩ := ⟨Tryz.f188, Tryz.func188, by kernel_rfl⟩
theorem k192 : RowOk tab ⟨192, 235, qj9⟩ := ⟨Tryz.f192, Tryz.func192, by kernel_rfl⟩
theorem k193 : RowOk tab ⟨193, 236, c_round_sum⟩ := ⟨Tryz.f193, Tryz.func193, by kernel_rfl⟩
theorem k194 : RowOk tab ⟨194, 237, qio⟩ := ⟨Tryz.f194, Tryz.func194, by kernel_rfl⟩
theorem k195 : RowOk tab ⟨195, 261, qbt⟩ := ⟨Tryz.f195, Tryz.func195, by kernel_rfl⟩
theorem k196 : RowOk tab ⟨196, 114, qip⟩ := ⟨Tryz.f196, Tryz.func196, by kernel_rfl⟩
theorem k197 : RowOk tab ⟨197, 115, qiq⟩ := ⟨Tryz.f197, Tryz.func197, by kernel_rfl⟩
theorem k198 : RowOk tab ⟨198, 262, qke⟩ := ⟨Tryz.f198, Tryz.func198, by kernel_rfl⟩
theorem k199 : RowOk tab ⟨199, 239, qku⟩ := ⟨Tryz.f199, Tryz.func199, by kernel_rfl⟩
theorem k200 : RowOk tab ⟨200, 241, qni⟩ := ⟨Tryz.f200, Tryz.func200, by kernel_rfl⟩
theorem k201 : RowOk tab ⟨201, 110, qfd⟩ := ⟨Tryz.f201, Tryz.func201, by kernel_rfl⟩
theorem k202 : RowOk tab ⟨202, 264, qkg⟩ := ⟨Tryz.f202, Tryz.func202, by kernel_rfl⟩
theorem k203 : RowOk tab ⟨203, 111, qdw⟩ := ⟨Tryz.f203, Tryz.func203, by kernel_rfl⟩
theorem k204 : RowOk tab ⟨204, 266, qkd⟩ := ⟨Tryz.f204, Tryz.func204, by kernel_rfl⟩
theorem k205 : RowOk tab ⟨205, 116, qgj⟩ := ⟨Tryz.f205, Tryz.func205, by kernel_rfl⟩
theorem k206 : RowOk tab ⟨206, 243, qo5⟩ := ⟨Tryz.f206, Tryz.func206, by kernel_rfl⟩
theorem k215 : RowOk tab ⟨215, 259, qkf⟩ := ⟨Tryz.f215, Tryz.func215, by kernel_rfl⟩
theorem k216 : RowOk tab ⟨216, 260, qft⟩ := ⟨Tryz.f216, Tryz.func216, by kernel_rfl⟩
theorem k217 : RowOk tab ⟨217, 255, qg8⟩ := ⟨Tryz.f217, Tryz.func217, by kernel_rfl⟩
theorem k218 : RowOk tab ⟨218, 256, qnh⟩ := ⟨Tryz.f218, Tryz.func218, by kernel_rfl⟩
theorem k219 : RowOk tab ⟨219, 254, c_round_cut⟩ := ⟨Tryz.f219, Tryz.func219, by kernel_rfl⟩
theorem k220 : RowOk tab ⟨220, 117, qbi⟩ := ⟨Tryz.f220, Tryz.func220, by kernel_rfl⟩
theorem k221 : RowOk tab ⟨221, 118, qfs⟩ := ⟨Tryz.f221, Tryz.func221, by kernel_rfl⟩
theorem k222 : RowOk tab ⟨222, 113, qdf⟩ := ⟨Tryz.f222, Tryz.func222, by kernel_rfl⟩
theorem k223 : RowOk tab ⟨223, 271, qe4⟩ := ⟨Tryz.f223, Tryz.func223, by kernel_rfl⟩
theorem k224 : RowOk tab ⟨224, 272, qe2⟩ := ⟨Tryz.f224, Tryz.func224, by kernel_rfl⟩
theorem k226 : RowOk tab ⟨226, 267, qhc⟩ := ⟨Tryz.f226, Tryz.func226, by kernel_rfl⟩
theorem k227 : RowOk tab ⟨227, 268, qbz⟩ := ⟨Tryz.f227, Tryz.func227, by kernel_rfl⟩
theorem k228 : RowOk tab ⟨228, 269, qhd⟩ := ⟨Tryz.f228, Tryz.func228, by kernel_rfl⟩
theorem k229 : RowOk tab ⟨229, 270, qfc⟩ := ⟨Tryz.f229, Tryz.func229, by kernel_rfl⟩
theorem k230 : RowOk tab ⟨230, 120, qby⟩ := ⟨Tryz.f230, Tryz.func230, by kernel_rfl⟩
theorem k231 : RowOk tab ⟨231, 273, qe3⟩ := ⟨Tryz.f231, Tryz.func231, by kernel_rfl⟩
theorem k232 : RowOk tab ⟨232, 274, qhf⟩ := ⟨Tryz.f232, Tryz.func232, by kernel_rfl⟩
def rows : List Row :=
 [⟨8, 457, qc6⟩,
  ⟨11, 460, qce⟩,
  ⟨12, 461, qdm⟩,
  ⟨13, 462, qhy⟩,
  ⟨14, 463, qnn⟩,
  ⟨15, 70, qho⟩,
  ⟨16, 464, qhw⟩,
  ⟨19, 467, qhx⟩,
  ⟨20, 468, qf2⟩,
  ⟨21, 469, qi7⟩,
  ⟨22, 152, qf0⟩,
  ⟨23, 470, ql0⟩,
  ⟨24, 471, ql1⟩,
  ⟨27, 473, qi6⟩,
  ⟨28, 55, qkm⟩,
  ⟨29, 474, qkz⟩,
  ⟨31, 476, qf1⟩,
  ⟨32, 74, qkp⟩,
  ⟨35, 133, qiv⟩,
  ⟨36, 18, qkq⟩,
  ⟨37, 56, qkn⟩,
  ⟨38, 57, qko⟩,
  ⟨39, 60, qhq⟩,
  ⟨40, 138, qix⟩,
  ⟨42, 210, qlv⟩,
  ⟨43, 140, qiu⟩,
  ⟨44, 147, qit⟩,
  ⟨45, 158, qfz⟩,
  ⟨46, 142, qiw⟩,
  ⟨47, 79, qks⟩,
  ⟨48, 479, qlx⟩,
  ⟨49, 139, qis⟩,
  ⟨50, 173, qhk⟩,
  ⟨51, 480, qf9⟩,
  ⟨52, 107, qfx⟩,
  ⟨53, 481, qkw⟩,
  ⟨54, 482, qnl⟩,
  ⟨55, 91, qiy⟩,
  ⟨56, 12, qhu⟩,
  ⟨57, 71, qi0⟩,
  ⟨64, 153, qhp⟩,
  ⟨65, 51, qi8⟩,
  ⟨66, 486, qky⟩,
  ⟨72, 49, qi4⟩,
  ⟨73, 77, qfy⟩,
  ⟨74, 94, qhm⟩,
  ⟨75, 489, qjg⟩,
  ⟨79, 85, qlq⟩,
  ⟨82, 52, qlw⟩,
  ⟨83, 54, qi5⟩,
  ⟨84, 84, qi3⟩,
  ⟨85, 86, qi2⟩,
  ⟨86, 63, qe6⟩,
  ⟨87, 87, qht⟩,
  ⟨88, 23, qhv⟩,
  ⟨89, 106, qfv⟩,
  ⟨90, 186, qdl⟩,
  ⟨91, 187, qhb⟩,
  ⟨92, 188, qkc⟩,
  ⟨93, 189, qhh⟩,
  ⟨95, 191, qg9⟩,
  ⟨96, 192, qka⟩,
  ⟨97, 225, qeq⟩,
  ⟨98, 190, qhj⟩,
  ⟨99, 198, qlu⟩,
  ⟨100, 204, qi9⟩,
  ⟨101, 193, qha⟩,
  ⟨102, 194, qkb⟩,
  ⟨103, 492, qlr⟩,
  ⟨104, 493, qkx⟩,
  ⟨105, 494, qet⟩,
  ⟨106, 495, qdp⟩,
  ⟨107, 265, qkt⟩,
  ⟨108, 199, qlp⟩,
  ⟨109, 200, qo6⟩,
  ⟨110, 496, qga⟩,
  ⟨111, 92, qiz⟩,
  ⟨112, 93, qhn⟩,
  ⟨122, 78, qf5⟩,
  ⟨123, 98, qlt⟩,
  ⟨124, 499, qkv⟩,
  ⟨125, 160, qfw⟩,
  ⟨126, 90, qhl⟩,
  ⟨127, 500, qjc⟩,
  ⟨128, 501, qjd⟩,
  ⟨132, 96, qeo⟩,
  ⟨133, 105, qhi⟩,
  ⟨134, 104, qhg⟩,
  ⟨135, 205, qly⟩,
  ⟨136, 502, qlz⟩,
  ⟨137, 503, qnm⟩,
  ⟨138, 504, qjb⟩,
  ⟨139, 505, qd4⟩,
  ⟨143, 101, qi1⟩,
  ⟨144, 102, qhr⟩,
  ⟨145, 103, qhs⟩,
  ⟨146, 80, qf6⟩,
  ⟨147, 216, c_round_add⟩,
  ⟨150, 217, qnj⟩,
  ⟨151, 244, qf3⟩,
  ⟨152, 245, qls⟩,
  ⟨153, 246, qki⟩,
  ⟨154, 119, qdk⟩,
  ⟨155, 221, qc5⟩,
  ⟨156, 223, qe8⟩,
  ⟨157, 224, qf7⟩,
  ⟨158, 218, qnk⟩,
  ⟨159, 100, qf4⟩,
  ⟨160, 257, qkl⟩,
  ⟨161, 99, qgk⟩,
  ⟨162, 258, qkh⟩,
  ⟨163, 112, qkj⟩,
  ⟨164, 222, qj8⟩,
  ⟨165, 506, qdn⟩,
  ⟨166, 507, qe9⟩,
  ⟨167, 508, qer⟩,
  ⟨177, 97, qkr⟩,
  ⟨178, 509, qf8⟩,
  ⟨179, 510, qh0⟩,
  ⟨180, 511, qja⟩,
  ⟨181, 512, qdo⟩,
  ⟨182, 513, qje⟩,
  ⟨183, 238, qkk⟩,
  ⟨184, 514, qd5⟩,
  ⟨185, 253, qir⟩,
  ⟨186, 515, qd6⟩,
  ⟨187, 516, qjf⟩,
  ⟨188, 240, qfu⟩,
  ⟨192, 235, qj9⟩,
  ⟨193, 236, c_round_sum⟩,
  ⟨194, 237, qio⟩,
  ⟨195, 261, qbt⟩,
  ⟨196, 114, qip⟩,
  ⟨197, 115, qiq⟩,
  ⟨198, 262, qke⟩,
  ⟨199, 239, qku⟩,
  ⟨200, 241, qni⟩,
  ⟨201, 110, qfd⟩,
  ⟨202, 264, qkg⟩,
  ⟨203, 111, qdw⟩,
  ⟨204, 266, qkd⟩,
  ⟨205, 116, qgj⟩,
  ⟨206, 243, qo5⟩,
  ⟨215, 259, qkf⟩,
  ⟨216, 260, qft⟩,
  ⟨217, 255, qg8⟩,
  ⟨218, 256, qnh⟩,
  ⟨219, 254, c_round_cut⟩,
  ⟨220, 117, qbi⟩,
  ⟨221, 118, qfs⟩,
  ⟨222, 113, qdf⟩,
  ⟨223, 271, qe4⟩,
  ⟨224, 272, qe2⟩,
  ⟨226, 267, qhc⟩,
  ⟨227, 268, qbz⟩,
  ⟨228, 269, qhd⟩,
  ⟨229, 270, qfc⟩,
  ⟨230, 120, qby⟩,
  ⟨231, 273, qe3⟩,
  ⟨232, 274, qhf⟩]
theorem fc {p : Row → Prop} {a : Row} {l : List Row} (h : p a) (t : ∀ x ∈ l, p x) : ∀ x ∈ a :: l, p x := List.forall_mem_cons.2 ⟨h, t⟩
theorem qadr : ∀ r ∈ rows, RowOk tab r := (fc k8 (fc k11 (fc k12 (fc k13 (fc k14 (fc k15 (fc k16 (fc k19 (fc k20 (fc k21 (fc k22 (fc k23 (fc k24 (fc k27 (fc k28 (fc k29 (fc k31 (fc k32 (fc k35 (fc k36 (fc k37 (fc k38 (fc k39 (fc k40 (fc k42 (fc k43 (fc k44 (fc k45 (fc k46 (fc k47 (fc k48 (fc k49 (fc k50 (fc k51 (fc k52 (fc k53 (fc k54 (fc k55 (fc k56 (fc k57 (fc k64 (fc k65 (fc k66 (fc k72 (fc k73 (fc k74 (fc k75 (fc k79 (fc k82 (fc k83 (fc k84 (fc k85 (fc k86 (fc k87 (fc k88 (fc k89 (fc k90 (fc k91 (fc k92 (fc k93 (fc k95 (fc k96 (fc k97 (fc k98 (fc k99 (fc k100 (fc k101 (fc k102 (fc k103 (fc k104 (fc k105 (fc k106 (fc k107 (fc k108 (fc k109 (fc k110 (fc k111 (fc k112 (fc k122 (fc k123 (fc k124 (fc k125 (fc k126 (fc k127 (fc k128 (fc k132 (fc k133 (fc k134 (fc k135 (fc k136 (fc k137 (fc k138 (fc k139 (fc k143 (fc k144 (fc k145 (fc k146 (fc k147 (fc k150 (fc k151 (fc k152 (fc k153 (fc k154 (fc k155 (fc k156 (fc k157 (fc k158 (fc k159 (fc k160 (fc k161 (fc k162 (fc k163 (fc k164 (fc k165 (fc k166 (fc k167 (fc k177 (fc k178 (fc k179 (fc k180 (fc k181 (fc k182 (fc k183 (fc k184 (fc k185 (fc k186 (fc k187 (fc k188 (fc k192 (fc k193 (fc k194 (fc k195 (fc k196 (fc k197 (fc k198 (fc k199 (fc k200 (fc k201 (fc k202 (fc k203 (fc k204 (fc k205 (fc k206 (fc k215 (fc k216 (fc k217 (fc k218 (fc k219 (fc k220 (fc k221 (fc k222 (fc k223 (fc k224 (fc k226 (fc k227 (fc k228 (fc k229 (fc k230 (fc k231 (fc k232 (fun _ h => by cases h)))))))))))))))))))))))))))))))))))))))))))))))))))))))))))))))))))))))))))))))))))))))))))))))))))))))))))))))))))))))))))))))))))))))))))))))))))))))))))))))))
theorem rs : rows.map (fun r => look fnList r.gid) = rows.map (fun r => some r.fn) := by kernel_rfl
theorem q5w : ∀ r ∈ rows, look fnList r.gid = some r.fn := List.map_inj_left.1 rs
theorem q49 : tab.P.follows .mixedOrders = true := by kernel_rfl
theorem qada : ∀ fid g f, tab.gid fid = some g → prog.fn g = some f → ∃ fn C, tab.P.funcs[fid]? = some fn ∧ fn.name ≠ "runtime.NumGoroutine" ∧ fn.body = some C ∧ comp tab fn.ntmps C = some f.body ∧ cRVs tab fn.results.toList = some f.results :=
 q0n (l := q7c) rfl (fns := fnList) (S := prog) rfl rows qadr (by kernel_rfl) q5w
end Go.Abs
namespace Go.Proofs.YtnkijamajifgpaaGreatDoor
open Go.ChangeShapes Go.WideShapes Go.ChangeAt Go.RowKit
theorem own : ownKnob Tryz.prog.godebug = none := by kernel_rfl
theorem laidOut : laidOutB Tryz.prog = true := by kernel_rfl
theorem seat : Go.Abs.Seat Go.Abs.tab Go.Abs.prog := ⟨Go.Abs.q49, Go.Abs.qada, fun _ _ _ _ _ _ h => by cases h⟩
section
variable {H : Type} {enc : TypeId × Value → H} {w : World}
theorem r_u32s : Go.Abs.Rd enc Tryz.prog w Go.Abs.tab.gid 23 (fun v => ∃ l : List Nat, v = Go.Abs.lim l ∧ Go.Abs.Li l ∧ l.length ≤ maxLen) := Go.Abs.W.qadu Tryz.underlying23 Tryz.underlying75 (by kernel_rfl)
theorem r_dy : Go.Abs.Rd enc Tryz.prog w Go.Abs.tab.gid 25 (fun v => ∃ d : Go.Abs.W.Dy, v = d.v ∧ d.T) := Go.Abs.W.rd_dy Tryz.underlying25 (by kernel_rfl) Tryz.underlying4 r_u32s Tryz.underlying3 (by kernel_rfl)
theorem r_iv : Go.Abs.Rd enc Tryz.prog w Go.Abs.tab.gid 27 (fun v => ∃ x : Go.Abs.W.Iv, v = x.v ∧ x.T) := Go.Abs.W.rd_iv Tryz.underlying27 (by kernel_rfl) r_dy r_dy Tryz.underlying4 (by kernel_rfl)
end
def zDy : Value := .agg #[.bool false, .slice none 0 0, .int .i64 0]
def zIvV : Value := .agg #[.bool false, .slice none 0 0, .int .i64 0, .bool false, .slice none 0 0, .int .i64 0, .bool false]
def dDy {H : Type} : DataW H := .agg [.lit (.bool false), .nil, .lit (.int .i64 0)]
def dIv {H : Type} : DataW H := .agg [dDy, dDy, .lit (.bool false)]
theorem gTab : Tryz.prog.globalNamed "math/bits.deBruijn32tab" = some 0 := by kernel_rfl
theorem gTabType : (Tryz.prog.globals[0]?).map (·.type) = some 148 := by kernel_rfl
theorem cells148 : Tryz.prog.cellsOf 148 = 32 := by kernel_rfl
theorem cells5 : Tryz.prog.cellsOf 5 = 1 := by kernel_rfl
def nums : List Int := [0, 1, 28, 2, 29, 14, 24, 3, 30, 22, 20, 15, 25, 17, 4, 8, 31, 27, 13, 23, 21, 19, 16, 7, 26, 12, 18, 6, 11, 5, 10, 9]
theorem table {W : World} (h : laidMetH Tryz.prog [("math/bits.deBruijn32tab", Rows.laid_math_bits_deBruijn32tab)] W) : Lib.TabIs Tryz.prog W "math/bits.deBruijn32tab" .u8 nums :=
 Lib.tabIs_of_head (rest := []) gTab gTabType Tryz.underlying148 Tryz.underlying5 cells5 cells148 h
theorem tabs {W : World} (h : laidMetH Tryz.prog [("math/bits.deBruijn32tab", Rows.laid_math_bits_deBruijn32tab)] W) : Go.Abs.Tabs Go.Abs.tab.gid W fun _ => False := by
 intro g cs hg
 have hg' : Go.Abs.qxa Go.Abs.qzq g = some cs := hg
 unfold Go.Abs.qzq Go.Abs.qxa at hg'
 split at hg'
 · rename_i h0
   subst h0
   have hc : cs = nums.map (fun n => Go.Abs.V.int .u8 n) := by injection hg' with hg'; rw [← hg']; rfl
   subst hc
   have cell : ∀ i (hi : i < nums.length), W.cell? ⟨0, i, none⟩ = some (.int .u8 (nums.getD i 0)) := fun i hi => (table h).cell gTab i hi
   have hb : 0 < W.heap.size := World.block_lt_of_cell? W ⟨0, 0, none⟩ (cell 0 (by decide))
   have get : ∀ (j : Nat) (c : Go.Abs.V), (nums.map (fun n => Go.Abs.V.int .u8 n))[j]? = some c → j < nums.length ∧ c = .int .u8 (nums.getD j 0) := by
     intro j c hj
     rw [List.getElem?_map] at hj
     obtain ⟨a, ha, rfl⟩ := Option.map_eq_some_iff.1 hj
     refine ⟨(List.getElem?_eq_some_iff.1 ha).1, ?_⟩
     rw [List.getD_eq_getElem?_getD, ha]
     rfl
   refine .eptr _ _ (fun j => .int .u8 (nums.getD j 0)) rfl (fun h => h) hb ?_ ?_
   · intro j c hj
     have hl := (get j c hj).1
     have := cell j hl
     simpa using this
   · intro j c hj
     rw [(get j c hj).2]
     exact .int _ _
 · unfold Go.Abs.qxa at hg'
   cases hg'
noncomputable def laidWorld (os : Os) : World :=
 { World.holding Tryz.prog os ⟨#[], #[], []⟩ with heap := (World.holding Tryz.prog os ⟨#[], #[], []⟩).heap.modify 0 fun
     | .cells _ t frozen => .cells (nums.map fun n => .int .u8 n).toArray t frozen
     | o => o }
end Go.Proofs.YtnkijamajifgpaaGreatDoor
