import Derived.Test.YtblicjipogbhmaaGreatDoorProg
import Derived.KernelRfl
import Derived.Test.YtblicjipogbhmaaGreatDoorCards
import Derived.Test.YtblicjipogbhmaaGreatDoorTie
import Derived.WalkKit
import Derived.ProofKit
import Derived.OpenShut
import Derived.Deep.DeepHandedRow
import Derived.Lib.LaidTab
import Derived.Test.YtblicjipogbhmaaGreatDoorGr
import Derived.Test.YtblicjipogbhmaaGreatDoorFb
import Derived.Test.YtblicjipogbhmaaGreatDoorFd
import Derived.Test.YtblicjipogbhmaaGreatDoorFb
namespace Go.Abs
open Go.Proofs
set_option maxRecDepth 100000
def xS : List Nat:=[0,0,0,519,280,152,281,195,67,534,527,528,529,535,90,291,293,158,311,303,290,286,51,107,312,313,314,89,315,470,471,539,322,540,140,316,142,147,416,541,411,138,139,543,532,533,530,77,104,105,52,153,74,106,204,189,176,324,326,325,82,60,78,327,486,186,190,191,192,210,173,193,194,198,429,437,430,438,79,431,187,188,545,546,109,70,547,542,145,175,146,148,96,80,85,223,224,225,207,208,23,97,480,98,499,160,94,500,0,217,218,221,205,445,442,149,448,444,446,443,447,423,216,549,550,551,91,12,18,0,553,0,154,108,196,197,174,202,206,93,92,57,99,100,101,102,103,244,245,246,119,230,63,110,509,510,495,481,482,493,504,511,512,0,503,494,238,514,235,237,239,240,241,199,200,451,141,449,450,222,236,555,556,557,49,54,55,56,558,0,0,0,562,420,414,563,0,0,203,219,220,226,227,228,229,111,112,261,114,115,262,253,254,113,507,265,496,257,258,259,255,260,156,164,243,256,564,84,86,87,0,0,0,0,0,0,0,436,426,159,432,435,433,441,434,427,163,572,573,161,157,0,0,209,185,242,247,248,249,250,232,251,252,116,117,118,264,506,508,266,267,268,269,270,271,165,574,575,182,166,155,169,484,476,472,167,201,231,233,215,263,120,272,273,274,576,577,214,184,465,485,487,488,578,0,580,483,498,497,581,582,583,0,0,0,0,0,0,0,0,0,0,0,0,0,0,0,0,0,0,0,0,0]
def sY : List (Nat × List V):=[(0,[.int .u8 0,.int .u8 1,.int .u8 28,.int .u8 2,.int .u8 29,.int .u8 14,.int .u8 24,.int .u8 3,.int .u8 30,.int .u8 22,.int .u8 20,.int .u8 15,.int .u8 25,.int .u8 17,.int .u8 4,.int .u8 8,.int .u8 31,.int .u8 27,.int .u8 13,.int .u8 23,.int .u8 21,.int .u8 19,.int .u8 16,.int .u8 7,.int .u8 26,.int .u8 12,.int .u8 18,.int .u8 6,.int .u8 11,.int .u8 5,.int .u8 10,.int .u8 9])]
noncomputable def tab : Tab:=⟨Tryz.prog,⟨j1 xS,l4 sY⟩⟩
theorem fd' {i g:Nat}{F:AFn}{f:Go.Func}{l:List Row}(h:tab.P.funcs[i]?=some f)(t:∀x ∈ l,RowOk tab x)(e:mn tab f=some (F.results,F.body):=by kernel_rfl):∀x ∈ ⟨i,g,F⟩::l,RowOk tab x:=List.forall_mem_cons.2 ⟨⟨f,h,e⟩,t⟩
theorem fz':∀x ∈ ([]:List Row),RowOk tab x:=fun _ h=>by cases h
open Tryz
def w0':List Row:=[⟨3,519,JD⟩,⟨4,280,GK⟩,⟨5,152,IC⟩,⟨6,281,GL⟩,⟨7,195,F8⟩,⟨8,67,JV⟩,⟨9,534,JI⟩,⟨10,527,Hy⟩,⟨11,528,EH⟩,⟨12,529,EI⟩,⟨13,535,G6⟩,⟨14,90,G9⟩,⟨15,291,IS⟩,⟨16,293,Fk⟩,⟨17,158,IE⟩,⟨18,311,FO⟩,⟨19,303,EG⟩,⟨20,290,C6⟩,⟨21,286,FX⟩,⟨22,51,FU⟩,
 ⟨23,107,Ih⟩,⟨24,312,JY⟩,⟨25,313,IW⟩,⟨26,314,Jx⟩,⟨27,89,JR⟩,⟨28,315,EJ⟩,⟨29,470,Em⟩,⟨30,471,El⟩,⟨31,539,IR⟩,⟨32,322,Ew⟩,⟨33,540,Jo⟩,⟨34,140,Gh⟩,⟨35,316,Gs⟩,⟨36,142,GC⟩,⟨37,147,Gi⟩,⟨38,416,FV⟩,⟨39,541,ug⟩,⟨40,411,FW⟩,⟨41,138,GB⟩,⟨42,139,Gj⟩]
theorem z0':∀r ∈ w0',RowOk tab r:=fd' func3<|fd' func4<|fd' func5<|fd' func6<|fd' func7<|fd' func8<|fd' func9<|fd' func10<|fd' func11<|fd' func12<|fd' func13<|fd' func14<|fd' func15<|fd' func16<|fd' func17<|fd' func18<|fd' func19<|fd' func20<|fd' func21<|fd' func22<|
 fd' func23<|fd' func24<|fd' func25<|fd' func26<|fd' func27<|fd' func28<|fd' func29<|fd' func30<|fd' func31<|fd' func32<|fd' func33<|fd' func34<|fd' func35<|fd' func36<|fd' func37<|fd' func38<|fd' func39<|fd' func40<|fd' func41<|fd' func42<|fz'
def w1':List Row:=[⟨43,543,G4⟩,⟨44,532,Fi⟩,⟨45,533,Fj⟩,⟨46,530,IB⟩,⟨47,77,Ig⟩,⟨48,104,Hk⟩,⟨49,105,Hh⟩,⟨50,52,Eo⟩,⟨51,153,Hq⟩,⟨52,74,EY⟩,⟨53,106,Ij⟩,⟨54,204,FT⟩,⟨55,189,Hj⟩,⟨56,176,Hd⟩,⟨57,324,FP⟩,⟨58,326,Hz⟩,⟨59,325,Gq⟩,⟨60,82,JQ⟩,⟨61,60,Hp⟩,⟨62,78,HR⟩,
 ⟨63,327,JS⟩,⟨64,486,EK⟩,⟨65,186,Ju⟩,⟨66,190,Hg⟩,⟨67,191,HH⟩,⟨68,192,FL⟩,⟨69,210,Ep⟩,⟨70,173,Hb⟩,⟨71,193,HG⟩,⟨72,194,FK⟩,⟨73,198,Er⟩,⟨74,429,GJ⟩,⟨75,437,Jw⟩,⟨76,430,GI⟩,⟨77,438,HV⟩,⟨78,79,EQ⟩,⟨79,431,Js⟩,⟨80,187,HF⟩,⟨81,188,FJ⟩,⟨82,545,G3⟩]
theorem z1':∀r ∈ w1',RowOk tab r:=fd' func43<|fd' func44<|fd' func45<|fd' func46<|fd' func47<|fd' func48<|fd' func49<|fd' func50<|fd' func51<|fd' func52<|fd' func53<|fd' func54<|fd' func55<|fd' func56<|fd' func57<|fd' func58<|fd' func59<|fd' func60<|fd' func61<|fd' func62<|
 fd' func63<|fd' func64<|fd' func65<|fd' func66<|fd' func67<|fd' func68<|fd' func69<|fd' func70<|fd' func71<|fd' func72<|fd' func73<|fd' func74<|fd' func75<|fd' func76<|fd' func77<|fd' func78<|fd' func79<|fd' func80<|fd' func81<|fd' func82<|fz'
def w2':List Row:=[⟨83,546,G2⟩,⟨84,109,Hu⟩,⟨85,70,Ht⟩,⟨86,547,G5⟩,⟨87,542,G7⟩,⟨88,145,FD⟩,⟨89,175,FE⟩,⟨90,146,E8⟩,⟨91,148,E7⟩,⟨92,96,I9⟩,⟨93,80,HQ⟩,⟨94,85,EC⟩,⟨95,223,IU⟩,⟨96,224,HP⟩,⟨97,225,Jf⟩,⟨98,207,Iq⟩,⟨99,208,Gn⟩,⟨100,23,GM⟩,⟨101,97,ER⟩,⟨102,480,HN⟩,
 ⟨103,98,Et⟩,⟨104,499,EN⟩,⟨105,160,Ii⟩,⟨106,94,G8⟩,⟨107,500,FQ⟩,⟨109,217,D9⟩,⟨110,218,D8⟩,⟨111,221,JE⟩,⟨112,205,En⟩,⟨113,445,HW⟩,⟨114,442,HU⟩,⟨115,149,ID⟩,⟨116,448,JJ⟩,⟨117,444,Jz⟩,⟨118,446,Jy⟩,⟨119,443,JB⟩,⟨120,447,JC⟩,⟨121,423,GH⟩,⟨122,216,c_round_add⟩,⟨123,549,ED⟩]
theorem z2':∀r ∈ w2',RowOk tab r:=fd' func83<|fd' func84<|fd' func85<|fd' func86<|fd' func87<|fd' func88<|fd' func89<|fd' func90<|fd' func91<|fd' func92<|fd' func93<|fd' func94<|fd' func95<|fd' func96<|fd' func97<|fd' func98<|fd' func99<|fd' func100<|fd' func101<|fd' func102<|
 fd' func103<|fd' func104<|fd' func105<|fd' func106<|fd' func107<|fd' func109<|fd' func110<|fd' func111<|fd' func112<|fd' func113<|fd' func114<|fd' func115<|fd' func116<|fd' func117<|fd' func118<|fd' func119<|fd' func120<|fd' func121<|fd' func122<|fd' func123<|fz'
def w3':List Row:=[⟨124,550,G0⟩,⟨125,551,GZ⟩,⟨126,91,Ge⟩,⟨127,12,GO⟩,⟨128,18,EX⟩,⟨130,553,I8⟩,⟨132,154,E6⟩,⟨133,108,Hw⟩,⟨134,196,Fz⟩,⟨135,197,Gb⟩,⟨136,174,F9⟩,⟨137,202,Ga⟩,⟨138,206,FA⟩,⟨139,93,GT⟩,⟨140,92,Gc⟩,⟨141,57,EZ⟩,⟨142,99,CN⟩,⟨143,100,HS⟩,⟨144,101,F6⟩,⟨145,102,GS⟩,
 ⟨146,103,GQ⟩,⟨147,244,HT⟩,⟨148,245,Eu⟩,⟨149,246,Fp⟩,⟨150,119,JG⟩,⟨151,230,EF⟩,⟨152,63,IG⟩,⟨153,110,CS⟩,⟨154,509,HO⟩,⟨155,510,GF⟩,⟨156,495,Jp⟩,⟨157,481,EM⟩,⟨158,482,D7⟩,⟨159,493,EL⟩,⟨160,504,FR⟩,⟨161,511,F_S⟩,⟨162,512,Jq⟩,⟨164,503,D6⟩,⟨165,494,Jd⟩,⟨166,238,Fm⟩]
theorem z3':∀r ∈ w3',RowOk tab r:=fd' func124<|fd' func125<|fd' func126<|fd' func127<|fd' func128<|fd' func130<|fd' func132<|fd' func133<|fd' func134<|fd' func135<|fd' func136<|fd' func137<|fd' func138<|fd' func139<|fd' func140<|fd' func141<|fd' func142<|fd' func143<|fd' func144<|fd' func145<|
 fd' func146<|fd' func147<|fd' func148<|fd' func149<|fd' func150<|fd' func151<|fd' func152<|fd' func153<|fd' func154<|fd' func155<|fd' func156<|fd' func157<|fd' func158<|fd' func159<|fd' func160<|fd' func161<|fd' func162<|fd' func164<|fd' func165<|fd' func166<|fz'
def w4':List Row:=[⟨167,514,Jv⟩,⟨168,235,FM⟩,⟨169,237,Gp⟩,⟨170,239,EO⟩,⟨171,240,Ik⟩,⟨172,241,Ea⟩,⟨173,199,EE⟩,⟨174,200,D4⟩,⟨175,451,JA⟩,⟨176,141,IM⟩,⟨177,449,JH⟩,⟨178,450,IV⟩,⟨179,222,FN⟩,⟨180,236,c_round_sum⟩,⟨181,555,G1⟩,⟨182,556,Gx⟩,⟨183,557,Iw⟩,⟨184,49,F3⟩,⟨185,54,F2⟩,⟨186,55,Fy⟩,
 ⟨187,56,Fw⟩,⟨188,558,Ho⟩,⟨192,562,IL⟩,⟨193,420,E9⟩,⟨194,414,Fa⟩,⟨195,563,Gz⟩,⟨198,203,FB⟩,⟨199,219,Hn⟩,⟨200,220,Hm⟩,⟨201,226,FY⟩,⟨202,227,HX⟩,⟨203,228,EU⟩,⟨204,229,c_fpref03_Cut⟩,⟨205,111,u6⟩,⟨206,112,Fo⟩,⟨207,261,JP⟩,⟨208,114,Gm⟩,⟨209,115,Gl⟩,⟨210,262,Fu⟩,⟨211,253,Gk⟩]
theorem z4':∀r ∈ w4',RowOk tab r:=fd' func167<|fd' func168<|fd' func169<|fd' func170<|fd' func171<|fd' func172<|fd' func173<|fd' func174<|fd' func175<|fd' func176<|fd' func177<|fd' func178<|fd' func179<|fd' func180<|fd' func181<|fd' func182<|fd' func183<|fd' func184<|fd' func185<|fd' func186<|
 fd' func187<|fd' func188<|fd' func192<|fd' func193<|fd' func194<|fd' func195<|fd' func198<|fd' func199<|fd' func200<|fd' func201<|fd' func202<|fd' func203<|fd' func204<|fd' func205<|fd' func206<|fd' func207<|fd' func208<|fd' func209<|fd' func210<|fd' func211<|fz'
def w5':List Row:=[⟨212,254,c_round_cut⟩,⟨213,113,De⟩,⟨214,507,IT⟩,⟨215,265,EP⟩,⟨216,496,HM⟩,⟨217,257,Fl⟩,⟨218,258,Fq⟩,⟨219,259,Ft⟩,⟨220,255,HI⟩,⟨221,260,Il⟩,⟨222,156,GA⟩,⟨223,164,GD⟩,⟨224,243,D5⟩,⟨225,256,Ed⟩,⟨226,564,Gy⟩,⟨227,84,F4⟩,⟨228,86,F5⟩,⟨229,87,GP⟩,⟨237,436,H8⟩,⟨238,426,Fb⟩,
 ⟨239,159,Hr⟩,⟨240,432,Fd⟩,⟨241,435,Fe⟩,⟨242,433,Fc⟩,⟨243,441,H9⟩,⟨244,434,Ia⟩,⟨245,427,Gf⟩,⟨246,163,E4⟩,⟨247,572,Fg⟩,⟨248,573,Ff⟩,⟨249,161,Hv⟩,⟨250,157,FC⟩,⟨254,185,IZ⟩,⟨255,242,F7⟩,⟨256,247,FZ⟩,⟨257,248,F0⟩,⟨258,249,EB⟩,⟨259,250,EV⟩,⟨260,232,ET⟩,⟨261,251,ES⟩]
theorem z5':∀r ∈ w5',RowOk tab r:=fd' func212<|fd' func213<|fd' func214<|fd' func215<|fd' func216<|fd' func217<|fd' func218<|fd' func219<|fd' func220<|fd' func221<|fd' func222<|fd' func223<|fd' func224<|fd' func225<|fd' func226<|fd' func227<|fd' func228<|fd' func229<|fd' func237<|fd' func238<|
 fd' func239<|fd' func240<|fd' func241<|fd' func242<|fd' func243<|fd' func244<|fd' func245<|fd' func246<|fd' func247<|fd' func248<|fd' func249<|fd' func250<|fd' func254<|fd' func255<|fd' func256<|fd' func257<|fd' func258<|fd' func259<|fd' func260<|fd' func261<|fz'
def w6':List Row:=[⟨262,252,I3⟩,⟨263,116,CO⟩,⟨264,117,JT⟩,⟨265,118,Im⟩,⟨266,264,Fs⟩,⟨267,506,Jr⟩,⟨268,508,Je⟩,⟨269,266,Fv⟩,⟨270,267,HE⟩,⟨271,268,JN⟩,⟨272,269,HD⟩,⟨273,270,CU⟩,⟨274,271,IN⟩,⟨275,165,GE⟩,⟨276,574,Gw⟩,⟨277,575,Gg⟩,⟨278,182,GN⟩,⟨279,166,FG⟩,⟨280,155,H5⟩,⟨281,169,FF⟩,
 ⟨282,484,GX⟩,⟨283,476,Ib⟩,⟨284,472,Id⟩,⟨285,167,E5⟩,⟨289,215,GR⟩,⟨290,263,EW⟩,⟨291,120,JO⟩,⟨292,272,IQ⟩,⟨293,273,IP⟩,⟨294,274,Hl⟩,⟨295,576,Gv⟩,⟨296,577,IJ⟩,⟨297,214,Jg⟩,⟨298,184,IY⟩,⟨299,465,Ic⟩,⟨300,485,GV⟩,⟨301,487,GU⟩,⟨302,488,If⟩,⟨303,578,Iu⟩,⟨305,580,I6⟩]
theorem z6':∀r ∈ w6',RowOk tab r:=fd' func262<|fd' func263<|fd' func264<|fd' func265<|fd' func266<|fd' func267<|fd' func268<|fd' func269<|fd' func270<|fd' func271<|fd' func272<|fd' func273<|fd' func274<|fd' func275<|fd' func276<|fd' func277<|fd' func278<|fd' func279<|fd' func280<|fd' func281<|
 fd' func282<|fd' func283<|fd' func284<|fd' func285<|fd' func289<|fd' func290<|fd' func291<|fd' func292<|fd' func293<|fd' func294<|fd' func295<|fd' func296<|fd' func297<|fd' func298<|fd' func299<|fd' func300<|fd' func301<|fd' func302<|fd' func303<|fd' func305<|fz'
def w7':List Row:=[⟨306,483,Fh⟩,⟨307,498,F1⟩,⟨308,497,GW⟩,⟨309,581,GY⟩,⟨310,582,I5⟩,⟨311,583,II⟩]
theorem z7':∀r ∈ w7',RowOk tab r:=fd' func306<|fd' func307<|fd' func308<|fd' func309<|fd' func310<|fd' func311<|fz'
def rows:List Row:=w0'++w1'++w2'++w3'++w4'++w5'++w6'++w7'
theorem LI:∀r ∈ rows,RowOk tab r:=List.forall_mem_append.2 ⟨List.forall_mem_append.2 ⟨List.forall_mem_append.2 ⟨List.forall_mem_append.2 ⟨List.forall_mem_append.2 ⟨List.forall_mem_append.2 ⟨List.forall_mem_append.2 ⟨z0',z1'⟩,z2'⟩,z3'⟩,z4'⟩,z5'⟩,z6'⟩,z7'⟩
theorem rs : rows.map (fun r=>ku fnList r.gid)=rows.map (fun r=>some r.fn):=by kernel_rfl
theorem PH : ∀r ∈ rows,ku fnList r.gid=some r.fn:=List.map_inj_left.1 rs
theorem PW : tab.P.follows .mixedOrders=true:=by kernel_rfl
theorem Mo : ∀ fid g f, tab.gid fid = some g → prog.fn g = some f → ∃ fn C, tab.P.funcs[fid]? = some fn ∧ fn.name ≠ "runtime.NumGoroutine" ∧ fn.body = some C ∧ cF tab fn.ntmps C = some f.body ∧ gY tab fn.results.toList = some f.results :=
 Q9 (l:=xS) rfl (fns:=fnList) (S:=prog) rfl rows LI (by kernel_rfl) PH
end Go.Abs
namespace Go.Abs
theorem slice_data {H : Type} {enc : TypeId × Value → H} {P : Program} {w : World} {t e : TypeId} (ht : P.underlying t = some (.slice e)) {v : Value} {d : DataW H} {ps : List MemPlace} (hv : v.cells = #[v]) (h : DataW.Trod enc P w 0 (fun _ => true) true t v d ps) :
    ∀ a len cap, v = .slice a len cap → len = 0 ∨ ∃ elems spare, d = .slice elems spare ∧ elems.length = len := by
  intro a len cap hs
  obtain ⟨fuel, h⟩ := h
  rw [hv] at h
  subst hs
  cases fuel with
  | zero => cases h
  | succ fuel =>
    unfold DataW.trod at h
    rw [ht] at h
    simp only at h
    split at h <;> rename_i h1 <;> try (cases h1; done)
    all_goals (try (simp at h1; done))
    · injection h1 with h1; injection h1 with h1 h2 h3
      exact .inl h2
    · rename_i a' len' cap'
      injection h1 with h1; injection h1 with h1 h2 h3
      subst h2
      split at h
      · simp only [Vz, VV] at h
        obtain ⟨elems, h2, rest, h3, h4⟩ := h
        obtain ⟨e1, e2⟩ := Vd h2
        simp at e1
        injection h4 with h4 h5
        exact .inr ⟨_, _, h4.symm, by simp [e1]⟩
      · cases h
    · cases h
end Go.Abs
namespace Go.Proofs.YtblicjipogbhmaaGreatDoor
theorem one_le {H : Type} (d : DataW H) : 1 ≤ Rows.uptoBulk d := by
  cases d with
  | lit l => cases l <;> simp [Rows.uptoBulk]
  | nil => simp [Rows.uptoBulk]
  | ptr d => simp [Rows.uptoBulk]
  | slice elems spare => simp [Rows.uptoBulk]
  | agg parts => simp [Rows.uptoBulk]
  | iface t d => simp [Rows.uptoBulk]
  | map entries => simp [Rows.uptoBulk]
  | held h => simp [Rows.uptoBulk]
theorem length_le {H : Type} (l : List (DataW H)) : l.length ≤ Rows.uptoBulkAll l := by
  induction l with
  | nil => simp [Rows.uptoBulkAll]
  | cons x r ih => have := one_le x; simp only [Rows.uptoBulkAll, List.length_cons]; omega
open Go.ChangeShapes Go.WideShapes Go.ChangeAt Go.RowKit
theorem own : ownKnob Tryz.prog.godebug = none := by kernel_rfl
theorem laidOut : laidOutB Tryz.prog = true := by kernel_rfl
theorem seat : Go.Abs.Seat Go.Abs.tab Go.Abs.prog := ⟨Go.Abs.PW, Go.Abs.Mo, fun _ _ _ _ _ _ h => by cases h⟩
section
variable {H : Type} {enc : TypeId × Value → H} {w : World}
theorem r_u32s : Go.Abs.Rd enc Tryz.prog w Go.Abs.tab.gid 25 (fun v => ∃ l : List Nat, v = Go.Abs.lim l ∧ Go.Abs.Li l ∧ l.length ≤ maxLen) := Go.Abs.W.LB Tryz.underlying25 Tryz.underlying79 (by kernel_rfl)
theorem r_dy : Go.Abs.Rd enc Tryz.prog w Go.Abs.tab.gid 27 (fun v => ∃ d : Go.Abs.W.Dy, v = d.v ∧ d.T) := Go.Abs.W.uC Tryz.underlying27 (by kernel_rfl) Tryz.underlying4 r_u32s Tryz.underlying3 (by kernel_rfl)
theorem r_dys : Go.Abs.Rd enc Tryz.prog w Go.Abs.tab.gid 22 (fun v => ∃ l : List Go.Abs.W.Dy, v = .sl (l.map Go.Abs.W.Dy.v) ∧ (∀ d ∈ l, d.T)) :=
  (Go.Abs.zN (z := 3) Tryz.underlying22 (by kernel_rfl) (by omega) r_dy (by rintro v ⟨n, rfl, _⟩; rfl)).mono fun v => by
    rintro ⟨l, rfl, hl, _⟩
    obtain ⟨m, h1, h2⟩ := Go.Abs.W.s8 (f := Go.Abs.W.Dy.v) (T := Go.Abs.W.Dy.T) (fun v h => h) hl
    exact ⟨m, by rw [h1], h2⟩
theorem r_int : Go.Abs.Rd enc Tryz.prog w Go.Abs.tab.gid 3 (fun v => ∃ n, v = .int .i64 n ∧ IntKind.i64.min ≤ n ∧ n ≤ IntKind.i64.max) := Go.Abs.rZ Tryz.underlying3
end
theorem gTab : Tryz.prog.globalNamed "math/bits.deBruijn32tab" = some 0 := by kernel_rfl
theorem gTabType : (Tryz.prog.globals[0]?).map (·.type) = some 182 := by kernel_rfl
theorem cells182 : Tryz.prog.cellsOf 182 = 32 := by kernel_rfl
theorem cells5 : Tryz.prog.cellsOf 5 = 1 := by kernel_rfl
def nums : List Int := [0, 1, 28, 2, 29, 14, 24, 3, 30, 22, 20, 15, 25, 17, 4, 8, 31, 27, 13, 23, 21, 19, 16, 7, 26, 12, 18, 6, 11, 5, 10, 9]
theorem table {W : World} (h : laidMetH Tryz.prog [("math/bits.deBruijn32tab", Rows.laid_math_bits_deBruijn32tab)] W) : Lib.TabIs Tryz.prog W "math/bits.deBruijn32tab" .u8 nums :=
  Lib.tabIs_of_head (rest := []) gTab gTabType Tryz.underlying182 Tryz.underlying5 cells5 cells182 h
theorem tabs {W : World} (h : laidMetH Tryz.prog [("math/bits.deBruijn32tab", Rows.laid_math_bits_deBruijn32tab)] W) : Go.Abs.Tabs Go.Abs.tab.gid W fun _ => False := by
  intro g cs hg
  have hg' : Go.Abs.l4 Go.Abs.sY g = some cs := hg
  unfold Go.Abs.sY Go.Abs.l4 at hg'
  split at hg'
  · rename_i h0
    subst h0
    have hc : cs = nums.map (fun n => Go.Abs.V.int .u8 n) := by injection hg' with hg'; rw [← hg']; rfl
    subst hc
    have cell : ∀ i (hi : i < nums.length), W.cell? ⟨0, i, none⟩ = some (.int .u8 (nums.getD i 0)) := fun i hi => (table h).cell gTab i hi
    have hb : 0 < W.heap.size := World.block_lt_of_cell? W ⟨0, 0, none⟩ (cell 0 (by decide))
    have get : ∀ (j : Nat) (c : Go.Abs.V), (nums.map (fun n => Go.Abs.V.int .u8 n))[j]? = some c → j < nums.length ∧ c = .int .u8 (nums.getD j 0) := by
      intro j c hj
      rw [List.getElem?_map] at hj
      obtain ⟨a, ha, rfl⟩ := Option.map_eq_some_iff.1 hj
      refine ⟨(List.getElem?_eq_some_iff.1 ha).1, ?_⟩
      rw [List.getD_eq_getElem?_getD, ha]
      rfl
    refine .eptr _ _ (fun j => .int .u8 (nums.getD j 0)) rfl (fun h => h) hb ?_ ?_
    · intro j c hj
      have hl := (get j c hj).1
      have := cell j hl
      simpa using this
    · intro j c hj
      rw [(get j c hj).2]
      exact .int _ _
  · unfold Go.Abs.l4 at hg'
    cases hg'
noncomputable def laidWorld (os : Os) : World :=
  { World.holding Tryz.prog os ⟨#[], #[], []⟩ with heap := (World.holding Tryz.prog os ⟨#[], #[], []⟩).heap.modify 0 fun
      | .cells _ t frozen => .cells (nums.map fun n => .int .u8 n).toArray t frozen
      | o => o }
