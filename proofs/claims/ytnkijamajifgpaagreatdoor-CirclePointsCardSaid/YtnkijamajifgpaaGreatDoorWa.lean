/- Parts of the proof: FpWa, FpWb. -/
import Derived.Test.YtnkijamajifgpaaGreatDoorUc
import Derived.Test.YtnkijamajifgpaaGreatDoorVa
namespace Go.Abs.W
def pwD (n:Int):Dy:=Dy.of false 1 n
theorem q6q:bitL 1=1:=rfl
theorem qals {n:Int} (h1:-16384≤n) (h2:n≤16000):(pwD n).inR=true:=Dy.of_inR (by rw [q6q]; omega) h1 (by rw [q6q]; omega)
theorem qhw {n:Int} (h1:-16384≤n) (h2:n≤16000):(pwD n).Ok:=Dy.of_ok (qals h1 h2)
theorem qov {n:Int} (h1:-16384≤n):(pwD n).val=pw (n+16384).toNat:=by
 unfold pwD
 rw [qrj h1]
 simp only [Bool.false_eq_true,if_false,Nat.one_mul]
 rfl
theorem qqh (n:Int) (h1:-16384≤n) (h2:n≤16000):CQ prog qui [.int .i64 n] (pwD n).v:=by
 have key:CQ prog qwi [.bool false,lim [1],.int .i64 n] (.tup [(pwD n).v,.int .i64 0]):=by
   refine qah rfl fun H=>?_
   have c1:=qrg n
   rw [decide_eq_true (show -32768≤n by omega),decide_eq_true (show n≤32768 by omega)] at c1
   have c2:=Of_cq false [1] n (by simp) (by intro x hx; simp at hx; omega) (by omega) (by omega)
   rw [show natV [1]=1 from rfl,show Dy.of false 1 n=pwD n from rfl] at c2
   have c3:=qx2 (pwD n) (qhw h1 h2).w
   rw [(qhw h1 h2).valid] at c3
   simp only [if_true] at c3
   generalize pwD n=d at *
   simp [lim]
   refine qaa rfl rfl rfl c1 ?_
   simp
   refine qaa rfl rfl rfl c2 ?_
   simp
   refine qaa rfl rfl rfl c3 ?_
   simp [lim]
 refine qah rfl fun H=>?_
 generalize pwD n=d at *
 simp
 refine qar rfl rfl (H1:=_) (vs:=[.bool false,lim [1],.int .i64 n]) (by simp [prep,frzVs,frzV,lim]; rfl) key ?_
 simp [lim]
theorem qee (k:Int) (h1:-4611686018427387904≤k) (h2:k≤4611686018427387904):CQ prog qug [.int .i64 k] (nI k k).v:=by
 refine qah rfl fun H=>?_
 have c:=q9x k h1 h2
 have d:=qvv (nD k)
 rw [show Iv.pt (nD k)=nI k k from rfl] at d
 generalize nI k k=P at *
 generalize nD k=one at *
 simp
 refine qaa rfl rfl rfl c ?_
 simp
 refine qaa rfl rfl rfl d ?_
 simp [lim]
theorem q0k:Iv.whole.mag=Dy.zero:=by
 have a:Dy.zero.abs=Dy.zero:=by unfold Dy.abs; rw [if_neg (fun h=>h.2 rfl)]
 show Dy.zero.abs.hi2 Dy.zero.abs=Dy.zero
 rw [a,qsv]
theorem qafz (x:Iv) (wx:x.W) (g:x.Gd):CQ prog qpw [x.v] x.mag.v:=by
 rcases g with rfl | hk
 · refine qah rfl fun H=>?_
   have c1:=qrw Dy.zero
   have c2:=qm7 Dy.zero Dy.zero Dy.zero_ok Dy.zero_ok
   rw [show Dy.zero.neg'=Dy.zero from by decide] at c1
   rw [q0k]
   rw [qsv] at c2
   have ev:Iv.whole=⟨Dy.zero,Dy.zero,true⟩:=rfl
   rw [ev]
   generalize Dy.zero=z at *
   simp
   refine qaa rfl rfl rfl c1 ?_
   simp
   refine qaa rfl rfl rfl c2 ?_
   simp [lim]
 · exact qadd x wx hk
theorem qai5 {x:Iv} (wx:x.W) (g:x.Gd):x.mag.Ok:=by
 rcases g with rfl | hk
 · rw [q0k]; exact Dy.zero_ok
 · exact q1d wx hk
def qdp (x:Iv) (n:Int):Bool:=decide (x.mag.cmp (pwD n)<0)
theorem q6r (x:Iv) (n:Int) (wx:x.W) (g:x.Gd) (h1:-16384≤n) (h2:n≤16000):CQ prog quh [x.v,.int .i64 n] (.bool (qdp x n)):=by
 refine qah rfl fun H=>?_
 have c1:=qafz x wx g
 have c2:=qqh n h1 h2
 have c3:=qnz x.mag (pwD n) (qai5 wx g) (qhw h1 h2)
 unfold qdp
 generalize x.mag.cmp (pwD n)=c at *
 generalize x.mag=m at *
 generalize pwD n=d at *
 simp
 refine qaa rfl rfl rfl c1 ?_
 simp
 refine qaa rfl rfl rfl c2 ?_
 simp
 refine qaa rfl rfl rfl c3 ?_
 simp
theorem qqr {x:Iv} (w:x.W) (g:x.Gd):x.neg.Gd:=by
 rcases g with rfl | k
 · left; rfl
 · exact .inr (qaaq w ⟨k,Int.le_refl _,Int.le_refl _⟩).k
def rcG (q:Iv) (p:Int):Nat→Nat→Iv→Iv→Iv
 | 0,_,_,s=>s
 | f+1,n,w,s=>if qdp w (-p)=true then s else rcG q p f (n+2) (w.mul q p).neg (s.add ((w.mul q p).neg.div (nI n n) p) p)
def qje (q:Iv) (p:Int):Nat→Iv→Prop
 | 0,w=>qdp w (-p)=true
 | f+1,w=>qdp w (-p)=true∨qje q p f (w.mul q p).neg
def rArc (y:Iv) (p:Int):Iv:=(rcG (y.sq p) p 1000 3 y y).add (qbm (pwD (-p))) p
theorem qgj {d:Dy} (w:d.Ok):(qbm d).W:=⟨(qd5 w).w,w.w⟩
set_option maxHeartbeats 1000000 in
theorem q96 (y:Iv) (p:Int) (wy:y.W) (gy:y.Gd) (h1:8≤p) (h2:p≤10000) (hs:qje (y.sq p) p 1000 y):CQ prog qy7 [y.v,.int .i64 p] (rArc y p).v:=by
 refine qah rfl fun H=>?_
 have cq:=q4n y p wy
 rw [qalo wy] at cq
 have wq:(y.sq p).W:=sq_W
 have eA:rArc y p=(rcG (y.sq p) p 1000 3 y y).add (qbm (pwD (-p))) p:=rfl
 rw [eA]
 generalize y.sq p=q at *
 have ew:IntKind.i64.wrap (-p)=-p:=by rw [wrap_i64]<;>omega
 simp
 refine qaa rfl rfl rfl cq ?_
 simp [qaa5,q3p,qaa6,apart]
 refine qbp (fun f E H'=>∃ (n:Nat) (w s:Iv),(∃ G,H'=H++some ⟨7,[y.v],false,true⟩ :: some ⟨7,[zIv],false,true⟩ :: some ⟨7,[q.v],false,true⟩ :: some ⟨7,[w.v],false,true⟩ :: some ⟨7,[s.v],false,true⟩ :: G) ∧
   E 1=.int .i64 p∧E 4=.ptr (H.length+1) 0 0∧E 5=.ptr (H.length+2) 0 0∧E 6=.ptr (H.length+3) 0 0∧E 7=.ptr (H.length+4) 0 0∧E 8=.int .i64 n∧w.W∧w.Gd∧s.W∧n+2*f=2003∧qje q p f w∧rcG q p f n w s=rcG q p 1000 3 y y) 1000 ?_ ?_
 · exact ⟨3,y,y,⟨[],by simp [zIv,lim]⟩,by simp,by simp,by simp,by simp,by simp,by simp,wy,gy,wy,by omega,hs,rfl⟩
 · rintro f E H' ⟨n,w,s,⟨G,rfl⟩,e1,e4,e5,e6,e7,e8,ww,gw,ws,hf,hst,hg⟩
   have cb:=q6r w (-p) ww gw (by omega) (by omega)
   cases hb:qdp w (-p)
   · obtain ⟨f,rfl⟩:∃ j,f=j+1:=by
       cases f with
       | zero=>unfold qje at hst; rw [hb] at hst; cases hst
       | succ j=>exact ⟨j,rfl⟩
     have hst2:qje q p f (w.mul q p).neg:=by
       unfold qje at hst; rw [hb] at hst
       rcases hst with h | h
       · cases h
       · exact h
     have hg2:rcG q p f (n+2) (w.mul q p).neg (s.add ((w.mul q p).neg.div (nI n n) p) p)=rcG q p 1000 3 y y:=by
       rw [← hg]
       show _=if qdp w (-p)=true then s else _
       rw [hb,if_neg (by decide)]
     rw [hb] at cb
     have wm:(w.mul q p).W:=mul_W
     have c1:=qoa w q p ww wq
     have c2:=qqf (w.mul q p) wm
     have gm:=qqr wm (qagx ww wq (p:=p))
     have wn:(w.mul q p).neg.W:=neg_W wm
     have c3:=qee (n:Int) (by omega) (by omega)
     have wI:(nI (n:Int) (n:Int)).W:=nI_Wk (by omega)
     have c4:=qqg (w.mul q p).neg (nI n n) p wn wI
     have wd:((w.mul q p).neg.div (nI n n) p).W:=div_W
     have c5:=qjq s ((w.mul q p).neg.div (nI n n) p) p ws wd
     have wa:(s.add ((w.mul q p).neg.div (nI n n) p) p).W:=add_W
     have e9:IntKind.i64.wrap ((n:Int)+2)=((n+2:Nat):Int):=by rw [wrap_i64]<;>omega
     generalize s.add ((w.mul q p).neg.div (nI n n) p) p=S at *
     generalize (w.mul q p).neg.div (nI n n) p=D at *
     generalize (w.mul q p).neg=N at *
     generalize w.mul q p=M at *
     generalize nI (n:Int) (n:Int)=I at *
     refine qal ?_
     simp [qgy,e1,e6,ew]
     refine qaa rfl rfl rfl cb ?_
     simp [e1,e5,e6]
     refine qaa rfl rfl rfl c1 ?_
     simp
     refine qaa rfl rfl rfl c2 ?_
     simp [e6,e7,e8]
     refine qaa rfl rfl rfl c3 ?_
     simp [e1]
     refine qaa rfl rfl rfl c4 ?_
     simp [e1]
     refine qaa rfl rfl rfl c5 ?_
     simp [e1,e4,e5,e6,e7,e8]
     exact ⟨f,by omega,n+2,N,S,by simp,by simpa using e9,wn,gm,wa,by omega,hst2,hg2⟩
   · rw [hb] at cb
     have hg2:s=rcG q p 1000 3 y y:=by
       rw [← hg]
       cases f with
       | zero=>rfl
       | succ f=>show _=if qdp w (-p)=true then s else _; rw [hb,if_pos rfl]
     have o:=qhw (n:=-p) (by omega) (by omega)
     have c1:=qqh (-p) (by omega) (by omega)
     have c2:=qv0 (pwD (-p))
     have c3:=qjq s (qbm (pwD (-p))) p ws (qgj o)
     rw [← hg2]
     generalize s.add (qbm (pwD (-p))) p=S at *
     generalize qbm (pwD (-p))=A at *
     generalize pwD (-p)=d at *
     refine qal ?_
     simp [qgy,e1,e6,ew]
     refine qaa rfl rfl rfl cb ?_
     simp [e1,e7,ew]
     refine qaa rfl rfl rfl c1 ?_
     simp
     refine qaa rfl rfl rfl c2 ?_
     simp [e1]
     refine qaa rfl rfl rfl c3 ?_
     simp [e4,zIv,lim]
end Go.Abs.W
namespace Go.Abs.W
theorem qqa {x:Iv} {p:Nat} (wx:x.W) (k:x.known=true) (hp:p≤16384):qdp x (-(p:Int))=true↔x.mag.val<pw (16384-p):=by
 unfold qdp
 rw [decide_eq_true_eq,qjm (q1d wx k) (qhw (by omega) (by omega)),qov (by omega),show (-(p:Int)+16384).toNat=16384-p by omega]
 unfold cmpI
 constructor
 · intro h
   split at h
   · assumption
   · split at h<;>omega
 · intro h; rw [if_pos h]; omega
theorem q92 {q:Iv} {p:Nat} (hp:precB (p:Int)=true) (wq:q.W) (hq:q.Bt (-pw 16380) (pw 16380)):∀ (f k:Nat) (w:Iv),w.W→w.Bt (-pw (16382-4*k)) (pw (16382-4*k))→p≤4*(k+f)+1→k+f≤2000→qje q p f w
 | 0,k,w,ww,hw,hk,hk2=>by
   unfold qje
   have hp2:=precB_iff.1 hp
   rw [qqa ww hw.k (by omega),q3n ww hw.k]
   have h1:=hw.lo; have h2:=hw.hi
   have le:=qat ww hw.k
   have h3:pw (16382-4*k)<pw (16384-p):=by
     have:=pw_le (show (16382-4*k)+1≤16384-p by omega)
     rw [qdb] at this
     have:=qa3 (16382-4*k)
     omega
   omega
 | f+1,k,w,ww,hw,hk,hk2=>by
   unfold qje
   right
   have m:=q1b (c:=pw (16382-4*(k+1))) ww wq hp hw hq (qjs (by omega)) (by
     rw [← qb1,← qb1]; exact pw_le (by omega))
   have n:=qaaq mul_W m
   rw [Int.neg_neg] at n
   exact q92 hp wq hq f (k+1) _ (neg_W mul_W) n (by omega) (by omega)
theorem qxr {x:Iv} {p:Int} {s:Nat→Rat} {n:Nat} (wx:x.W) (hn:n≤1000000) (h:x.Has s):(x.div (nI n n) p).Has (fun i=>s i/(n:Rat)):=by
 obtain ⟨c,h1,h2⟩:=h
 exact ⟨fun i=>c i/(n:Rat),fun i=>qag6 wx (nI_Wk (by omega)) (h1 i) (nI_In (by omega)),(Null.mul h2 (Bnd.const (n:Rat)⁻¹)).congr fun i=>by show _=s i/(n:Rat)-c i/(n:Rat); rw [Rat.div_def,Rat.div_def]; grind⟩
theorem q8n {y:Iv} {p:Int}:Iv.whole.add y p=Iv.whole:=by unfold Iv.add; rw [if_neg (by simp [Iv.known,Iv.whole])]
theorem qacx {x:Iv} {p:Int}:x.add Iv.whole p=Iv.whole:=by
 have:Iv.whole.known=false:=rfl
 unfold Iv.add; rw [this]; simp
theorem qabx {y:Iv} {p:Int}:Iv.whole.div y p=Iv.whole:=by
 have:Iv.whole.known=false:=rfl
 unfold Iv.div; rw [this]; simp
theorem q3o {x:Iv} {s:Nat→Rat} (wx:x.W) (k:x.known=true) (h:x.Has s):LBd s (fun _=>x.mag.rat):=by
 obtain ⟨a,b⟩:=qrf k h
 have mv:=q3n wx k
 have le:=qat wx k
 have u:x.hi.rat≤x.mag.rat:=rat_le.2 (by omega)
 have l:-x.mag.rat≤x.lo.rat:=by
   have h1:x.mag.neg'.rat≤x.lo.rat:=rat_le.2 (by rw [qf8]; omega)
   rwa [qyo] at h1
 intro ε he
 obtain ⟨N,hN⟩:=a ε he
 obtain ⟨M,hM⟩:=b ε he
 refine ⟨max N M,fun n hn=>?_⟩
 have p:=hN n (by omega)
 have q:=hM n (by omega)
 constructor<;>grind
theorem qaae {p:Nat} (hp:p≤16384):(pwD (-(p:Int))).rat*p2 p=1:=by
 have h:=qov (n:=-(p:Int)) (by omega)
 have hs:=qbv
 refine qld (c:=sc) (by grind) ?_
 have e:(pwD (-(p:Int))).rat*p2 p*sc=(pwD (-(p:Int))).rat*sc*p2 p:=by grind
 rw [e,qa8,h,pwq,Rat.one_mul,← qfq]
 exact (congrArg p2 (by omega)).trans (pwq 16384).symm
theorem q5h {p:Nat} (hp:p≤16384):0<(pwD (-(p:Int))).rat:=by
 have h:=qaae hp
 have B:=qde p
 rcases (inferInstance:Decidable (0<(pwD (-(p:Int))).rat)) with h1 | h1
 · exfalso
   have:=mul_nn (show 0≤-(pwD (-(p:Int))).rat by grind) (Rat.le_of_lt B)
   grind
 · exact h1
theorem qrb {d:Dy} {δ:Rat} (h:Bd δ d.rat):(qbm d).In δ:=by
 intro _
 obtain ⟨a,b⟩:=h
 have hs:=Rat.le_of_lt qbv
 show ((d.neg'.val:Int):Rat)≤_∧_≤((d.val:Int):Rat)
 rw [qf8,Rat.intCast_neg,← qa8 d]
 have m1:=mul_nn (show 0≤d.rat-δ by grind) hs
 have m2:=mul_nn (show 0≤d.rat+δ by grind) hs
 constructor<;>grind
theorem q93 {q:Iv} {p:Nat} {z:Nat→Rat} {N:Nat} (wq:q.W) (hp:p≤10000) (hz:∀ n,N≤n→0≤z n∧4*z n≤1) (hq:q.Has (fun n=>z n*z n)):∀ (f j:Nat) (w s:Iv),f+j≤1000→w.W→w.Gd→s.W→s.Gd→(w.known=true∨s=Iv.whole) →
   w.Has (fun n=>sg j*od (z n) j)→s.Has (fun n=>at' (z n) j)→qje q p f w→((rcG q p f (2*j+3) w s).add (qbm (pwD (-(p:Int)))) p).Has (At z)
 | f,j,w,s,hf,ww,gw,ws,gs,hk,hw,hs,hst=>by
   have o:=qhw (n:=-(p:Int)) (by omega) (by omega)
   have fin:qdp w (-(p:Int))=true→(s.add (qbm (pwD (-(p:Int)))) p).Has (At z):=by
     intro hb
     rcases hk with k | rfl
     · have rp:=q5h (p:=p) (by omega)
       have mr:w.mag.rat≤(pwD (-(p:Int))).rat:=by
         refine rat_le.2 ?_
         rw [qov (by omega),show (-(p:Int)+16384).toNat=16384-p by omega]
         exact Int.le_of_lt ((qqa ww k (by omega)).1 hb)
       obtain ⟨M,hM⟩:=q3o ww k hw (pwD (-(p:Int))).rat rp
       have key:(qbm (pwD (-(p:Int)))).Has (fun n=>at' (z n) n-at' (z n) j):=by
         refine Iv.Has.of_ev (max j (max N M)) fun n hn=>qrb ?_
         obtain ⟨z0,z4⟩:=hz n (by omega)
         obtain ⟨i,rfl⟩:=Nat.exists_eq_add_of_le (show j≤n by omega)
         have r:=qacs z0 z4 j i
         have zz:z (j+i)*z (j+i)≤1/16:=by
           have:=qdj (a:=z (j+i)) (b:=1/4) (c:=z (j+i)) (d:=1/4) (by grind) (by grind) (by grind) z0
           grind
         have om:Bd (od (z (j+i)) j) (2*(pwD (-(p:Int))).rat):=by
           obtain ⟨a,b⟩:=hM (j+i) (by omega)
           rcases qyf j with e | e<;>rw [e] at a b<;>constructor<;>grind
         obtain ⟨o1,o2⟩:=om
         have on:=od_nn z0 j
         have e1:od (z (j+i)) (j+1)=od (z (j+i)) j*(z (j+i)*z (j+i)):=rfl
         have m:=mul_nn on (show 0≤1/16-z (j+i)*z (j+i) by grind)
         obtain ⟨r1,r2⟩:=r
         constructor<;>grind
       have a:=qmr (p:=p) ws (qgj o) hs key
       exact a.near (Near.of_eq fun n=>by show at' (z n) n=_; grind)
     · rw [q8n]; exact .whole
   cases f with
   | zero=>exact fin hst
   | succ f =>
     by_cases hb:qdp w (-(p:Int))=true
     · unfold rcG; rw [if_pos hb]; exact fin hb
     · unfold rcG
       rw [if_neg hb]
       have hst2:qje q p f (w.mul q p).neg:=by
         unfold qje at hst
         rcases hst with h | h
         · exact absurd h hb
         · exact h
       have bz:Bnd z:=⟨1,N,fun n hn=>by obtain ⟨a,b⟩:=hz n hn; exact ⟨by grind,by grind⟩⟩
       have bo:Bnd (fun n=>sg j*od (z n) j):=⟨1,N,fun n hn=>by
         obtain ⟨a,b⟩:=hz n hn
         exact sg_Bd ⟨by have:=od_nn a j; grind,by have:=od_le a (show z n≤1 by grind) j; grind⟩ j⟩
       have wm:(w.mul q p).W:=mul_W
       have gm:(w.mul q p).Gd:=qagx ww wq
       have h1:=qqq wm (qtv (p:=p) ww wq hw hq bo (bz.mul bz))
       have h2:(w.mul q p).neg.Has (fun n=>sg (j+1)*od (z n) (j+1)):=h1.near (Near.of_eq fun n=>by simp only [sg,od]; grind)
       have wn:(w.mul q p).neg.W:=neg_W wm
       have gn:=qqr wm gm
       have h3:=qxr (p:=p) (n:=2*j+3) wn (by omega) h2
       have h4:=qmr (p:=p) ws div_W hs h3
       have e3:((2*j+3:Nat):Rat)=((2*(j+1)+1:Nat):Rat):=by rw [show 2*j+3=2*(j+1)+1 by omega]
       have h5:(s.add ((w.mul q p).neg.div (nI ((2*j+3:Nat):Int) ((2*j+3:Nat):Int)) p) p).Has (fun n=>at' (z n) (j+1)):=h4.near (Near.of_eq fun n=>by
         show at' (z n) j+lta (z n) (j+1)=_
         unfold lta lt
         rw [e3,Rat.div_def,Rat.div_def]; grind)
       have hk2:(w.mul q p).neg.known=true∨s.add ((w.mul q p).neg.div (nI ((2*j+3:Nat):Int) ((2*j+3:Nat):Int)) p) p=Iv.whole:=by
         rcases gn with h | h
         · right; rw [h,qabx,qacx]
         · exact .inl h
       have gs2:(s.add ((w.mul q p).neg.div (nI ((2*j+3:Nat):Int) ((2*j+3:Nat):Int)) p) p).Gd:=qacz ws div_W
       rw [show 2*j+3+2=2*(j+1)+3 by omega]
       exact q93 wq hp hz hq f (j+1) _ _ (by omega) wn gn add_W gs2 hk2 h2 h5 hst2
theorem q5f {y:Iv} {p:Nat} {z:Nat→Rat} {N:Nat} (wy:y.W) (ky:y.known=true) (hp:p≤10000) (hz:∀ n,N≤n→0≤z n∧4*z n≤1) (hy:y.Has z) (hs:qje (y.sq p) p 1000 y):(rArc y p).Has (At z):=by
 have bz:Bnd z:=⟨1,N,fun n hn=>by obtain ⟨a,b⟩:=hz n hn; exact ⟨by grind,by grind⟩⟩
 have hq:=qalk (p:=p) wy hy bz
 have e0:∀ z,at' z 0=z:=fun z=>by
   show sg 0*lt z 0=_
   unfold lt; simp only [od,sg]; rw [show ((2*0+1:Nat):Rat)=1 from rfl]; grind
 exact q93 (sq_W (p:=p)) hp hz hq 1000 0 y y (by omega) wy (.inr ky) wy (.inr ky) (.inl ky) (hy.near (Near.of_eq fun n=>by simp only [sg,od]; grind)) (hy.near (Near.of_eq fun n=>by rw [e0])) hs
theorem q5e {y:Iv} {p:Int}:(rArc y p).W:=add_W
def frI (m:Int) (p:Nat):Iv:=(nI 1 1).div (nI m m) p
theorem q55 {m:Nat} {p:Nat} (hm:4≤m) (hm2:m≤1000) (hp:precB (p:Int)=true):(frI m p).Bt (-pw 16382) (pw 16382):=by
 have n1:=nI_Bt (k:=1) (by decide)
 have nm:=nI_Bt (k:=(m:Int)) (by omega)
 have p0:=qa3 16384
 have p2':pw 16384=4*pw 16382:=by rw [show 16384=16382+1+1 from rfl,qdb,qdb]; omega
 rw [Int.one_mul] at n1
 have n1':(nI 1 1).Bt (-pw 16384) (pw 16384):=n1.mono (by omega) (by omega)
 have w1:(nI 1 1).W:=nI_Wk (by decide)
 have wm:(nI (m:Int) (m:Int)).W:=nI_Wk (by omega)
 refine q6h (m:=(m:Int)*pw 16384) w1 wm hp n1' nm (Int.mul_pos (by omega) p0) (qjs (by omega)) (Int.le_of_lt (qa3 _)) ?_
 have h4:4*pw 16384≤(m:Int)*pw 16384:=Int.mul_le_mul_of_nonneg_right (by omega) (Int.le_of_lt p0)
 have h5:pw 16382*(4*pw 16384)≤pw 16382*((m:Int)*pw 16384):=Int.mul_le_mul_of_nonneg_left h4 (Int.le_of_lt (qa3 _))
 have h6:pw 16384*pw 16384=pw 16382*(4*pw 16384):=by
   rw [Int.mul_left_comm,← Int.mul_assoc,← p2']
 omega
theorem qag2 {m p:Nat} (hm:m≤1000):(frI m p).In (1/(m:Rat)):=qag6 (p:=(p:Int)) (nI_Wk (k:=1) (by decide)) (nI_Wk (k:=(m:Int)) (by omega)) qalx (nI_In (by omega))
theorem qad5 {y:Iv} {p:Nat} (wy:y.W) (hp:precB (p:Int)=true) (h:y.Bt (-pw 16382) (pw 16382)):(y.sq p).Bt (-pw 16380) (pw 16380) :=
 sq_up wy hp h (qjs (by omega)) (by rw [← qb1,← qb1]; exact pw_le (by omega))
theorem qn4 {y:Iv} {p:Nat} (wy:y.W) (hp:precB (p:Int)=true) (h:y.Bt (-pw 16382) (pw 16382)):qje (y.sq p) p 1000 y:=by
 have h2:=precB_iff.1 hp
 exact q92 hp sq_W (qad5 wy hp h) 1000 0 y wy h (by omega) (by omega)
def rPi (p:Nat):Iv:=((nI 16 16).mul (rArc (frI 5 (p+20)) (p+20:Nat)) (p+20:Nat)).add ((nI 4 4).mul (rArc (frI 239 (p+20)) (p+20:Nat)) (p+20:Nat)).neg (p+20:Nat)
theorem rPi_W {p:Nat}:(rPi p).W:=add_W
theorem qaim {p:Nat} (h1:8≤p) (h2:p≤492):(rPi p).Has pis:=by
 have hp:precB ((p+20:Nat):Int)=true:=precB_iff.2 (by omega)
 have w5:(frI 5 (p+20)).W:=div_W
 have w239:(frI 239 (p+20)).W:=div_W
 have b5:=q55 (m:=5) (p:=p+20) (by omega) (by omega) hp
 have b239:=q55 (m:=239) (p:=p+20) (by omega) (by omega) hp
 have a5:=q5f (p:=p+20) (z:=fun _=>1/5) (N:=0) w5 b5.k (by omega) (fun _ _=>⟨by grind,by grind⟩) (qag2 (m:=5) (p:=p+20) (by omega)).has (qn4 w5 hp b5)
 have a239:=q5f (p:=p+20) (z:=fun _=>1/239) (N:=0) w239 b239.k (by omega) (fun _ _=>⟨by grind,by grind⟩) (qag2 (m:=239) (p:=p+20) (by omega)).has (qn4 w239 hp b239)
 have bA:∀ c:Rat,0≤c→4*c≤1→Bnd (At fun _=>c):=fun c c0 c4=>qadl (N:=0) fun _ _=>⟨by grind,by grind⟩
 have m1:=qtv (p:=(p+20:Nat)) (nI_Wk (k:=16) (by decide)) q5e (qtu 16).has a5 (Bnd.const _) (bA _ (by grind) (by grind))
 have m2:=qtv (p:=(p+20:Nat)) (nI_Wk (k:=4) (by decide)) q5e (qtu 4).has a239 (Bnd.const _) (bA _ (by grind) (by grind))
 have s:=q82 (p:=(p+20:Nat)) mul_W mul_W m1 m2
 refine s.near (Near.of_eq fun n=>?_)
 show 2*(2*(4*at' (1/5) n-at' (1/239) n))=16*at' (1/5) n-4*at' (1/239) n
 grind
theorem q7q (p:Nat) (h1:8≤p) (h2:p≤492):CQ prog qmw [.int .i64 p] (rPi p).v:=by
 refine qah rfl fun H=>?_
 have hp:precB ((p+20:Nat):Int)=true:=precB_iff.2 (by omega)
 have ew:IntKind.i64.wrap ((p:Int)+20)=((p+20:Nat):Int):=by rw [wrap_i64]<;>omega
 have i1:=qee 1 (by omega) (by omega)
 have i5:=qee 5 (by omega) (by omega)
 have i239:=qee 239 (by omega) (by omega)
 have i16:=qee 16 (by omega) (by omega)
 have i4:=qee 4 (by omega) (by omega)
 have w1:(nI 1 1).W:=nI_Wk (by decide)
 have w5:(nI 5 5).W:=nI_Wk (by decide)
 have w239:(nI 239 239).W:=nI_Wk (by decide)
 have w16:(nI 16 16).W:=nI_Wk (by decide)
 have w4:(nI 4 4).W:=nI_Wk (by decide)
 have d5:=qqg (nI 1 1) (nI 5 5) (p+20:Nat) w1 w5
 have d239:=qqg (nI 1 1) (nI 239 239) (p+20:Nat) w1 w239
 have b5:=q55 (m:=5) (p:=p+20) (by omega) (by omega) hp
 have b239:=q55 (m:=239) (p:=p+20) (by omega) (by omega) hp
 have f5:(frI 5 (p+20)).W:=div_W
 have f239:(frI 239 (p+20)).W:=div_W
 have a5:=q96 (frI 5 (p+20)) (p+20:Nat) f5 (.inr b5.k) (by omega) (by omega) (qn4 f5 hp b5)
 have a239:=q96 (frI 239 (p+20)) (p+20:Nat) f239 (.inr b239.k) (by omega) (by omega) (qn4 f239 hp b239)
 have m16:=qoa (nI 16 16) (rArc (frI 5 (p+20)) (p+20:Nat)) (p+20:Nat) w16 q5e
 have m4:=qoa (nI 4 4) (rArc (frI 239 (p+20)) (p+20:Nat)) (p+20:Nat) w4 q5e
 have s:=q61 ((nI 16 16).mul (rArc (frI 5 (p+20)) (p+20:Nat)) (p+20:Nat)) ((nI 4 4).mul (rArc (frI 239 (p+20)) (p+20:Nat)) (p+20:Nat)) (p+20:Nat) mul_W mul_W
 have e:rPi p=((nI 16 16).mul (rArc (frI 5 (p+20)) (p+20:Nat)) (p+20:Nat)).add ((nI 4 4).mul (rArc (frI 239 (p+20)) (p+20:Nat)) (p+20:Nat)).neg (p+20:Nat):=rfl
 rw [e]
 have e5:(nI 1 1).div (nI 5 5) (p+20:Nat)=frI 5 (p+20):=rfl
 have e239:(nI 1 1).div (nI 239 239) (p+20:Nat)=frI 239 (p+20):=rfl
 rw [e5] at d5
 rw [e239] at d239
 clear b5 b239 f5 f239 e e5 e239
 generalize ((nI 16 16).mul (rArc (frI 5 (p+20)) (p+20:Nat)) (p+20:Nat)).add ((nI 4 4).mul (rArc (frI 239 (p+20)) (p+20:Nat)) (p+20:Nat)).neg (p+20:Nat)=R at *
 generalize (nI 16 16).mul (rArc (frI 5 (p+20)) (p+20:Nat)) (p+20:Nat)=M1 at *
 generalize (nI 4 4).mul (rArc (frI 239 (p+20)) (p+20:Nat)) (p+20:Nat)=M2 at *
 generalize rArc (frI 5 (p+20)) (p+20:Nat)=A1 at *
 generalize rArc (frI 239 (p+20)) (p+20:Nat)=A2 at *
 generalize frI 5 (p+20)=F1 at *
 generalize frI 239 (p+20)=F2 at *
 generalize nI 1 1=N1 at *
 generalize nI 5 5=N5 at *
 generalize nI 239 239=N239 at *
 generalize nI 16 16=N16 at *
 generalize nI 4 4=N4 at *
 obtain ⟨w,hw⟩:∃ w,w=p+20:=⟨_,rfl⟩
 rw [← hw] at *
 simp [ew]
 refine qaa rfl rfl rfl i1 ?_
 simp
 refine qaa rfl rfl rfl i5 ?_
 simp
 refine qaa rfl rfl rfl d5 ?_
 simp
 refine qaa rfl rfl rfl a5 ?_
 simp
 refine qaa rfl rfl rfl i1 ?_
 simp
 refine qaa rfl rfl rfl i239 ?_
 simp
 refine qaa rfl rfl rfl d239 ?_
 simp
 refine qaa rfl rfl rfl a239 ?_
 simp
 refine qaa rfl rfl rfl i16 ?_
 simp
 refine qaa rfl rfl rfl m16 ?_
 simp
 refine qaa rfl rfl rfl i4 ?_
 simp
 refine qaa rfl rfl rfl m4 ?_
 simp
 refine qaa rfl rfl rfl s ?_
 simp [lim]
end Go.Abs.W
