/- Parts of the proof: FpR03, FpR03b, FpIvA, FpIvB, FpIvC, FpIvD, FpIvE, FpIvF. -/
import Derived.Test.YtnkijamajifgpaaGreatDoorFh
import Derived.Test.YtnkijamajifgpaaGreatDoorFg
import Derived.Test.YtnkijamajifgpaaGreatDoorFg
import Derived.Test.YtnkijamajifgpaaGreatDoorFe
namespace Go.Abs.W
theorem qafx (p:Int):CQ prog qwe [.int .i64 p] (.bool (precB p)):=by
 refine qah rfl fun H=>?_
 simp [precB]
 grind
theorem qvt (a b:Dy) (p:Int) (wa:a.W) (wb:b.W):CQ prog quq [a.v,b.v,.int .i64 p] (.int .i64 (qci [a,b] p)):=by
 refine qah rfl fun H=>?_
 simp
 refine qaa rfl rfl rfl (qi9 a wa) ?_
 cases ha:a.valid
 · simp [qci,ha]
 · simp
   refine qaa rfl rfl rfl (qi9 b wb) ?_
   cases hb:b.valid
   · simp [qci,ha,hb]
   · simp
     refine qaa rfl rfl rfl (qafx p) ?_
     cases hp:precB p<;>simp [qci,ha,hb,hp]
theorem qpl {q b:Nat} (h:bitL q≤b):(qae q).length≤b/32+1 :=
 qdt (Nat.lt_of_lt_of_le (qbf q) (Nat.pow_le_pow_right (by omega) h)) (by omega)
theorem q3u (neg:Bool) (p:Nat) (hp:p≤512):CQ prog qpz [.bool neg,.int .i64 p] (Dy.of neg (2^p-1) (16384-p)).v:=by
 refine qah rfl fun H=>?_
 have l1:Li [1]:=by intro x hx; simp at hx; omega
 have v1:natV [1]=1:=rfl
 have h2p:1≤2^p:=Nat.one_le_two_pow
 have hpl:(qae (2^p)).length≤1000:=qdt (B:=p+1) (Nat.pow_lt_pow_right (by omega) (by omega)) (by omega)
 have hp1:1≤(qae (2^p)).length:=List.length_pos_iff.2 (qcq (by omega))
 have sc:=q4m [1] p (by simp) l1 (by omega)
 rw [v1,Nat.one_mul] at sc
 have dc:=qakg (qae (2^p)) [1] (by omega) (by simpa using hp1) (qag _) l1 (by rw [qac,v1]; exact h2p)
 rw [qac,v1] at dc
 have hl2:(qae (2^p-1)).length≤1000:=qbj (Nat.sub_le _ _) hpl
 have e2:IntKind.i64.wrap (16384-(p:Int))=16384-(p:Int):=by rw [wrap_i64]<;>omega
 have oc:=Of_cq neg (qae (2^p-1)) (16384-p) (by omega) (qag _) (by omega) (by omega)
 rw [qac] at oc
 simp
 refine qar (args:=[.ref (H.length+1) 1 0 1,.int .i64 p]) (vs:=[lim [1],.int .i64 p]) (H1:=H++[some ⟨3,[.agg [.bool false,.nil,.int .i64 0]],false,true⟩,some ⟨1,[.int .u32 1],true,false⟩]) rfl (by simp) (by refine Eq.trans (b:=frzVs _ _) rfl ?_; simp [frzVs,frzV,qbr,lim,u32]) sc ?_
 simp
 refine qar (args:=[lim (qae (2^p)),.ref (H.length+2) 1 0 1]) (vs:=[lim (qae (2^p)),lim [1]]) (H1:=H++[some ⟨3,[.agg [.bool false,.nil,.int .i64 0]],false,true⟩,some ⟨1,[.int .u32 1],true,false⟩,some ⟨1,[.int .u32 1],true,false⟩]) rfl (by simp) (by refine Eq.trans (b:=frzVs _ _) rfl ?_; simp [frzVs,frzV,qbr,lim,u32]) dc ?_
 simp [e2]
 refine qaa rfl rfl rfl oc ?_
 simp [lim]
def cutX (neg out:Bool) (Q:Nat) (e:Int) (k p:Nat):Dy × Int :=
 if Q≠0∧(16384:Int)<bitL Q+(e+k) then (if out then (Dy.zero,9) else (Dy.of neg (2^p-1) (16384-p),0)) else (Dy.of neg Q (e+k),0)
set_option maxHeartbeats 1000000 in
theorem qw4 {H:Heap} {E:Env} (G:Heap) (neg out:Bool) (Q:Nat) (e:Int) (k p:Nat) (hp:p≤512) (hQ:bitL Q≤600000) (hk:k≤600000) (he1:-400000≤e) (he2:e≤400000)
   (h0:E 0=.bool neg) (h2:E 2=.int .i64 e) (h4:E 4=.int .i64 p) (h12:E 12=.ptr H.length 0 0) (_h13:E 13=.int .i64 0) (h15:E 15=.int .i64 k) (h16:E 16=lim (qae Q)) (h17:E 17=.bool out) :
   WC prog H.length (qa1 8 c_fpref03_Cut.body) E (H++some ⟨3,[.agg [.bool false,.nil,.int .i64 0]],false,true⟩ :: G) (fun x E1 H1=>(x=.normal∨x=.ret)∧∃ v0,resV E1 H1 [.cell 12 true 3,.tmp 13]=some v0 ∧
     fin false H.length H1 v0=some (.tup [(cutX neg out Q e k p).1.v,.int .i64 (cutX neg out Q e k p).2],H)):=by
 have hl:=qpl hQ
 have bc:=qob (qae Q) (by omega) (qag Q)
 rw [qac] at bc
 have w3:IntKind.i64.wrap (e+(k:Int))=e+k:=by rw [wrap_i64]<;>omega
 refine qmu ?_
 simp [qa1,h16]
 refine qaa rfl rfl rfl bc ?_
 by_cases hq0:Q=0
 · subst hq0
   have oc:=Of_cq neg (qae 0) (e+k) (by rw [qa9]; simp) (qag _) (by omega) (by omega)
   rw [qac] at oc
   simp [qbn,h0,h2,h15,h16,w3]
   refine qaa rfl rfl rfl oc ?_
   simp [h12,cutX,lim]
 · have hbp:=(qa7 hq0).2.2
   obtain ⟨B,hB⟩:∃ B,B=bitL Q:=⟨_,rfl⟩
   rw [← hB] at bc hQ hbp ⊢
   have w1:IntKind.i64.wrap ((B:Int)+e)=B+e:=by rw [wrap_i64]<;>omega
   have w2:IntKind.i64.wrap ((B:Int)+e+k)=B+e+k:=by rw [wrap_i64]<;>omega
   simp [hbp,h16]
   refine qaa rfl rfl rfl bc ?_
   by_cases hov:(16384:Int)<B+e+k
   · have hov':(16384:Int)<B+(e+k):=by omega
     cases out
     · have gc:=q3u neg p hp
       simp [h0,h2,h4,h15,h17,w1,w2,hov]
       refine qaa rfl rfl rfl gc ?_
       simp [h12,cutX,hq0,← hB,hov',lim]
     · simp [h2,h12,h15,h17,w1,w2,hov,cutX,hq0,← hB,hov',Dy.zero,lim]
   · have hov':¬ (16384:Int)<B+(e+k):=by omega
     have oc:=Of_cq neg (qae Q) (e+k) (by omega) (qag _) (by omega) (by omega)
     rw [qac] at oc
     simp [h0,h2,h15,h16,w1,w2,w3,hov]
     refine qaa rfl rfl rfl oc ?_
     simp [h12,cutX,hq0,← hB,hov',lim]
theorem qab5 {neg:Bool} {m:Nat} {e:Int} {more:Bool} {p:Nat} {up:Bool}:cutX neg (neg != up) (cutQ m e more p (neg != up)) e (cutK m e p) p=cutR neg m e more p up:=rfl
set_option maxHeartbeats 2000000 in
theorem q63 (neg:Bool) (m:List Nat) (e:Int) (more:Bool) (p:Nat) (up:Bool) (hm:m.length≤10000) (lm:Li m) (he1:-100000≤e) (he2:e≤100000) (hp:p≤512) :
   CQ prog qzd [.bool neg,lim m,.int .i64 e,.bool more,.int .i64 p,.bool up] (.tup [(cutR neg (natV m) e more p up).1.v,.int .i64 (cutR neg (natV m) e more p up).2]):=by
 refine CQ_of rfl fun H=>?_
 have hlen:=limbsOf_len.2 (qan lm)
 have hA:=qan lm
 rw [pow32] at hA
 have hbit:=qa5 hA
 obtain ⟨M,hM⟩:∃ M,M=natV m:=⟨_,rfl⟩
 rw [← hM] at hlen hbit ⊢
 have bc:=qob (qae M) (by omega) (qag _)
 rw [qac] at bc
 have w1:IntKind.i64.wrap ((bitL M:Int)-p)=bitL M-p:=by rw [wrap_i64]<;>omega
 have w2:IntKind.i64.wrap (-16384-e)=-16384-e:=by rw [wrap_i64]<;>omega
 have hmax:(if (if (bitL M:Int)-p < -16384-e then -16384-e else (bitL M:Int)-p)<0 then 0 else if (bitL M:Int)-p < -16384-e then -16384-e else (bitL M:Int)-p)=(cutK M e p:Int):=by
   unfold cutK; split<;>split<;>omega
 have hkb:cutK M e p≤500000:=by unfold cutK; omega
 have hres:=qab5 (neg:=neg) (m:=M) (e:=e) (more:=more) (p:=p) (up:=up)
 rw [← hres]
 have hQb:bitL (cutQ M e more p (neg != up))≤600:=Nat.le_trans qvh (by omega)
 have hcq:∀ o,cutQ M e more p o=M/2^cutK M e p+(if (more || decide (M%2^cutK M e p≠0))&&o then 1 else 0):=fun _=>rfl
 obtain ⟨k,hk⟩:∃ k,k=cutK M e p:=⟨_,rfl⟩
 rw [← hk] at hmax hkb hcq ⊢
 have sc:=qaki (qae M) k (by omega) (qag _) (by omega)
 rw [qac] at sc
 have hql:(qae (M/2^k)).length≤20000:=Nat.le_trans (qbj (Nat.div_le_self _ _) hlen) (by omega)
 have tail6:∀ (E:Env) (lost:Bool),lost=(more || decide (M%2^k≠0))→E 0=.bool neg→E 2=.int .i64 e→E 3=.bool lost→E 4=.int .i64 p→E 5=.bool up→E 12=.ptr H.length 0 0→E 13=.int .i64 0→E 15=.int .i64 k→E 16=lim (qae (M/2^k)) →
     WC prog H.length (qa1 6 c_fpref03_Cut.body) E (H++[some ⟨3,[.agg [.bool false,.nil,.int .i64 0]],false,true⟩]) (fun x E1 H1=>(x=.normal∨x=.ret)∧∃ v0,resV E1 H1 [.cell 12 true 3,.tmp 13]=some v0 ∧
       fin false H.length H1 v0=some (.tup [(cutX neg (neg != up) (cutQ M e more p (neg != up)) e k p).1.v,.int .i64 (cutX neg (neg != up) (cutQ M e more p (neg != up)) e k p).2],H)):=by
   intro E lost hlost h0 h2 h3 h4 h5 h12 h13 h15 h16
   rw [← hlost] at hcq
   refine qcv (b:=qa1 7 c_fpref03_Cut.body) ?_
   refine qal ?_
   simp [h0,h5]
   refine qcv (b:=qa1 8 c_fpref03_Cut.body) ?_
   refine qal ?_
   have hout:(!(neg == up))=(neg != up):=by cases neg<;>cases up<;>rfl
   by_cases hb:lost=true∧(neg != up)=true
   · obtain ⟨rfl,ho⟩:=hb
     have l1:Li [1]:=by intro x hx; simp at hx; omega
     have v1:natV [1]=1:=rfl
     have ac:=qakv (qae (M/2^k)) [1] (by omega) (by simp) (qag _) l1
     have hq1:cutQ M e more p (neg != up)=M/2^k+1:=by rw [hcq,ho]; simp
     rw [qac,v1,← hq1] at ac
     have ho2:(neg == up)=false:=by cases neg<;>cases up<;>simp at ho ⊢
     simp [h3,ho2,h16]
     refine qar (args:=[lim (qae (M/2^k)),.ref (H.length+1) 1 0 1]) (vs:=[lim (qae (M/2^k)),lim [1]]) (H1:=H++some ⟨3,[.agg [.bool false,.nil,.int .i64 0]],false,true⟩ :: [some ⟨1,[.int .u32 1],true,false⟩]) rfl ?_ ?_ ac ?_
     · simp
     · refine Eq.trans (b:=frzVs _ _) rfl ?_; simp [frzVs,frzV,qbr,lim,u32]
     simp
     exact qbq (qw4 [some ⟨1,[.int .u32 1],true,false⟩] neg (neg != up) (cutQ M e more p (neg != up)) e k p hp (by omega) (by omega) (by omega) (by omega) (by simp [h0]) (by simp [h2]) (by simp [h4]) (by simp [h12]) (by simp [h13]) (by simp [h15]) (by simp) (by rw [ho]; simp)) (fun x E1 H1 h=>by simpa using h)
   · have hq0:cutQ M e more p (neg != up)=M/2^k:=by
       rw [hcq]
       cases lost<;>cases h:(neg != up)<;>simp [h] at hb ⊢
     have ct:=fun (E:Env) h0 h2 h4 h12 h13 h15 h16 h17=>qw4 (H:=H) (E:=E) [] neg (neg != up) (cutQ M e more p (neg != up)) e k p hp (by omega) (by omega) (by omega) (by omega) h0 h2 h4 h12 h13 h15 h16 h17
     cases lost
     · simp [h3]
       exact qbq (ct _ (by simp [h0]) (by simp [h2]) (by simp [h4]) (by simp [h12]) (by simp [h13]) (by simp [h15]) (by simp [h16,hq0]) (by simp [hout])) (fun x E1 H1 h=>by simpa using h)
     · have ho2:(neg == up)=true:=by cases neg<;>cases up<;>simp at hb ⊢
       simp [h3,ho2]
       exact qbq (ct _ (by simp [h0]) (by simp [h2]) (by simp [h4]) (by simp [h12]) (by simp [h13]) (by simp [h15]) (by simp [h16,hq0]) (by rw [← hout,ho2]; simp)) (fun x E1 H1 h=>by simpa using h)
 refine qcv (b:=qa1 1 c_fpref03_Cut.body) ?_
 refine qal ?_
 simp
 refine qcv (b:=qa1 2 c_fpref03_Cut.body) ?_
 refine qal ?_
 simp
 refine qaa rfl rfl rfl (qhp m (by omega)) ?_
 rw [qak lm,← hM]
 simp
 refine qcv (b:=qa1 3 c_fpref03_Cut.body) ?_
 refine qal ?_
 simp
 refine qaa rfl rfl rfl bc ?_
 simp
 refine qcv (b:=qa1 4 c_fpref03_Cut.body) ?_
 refine qal ?_
 simp [w1,w2,hmax]
 refine qcv (b:=qa1 5 c_fpref03_Cut.body) ?_
 refine qal ?_
 simp
 refine qaa rfl rfl rfl sc ?_
 simp
 refine qcv (b:=qa1 6 c_fpref03_Cut.body) ?_
 refine qal ?_
 by_cases hk0:k=0
 · subst hk0
   simp
   exact qbq (tail6 _ more (by simp [Nat.mod_one]) (by simp) (by simp) (by simp) (by simp) (by simp) (by simp) (by simp) (by simp) (by simp)) (fun x E1 H1 h=>by simpa using h)
 · have hkp:0<k:=by omega
   have hle:M/2^k*2^k≤M:=Nat.div_mul_le_self _ _
   have lc:=q4m (qae (M/2^k)) k (by omega) (qag _) (by omega)
   rw [qac] at lc
   have hl2:(qae (M/2^k*2^k)).length≤20000:=Nat.le_trans (qbj hle hlen) (by omega)
   have cc:=qaks (qae (M/2^k*2^k)) (qae M) (qag _) (qag _) (by omega) (by omega)
   rw [qac,qac] at cc
   have hne:cmpN (M/2^k*2^k) M=0↔M%2^k=0:=by
     rw [qaju]
     have:=Nat.div_add_mod' M (2^k)
     omega
   simp [hkp]
   refine qaa rfl rfl rfl lc ?_
   simp
   refine qaa rfl rfl rfl cc ?_
   by_cases hz:M%2^k=0
   · simp [hne,hz]
     exact qbq (tail6 _ more (by simp [hz]) (by simp) (by simp) (by simp) (by simp) (by simp) (by simp) (by simp) (by simp) (by simp)) (fun x E1 H1 h=>by simpa using h)
   · simp [hne,hz]
     exact qbq (tail6 _ true (by simp [hz]) (by simp) (by simp) (by simp) (by simp) (by simp) (by simp) (by simp) (by simp) (by simp)) (fun x E1 H1 h=>by simpa using h)
end Go.Abs.W
namespace Go.Abs.W
theorem q6d (d:Dy) (p:Nat) (up:Bool) (hm:d.m.length≤10000) (lm:Li d.m) (he1:-100000≤d.e) (he2:d.e≤100000) (hp:p≤512) :
   CQ prog qur [d.v,.int .i64 p,.bool up] (.tup [(cutR d.neg (natV d.m) d.e false p up).1.v,.int .i64 (cutR d.neg (natV d.m) d.e false p up).2]):=by
 refine qah rfl fun H=>?_
 simp
 refine qaa rfl rfl rfl (q63 d.neg d.m d.e false p up hm lm he1 he2 hp) ?_
 simp [lim]
theorem qym {neg:Bool} {N:Nat} {e:Int} {b:Nat} (hb:bitL N≤b) (he1:-60000≤e) (he2:e≤60000) (hbb:b≤40000) :
   (Dy.of neg N e).m.length≤10000∧Li (Dy.of neg N e).m∧-100000≤(Dy.of neg N e).e∧(Dy.of neg N e).e≤100000:=by
 by_cases h:N=0
 · subst h
   have:Dy.of neg 0 e=⟨false,[],0⟩:=by simp [Dy.of]
   rw [this]
   exact ⟨by simp,by intro x hx; simp at hx,by simp,by simp⟩
 · have hd:Dy.of neg N e=⟨neg,qae (N/2^tz N),e+tz N⟩:=by simp [Dy.of,h]
   rw [hd]
   have h1:=qacm h
   have h2:=qpl (q:=N/2^tz N) (b:=b) (by omega)
   exact ⟨by simp only; omega,qag _,by simp only; omega,by simp only; omega⟩
theorem Dy.Ok.size {d:Dy} (h:d.Ok):d.m.length≤10000∧Li d.m∧-100000≤d.e∧d.e≤100000:=by
 have h1:=h.elo; have h2:=h.ehi; have h3:=h.len
 exact ⟨by omega,h.li,by omega,by omega⟩
theorem qadu {a b:Dy} (oa:a.Ok) (ob:b.Ok):(a.sum b).m.length≤10000∧Li (a.sum b).m∧-100000≤(a.sum b).e∧(a.sum b).e≤100000:=by
 unfold Dy.sum
 by_cases na:a.m=[]
 · rw [if_pos na]; exact ob.size
 · by_cases nb:b.m=[]
   · rw [if_neg na,if_pos nb]; exact oa.size
   · rw [if_neg na,if_neg nb]
     have e1:=oa.elo; have e2:=oa.ehi; have e3:=ob.elo; have e4:=ob.ehi
     have ba:=oa.bits; have bb:=ob.bits
     obtain ⟨e,he⟩:∃ e,e=min a.e b.e:=⟨_,rfl⟩
     simp only [← he]
     obtain ⟨B,hB⟩:∃ B,B=37000:=⟨_,rfl⟩
     have hX:bitL (sumX a e)≤B:=by
       refine qa5 ?_
       unfold sumX
       refine Nat.lt_of_lt_of_le (Nat.mul_lt_mul_of_pos_right (qbf _) (Nat.two_pow_pos _)) ?_
       rw [← Nat.pow_add]
       exact Nat.pow_le_pow_right (by omega) (by omega)
     have hY:bitL (sumX b e)≤B:=by
       refine qa5 ?_
       unfold sumX
       refine Nat.lt_of_lt_of_le (Nat.mul_lt_mul_of_pos_right (qbf _) (Nat.two_pow_pos _)) ?_
       rw [← Nat.pow_add]
       exact Nat.pow_le_pow_right (by omega) (by omega)
     have hXY:bitL (sumX a e+sumX b e)≤B+1:=by
       refine qa5 ?_
       have h1:sumX a e<2^B:=Nat.lt_of_lt_of_le (qbf _) (Nat.pow_le_pow_right (by omega) hX)
       have h2:sumX b e<2^B:=Nat.lt_of_lt_of_le (qbf _) (Nat.pow_le_pow_right (by omega) hY)
       rw [Nat.pow_succ]
       omega
     split
     · exact qym hXY (by omega) (by omega) (by omega)
     · split
       · exact qym (Nat.le_trans (qaq (Nat.sub_le _ _)) hX) (by omega) (by omega) (by omega)
       · exact qym (Nat.le_trans (qaq (Nat.sub_le _ _)) hY) (by omega) (by omega) (by omega)
theorem q65 (a b:Dy) (p:Int) (up:Bool) (wa:a.W) (wb:b.W):CQ prog qze [a.v,b.v,.int .i64 p,.bool up] (.tup [(rAdd a b p up).1.v,.int .i64 (rAdd a b p up).2]):=by
 refine qah rfl fun H=>?_
 have fc:=qvt a b p wa wb
 simp
 refine qaa rfl rfl rfl fc ?_
 by_cases hf:qci [a,b] p=0
 · obtain ⟨hv,hp8,hp5⟩:=qdu hf
   have oa:=Dy.Ok.of wa.li (hv a (by simp))
   have ob:=Dy.Ok.of wb.li (hv b (by simp))
   obtain ⟨P,rfl⟩:∃ P:Nat,p=P:=⟨p.toNat,by omega⟩
   obtain ⟨s1,s2,s3,s4⟩:=qadu oa ob
   have xc:=q6d (a.sum b) P up s1 s2 s3 s4 (by omega)
   simp [hf]
   refine qaa rfl rfl rfl (qac8 a b oa.toM ob.toM) ?_
   simp
   refine qaa rfl rfl rfl xc ?_
   simp [rAdd,hf,lim]
 · simp [hf,rAdd,Dy.zero,lim]
theorem q60 (a b:Dy) (p:Int) (up:Bool) (wa:a.W) (wb:b.W):CQ prog qzb [a.v,b.v,.int .i64 p,.bool up] (.tup [(rMul a b p up).1.v,.int .i64 (rMul a b p up).2]):=by
 refine qah rfl fun H=>?_
 have fc:=qvt a b p wa wb
 simp
 refine qaa rfl rfl rfl fc ?_
 by_cases hf:qci [a,b] p=0
 · obtain ⟨hv,hp8,hp5⟩:=qdu hf
   have oa:=Dy.Ok.of wa.li (hv a (by simp))
   have ob:=Dy.Ok.of wb.li (hv b (by simp))
   obtain ⟨P,rfl⟩:∃ P:Nat,p=P:=⟨p.toNat,by omega⟩
   have e1:=oa.elo; have e2:=oa.ehi; have e3:=ob.elo; have e4:=ob.ehi
   have ba:=oa.bits; have bb:=ob.bits
   have hbit:bitL (natV a.m*natV b.m)≤9000:=by
     refine Nat.le_trans (qa5 (b:=bitL (natV a.m)+bitL (natV b.m)) ?_) (by omega)
     rw [Nat.pow_add]
     exact Nat.mul_lt_mul'' (qbf _) (qbf _)
   obtain ⟨s1,s2,s3,s4⟩:=qym (neg:=a.neg != b.neg) (e:=a.e+b.e) hbit (by omega) (by omega) (by omega)
   have xc:=q6d (a.prod b) P up s1 s2 s3 s4 (by omega)
   have hc:cutR (a.prod b).neg (natV (a.prod b).m) (a.prod b).e false P up=cutR (a.neg != b.neg) (natV a.m*natV b.m) (a.e+b.e) false P up:=qvg
   rw [hc] at xc
   simp [hf]
   refine qaa rfl rfl rfl (q8i a b oa.toM ob.toM) ?_
   simp
   refine qaa rfl rfl rfl xc ?_
   simp [rMul,hf,lim]
 · simp [hf,rMul,Dy.zero,lim]
set_option maxHeartbeats 1000000 in
theorem q62 (a b:Dy) (p:Int) (up:Bool) (wa:a.W) (wb:b.W):CQ prog qzc [a.v,b.v,.int .i64 p,.bool up] (.tup [(rDiv a b p up).1.v,.int .i64 (rDiv a b p up).2]):=by
 refine qah rfl fun H=>?_
 have fc:=qvt a b p wa wb
 simp
 refine qaa rfl rfl rfl fc ?_
 by_cases hf:qci [a,b] p=0
 · obtain ⟨hv,hp8,hp5⟩:=qdu hf
   have va:=hv a (by simp)
   have vb:=hv b (by simp)
   have oa:=Dy.Ok.of wa.li va
   have ob:=Dy.Ok.of wb.li vb
   obtain ⟨P,rfl⟩:∃ P:Nat,p=P:=⟨p.toNat,by omega⟩
   by_cases nb:b.m=[]
   · simp [hf,lim,nb,rDiv,Dy.zero]
   · by_cases na:a.m=[]
     · simp [hf,lim,na,nb,rDiv,Dy.zero]
     · have ba:=oa.bits; have bb:=ob.bits
       have h1:=oa.elo; have h2:=oa.ehi; have h3:=ob.elo; have h4:=ob.ehi
       have hla:=oa.len; have hlb:=ob.len
       have hA:=qft oa.tr na
       have hB:=qft ob.tr nb
       have dba:=qob a.m (by omega) oa.li
       have dbb:=qob b.m (by omega) ob.li
       have hka:bitL (natV a.m)+divK a b P 2≤4620∧divK a b P 2≤4620:=by unfold divK; omega
       obtain ⟨k1,k3⟩:=hka
       have hmax:(if (bitL (natV a.m):Int)<(P:Int)+2+bitL (natV b.m) then (P:Int)+2+bitL (natV b.m)-bitL (natV a.m) else 0)=(divK a b P 2:Int):=by unfold divK; split<;>omega
       have hres:rDiv a b P up=cutR (a.neg != b.neg) (natV a.m*2^divK a b P 2/natV b.m) (a.e-b.e-divK a b P 2) (decide (natV a.m*2^divK a b P 2%natV b.m≠0)) P up:=by
         rw [rDiv,if_pos hf,if_neg nb,if_neg na,Int.toNat_natCast]
       obtain ⟨k,hk⟩:∃ k,k=divK a b P 2:=⟨_,rfl⟩
       rw [← hk] at k1 k3 hmax hres
       have hsb:bitL (natV a.m*2^k)≤4620:=by
         have:=qgf (m:=natV a.m) (j:=k) (r:=0) hA (Nat.two_pow_pos k)
         rw [Nat.add_zero] at this
         rw [this]; exact k1
       obtain ⟨La,hLa⟩:∃ La,La=bitL (natV a.m):=⟨_,rfl⟩
       obtain ⟨Lb,hLb⟩:∃ Lb,Lb=bitL (natV b.m):=⟨_,rfl⟩
       rw [← hLa] at ba dba k1 hmax
       rw [← hLb] at bb dbb hmax
       have w1:IntKind.i64.wrap ((P:Int)+2)=(P:Int)+2:=by rw [wrap_i64]<;>omega
       have w2:IntKind.i64.wrap ((P:Int)+2+Lb)=(P:Int)+2+Lb:=by rw [wrap_i64]<;>omega
       have w3:IntKind.i64.wrap ((P:Int)+2+Lb-La)=(P:Int)+2+Lb-La:=by rw [wrap_i64]<;>omega
       have w4:IntKind.i64.wrap (a.e-b.e)=a.e-b.e:=by rw [wrap_i64]<;>omega
       have w5:IntKind.i64.wrap (a.e-b.e-k)=a.e-b.e-k:=by rw [wrap_i64]<;>omega
       have sc:=q4m a.m k (by omega) oa.li (by omega)
       obtain ⟨W,hW⟩:∃ W,W=natV a.m*2^k:=⟨_,rfl⟩
       rw [← hW] at hsb sc hres
       have hl:=qpl hsb
       have dc:=q8k (qae W) b.m (by omega) (by omega) (qag _) ob.li (by omega)
       rw [qac] at dc
       have hqs:bitL (W/natV b.m)≤4620:=Nat.le_trans (qaq (Nat.div_le_self _ _)) hsb
       have hql:=qpl hqs
       have hrl:(qae (W%natV b.m)).length≤200:=Nat.le_trans (qbj (Nat.mod_le _ _) (Nat.le_refl _)) (by omega)
       have bc:=qob (qae (W%natV b.m)) (by omega) (qag _)
       rw [qac] at bc
       have hmore:decide (W%natV b.m≠0)=decide (0<bitL (W%natV b.m)):=by
         rw [decide_eq_decide]
         have:=bitL_eq0 (n:=W%natV b.m)
         omega
       have gc:=q63 (a.neg != b.neg) (qae (W/natV b.m)) (a.e-b.e-k) (decide (W%natV b.m≠0)) P up (by omega) (qag _) (by omega) (by omega) (by omega)
       rw [qac,← hres,hmore] at gc
       obtain ⟨B0,hB0⟩:∃ B0,B0=bitL (W%natV b.m):=⟨_,rfl⟩
       rw [← hB0] at bc gc
       simp [hf,lim,na,nb,w1]
       refine qaa rfl rfl rfl dbb ?_
       simp [w2]
       refine qaa rfl rfl rfl dba ?_
       simp [w3,hmax]
       refine qaa rfl rfl rfl sc ?_
       simp
       refine qaa rfl rfl rfl dc ?_
       simp [w4,w5]
       refine qaa rfl rfl rfl bc ?_
       simp
       refine qaa (vs:=[.bool (a.neg != b.neg),lim (qae (W/natV b.m)),.int .i64 (a.e-b.e-k),.bool (decide (0<B0)),.int .i64 P,.bool up]) rfl rfl ?_ gc ?_
       · refine Eq.trans (b:=frzVs _ _) rfl ?_
         simp [frzVs,frzV]
         cases a.neg<;>cases b.neg<;>rfl
       simp [lim]
 · simp [hf,rDiv,Dy.zero,lim]
end Go.Abs.W
namespace Go.Abs.W
def Iv.made (r s:Dy × Int):Iv:=if r.2=0∧s.2=0 then ⟨r.1,s.1,false⟩ else Iv.whole
def Iv.add (x y:Iv) (p:Int):Iv:=if (x.known&&y.known&&precB p)=true then Iv.made (rAdd x.lo y.lo p false) (rAdd x.hi y.hi p true) else Iv.whole
def Iv.neg (x:Iv):Iv:=if x.known=true then ⟨x.hi.neg',x.lo.neg',false⟩ else Iv.whole
def Iv.rnd (x:Iv) (p:Int):Iv:=if (x.known&&precB p)=true then Iv.made (qb0 x.lo p false) (qb0 x.hi p true) else Iv.whole
def Iv.scl (x:Iv) (k:Int):Iv:=if x.known=true then Iv.made (x.lo.scl k,x.lo.sclE k) (x.hi.scl k,x.hi.sclE k) else Iv.whole
def Iv.sgn (x:Iv):Int:=if x.known=true then (if 0<x.lo.sgn then 1 else if x.hi.sgn<0 then -1 else 0) else 0
theorem Dy.zero_W:Dy.zero.W:=Dy.zero_ok.w
theorem Iv.whole_W:Iv.whole.W:=⟨Dy.zero_W,Dy.zero_W⟩
theorem rRound_ok {d:Dy} {p:Int} {up:Bool}:(qb0 d p up).1.Ok:=by
 unfold qb0; split
 · rename_i h; obtain ⟨_,h1,h2⟩:=qdu h; exact qvf (by omega) (by omega)
 · exact Dy.zero_ok
theorem rAdd_ok {a b:Dy} {p:Int} {up:Bool}:(rAdd a b p up).1.Ok:=by
 unfold rAdd; split
 · rename_i h; obtain ⟨_,h1,h2⟩:=qdu h; exact qvf (by omega) (by omega)
 · exact Dy.zero_ok
theorem rMul_ok {a b:Dy} {p:Int} {up:Bool}:(rMul a b p up).1.Ok:=by
 unfold rMul; split
 · rename_i h; obtain ⟨_,h1,h2⟩:=qdu h; exact qvf (by omega) (by omega)
 · exact Dy.zero_ok
theorem qd4 {a b:Dy} {p:Int} {up:Bool}:(rDiv a b p up).1.Ok:=by
 unfold rDiv; split
 · rename_i h; obtain ⟨_,h1,h2⟩:=qdu h
   split
   · exact Dy.zero_ok
   · split
     · exact Dy.zero_ok
     · exact qvf (by omega) (by omega)
 · exact Dy.zero_ok
theorem q5u {r s:Dy × Int} (hr:r.1.W) (hs:s.1.W):(Iv.made r s).W:=by
 unfold Iv.made; split
 · exact ⟨hr,hs⟩
 · exact Iv.whole_W
theorem q6y (r s:Dy × Int):CQ prog qv9 [r.1.v,.int .i64 r.2,s.1.v,.int .i64 s.2] (Iv.made r s).v:=by
 refine qah rfl fun H=>?_
 by_cases hr:r.2=0
 · by_cases hs:s.2=0
   · simp [hr,hs,Iv.made,lim]
   · simp [hr,hs]
     refine qaa rfl rfl rfl qba ?_
     simp [Iv.made,hs,lim]
 · simp [hr]
   refine qaa rfl rfl rfl qba ?_
   simp [Iv.made,hr,lim]
theorem q04 (p:Int):CQ prog qod [.int .i64 p] (.bool (precB p)):=by
 refine qah rfl fun H=>?_
 simp [precB]
 grind
theorem qvu (p:Int):CQ prog qwc [.int .i64 p] (.bool (precB p)):=by
 refine qah rfl fun H=>?_
 simp [precB]
 grind
theorem qaen {d:Dy} (h:d.Ok):d.opp=d.neg':=by
 unfold Dy.opp Dy.neg'
 rw [h.valid]
 by_cases hm:d.m=[]
 · obtain ⟨h1,h2⟩:=h.zero hm
   simp [hm,h2,Dy.zero]
 · simp [hm]
theorem qd5 {d:Dy} (h:d.Ok):d.neg'.Ok:=by
 refine ⟨h.li,h.tr,h.len,?_,h.odd,h.bits,h.elo,h.ehi,h.top⟩
 intro hm
 have hm':d.m=[]:=hm
 exact ⟨by simp [Dy.neg',hm'],(h.zero hm').2⟩
theorem neg_W {x:Iv} (w:x.W):x.neg.W:=by
 unfold Iv.neg; split
 · rename_i h
   obtain ⟨h1,h2⟩:=qaj w h
   exact ⟨(qd5 h2).w,(qd5 h1).w⟩
 · exact Iv.whole_W
theorem add_W {x y:Iv} {p:Int}:(x.add y p).W:=by
 unfold Iv.add; split
 · exact q5u rAdd_ok.w rAdd_ok.w
 · exact Iv.whole_W
theorem qjq (x y:Iv) (p:Int) (wx:x.W) (wy:y.W):CQ prog qpy [x.v,y.v,.int .i64 p] (x.add y p).v:=by
 refine qah rfl fun H=>?_
 simp
 refine qaa rfl rfl rfl (qvu p) ?_
 cases hp:precB p
 · simp
   refine qaa rfl rfl rfl qba ?_
   simp [Iv.add,hp,lim]
 · simp
   refine qaa rfl rfl rfl (qel x wx) ?_
   cases hx:x.known
   · simp
     refine qaa rfl rfl rfl qba ?_
     simp [Iv.add,hx,lim]
   · simp
     refine qaa rfl rfl rfl (qel y wy) ?_
     cases hy:y.known
     · simp
       refine qaa rfl rfl rfl qba ?_
       simp [Iv.add,hy,lim]
     · simp
       refine qaa rfl rfl rfl (q65 x.lo y.lo p false wx.lo wy.lo) ?_
       simp
       refine qaa rfl rfl rfl (q65 x.hi y.hi p true wx.hi wy.hi) ?_
       simp
       refine qaa rfl rfl rfl (q6y (rAdd x.lo y.lo p false) (rAdd x.hi y.hi p true)) ?_
       simp [Iv.add,hx,hy,hp,lim]
theorem qqf (x:Iv) (wx:x.W):CQ prog qy8 [x.v] x.neg.v:=by
 refine qah rfl fun H=>?_
 simp
 refine qaa rfl rfl rfl (qel x wx) ?_
 cases hk:x.known
 · simp
   refine qaa rfl rfl rfl qba ?_
   simp [Iv.neg,hk,lim]
 · simp
   refine qaa rfl rfl rfl (qrw x.hi) ?_
   simp
   refine qaa rfl rfl rfl (qrw x.lo) ?_
   simp [Iv.neg,hk,lim]
theorem q61 (x y:Iv) (p:Int) (wx:x.W) (wy:y.W):CQ prog qpu [x.v,y.v,.int .i64 p] (x.add y.neg p).v:=by
 refine qah rfl fun H=>?_
 simp
 refine qaa rfl rfl rfl (qqf y wy) ?_
 simp
 refine qaa rfl rfl rfl (qjq x y.neg p wx (neg_W wy)) ?_
 simp [lim]
theorem q8h (x:Iv) (k:Int) (wx:x.W):CQ prog qnc [x.v,.int .i64 k] (x.scl k).v:=by
 refine qah rfl fun H=>?_
 simp
 refine qaa rfl rfl rfl (qel x wx) ?_
 cases hx:x.known
 · simp
   refine qaa rfl rfl rfl qba ?_
   simp [Iv.scl,hx,lim]
 · by_cases hk:-32768≤k∧k≤32768
   · have h1:¬ k < -32768:=by omega
     have h2:¬ 32768<k:=by omega
     simp [h1,h2]
     refine qaa rfl rfl rfl (q2w x.lo k wx.lo) ?_
     simp
     refine qaa rfl rfl rfl (q2w x.hi k wx.hi) ?_
     simp
     refine qaa rfl rfl rfl (q6y (x.lo.scl k,x.lo.sclE k) (x.hi.scl k,x.hi.sclE k)) ?_
     simp [Iv.scl,hx,lim]
   · have hs:x.scl k=Iv.whole:=by
       have:¬ (x.lo.valid=true∧-32768≤k∧k≤32768):=fun h=>hk h.2
       simp [Iv.scl,hx,Iv.made,Dy.sclE,this]
     rw [hs]
     by_cases h1:k < -32768
     · simp [h1]
       refine qaa rfl rfl rfl qba ?_
       simp [lim]
     · have h2:32768<k:=by omega
       simp [h1,h2]
       refine qaa rfl rfl rfl qba ?_
       simp [lim]
theorem qaf2 (x:Iv) (wx:x.W):CQ prog qud [x.v] (.int .i64 x.sgn):=by
 refine qah rfl fun H=>?_
 simp
 refine qar rfl rfl (H1:=H++[some ⟨7,[x.v],false,true⟩,some ⟨7,[x.v],true,false⟩]) (vs:=[ivs [x]]) (by simp [prep,frzVs,frzV]; rfl) (qyt [x] (by simp) (by simpa using wx)) ?_
 cases hk:x.known
 · simp [hk,Iv.sgn]
 · obtain ⟨h1,h2⟩:=qaj wx hk
   have s1:=qrc x.lo wx.lo
   have s2:=qrc x.hi wx.hi
   rw [h1.valid] at s1
   rw [h2.valid] at s2
   simp [hk]
   refine qaa rfl rfl rfl s1 ?_
   by_cases hp:0<x.lo.sgn
   · simp [Iv.sgn,hk,hp]
   · simp [hp]
     refine qaa rfl rfl rfl s2 ?_
     by_cases hn:x.hi.sgn<0
     · simp [Iv.sgn,hk,hp,hn]
     · simp [Iv.sgn,hk,hp,hn]
theorem q2x (x:Iv) (wx:x.W):CQ prog qwb [x.v] (.int .i64 x.sgn):=by
 refine qah rfl fun H=>?_
 simp
 refine qaa rfl rfl rfl (qel x wx) ?_
 cases hk:x.known
 · simp [hk,Iv.sgn]
 · simp
   refine qaa rfl rfl rfl (qqe x.lo) ?_
   by_cases hp:0<x.lo.sgn
   · simp [Iv.sgn,hk,hp]
   · simp [hp]
     refine qaa rfl rfl rfl (qqe x.hi) ?_
     by_cases hn:x.hi.sgn<0
     · simp [Iv.sgn,hk,hp,hn]
     · simp [Iv.sgn,hk,hp,hn]
end Go.Abs.W
namespace Go.Abs.W
theorem qjm {a b:Dy} (ha:a.Ok) (hb:b.Ok):a.cmp b=cmpI a.val b.val:=by simp [Dy.cmp,ha.valid,hb.valid]
theorem cmpI_le {x y:Int}:cmpI x y≤0↔x≤y:=by unfold cmpI; split<;>(try split)<;>omega
theorem qacc {x y:Int}:0≤cmpI x y↔y≤x:=by unfold cmpI; split<;>(try split)<;>omega
theorem qajv {x y:Int}:0<cmpI x y↔y<x:=by unfold cmpI; split<;>(try split)<;>omega
theorem qfu {a b:Dy} (ha:a.Ok) (hb:b.Ok):(a.lo2 b).val=min a.val b.val:=by
 unfold Dy.lo2; rw [qjm ha hb]; split
 · rename_i h; rw [cmpI_le] at h; omega
 · rename_i h; rw [cmpI_le] at h; omega
theorem qes {a b:Dy} (ha:a.Ok) (hb:b.Ok):(a.hi2 b).val=max a.val b.val:=by
 unfold Dy.hi2; rw [qjm ha hb]; split
 · rename_i h; rw [qacc] at h; omega
 · rename_i h; rw [qacc] at h; omega
theorem qf8 {d:Dy}:d.neg'.val=- d.val:=by
 by_cases hm:d.m=[]
 · have h1:d.absN=0:=Dy.absN_nil hm
   have h2:d.neg'.absN=0:=Dy.absN_nil hm
   simp [Dy.val,h1,h2]
 · have h2:d.neg'.absN=d.absN:=rfl
   have h3:d.neg'.neg=!d.neg:=by simp [Dy.neg',hm]
   unfold Dy.val
   rw [h2,h3]
   cases d.neg<;>simp
theorem qye {d:Dy} (h:d.Ok):(0<d.sgn↔0<d.val)∧(d.sgn<0↔d.val<0):=by
 by_cases hm:d.m=[]
 · have h1:d.absN=0:=Dy.absN_nil hm
   simp [Dy.sgn,Dy.val,hm,h1]
 · have h1:=h.absN_ne hm
   unfold Dy.sgn Dy.val
   rw [if_neg hm]
   cases d.neg<;>simp<;>omega
theorem qd3 {d:Dy} (h:d.Ok):d.abs.Ok:=by
 unfold Dy.abs
 split
 · rename_i h2
   exact ⟨h.li,h.tr,h.len,fun hm=>absurd hm h2.2,h.odd,h.bits,h.elo,h.ehi,h.top⟩
 · exact Dy.zero_ok
theorem qjc:Dy.zero.val=0:=by
 unfold Dy.val
 rw [Dy.absN_nil rfl]
 rfl
theorem qnx {d:Dy} (h:d.Ok):d.abs.val=d.val.natAbs:=by
 unfold Dy.abs
 rw [h.valid]
 by_cases hm:d.m=[]
 · have h1:d.absN=0:=Dy.absN_nil hm
   simp [hm,qjc]
   simp [Dy.val,h1]
 · have h2:(⟨false,d.m,d.e⟩:Dy).absN=d.absN:=rfl
   simp only [true_and,ne_eq,hm,not_false_eq_true,if_true]
   unfold Dy.val
   rw [h2]
   cases d.neg<;>simp
theorem qat {x:Iv} (w:x.W) (h:x.known=true):x.lo.val≤x.hi.val:=by
 obtain ⟨h1,h2⟩:=qaj w h
 simp [Iv.known] at h
 have hv:=h.2
 rw [Iv.valid,if_neg (by simp [h.1])] at hv
 simp [qjm h1 h2,cmpI_le] at hv
 exact hv.2
def Iv.mag (x:Iv):Dy:=x.lo.abs.hi2 x.hi.abs
def Iv.mig (x:Iv):Dy:=if x.sgn=0 then Dy.zero else x.lo.abs.lo2 x.hi.abs
def Iv.abs (x:Iv):Iv:=if x.known=true then ⟨x.mig,x.mag,false⟩ else Iv.whole
theorem qai4 {x:Iv} (w:x.W) (h:x.known=true):x.lo.neg'.hi2 x.hi=x.mag:=by
 obtain ⟨h1,h2⟩:=qaj w h
 have hle:=qat w h
 refine qs5 (qpo (qd5 h1) h2) (qpo (qd3 h1) (qd3 h2)) ?_
 rw [Iv.mag,qes (qd5 h1) h2,qes (qd3 h1) (qd3 h2),qf8,qnx h1,qnx h2]
 omega
theorem q9p {x:Iv} (w:x.W) (h:x.known=true) (hs:x.sgn≠0):0<x.lo.val∨x.hi.val<0:=by
 obtain ⟨h1,h2⟩:=qaj w h
 unfold Iv.sgn at hs
 rw [if_pos h] at hs
 by_cases hp:0<x.lo.sgn
 · exact .inl ((qye h1).1.1 hp)
 · rw [if_neg hp] at hs
   by_cases hn:x.hi.sgn<0
   · exact .inr ((qye h2).2.1 hn)
   · rw [if_neg hn] at hs; exact absurd rfl hs
theorem qai1 {x:Iv} (w:x.W) (h:x.known=true) (hs:x.sgn≠0):x.lo.hi2 x.hi.neg'=x.mig:=by
 obtain ⟨h1,h2⟩:=qaj w h
 have hle:=qat w h
 have hc:=q9p w h hs
 rw [Iv.mig,if_neg hs]
 refine qs5 (qpo h1 (qd5 h2)) (qtz (qd3 h1) (qd3 h2)) ?_
 rw [qes h1 (qd5 h2),qfu (qd3 h1) (qd3 h2),qf8,qnx h1,qnx h2]
 omega
theorem q1d {x:Iv} (w:x.W) (h:x.known=true):x.mag.Ok:=qpo (qd3 (qaj w h).1) (qd3 (qaj w h).2)
theorem qaaz {x:Iv} (w:x.W) (h:x.known=true):x.mig.Ok:=by
 unfold Iv.mig; split
 · exact Dy.zero_ok
 · exact qtz (qd3 (qaj w h).1) (qd3 (qaj w h).2)
theorem abs_W {x:Iv} (w:x.W):x.abs.W:=by
 unfold Iv.abs; split
 · rename_i h; exact ⟨(qaaz w h).w,(q1d w h).w⟩
 · exact Iv.whole_W
theorem qadd (x:Iv) (wx:x.W) (hk:x.known=true):CQ prog qpw [x.v] x.mag.v:=by
 obtain ⟨h1,h2⟩:=qaj wx hk
 refine qah rfl fun H=>?_
 simp
 refine qaa rfl rfl rfl (qrw x.lo) ?_
 simp
 refine qaa rfl rfl rfl (qm7 x.lo.neg' x.hi (qd5 h1) h2) ?_
 rw [qai4 wx hk]
 simp [lim]
theorem qakj (x:Iv) (wx:x.W) (hk:x.known=true):CQ prog qy9 [x.v] x.mig.v:=by
 obtain ⟨h1,h2⟩:=qaj wx hk
 refine qah rfl fun H=>?_
 simp
 refine qaa rfl rfl rfl (q2x x wx) ?_
 by_cases hs:x.sgn=0
 · simp [hs,Iv.mig,Dy.zero,lim]
 · simp [hs]
   refine qaa rfl rfl rfl (qrw x.hi) ?_
   simp
   refine qaa rfl rfl rfl (qm7 x.lo x.hi.neg' h1 (qd5 h2)) ?_
   rw [qai1 wx hk hs]
   simp [lim]
theorem qaf0 (x:Iv) (wx:x.W):CQ prog qza [x.v] x.abs.v:=by
 refine qah rfl fun H=>?_
 simp
 refine qaa rfl rfl rfl (qel x wx) ?_
 cases hk:x.known
 · simp
   refine qaa rfl rfl rfl qba ?_
   simp [Iv.abs,hk,lim]
 · simp
   refine qaa rfl rfl rfl (qakj x wx hk) ?_
   simp
   refine qaa rfl rfl rfl (qadd x wx hk) ?_
   simp [Iv.abs,hk,lim]
def pairs (x y:Iv):List (Dy × Dy):=[(x.lo,y.lo),(x.lo,y.hi),(x.hi,y.lo),(x.hi,y.hi)]
def accLo (f:Dy→Dy→Dy × Int):List (Dy × Dy)→Nat→Dy
 | _,0=>Dy.zero
 | l,i+1=>if i=0 then (f ((l.getD i (Dy.zero,Dy.zero)).1) ((l.getD i (Dy.zero,Dy.zero)).2)).1 else (accLo f l i).lo2 (f ((l.getD i (Dy.zero,Dy.zero)).1) ((l.getD i (Dy.zero,Dy.zero)).2)).1
def accHi (f:Dy→Dy→Dy × Int):List (Dy × Dy)→Nat→Dy
 | _,0=>Dy.zero
 | l,i+1=>if i=0 then (f ((l.getD i (Dy.zero,Dy.zero)).1) ((l.getD i (Dy.zero,Dy.zero)).2)).1 else (accHi f l i).hi2 (f ((l.getD i (Dy.zero,Dy.zero)).1) ((l.getD i (Dy.zero,Dy.zero)).2)).1
def Iv.four (f g:Dy→Dy→Dy × Int) (x y:Iv):Iv :=
 if (pairs x y).all (fun q=>decide ((f q.1 q.2).2=0)&&decide ((g q.1 q.2).2=0))=true then ⟨accLo f (pairs x y) 4,accHi g (pairs x y) 4,false⟩ else Iv.whole
end Go.Abs.W
namespace Go.Abs.W
def zIv:V:=.agg [.bool false,.nil,.int .i64 0,.bool false,.nil,.int .i64 0,.bool false]
def qaf (x y:Iv) (i:Nat):Dy × Dy:=(pairs x y).getD i (Dy.zero,Dy.zero)
theorem q5j {x y:Iv} (wx:x.W) (wy:y.W) {i:Nat} (hi:i<4):(qaf x y i).1.W∧(qaf x y i).2.W:=by
 obtain rfl | rfl | rfl | rfl:i=0∨i=1∨i=2∨i=3:=by omega
 all_goals simp [qaf,pairs,wx.lo,wx.hi,wy.lo,wy.hi]
theorem qct {f:Dy→Dy→Dy × Int} {x y:Iv} {i:Nat}:accLo f (pairs x y) (i+1)=if i=0 then (f (qaf x y i).1 (qaf x y i).2).1 else (accLo f (pairs x y) i).lo2 (f (qaf x y i).1 (qaf x y i).2).1:=rfl
theorem qcu {f:Dy→Dy→Dy × Int} {x y:Iv} {i:Nat}:accHi f (pairs x y) (i+1)=if i=0 then (f (qaf x y i).1 (qaf x y i).2).1 else (accHi f (pairs x y) i).hi2 (f (qaf x y i).1 (qaf x y i).2).1:=rfl
theorem qcc {f:Dy→Dy→Dy × Int} (okf:∀ a b,(f a b).1.Ok) {x y:Iv}:∀ i,(accLo f (pairs x y) i).Ok
 | 0=>Dy.zero_ok
 | i+1=>by
   rw [qct]; split
   · exact okf _ _
   · exact qtz (qcc okf i) (okf _ _)
theorem qcd {f:Dy→Dy→Dy × Int} (okf:∀ a b,(f a b).1.Ok) {x y:Iv}:∀ i,(accHi f (pairs x y) i).Ok
 | 0=>Dy.zero_ok
 | i+1=>by
   rw [qcu]; split
   · exact okf _ _
   · exact qpo (qcd okf i) (okf _ _)
def good4 (f g:Dy→Dy→Dy × Int) (x y:Iv) (i:Nat):Prop:=∀ j,j<i→(f (qaf x y j).1 (qaf x y j).2).2=0∧(g (qaf x y j).1 (qaf x y j).2).2=0
theorem qdm {f g:Dy→Dy→Dy × Int} {x y:Iv} (h:good4 f g x y 4):Iv.four f g x y=⟨accLo f (pairs x y) 4,accHi g (pairs x y) 4,false⟩:=by
 have h0:=h 0 (by omega)
 have h1:=h 1 (by omega)
 have h2:=h 2 (by omega)
 have h3:=h 3 (by omega)
 simp [qaf,pairs] at h0 h1 h2 h3
 unfold Iv.four
 rw [if_pos]
 simp [pairs,h0,h1,h2,h3]
theorem qzy {f g:Dy→Dy→Dy × Int} {x y:Iv} {i:Nat} (hi:i<4) (h:(f (qaf x y i).1 (qaf x y i).2).2≠0∨(g (qaf x y i).1 (qaf x y i).2).2≠0):Iv.four f g x y=Iv.whole:=by
 unfold Iv.four
 rw [if_neg]
 intro hc
 simp [pairs] at hc
 obtain rfl | rfl | rfl | rfl:i=0∨i=1∨i=2∨i=3:=by omega
 all_goals simp [qaf,pairs] at h
 all_goals obtain ⟨a,b,c,d⟩:=hc
 all_goals rcases h with h | h
 all_goals simp_all
end Go.Abs.W
namespace Go.Abs.W
def Iv.mul (x y:Iv) (p:Int):Iv:=if (x.known&&y.known&&precB p)=true then Iv.four (fun a b=>rMul a b p false) (fun a b=>rMul a b p true) x y else Iv.whole
def Iv.div (x y:Iv) (p:Int):Iv:=if (x.known&&y.known&&precB p&&decide (y.sgn≠0))=true then Iv.four (fun a b=>rDiv a b p false) (fun a b=>rDiv a b p true) x y else Iv.whole
theorem qag3 {f g:Dy→Dy→Dy × Int} (okf:∀ a b,(f a b).1.Ok) (okg:∀ a b,(g a b).1.Ok) {x y:Iv}:(Iv.four f g x y).W:=by
 unfold Iv.four; split
 · exact ⟨(qcc okf 4).w,(qcd okg 4).w⟩
 · exact Iv.whole_W
theorem mul_W {x y:Iv} {p:Int}:(x.mul y p).W:=by
 unfold Iv.mul; split
 · exact qag3 (fun _ _=>rMul_ok) (fun _ _=>rMul_ok)
 · exact Iv.whole_W
theorem div_W {x y:Iv} {p:Int}:(x.div y p).W:=by
 unfold Iv.div; split
 · exact qag3 (fun _ _=>qd4) (fun _ _=>qd4)
 · exact Iv.whole_W
theorem q5v {a:Dy}:a.lo2 a=a:=by unfold Dy.lo2; split<;>rfl
theorem qsv {a:Dy}:a.hi2 a=a:=by unfold Dy.hi2; split<;>rfl
def pair6 (q:Dy × Dy):V:=.agg [.bool q.1.neg,lim q.1.m,.int .i64 q.1.e,.bool q.2.neg,lim q.2.m,.int .i64 q.2.e]
def ps4 (x y:Iv):List V:=[pair6 (x.lo,y.lo),pair6 (x.lo,y.hi),pair6 (x.hi,y.lo),pair6 (x.hi,y.hi)]
theorem qagq {x y:Iv} {i:Nat} (hi:i<4):(ps4 x y)[i]?=some (pair6 (qaf x y i)):=by
 obtain rfl | rfl | rfl | rfl:i=0∨i=1∨i=2∨i=3:=by omega
 all_goals rfl
theorem qqp {x y:Iv}:(ps4 x y).length=4:=rfl
theorem qabt (x y:Iv):CQ prog qwa [x.v,y.v] (.sl (ps4 x y)):=by
 refine qah rfl fun H=>?_
 simp [ps4,pair6,fin]
theorem q7l {Q:AX→Env→Heap→Prop} (H G:Heap) (E:Env) (x y:Iv) (p:Int) (i:Nat) (hi:i<4) (wa:(qaf x y i).1.W) (wb:(qaf x y i).2.W)
   (lo hi2:Dy) (olo:lo.Ok) (ohi:hi2.Ok) (w:V) (hw:(i=0∧w=zIv)∨(i≠0∧w=Iv.v ⟨lo,hi2,false⟩))
   (h2:E 2=.int .i64 p) (h6:E 6=.ptr (H.length+2) 0 0) (h7:E 7=.sl (ps4 x y)) (h8:E 8=.ptr (H.length+3) 0 0) (h9:E 9=.int .i64 i)
   (hbad:((rMul (qaf x y i).1 (qaf x y i).2 p false).2≠0∨(rMul (qaf x y i).1 (qaf x y i).2 p true).2≠0)→∀ E1 G1,E1 6=.ptr (H.length+2) 0 0→Q .ret E1 (H++some ⟨7,[x.v],false,true⟩ :: some ⟨7,[y.v],false,true⟩ :: some ⟨7,[Iv.whole.v],false,true⟩ :: some ⟨7,[w],false,true⟩ :: G1))
   (hgood:(rMul (qaf x y i).1 (qaf x y i).2 p false).2=0→(rMul (qaf x y i).1 (qaf x y i).2 p true).2=0→∀ E1 G1,E1 2=.int .i64 p→E1 6=.ptr (H.length+2) 0 0→E1 7=.sl (ps4 x y)→E1 8=.ptr (H.length+3) 0 0→E1 9=.int .i64 ((i+1:Nat):Int) →
     Q .normal E1 (H++some ⟨7,[x.v],false,true⟩ :: some ⟨7,[y.v],false,true⟩ :: some ⟨7,[zIv],false,true⟩ :: some ⟨7,[Iv.v ⟨if i=0 then (rMul (qaf x y i).1 (qaf x y i).2 p false).1 else lo.lo2 (rMul (qaf x y i).1 (qaf x y i).2 p false).1,if i=0 then (rMul (qaf x y i).1 (qaf x y i).2 p true).1 else hi2.hi2 (rMul (qaf x y i).1 (qaf x y i).2 p true).1,false⟩],false,true⟩ :: G1)) :
   WK prog H.length qc8 [] E (H++some ⟨7,[x.v],false,true⟩ :: some ⟨7,[y.v],false,true⟩ :: some ⟨7,[zIv],false,true⟩ :: some ⟨7,[w],false,true⟩ :: G) Q:=by
 have e1:IntKind.i64.wrap ((i:Int)+1)=((i+1:Nat):Int):=by rw [wrap_i64]<;>omega
 have hi':(i:Int)<4:=by omega
 have hat:(ps4 x y)[i]'(by rw [qqp]; exact hi)=pair6 (qaf x y i):=by have:=qagq (x:=x) (y:=y) hi; rw [List.getElem?_eq_getElem (by rw [qqp]; exact hi)] at this; exact Option.some.inj this
 have hlen:=qqp (x:=x) (y:=y)
 have c1:=q60 (qaf x y i).1 (qaf x y i).2 p false wa wb
 have c2:=q60 (qaf x y i).1 (qaf x y i).2 p true wa wb
 have ok1:=rMul_ok (a:=(qaf x y i).1) (b:=(qaf x y i).2) (p:=p) (up:=false)
 have ok2:=rMul_ok (a:=(qaf x y i).1) (b:=(qaf x y i).2) (p:=p) (up:=true)
 generalize hq:qaf x y i=q at *
 obtain ⟨a,b⟩:=q
 simp only at *
 generalize hr:rMul a b p false=r at *
 generalize hs:rMul a b p true=s at *
 simp [pair6] at hat
 simp [qc8,h2,h7,h9,hi,hi',hat,hlen]
 refine qaa rfl rfl rfl c1 ?_
 simp [h7,h9,h2,hi,hat,hlen]
 refine qaa rfl rfl rfl c2 ?_
 by_cases b1:r.2=0
 · by_cases b2:s.2=0
   · rcases hw with ⟨rfl,rfl⟩ | ⟨h0,rfl⟩
     · simp [b1,b2,zIv,h9,h8]
       refine qaa rfl rfl rfl (qpn r.1 r.1 ok1 ok1) ?_
       simp [h8]
       refine qaa rfl rfl rfl (qm7 s.1 s.1 ok2 ok2) ?_
       simp [zIv] at hgood
       simp [h8,h9,q5v,qsv]
       exact hgood b1 b2 _ _ (by simp [h2]) (by simp [h6]) (by simp [h7]) (by simp [h8]) (by simpa using e1)
     · have h0':¬ (i:Int)=0:=by omega
       simp [zIv,h0] at hgood
       simp [b1,b2,h0,h9,h8,zIv]
       refine qaa rfl rfl rfl (qpn lo r.1 olo ok1) ?_
       simp [h8]
       refine qaa rfl rfl rfl (qm7 hi2 s.1 ohi ok2) ?_
       simp [h8,h9]
       exact hgood b1 b2 _ _ (by simp [h2]) (by simp [h6]) (by simp [h7]) (by simp [h8]) (by simp [e1])
   · simp [b1,b2]
     refine qaa rfl rfl rfl qba ?_
     simp [h6]
     simp at hbad
     exact hbad (.inr b2) _ _ (by simp [h6])
 · simp [b1]
   refine qaa rfl rfl rfl qba ?_
   simp [h6]
   simp at hbad
   exact hbad (.inl b1) _ _ (by simp [h6])
theorem q9y (H:Heap) (x y:Iv) (p:Int) (wx:x.W) (wy:y.W) (E:Env) {K:List Fr} {Q:AX→Env→Heap→Prop}
   (h2:E 2=.int .i64 p) (h6:E 6=.ptr (H.length+2) 0 0) (h7:E 7=.sl (ps4 x y)) (h8:E 8=.ptr (H.length+3) 0 0) (h9:E 9=.int .i64 0)
   (hbad:∀ E1 w G1,E1 6=.ptr (H.length+2) 0 0→Iv.four (fun a b=>rMul a b p false) (fun a b=>rMul a b p true) x y=Iv.whole→WP prog H.length Q K .ret E1 (H++some ⟨7,[x.v],false,true⟩ :: some ⟨7,[y.v],false,true⟩ :: some ⟨7,[Iv.whole.v],false,true⟩ :: some ⟨7,[w],false,true⟩ :: G1))
   (hgood:∀ E1 G1,E1 6=.ptr (H.length+2) 0 0→E1 8=.ptr (H.length+3) 0 0→WP prog H.length Q K (.exit 0) E1 (H++some ⟨7,[x.v],false,true⟩ :: some ⟨7,[y.v],false,true⟩ :: some ⟨7,[zIv],false,true⟩ :: some ⟨7,[(Iv.four (fun a b=>rMul a b p false) (fun a b=>rMul a b p true) x y).v],false,true⟩ :: G1)) :
   WK prog H.length (.loop qc8) K E (H++some ⟨7,[x.v],false,true⟩ :: some ⟨7,[y.v],false,true⟩ :: some ⟨7,[zIv],false,true⟩ :: some ⟨7,[zIv],false,true⟩ :: []) Q:=by
 refine qbp (fun k E H'=>∃ i w G,k=4-i∧i≤4∧((i=0∧w=zIv)∨(i≠0∧w=Iv.v ⟨accLo (fun a b=>rMul a b p false) (pairs x y) i,accHi (fun a b=>rMul a b p true) (pairs x y) i,false⟩))∧good4 (fun a b=>rMul a b p false) (fun a b=>rMul a b p true) x y i ∧
   E 2=.int .i64 p∧E 6=.ptr (H.length+2) 0 0∧E 7=.sl (ps4 x y)∧E 8=.ptr (H.length+3) 0 0∧E 9=.int .i64 i ∧
   H'=H++some ⟨7,[x.v],false,true⟩ :: some ⟨7,[y.v],false,true⟩ :: some ⟨7,[zIv],false,true⟩ :: some ⟨7,[w],false,true⟩ :: G) 4 ?_ ?_
 · exact ⟨0,zIv,[],rfl,by omega,.inl ⟨rfl,rfl⟩,fun j hj=>by omega,h2,h6,h7,h8,h9,rfl⟩
 · rintro k E H' ⟨i,w,G,hk,hi,hw,hg,h2,h6,h7,h8,h9,rfl⟩
   refine qal ?_
   by_cases h4':i<4
   · obtain ⟨wa,wb⟩:=q5j wx wy h4'
     refine q7l H G E x y p i h4' wa wb _ _ (qcc (f:=(fun a b=>rMul a b p false)) (fun _ _=>rMul_ok) i) (qcd (f:=(fun a b=>rMul a b p true)) (fun _ _=>rMul_ok) i) w hw h2 h6 h7 h8 h9 ?_ ?_
     · intro hb E1 G1 e6
       exact hbad E1 w G1 e6 (qzy (f:=(fun a b=>rMul a b p false)) (g:=(fun a b=>rMul a b p true)) h4' hb)
     · intro b1 b2 E1 G1 e2 e6 e7 e8 e9
       refine ⟨4-(i+1),by omega,i+1,_,G1,rfl,by omega,.inr ⟨by omega,?_⟩,?_,e2,e6,e7,e8,e9,rfl⟩
       · rw [qct,qcu]
       · intro j hj
         by_cases h:j<i
         · exact hg j h
         · have:j=i:=by omega
           subst this; exact ⟨b1,b2⟩
   · have:i=4:=by omega
     subst this
     rcases hw with ⟨h,_⟩ | ⟨_,rfl⟩
     · omega
     · simp [qc8,h9]
       rw [qdm hg] at hgood
       exact hgood _ G (by simp [h6]) (by simp [h8])
theorem qoa (x y:Iv) (p:Int) (wx:x.W) (wy:y.W):CQ prog qpv [x.v,y.v,.int .i64 p] (x.mul y p).v:=by
 refine qah rfl fun H=>?_
 simp
 refine qaa rfl rfl rfl (qvu p) ?_
 cases hp:precB p
 · simp
   refine qaa rfl rfl rfl qba ?_
   simp [Iv.mul,hp,lim]
 · simp
   refine qaa rfl rfl rfl (qel x wx) ?_
   cases hx:x.known
   · simp
     refine qaa rfl rfl rfl qba ?_
     simp [Iv.mul,hx,lim]
   · simp
     refine qaa rfl rfl rfl (qel y wy) ?_
     cases hy:y.known
     · simp
       refine qaa rfl rfl rfl qba ?_
       simp [Iv.mul,hy,lim]
     · simp
       refine qaa rfl rfl rfl (qabt x y) ?_
       simp
       refine qbq (q9y H x y p wx wy _ (by simp) (by simp) (by simp) (by simp) (by simp) ?_ ?_) (fun _ _ _ h=>h)
       · intro E1 w G1 e6 h
         simp [e6,Iv.mul,hx,hy,hp,h,lim]
       · intro E1 G1 e6 e8
         simp [e6,e8,Iv.mul,hx,hy,hp,lim,zIv]
theorem q7o {Q:AX→Env→Heap→Prop} (H G:Heap) (E:Env) (x y:Iv) (p:Int) (i:Nat) (hi:i<4) (wa:(qaf x y i).1.W) (wb:(qaf x y i).2.W)
   (lo hi2:Dy) (olo:lo.Ok) (ohi:hi2.Ok) (w:V) (hw:(i=0∧w=zIv)∨(i≠0∧w=Iv.v ⟨lo,hi2,false⟩))
   (h2:E 2=.int .i64 p) (h6:E 6=.ptr (H.length+2) 0 0) (h7:E 7=.sl (ps4 x y)) (h8:E 8=.ptr (H.length+3) 0 0) (h9:E 9=.int .i64 i)
   (hbad:((rDiv (qaf x y i).1 (qaf x y i).2 p false).2≠0∨(rDiv (qaf x y i).1 (qaf x y i).2 p true).2≠0)→∀ E1 G1,E1 6=.ptr (H.length+2) 0 0→Q .ret E1 (H++some ⟨7,[x.v],false,true⟩ :: some ⟨7,[y.v],false,true⟩ :: some ⟨7,[Iv.whole.v],false,true⟩ :: some ⟨7,[w],false,true⟩ :: G1))
   (hgood:(rDiv (qaf x y i).1 (qaf x y i).2 p false).2=0→(rDiv (qaf x y i).1 (qaf x y i).2 p true).2=0→∀ E1 G1,E1 2=.int .i64 p→E1 6=.ptr (H.length+2) 0 0→E1 7=.sl (ps4 x y)→E1 8=.ptr (H.length+3) 0 0→E1 9=.int .i64 ((i+1:Nat):Int) →
     Q .normal E1 (H++some ⟨7,[x.v],false,true⟩ :: some ⟨7,[y.v],false,true⟩ :: some ⟨7,[zIv],false,true⟩ :: some ⟨7,[Iv.v ⟨if i=0 then (rDiv (qaf x y i).1 (qaf x y i).2 p false).1 else lo.lo2 (rDiv (qaf x y i).1 (qaf x y i).2 p false).1,if i=0 then (rDiv (qaf x y i).1 (qaf x y i).2 p true).1 else hi2.hi2 (rDiv (qaf x y i).1 (qaf x y i).2 p true).1,false⟩],false,true⟩ :: G1)) :
   WK prog H.length qc9 [] E (H++some ⟨7,[x.v],false,true⟩ :: some ⟨7,[y.v],false,true⟩ :: some ⟨7,[zIv],false,true⟩ :: some ⟨7,[w],false,true⟩ :: G) Q:=by
 have e1:IntKind.i64.wrap ((i:Int)+1)=((i+1:Nat):Int):=by rw [wrap_i64]<;>omega
 have hi':(i:Int)<4:=by omega
 have hat:(ps4 x y)[i]'(by rw [qqp]; exact hi)=pair6 (qaf x y i):=by have:=qagq (x:=x) (y:=y) hi; rw [List.getElem?_eq_getElem (by rw [qqp]; exact hi)] at this; exact Option.some.inj this
 have hlen:=qqp (x:=x) (y:=y)
 have c1:=q62 (qaf x y i).1 (qaf x y i).2 p false wa wb
 have c2:=q62 (qaf x y i).1 (qaf x y i).2 p true wa wb
 have ok1:=qd4 (a:=(qaf x y i).1) (b:=(qaf x y i).2) (p:=p) (up:=false)
 have ok2:=qd4 (a:=(qaf x y i).1) (b:=(qaf x y i).2) (p:=p) (up:=true)
 generalize hq:qaf x y i=q at *
 obtain ⟨a,b⟩:=q
 simp only at *
 generalize hr:rDiv a b p false=r at *
 generalize hs:rDiv a b p true=s at *
 simp [pair6] at hat
 simp [qc9,h2,h7,h9,hi,hi',hat,hlen]
 refine qaa rfl rfl rfl c1 ?_
 simp [h7,h9,h2,hi,hat,hlen]
 refine qaa rfl rfl rfl c2 ?_
 by_cases b1:r.2=0
 · by_cases b2:s.2=0
   · rcases hw with ⟨rfl,rfl⟩ | ⟨h0,rfl⟩
     · simp [b1,b2,zIv,h9,h8]
       refine qaa rfl rfl rfl (qpn r.1 r.1 ok1 ok1) ?_
       simp [h8]
       refine qaa rfl rfl rfl (qm7 s.1 s.1 ok2 ok2) ?_
       simp [zIv] at hgood
       simp [h8,h9,q5v,qsv]
       exact hgood b1 b2 _ _ (by simp [h2]) (by simp [h6]) (by simp [h7]) (by simp [h8]) (by simpa using e1)
     · have h0':¬ (i:Int)=0:=by omega
       simp [zIv,h0] at hgood
       simp [b1,b2,h0,h9,h8,zIv]
       refine qaa rfl rfl rfl (qpn lo r.1 olo ok1) ?_
       simp [h8]
       refine qaa rfl rfl rfl (qm7 hi2 s.1 ohi ok2) ?_
       simp [h8,h9]
       exact hgood b1 b2 _ _ (by simp [h2]) (by simp [h6]) (by simp [h7]) (by simp [h8]) (by simp [e1])
   · simp [b1,b2]
     refine qaa rfl rfl rfl qba ?_
     simp [h6]
     simp at hbad
     exact hbad (.inr b2) _ _ (by simp [h6])
 · simp [b1]
   refine qaa rfl rfl rfl qba ?_
   simp [h6]
   simp at hbad
   exact hbad (.inl b1) _ _ (by simp [h6])
theorem q9z (H:Heap) (x y:Iv) (p:Int) (wx:x.W) (wy:y.W) (E:Env) {K:List Fr} {Q:AX→Env→Heap→Prop}
   (h2:E 2=.int .i64 p) (h6:E 6=.ptr (H.length+2) 0 0) (h7:E 7=.sl (ps4 x y)) (h8:E 8=.ptr (H.length+3) 0 0) (h9:E 9=.int .i64 0)
   (hbad:∀ E1 w G1,E1 6=.ptr (H.length+2) 0 0→Iv.four (fun a b=>rDiv a b p false) (fun a b=>rDiv a b p true) x y=Iv.whole→WP prog H.length Q K .ret E1 (H++some ⟨7,[x.v],false,true⟩ :: some ⟨7,[y.v],false,true⟩ :: some ⟨7,[Iv.whole.v],false,true⟩ :: some ⟨7,[w],false,true⟩ :: G1))
   (hgood:∀ E1 G1,E1 6=.ptr (H.length+2) 0 0→E1 8=.ptr (H.length+3) 0 0→WP prog H.length Q K (.exit 0) E1 (H++some ⟨7,[x.v],false,true⟩ :: some ⟨7,[y.v],false,true⟩ :: some ⟨7,[zIv],false,true⟩ :: some ⟨7,[(Iv.four (fun a b=>rDiv a b p false) (fun a b=>rDiv a b p true) x y).v],false,true⟩ :: G1)) :
   WK prog H.length (.loop qc9) K E (H++some ⟨7,[x.v],false,true⟩ :: some ⟨7,[y.v],false,true⟩ :: some ⟨7,[zIv],false,true⟩ :: some ⟨7,[zIv],false,true⟩ :: []) Q:=by
 refine qbp (fun k E H'=>∃ i w G,k=4-i∧i≤4∧((i=0∧w=zIv)∨(i≠0∧w=Iv.v ⟨accLo (fun a b=>rDiv a b p false) (pairs x y) i,accHi (fun a b=>rDiv a b p true) (pairs x y) i,false⟩))∧good4 (fun a b=>rDiv a b p false) (fun a b=>rDiv a b p true) x y i ∧
   E 2=.int .i64 p∧E 6=.ptr (H.length+2) 0 0∧E 7=.sl (ps4 x y)∧E 8=.ptr (H.length+3) 0 0∧E 9=.int .i64 i ∧
   H'=H++some ⟨7,[x.v],false,true⟩ :: some ⟨7,[y.v],false,true⟩ :: some ⟨7,[zIv],false,true⟩ :: some ⟨7,[w],false,true⟩ :: G) 4 ?_ ?_
 · exact ⟨0,zIv,[],rfl,by omega,.inl ⟨rfl,rfl⟩,fun j hj=>by omega,h2,h6,h7,h8,h9,rfl⟩
 · rintro k E H' ⟨i,w,G,hk,hi,hw,hg,h2,h6,h7,h8,h9,rfl⟩
   refine qal ?_
   by_cases h4':i<4
   · obtain ⟨wa,wb⟩:=q5j wx wy h4'
     refine q7o H G E x y p i h4' wa wb _ _ (qcc (f:=(fun a b=>rDiv a b p false)) (fun _ _=>qd4) i) (qcd (f:=(fun a b=>rDiv a b p true)) (fun _ _=>qd4) i) w hw h2 h6 h7 h8 h9 ?_ ?_
     · intro hb E1 G1 e6
       exact hbad E1 w G1 e6 (qzy (f:=(fun a b=>rDiv a b p false)) (g:=(fun a b=>rDiv a b p true)) h4' hb)
     · intro b1 b2 E1 G1 e2 e6 e7 e8 e9
       refine ⟨4-(i+1),by omega,i+1,_,G1,rfl,by omega,.inr ⟨by omega,?_⟩,?_,e2,e6,e7,e8,e9,rfl⟩
       · rw [qct,qcu]
       · intro j hj
         by_cases h:j<i
         · exact hg j h
         · have:j=i:=by omega
           subst this; exact ⟨b1,b2⟩
   · have:i=4:=by omega
     subst this
     rcases hw with ⟨h,_⟩ | ⟨_,rfl⟩
     · omega
     · simp [qc9,h9]
       rw [qdm hg] at hgood
       exact hgood _ G (by simp [h6]) (by simp [h8])
theorem qqg (x y:Iv) (p:Int) (wx:x.W) (wy:y.W):CQ prog qpx [x.v,y.v,.int .i64 p] (x.div y p).v:=by
 refine qah rfl fun H=>?_
 simp
 refine qaa rfl rfl rfl (qvu p) ?_
 cases hp:precB p
 · simp
   refine qaa rfl rfl rfl qba ?_
   simp [Iv.div,hp,lim]
 · simp
   refine qaa rfl rfl rfl (qel x wx) ?_
   cases hx:x.known
   · simp
     refine qaa rfl rfl rfl qba ?_
     simp [Iv.div,hx,lim]
   · simp
     refine qaa rfl rfl rfl (qel y wy) ?_
     cases hy:y.known
     · simp
       refine qaa rfl rfl rfl qba ?_
       simp [Iv.div,hy,lim]
     · simp
       refine qaa rfl rfl rfl (q2x y wy) ?_
       by_cases hs:y.sgn=0
       · simp [hs]
         refine qaa rfl rfl rfl qba ?_
         simp [Iv.div,hs,lim]
       · simp [hs]
         refine qaa rfl rfl rfl (qabt x y) ?_
         simp
         refine qbq (q9z H x y p wx wy _ (by simp) (by simp) (by simp) (by simp) (by simp) ?_ ?_) (fun _ _ _ h=>h)
         · intro E1 w G1 e6 h
           simp [e6,Iv.div,hx,hy,hp,hs,h,lim]
         · intro E1 G1 e6 e8
           simp [e6,e8,Iv.div,hx,hy,hp,hs,lim,zIv]
end Go.Abs.W
namespace Go.Abs.W
def Iv.sq (x:Iv) (p:Int):Iv:=if (!x.abs.all&&precB p)=true then Iv.made (rMul x.abs.lo x.abs.lo p false) (rMul x.abs.hi x.abs.hi p true) else Iv.whole
theorem sq_W {x:Iv} {p:Int}:(x.sq p).W:=by
 unfold Iv.sq; split
 · exact q5u rMul_ok.w rMul_ok.w
 · exact Iv.whole_W
theorem q4n (x:Iv) (p:Int) (wx:x.W):CQ prog qsc [x.v,.int .i64 p] (x.abs.mul x.abs p).v:=by
 refine qah rfl fun H=>?_
 have wy:=abs_W wx
 simp
 refine qaa rfl rfl rfl (qaf0 x wx) ?_
 simp
 refine qaa rfl rfl rfl (qoa x.abs x.abs p wy wy) ?_
 simp [lim]
def nD (k:Int):Dy:=Dy.of (decide (k<0)) k.natAbs 0
def nI (a b:Int):Iv:=⟨nD a,nD b,false⟩
end Go.Abs.W
namespace Go.Abs.W
theorem nD_ok {k:Int} (h:k.natAbs≤4611686018427387904):(nD k).Ok:=by
 unfold nD
 have hb:bitL k.natAbs≤64:=qa5 (by omega)
 exact Dy.of_ok (Dy.of_inR (by omega) (by omega) (by omega))
theorem nI_W {a b:Int} (ha:a.natAbs≤4611686018427387904) (hb:b.natAbs≤4611686018427387904):(nI a b).W:=⟨(nD_ok ha).w,(nD_ok hb).w⟩
end Go.Abs.W
