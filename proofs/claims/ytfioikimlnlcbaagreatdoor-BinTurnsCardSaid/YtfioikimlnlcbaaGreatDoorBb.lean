/- Parts of the proof: FpBi, FpBj, FpBk. -/
import Derived.Test.YtfioikimlnlcbaaGreatDoorBa
namespace Go.Abs.W
set_option maxHeartbeats 4000000
set_option maxRecDepth 20000
theorem q3o {X P o x y c s R:Nat}(h:X+P*c=R)(hs:s=c+(o+x*y)):X+P*(s%32768)+P*32768*(s/32768)=R+P*(x*y)+P*o:=by
 have e:P*(s%32768)+P*32768*(s/32768)=P*s:=by rw[Nat.mul_assoc,<-Nat.mul_add,Nat.mod_add_div]
 rw[hs]at e;rw[hs,Nat.add_assoc X,e,Nat.mul_add,Nat.mul_add];omega
theorem qu3 {o x y c:Nat}(ho:o<32768)(hx:x<32768)(hy:y<32768)(hc:c<32768):x*y<=1073676289/\(c+(o+x*y))/32768<32768:=by
 have:x*y<=32767*32767:=Nat.mul_le_mul (by omega) (by omega);omega
theorem qaak {H:Heap}{a b:List Nat}{ba oa bb ob:Nat}{ka kb:List V}{wa wb:Bool}(la:LiB a)(lb:LiB b)(hx:a.length<=1000000)(hy:b.length<=1000000)(sa2:H[ba]?=some (some ⟨1,ka,true,wa⟩))(sa4:∀i x,a[i]?=some x->ka[oa+i]?=some (bdg x))(sb2:H[bb]?=some (some ⟨1,kb,true,wb⟩))(sb4:∀i x,b[i]?=some x->kb[ob+i]?=some (bdg x)) :
 Ev prog (.call qsp [.ref ba 1 oa a.length,.ref bb 1 ob b.length] H) (.ret (bn (natB a*natB b)) H) :=  by
 refine qej rfl ?_;have sa2':∀G:Heap,(H++G)[ba]?=some (some ⟨1,ka,true,wa⟩):=fun G=>by rw[List.getElem?_append_left (List.getElem?_eq_some_iff.1 sa2).1];exact sa2
 have sb2':∀G:Heap,(H++G)[bb]?=some (some ⟨1,kb,true,wb⟩):=fun G=>by rw[List.getElem?_append_left (List.getElem?_eq_some_iff.1 sb2).1];exact sb2
 have w0:IntKind.i64.wrap ((a.length:Int)+b.length)=((a.length+b.length:Nat):Int):=by rw[wrap_i64]<;>omega
 have⟨m,hm⟩:∃m,m=a.length+b.length:=⟨_,rfl⟩
 rw[<-hm]at w0;have f1:m*8<=281474976710656/\m<=9223372036854775807:=by omega
 simp[w0,f1];refine WK_up (fun i E H'=>∃o,H'=H++[some ⟨1,o.map bdg,true,true⟩]/\o.length=m/\LiB o/\E 1=.ref bb 1 ob b.length/\E 5=.ref H.length 1 0 m/\E 17=.ref ba 1 oa a.length/\E 18=.int .i64 a.length/\E 19=.int .i64 i/\natB o=natB (a.take i)*natB b) a.length ?_ ?_
 ·exact⟨List.replicate m 0,by simp[bdg],by simp,liB_zeros,by simp,by simp,by simp,by simp,by simp,by simp[qjk,natB]⟩
 ·rintro i E H' hi ⟨o,rfl,hl,lo,h1,h5,h17,h18,h19,hv⟩;rcases Nat.lt_or_ge i a.length with hlt|hge
  ·have f2:IntKind.i64.wrap ((i:Int)+1)=((i+1:Nat):Int):=by rw[wrap_i64]<;>omega
   have lx:a[i]<32768:=la _ (List.getElem_mem hlt);have⟨x,hx⟩:∃x,x=a[i]:=⟨_,rfl⟩
   rw[<-hx]at lx;have ya:=sa4 i x (by rw[hx];exact List.getElem?_eq_getElem hlt);simp[qdz,h1,h17,h18,h19,hlt,sa2',ya,bdg];refine WK_up (fun k E H'=>∃o2 c,H'=H++[some ⟨1,o2.map bdg,true,true⟩]/\o2.length=m/\LiB o2/\c<32768/\E 1=.ref bb 1 ob b.length/\E 5=.ref H.length 1 0 m/\E 6=.int .i64 i/\E 7=.int .i64 x/\E 8=.int .i64 (c:Nat)/\E 17=.ref ba 1 oa a.length/\E 18=.int .i64 a.length/\E 19=.int .i64 i/\E 24=.ref bb 1 ob b.length/\E 25=.int .i64 b.length/\E 26=.int .i64 k /\
    o2.drop (i+k)=o.drop (i+k)/\natB o2+32768^(i+k)*c=natB (a.take i)*natB b+32768^i*(x*natB (b.take k))) b.length ?_ ?_
   ·exact⟨o,0,rfl,hl,lo,by omega,by simp[h1],by simp[h5],by simp,by simp,by simp,by simp[h17],by simp[h18],by simp[h19],by simp,by simp,by simp,rfl,by simp[natB,hv]⟩
   ·rintro k E H' hk ⟨o2,c,rfl,hl2,lo2,hc,g1,g5,g6,g7,g8,g17,g18,g19,g24,g25,g26,hdr,hv2⟩;rcases Nat.lt_or_ge k b.length with hlt2|hge2
    ·have f3:IntKind.i64.wrap ((k:Int)+1)=((k+1:Nat):Int):=by rw[wrap_i64]<;>omega
     have f4:IntKind.i64.wrap ((i:Int)+k)=((i+k:Nat):Int):=by rw[wrap_i64]<;>omega
     have hik:i+k<o2.length:=by omega
     have ly:b[k]<32768:=lb _ (List.getElem_mem hlt2);have lz:o2[i+k]<32768:=lo2 _ (List.getElem_mem hik);have hset:=ql8 (v:=(c+(o2[i+k]+x*b[k]))%32768) hik;have st:=q3o (o:=o2[i+k]) (x:=x) (y:=b[k]) hv2 rfl;obtain⟨m1,m2⟩:=qu3 lz lx ly hc;rw[qak hik]at hset;have hts:natB (a.take i)*natB b+32768^i*(x*natB (b.take (k+1)))=natB (a.take i)*natB b+32768^i*(x*natB (b.take k))+32768^(i+k)*(x*b[k]):=by
      rw[qa6,qak hlt2,Nat.mul_add x,Nat.mul_add (32768^i),Nat.pow_add,Nat.mul_left_comm x (32768^k),<-Nat.mul_assoc (32768^i) (32768^k),<-Nat.add_assoc]
     have⟨j,hj⟩:∃j,j=i+k:=⟨_,rfl⟩
     simp only[<-hj]at f4 hik lz hset st hts m1 m2 hv2 hdr;have⟨y,hy⟩:∃y,y=b[k]:=⟨_,rfl⟩
     have⟨z,hz⟩:∃z,z=o2[j]:=⟨_,rfl⟩
     simp only[<-hy,<-hz]at ly lz hset st hts m1 m2;have yb:=sb4 k y (by rw[hy];exact List.getElem?_eq_getElem hlt2);have⟨xy,hxy⟩:∃xy,xy=x*y:=⟨_,rfl⟩
     simp only[<-hxy]at st hts m1 m2 hset;have t1:IntKind.i64.wrap ((x:Int)*y)=(xy:Nat):=by
      rw[show(x:Int)*y=((xy:Nat):Int) by rw[hxy];simp,wrap_i64]<;>omega
     have t2:IntKind.i64.wrap ((z:Int)+xy)=((z+xy:Nat):Int):=by rw[wrap_i64]<;>omega
     have t3:IntKind.i64.wrap ((c:Int)+((z+xy:Nat):Int))=((c+(z+xy):Nat):Int):=by rw[wrap_i64]<;>omega
     have⟨zx,hzx⟩:∃zx,zx=z+xy:=⟨_,rfl⟩
     simp only[<-hzx]at t2 t3 st m2 hset;have⟨s,hs⟩:∃s,s=c+zx:=⟨_,rfl⟩
     simp only[<-hs]at t3 st m2 hset;have t4:=tmodB s;have t5:=tdivB s;have⟨d,hd⟩:∃d,d=s%32768:=⟨_,rfl⟩
     have⟨c2,hc2⟩:∃c2,c2=s/32768:=⟨_,rfl⟩
     simp only[<-hd]at t4 st hset;simp only[<-hc2]at t5 st m2;have t6:IntKind.i64.wrap (c2:Int)=c2:=by rw[wrap_i64]<;>omega
     have hjm:j<m:=by omega
     simp[qd0,g1,g5,g6,g7,g8,g17,g18,g19,g24,g25,g26,hlt2,hjm,hik,f3,f4,sb2',yb,bdg,<-hz,t1,t2,t3,t4,t5,t6];refine⟨o2.set j d,qjz o2 j d,by simp[hl2],LiB.set lo2 (by omega),c2,m2,rfl,?_,?_⟩
     ·rw[List.drop_set_of_lt (by omega),show i+(k+1)=j+1 by omega];have:=congrArg (List.drop 1) hdr;rwa[List.drop_drop,List.drop_drop]at this
     ·rw[show i+(k+1)=j+1 by omega,Nat.pow_succ,hts];omega
    ·have hkn:k=b.length:=by omega
     subst hkn;rw[qbk (l:=b) (Nat.le_refl _)]at hv2;have f4:IntKind.i64.wrap ((i:Int)+b.length)=((i+b.length:Nat):Int):=by rw[wrap_i64]<;>omega
     have⟨j,hj⟩:∃j,j=i+b.length:=⟨_,rfl⟩
     rw[<-hj]at hv2 hdr f4;have hjm:j<m:=by omega
     have hjo:j<o2.length:=by omega
     have hjo1:j<o.length:=by omega
     have z0:o2[j]=0:=by
      have e1:o2[j]=o[j]:=by
       rw[List.drop_eq_getElem_cons hjo,List.drop_eq_getElem_cons hjo1]at hdr;injection hdr
      have hb1:=qcf lb;have ha1:=qcf (la.take i);have ha2:32768^(a.take i).length<=32768^i:=qjw;have hlo:natB o<32768^j:=by
       rw[hv,hj,Nat.pow_add];exact Nat.mul_lt_mul'' (by omega) hb1
      have h0:=(qg6 lo hlo).2;rw[qbs,qak hjo1]at h0;rw[e1];omega
     have hset:=ql8 (v:=c) hjo;rw[qak hjo,z0,Nat.mul_zero,Nat.add_zero]at hset;have t1:IntKind.i64.wrap (c:Int)=c:=by rw[wrap_i64]<;>omega
     simp[qd0,g1,g5,g6,g8,g17,g18,g19,g25,g26,f2,f4,hjm,hjo,z0,bdg,t1];refine⟨o2.set j c,qjz o2 j c,by simp[hl2],LiB.set lo2 hc,?_⟩;rw[hset,hv2,qa6,qak hlt,<-hx,Nat.add_mul,Nat.mul_assoc]
  ·have hin:i=a.length:=by omega
   subst hin;rw[qbk (l:=a) (Nat.le_refl _)]at hv;have so:SeesB (.ref H.length 1 0 m) o (H++[some ⟨1,o.map bdg,true,true⟩]):=by
    rw[<-hl];exact .blk (w:=true) (by simp)
   have t1:=qfu so (by omega);simp[qdz,h5,h18,h19];refine WL_ev rfl rfl rfl t1 ?_;rw[qbp lo,hv]at t1 ⊢;have hk:(dgs (natB a*natB b)).length<=o.length:=by rw[<-hv,<-qbp lo];unfold trimL;rw[List.length_take];omega
   have hf:=qfb o;rw[qbp lo,hv]at hf;simp[cutV,hk,bn,bl];rw[<-List.map_take,hf]
theorem qaal (x y:Nat)(hx:(dgs x).length<=1000000)(hy:(dgs y).length<=1000000):CQ prog qsp [bn x,bn y] (bn (x*y)) :=  by
 have la:=qa9 x;have lb:=qa9 y;have ea:=qay x;have eb:=qay y;intro H;refine qej rfl ?_;rw[<-ea,<-eb];unfold bn;rw[ea,eb];generalize hga:dgs x=a at *
 generalize hgb:dgs y=b at *
 rw[<-ea,<-eb];clear hga hgb
 change WK _ _ _ _ _ _ (fun x E1 H1=>_/\∃v0,_/\fin _ _ _ _=some (bn (natB a*natB b),H))
 have w0:IntKind.i64.wrap ((a.length:Int)+b.length)=((a.length+b.length:Nat):Int):=by rw[wrap_i64]<;>omega
 have⟨m,hm⟩:∃m,m=a.length+b.length:=⟨_,rfl⟩
 rw[<-hm]at w0;have f1:m*8<=281474976710656/\m<=9223372036854775807:=by omega
 simp[bl,w0,f1];refine WK_up (fun i E H'=>∃o,H'=H++[some ⟨1,o.map bdg,true,true⟩]/\o.length=m/\LiB o/\E 1=.sl (b.map bdg)/\E 5=.ref H.length 1 0 m/\E 17=.sl (a.map bdg)/\E 18=.int .i64 a.length/\E 19=.int .i64 i/\natB o=natB (a.take i)*natB b) a.length ?_ ?_
 ·exact⟨List.replicate m 0,by simp[bdg],by simp,liB_zeros,by simp,by simp,by simp,by simp,by simp,by simp[qjk,natB]⟩
 ·rintro i E H' hi ⟨o,rfl,hl,lo,h1,h5,h17,h18,h19,hv⟩;rcases Nat.lt_or_ge i a.length with hlt|hge
  ·have f2:IntKind.i64.wrap ((i:Int)+1)=((i+1:Nat):Int):=by rw[wrap_i64]<;>omega
   have lx:a[i]<32768:=la _ (List.getElem_mem hlt);have⟨x,hx⟩:∃x,x=a[i]:=⟨_,rfl⟩
   rw[<-hx]at lx;have ya:a[i]?=some x:=by rw[hx];exact List.getElem?_eq_getElem hlt
   simp[qdz,h1,h17,h18,h19,hlt,<-hx,bdg];refine WK_up (fun k E H'=>∃o2 c,H'=H++[some ⟨1,o2.map bdg,true,true⟩]/\o2.length=m/\LiB o2/\c<32768/\E 1=.sl (b.map bdg)/\E 5=.ref H.length 1 0 m/\E 6=.int .i64 i/\E 7=.int .i64 x/\E 8=.int .i64 (c:Nat)/\E 17=.sl (a.map bdg)/\E 18=.int .i64 a.length/\E 19=.int .i64 i/\E 24=.sl (b.map bdg)/\E 25=.int .i64 b.length/\E 26=.int .i64 k /\
    o2.drop (i+k)=o.drop (i+k)/\natB o2+32768^(i+k)*c=natB (a.take i)*natB b+32768^i*(x*natB (b.take k))) b.length ?_ ?_
   ·exact⟨o,0,rfl,hl,lo,by omega,by simp[h1],by simp[h5],by simp,by simp,by simp,by simp[h17],by simp[h18],by simp[h19],by simp,by simp,by simp,rfl,by simp[natB,hv]⟩
   ·rintro k E H' hk ⟨o2,c,rfl,hl2,lo2,hc,g1,g5,g6,g7,g8,g17,g18,g19,g24,g25,g26,hdr,hv2⟩;rcases Nat.lt_or_ge k b.length with hlt2|hge2
    ·have f3:IntKind.i64.wrap ((k:Int)+1)=((k+1:Nat):Int):=by rw[wrap_i64]<;>omega
     have f4:IntKind.i64.wrap ((i:Int)+k)=((i+k:Nat):Int):=by rw[wrap_i64]<;>omega
     have hik:i+k<o2.length:=by omega
     have ly:b[k]<32768:=lb _ (List.getElem_mem hlt2);have lz:o2[i+k]<32768:=lo2 _ (List.getElem_mem hik);have hset:=ql8 (v:=(c+(o2[i+k]+x*b[k]))%32768) hik;have st:=q3o (o:=o2[i+k]) (x:=x) (y:=b[k]) hv2 rfl;obtain⟨m1,m2⟩:=qu3 lz lx ly hc;rw[qak hik]at hset;have hts:natB (a.take i)*natB b+32768^i*(x*natB (b.take (k+1)))=natB (a.take i)*natB b+32768^i*(x*natB (b.take k))+32768^(i+k)*(x*b[k]):=by
      rw[qa6,qak hlt2,Nat.mul_add x,Nat.mul_add (32768^i),Nat.pow_add,Nat.mul_left_comm x (32768^k),<-Nat.mul_assoc (32768^i) (32768^k),<-Nat.add_assoc]
     have⟨j,hj⟩:∃j,j=i+k:=⟨_,rfl⟩
     simp only[<-hj]at f4 hik lz hset st hts m1 m2 hv2 hdr;have⟨y,hy⟩:∃y,y=b[k]:=⟨_,rfl⟩
     have⟨z,hz⟩:∃z,z=o2[j]:=⟨_,rfl⟩
     simp only[<-hy,<-hz]at ly lz hset st hts m1 m2;have yb:b[k]?=some y:=by rw[hy];exact List.getElem?_eq_getElem hlt2
     have⟨xy,hxy⟩:∃xy,xy=x*y:=⟨_,rfl⟩
     simp only[<-hxy]at st hts m1 m2 hset;have t1:IntKind.i64.wrap ((x:Int)*y)=(xy:Nat):=by
      rw[show(x:Int)*y=((xy:Nat):Int) by rw[hxy];simp,wrap_i64]<;>omega
     have t2:IntKind.i64.wrap ((z:Int)+xy)=((z+xy:Nat):Int):=by rw[wrap_i64]<;>omega
     have t3:IntKind.i64.wrap ((c:Int)+((z+xy:Nat):Int))=((c+(z+xy):Nat):Int):=by rw[wrap_i64]<;>omega
     have⟨zx,hzx⟩:∃zx,zx=z+xy:=⟨_,rfl⟩
     simp only[<-hzx]at t2 t3 st m2 hset;have⟨s,hs⟩:∃s,s=c+zx:=⟨_,rfl⟩
     simp only[<-hs]at t3 st m2 hset;have t4:=tmodB s;have t5:=tdivB s;have⟨d,hd⟩:∃d,d=s%32768:=⟨_,rfl⟩
     have⟨c2,hc2⟩:∃c2,c2=s/32768:=⟨_,rfl⟩
     simp only[<-hd]at t4 st hset;simp only[<-hc2]at t5 st m2;have t6:IntKind.i64.wrap (c2:Int)=c2:=by rw[wrap_i64]<;>omega
     have hjm:j<m:=by omega
     simp[qd0,g1,g5,g6,g7,g8,g17,g18,g19,g24,g25,g26,hlt2,hjm,hik,f3,f4,<-hy,bdg,<-hz,t1,t2,t3,t4,t5,t6];refine⟨o2.set j d,qjz o2 j d,by simp[hl2],LiB.set lo2 (by omega),c2,m2,rfl,?_,?_⟩
     ·rw[List.drop_set_of_lt (by omega),show i+(k+1)=j+1 by omega];have:=congrArg (List.drop 1) hdr;rwa[List.drop_drop,List.drop_drop]at this
     ·rw[show i+(k+1)=j+1 by omega,Nat.pow_succ,hts];omega
    ·have hkn:k=b.length:=by omega
     subst hkn;rw[qbk (l:=b) (Nat.le_refl _)]at hv2;have f4:IntKind.i64.wrap ((i:Int)+b.length)=((i+b.length:Nat):Int):=by rw[wrap_i64]<;>omega
     have⟨j,hj⟩:∃j,j=i+b.length:=⟨_,rfl⟩
     rw[<-hj]at hv2 hdr f4;have hjm:j<m:=by omega
     have hjo:j<o2.length:=by omega
     have hjo1:j<o.length:=by omega
     have z0:o2[j]=0:=by
      have e1:o2[j]=o[j]:=by
       rw[List.drop_eq_getElem_cons hjo,List.drop_eq_getElem_cons hjo1]at hdr;injection hdr
      have hb1:=qcf lb;have ha1:=qcf (la.take i);have ha2:32768^(a.take i).length<=32768^i:=qjw;have hlo:natB o<32768^j:=by
       rw[hv,hj,Nat.pow_add];exact Nat.mul_lt_mul'' (by omega) hb1
      have h0:=(qg6 lo hlo).2;rw[qbs,qak hjo1]at h0;rw[e1];omega
     have hset:=ql8 (v:=c) hjo;rw[qak hjo,z0,Nat.mul_zero,Nat.add_zero]at hset;have t1:IntKind.i64.wrap (c:Int)=c:=by rw[wrap_i64]<;>omega
     simp[qd0,g1,g5,g6,g8,g17,g18,g19,g25,g26,f2,f4,hjm,hjo,z0,bdg,t1];refine⟨o2.set j c,qjz o2 j c,by simp[hl2],LiB.set lo2 hc,?_⟩;rw[hset,hv2,qa6,qak hlt,<-hx,Nat.add_mul,Nat.mul_assoc]
  ·have hin:i=a.length:=by omega
   subst hin;rw[qbk (l:=a) (Nat.le_refl _)]at hv;have so:SeesB (.ref H.length 1 0 m) o (H++[some ⟨1,o.map bdg,true,true⟩]):=by
    rw[<-hl];exact .blk (w:=true) (by simp)
   have t1:=qfu so (by omega);simp[qdz,h5,h18,h19];refine WL_ev rfl rfl rfl t1 ?_;rw[qbp lo,hv]at t1 ⊢;have hk:(dgs (natB a*natB b)).length<=o.length:=by rw[<-hv,<-qbp lo];unfold trimL;rw[List.length_take];omega
   have hf:=qfb o;rw[qbp lo,hv]at hf;simp[cutV,hk,bn,bl];rw[<-List.map_take,hf]
end Go.Abs.W
namespace Go.Abs.W
set_option maxRecDepth 20000
def zfrom (u:List Nat)(off i:Nat):List Nat:=u.take off++(List.replicate i 0++u.drop (off+i))
theorem qxq {u:List Nat}{off i:Nat}(h:off+i<=u.length):(zfrom u off i).length=u.length:=by
 unfold zfrom;simp;omega
theorem q45 {u:List Nat}{off:Nat}:zfrom u off 0=u:=by simp[zfrom]
theorem q62 {u:List Nat}{off i:Nat}(h:off+i<u.length):(zfrom u off i).set (off+i) 0=zfrom u off (i+1):=by
 unfold zfrom;have h1:(u.take off).length=off:=by simp;omega
 rw[List.set_append_right _ _ (by omega),h1,show off+i-off=i by omega,List.set_append_right _ _ (by simp),List.length_replicate,Nat.sub_self,List.drop_eq_getElem_cons h,List.set_cons_zero,List.replicate_succ'];simp[Nat.add_assoc]
theorem qwa (l:List Nat)(n:Nat):natB (l++List.replicate n 0)=natB l:=by rw[qd7,qjk];simp
set_option maxHeartbeats 4000000 in
theorem qadq {K T:Heap}{Q:V->Heap->Prop}(u v:List Nat)(off q:Nat)(hu:u.length<=1000000)(hoff:off+(v.length+1)<=u.length)(lu:LiB u)(lv:LiB v)(_:Trim v)(hq:q<32768)
 (hQ0:natB ((u.drop off).take (v.length+1))<natB v*q->Q (.bool false) (K++some ⟨1,u.map bdg,true,true⟩ :: some ⟨1,v.map bdg,true,true⟩ :: T))
 (hQ1:∀u2,u2.length=u.length->LiB u2->u2.take off=u.take off->u2.drop (off+(v.length+1))=u.drop (off+(v.length+1)) ->
  natB ((u2.drop off).take (v.length+1))+natB v*q=natB ((u.drop off).take (v.length+1))->Q (.bool true) (K++some ⟨1,u2.map bdg,true,true⟩ :: some ⟨1,v.map bdg,true,true⟩ :: T)) :
 CT prog q5y [.ref K.length 1 off (v.length+1),.ref (K.length+1) 1 0 v.length,.int .i64 q] (K++some ⟨1,u.map bdg,true,true⟩ :: some ⟨1,v.map bdg,true,true⟩ :: T) Q:=by
 have⟨n,hn⟩:∃n,n=v.length+1:=⟨_,rfl⟩
 rw[<-hn]at hoff hQ0 hQ1 ⊢;have⟨win,hwin⟩:∃win,win=(u.drop off).take n:=⟨_,rfl⟩
 have lwin:LiB win:=by rw[hwin];exact(lu.drop _).take _
 have hwl:win.length=n:=by rw[hwin];simp;omega
 rw[<-hwin]at hQ0 hQ1;have lq1:LiB [q]:=by intro y hy;simp at hy;omega
 have eq1:natB (trimL [q])=q:=by rw[qph];simp[natB]
 have lq:LiB (trimL [q]):=lq1.trimL;have lenq:(trimL [q]).length<=1:=by unfold trimL;rw[List.length_take];simp;exact Nat.min_le_right _ _
 have getq:∀i x,(trimL [q])[i]?=some x->[V.int .i64 (q:Int)][0+i]?=some (bdg x):=by
  intro i x hx;unfold trimL at hx;rw[List.getElem?_take]at hx;split at hx
  ·rcases i with _|i
   ·simp at hx;subst hx;simp[bdg]
   ·simp at hx
  ·cases hx
 have sq:SeesB (.ref (K.length+(T.length+2)) 1 0 1) [q] (K++some ⟨1,u.map bdg,true,true⟩ :: some ⟨1,v.map bdg,true,true⟩ :: (T++[some ⟨1,[.int .i64 (q:Int)],true,true⟩])):=by
  refine .ref (w:=true) (l:=[q]) (blk:=[.int .i64 (q:Int)]) ?_ (by simp) ?_
  ·rw[List.getElem?_append_right (by omega)];simp[show K.length+(T.length+2)-K.length=T.length+2 by omega]
  ·intro i x hx;rcases i with _|i
   ·simp at hx;subst hx;simp[bdg]
   ·simp at hx
 refine CT_of (f:=qmg) rfl (qkz ?_);simp;refine WL_ev rfl rfl rfl (qfu sq (by simp)) ?_;simp[cutV];have vq:natB v*natB (trimL [q])=natB v*q:=by rw[eq1]
 refine WL_ev rfl rfl rfl (qaak (ka:=v.map bdg) (wa:=true) (kb:=[.int .i64 (q:Int)]) (wb:=true) (oa:=0) (ob:=0) lv lq (by omega) (by omega) ?_ ?_ ?_ getq) ?_
 ·rw[List.getElem?_append_right (by omega)];simp
 ·intro i x hx;simp[hx]
 ·rw[List.getElem?_append_right (by omega)];simp[show K.length+(T.length+2)-K.length=T.length+2 by omega]
 rw[vq];have⟨P,hP⟩:∃P,P=natB v*q:=⟨_,rfl⟩
 rw[<-hP]at hQ0 hQ1 ⊢;simp;have sw:∀G,SeesB (.ref K.length 1 off n) win (K++some ⟨1,u.map bdg,true,true⟩ :: G):=by
  intro G;have h:=SeesB.ref (H:=K++some ⟨1,u.map bdg,true,true⟩ :: G) (b:=K.length) (off:=off) (l:=win) (blk:=u.map bdg) (w:=true) (by simp) (by simp;omega) (by
   intro i x hx;rw[hwin,List.getElem?_take]at hx;split at hx
   ·rw[List.getElem?_drop]at hx;simp[hx]
   ·cases hx)
  rw[hwl]at h;exact h
 refine WL_ev rfl rfl rfl (qfu (sw _) (by omega)) ?_;have stw:=(sw (some ⟨1,v.map bdg,true,true⟩ :: (T++[some ⟨1,[.int .i64 (q:Int)],true,true⟩]))).cut (n:=(trimL win).length) (by unfold trimL;rw[List.length_take];omega);rw[qfb]at stw;simp;have hPl:(dgs P).length<=1000000000:=by
  refine Nat.le_trans (dgs_len (k:=v.length+1).2 ?_) (by omega);rw[hP,Nat.pow_succ];exact Nat.mul_lt_mul'' (qcf lv) hq
 have tk:∀A B X,List.take (K.length+(T.length+1+1)) (K++A :: B :: (T++X))=K++A :: B :: T:=by
  intro A B X;rw[List.take_append,List.take_of_length_le (by omega),show K.length+(T.length+1+1)-K.length=T.length+1+1 by omega];simp
 refine WL_ev rfl rfl rfl (qn1 stw .bl (by simp[cutV]) (by simp[bn,bl]) lwin.trimL (qa9 P) (by unfold trimL;rw[List.length_take];omega) hPl) ?_;have cs:=(q4g lwin.trimL (qa9 P) (qgx win) (qfo P)).1;rw[qph,qay]at cs;have⟨c,hc⟩:∃c,c=cmpD (trimL win) (dgs P):=⟨_,rfl⟩
 rw[<-hc]at cs ⊢;by_cases hlt:natB win<P
 ·have hc0:=cs.2 hlt;have:=hQ0 hlt;simp[hc0];exact⟨_,_,⟨rfl,tk _ _ _⟩,this⟩
 ·have hc0:¬c<0:=fun h=>hlt (cs.1 h)
  have hdl:(dgs P).length<=win.length:=by
   rw[hwl];refine dgs_len.2 ?_;have:=qcf lwin;rw[hwl]at this;omega
  have hwn:win≠[]:=by intro h;rw[h]at hwl;simp at hwl;omega
  simp[hc0];refine WL_ev rfl rfl rfl (qtp (sw _) .bl lwin (qa9 P) (by omega) hdl hwn (by rw[qay];omega)) ?_;rw[qay];have⟨D,hD⟩:∃D,D=natB win-P:=⟨_,rfl⟩
  rw[<-hD];have hDl:(dgs D).length<=n:=by
   refine dgs_len.2 ?_;have:=qcf lwin;rw[hwl]at this;omega
  simp;refine WK_up (fun i E H'=>H'=K++some ⟨1,(zfrom u off i).map bdg,true,true⟩ :: some ⟨1,v.map bdg,true,true⟩ :: (T++[some ⟨1,[.int .i64 (q:Int)],true,true⟩])/\E 0=.ref K.length 1 off n/\E 8=bn D/\E 24=.int .i64 n/\E 25=.int .i64 i) n ?_ ?_
  ·simp[q45]
  ·rintro i E H' hi ⟨rfl,h0,h8,h24,h25⟩;rcases Nat.lt_or_ge i n with hin|hin
   ·have g1:IntKind.i64.wrap ((i:Int)+1)=((i+1:Nat):Int):=by rw[wrap_i64]<;>omega
    have zl:=qxq (u:=u) (off:=off) (i:=i) (by omega);have hlt2:off+i<(zfrom u off i).length:=by omega
    have zs:=q62 (u:=u) (off:=off) (i:=i) (by omega);have ms:=qjz (zfrom u off i) (off+i) 0;rw[zs]at ms;simp only[Int.natCast_zero]at ms;simp[qko,h0,h8,h24,h25,hin,hlt2,g1];exact ms
   ·have:i=n:=by omega
    subst this;have zl:=qxq (u:=u) (off:=off) (i:=i) (by omega);have hle:off+i<=(zfrom u off i).length:=by omega
    have hh:=qpj (dgs D);have A1:(u.take off).length=off:=by simp;omega
    have⟨u2,hu2⟩:∃u2,u2=u.take off++(dgs D++(List.replicate (i-(dgs D).length) 0++u.drop (off+i))):=⟨_,rfl⟩
    have hsp:qcq ((zfrom u off i).map bdg) off ((dgs D).map bdg)=u2.map bdg:=by
     unfold qcq zfrom;rw[hu2,List.length_map,<-List.map_take,<-List.map_drop,<-List.map_append,<-List.map_append]
     congr 1
     rw[List.take_append_of_le_length (by omega),List.take_of_length_le (by omega),List.append_assoc]
     congr 2
     rw[List.drop_append,List.drop_of_length_le (by omega),A1,show off+(dgs D).length-off=(dgs D).length by omega,List.nil_append,List.drop_append_of_le_length (by simp;omega)];simp
    have hq1:=hQ1 u2 (by rw[hu2];simp;omega) (by rw[hu2];exact(lu.take _).append ((qa9 D).append (liB_zeros.append (lu.drop _)))) (by
     rw[hu2,List.take_append_of_le_length (by omega),List.take_of_length_le (by omega)]) (by
     rw[hu2,List.drop_append,List.drop_of_length_le (by omega),A1,show off+i-off=i by omega,List.nil_append,List.drop_append,List.drop_of_length_le hDl,List.nil_append,List.drop_append,List.drop_of_length_le (by simp)];simp) (by
     rw[hu2,List.drop_append,List.drop_of_length_le (by omega),A1,Nat.sub_self,List.nil_append,List.drop_zero,<-List.append_assoc,List.take_append_of_le_length (by simp;omega),List.take_of_length_le (by simp;omega),qwa,qay];omega)
    have hmin:List.take i ((dgs D).map bdg)=(dgs D).map bdg:=List.take_of_length_le (by simp;omega);simp only[qcc]at hh;simp[qko,h0,h8,h24,h25,bn,bl,hle];rw[if_pos hh];have hsp2:List.take off ((zfrom u off i).map bdg)++(List.take i ((dgs D).map bdg)++List.drop (off+min i (dgs D).length) ((zfrom u off i).map bdg))=u2.map bdg:=by
     rw[hmin,Nat.min_eq_right hDl,<-hsp];unfold qcq;rw[List.append_assoc,List.length_map]
    simp[hsp2];exact⟨_,_,⟨rfl,tk _ _ _⟩,hq1⟩
end Go.Abs.W
namespace Go.Abs.W
set_option maxHeartbeats 4000000
set_option maxRecDepth 20000
theorem qaid {n0:Nat}{Q:AX->Env->Heap->Prop}{c:AC}{Kf:List Fr}{E:Env}{H H':Heap}(h:H=H')(k:WK prog n0 c Kf E H' Q):WK prog n0 c Kf E H Q:=h ▸ k
theorem qadc {win v:List Nat}{n:Nat}(hw:win.length=n+1)(hv:v.length=n)(hn:0<n)(lw:LiB win)(t:Nat)(ht:t=dig win n*32768+dig win (n-1))(h0:0<dig v (n-1)) :
 natB win/natB v<=t/dig v (n-1):=by
 have e1:natB win/32768^(n-1)=t:=by
  rw[qoc lw,qbs,qbs,show n-1+1+1=n+1 by omega,List.drop_of_length_le (by omega),show n-1+1=n by omega,ht];simp only[natB];omega
 have e2:dig v (n-1)*32768^(n-1)<=natB v:=by
  rw[qcv v (n-1),qbs,List.drop_of_length_le (by omega)];simp only[natB,Nat.mul_zero,Nat.add_zero];rw[Nat.mul_comm];omega
 have hV:0<natB v:=by
  have:=Nat.mul_pos h0 (Nat.pow_pos (n:=n-1) (show 0<32768 by omega));omega
 rw[Nat.le_div_iff_mul_le h0];rw[<-e1,Nat.le_div_iff_mul_le (Nat.pow_pos (by omega)),Nat.mul_assoc];exact Nat.le_trans (Nat.mul_le_mul_left _ e2) (Nat.div_mul_le_self _ _)
theorem qabw {v:List Nat}(tv:Trim v)(hn:v≠[]):0<dig v (v.length-1):=by
 have h0:0<v.length:=by
  rcases v with _|⟨x,l⟩
  ·exact absurd rfl hn
  ·simp
 have h1:v.length-1<v.length:=by omega
 have:=tv v[v.length-1] (by rw[List.getLast?_eq_getElem?,List.getElem?_eq_getElem h1]);rw[qak h1];omega
theorem q6m {n0:Nat}{Q:AX->Env->Heap->Prop}{Kf:List Fr}{E:Env}{K T:Heap}(u v:List Nat)(j n q:Nat)(hn:n=v.length)(hu:u.length<=1000000)(hj:j+(n+1)<=u.length)(lu:LiB u)(lv:LiB v)(tv:Trim v)(hq:q<32768)(W:Nat)(hW:W=natB ((u.drop j).take (n+1)))(hV:0<natB v)(hqw:W/natB v<=q)
 (h7:E 7=.ref K.length 1 0 u.length) (h8:E 8=.ref (K.length+1) 1 0 n) (h9:E 9=.int .i64 n) (h11:E 11=.int .i64 j) (h12:E 12=.int .i64 q)
 (hQ:∀E1 u2,u2.length=u.length->LiB u2->u2.take j=u.take j->u2.drop (j+(n+1))=u.drop (j+(n+1))->natB ((u2.drop j).take (n+1))+natB v*(W/natB v)=W ->
  E1 7=E 7->E1 8=E 8->E1 9=E 9->E1 10=E 10->E1 11=E 11->E1 12=.int .i64 ((W/natB v:Nat):Int)->WP prog n0 Q Kf (.exit 2) E1 (K++some ⟨1,u2.map bdg,true,true⟩ :: some ⟨1,v.map bdg,true,true⟩ :: T)) :
 WK prog n0 (.loop qh0) Kf E (K++some ⟨1,u.map bdg,true,true⟩ :: some ⟨1,v.map bdg,true,true⟩ :: T) Q:=by
 have⟨d,hd⟩:∃d,d=W/natB v:=⟨_,rfl⟩
 rw[<-hd]at hqw hQ;have w1:IntKind.i64.wrap ((j:Int)+n)=((j+n:Nat):Int):=by rw[wrap_i64]<;>omega
 have w2:IntKind.i64.wrap (((j+n:Nat):Int)+1)=((j+n+1:Nat):Int):=by rw[wrap_i64]<;>omega
 have⟨jn,hjn⟩:∃jn,jn=j+n+1:=⟨_,rfl⟩
 have⟨jm,hjm⟩:∃jm,jm=j+n:=⟨_,rfl⟩
 rw[<-hjn,<-hjm]at w2;rw[<-hjm]at w1;have b1:j<=jn:=by omega
 have b2:jn<=u.length:=by omega
 have b3:jn-j=n+1:=by omega
 refine qbu (fun q E' H'=>H'=K++some ⟨1,u.map bdg,true,true⟩ :: some ⟨1,v.map bdg,true,true⟩ :: T/\d<=q/\q<32768/\E' 7=E 7/\E' 8=E 8/\E' 9=E 9/\E' 10=E 10/\E' 11=E 11/\E' 12=.int .i64 q) q ⟨rfl,hqw,hq,rfl,rfl,rfl,rfl,rfl,h12⟩ ?_;rintro q E' H' ⟨rfl,hdq,hq,g7,g8,g9,g10,g11,g12⟩;refine qa1 ?_;simp[qh0,g7,g8,g9,g11,g12,h7,h8,h9,h11,w1,w2,b1,b2,b3];rw[hn];refine qb6 rfl rfl rfl (qadq u v j q hu (by omega) lu lv tv hq ?_ ?_)
 ·intro hlt;rw[<-hn,<-hW]at hlt;have hq1:d<q:=by
   rw[hd,Nat.div_lt_iff_lt_mul hV,Nat.mul_comm];exact hlt
  have w3:IntKind.i64.wrap ((q:Int)-1)=((q-1:Nat):Int):=by rw[wrap_i64]<;>omega
  simp[g7,g8,g9,g10,g11,g12,h7,h8,h9,h11,w3];exact⟨q-1,by omega,by omega,by omega,by simp[hn],by omega,rfl⟩
 ·intro u2 e1 e2 e3 e4 e5;rw[<-hn]at e4 e5;rw[<-hW]at e5;have hq1:q=d:=by
   have:q<=d:=by rw[hd,Nat.le_div_iff_mul_le hV,Nat.mul_comm];omega
   omega
  subst hq1;simp;exact hQ _ u2 e1 e2 e3 e4 e5 (by simp[g7]) (by simp[g8]) (by simp[g9]) (by simp[g10]) (by simp[g11]) (by simp[g12])
theorem qaaq {n0:Nat}{Q:AX->Env->Heap->Prop}{Kf:List Fr}{E:Env}{K:Heap}(u v:List Nat)(m n:Nat)(hn:n=v.length)(hu:u.length<=1000000)(hl:u.length=m+n)(lu:LiB u)(lv:LiB v)(tv:Trim v)(nv:v≠[])(htop:natB (u.drop m)<natB v)
 (h7:E 7=.ref K.length 1 0 u.length) (h8:E 8=.ref (K.length+1) 1 0 n) (h9:E 9=.int .i64 n) (h10:E 10=.ref (K.length+2) 1 0 m) (h11:E 11=.int .i64 ((m:Int)-1))
 (hQ:∀E1 u2 o2,u2.length=u.length->o2.length=m->LiB u2->LiB o2->natB u2<natB v->natB u2+natB o2*natB v=natB u ->
  E1 7=.ref K.length 1 0 u.length->E1 10=.ref (K.length+2) 1 0 m->WP prog n0 Q Kf (.exit 0) E1 (K++[some ⟨1,u2.map bdg,true,true⟩,some ⟨1,v.map bdg,true,true⟩,some ⟨1,o2.map bdg,true,true⟩])) :
 WK prog n0 (.loop qe5) Kf E (K++[some ⟨1,u.map bdg,true,true⟩,some ⟨1,v.map bdg,true,true⟩,some ⟨1,(List.replicate m 0).map bdg,true,true⟩]) Q:=by
 have hV:0<natB v:=by have:=qag1 tv nv;omega
 have hVlt:=qcf lv;rw[<-hn]at hVlt;have hn0:0<n:=by
  rw[hn];rcases v with _|⟨x,l⟩
  ·exact absurd rfl nv
  ·simp
 have vt:=qabw tv nv;rw[<-hn]at vt;have vtl:=qld lv (n-1);refine qbu (fun r E' H'=>∃u2 o2,H'=K++[some ⟨1,u2.map bdg,true,true⟩,some ⟨1,v.map bdg,true,true⟩,some ⟨1,o2.map bdg,true,true⟩]/\r<=m/\u2.length=u.length/\o2.length=m/\LiB u2/\LiB o2/\natB (u2.drop r)<natB v/\natB u2+natB o2*natB v=natB u/\(∀i,i<r->dig o2 i=0) /\
  E' 7=.ref K.length 1 0 u.length/\E' 8=.ref (K.length+1) 1 0 n/\E' 9=.int .i64 n/\E' 10=.ref (K.length+2) 1 0 m/\E' 11=.int .i64 ((r:Int)-1)) m ?_ ?_
 ·refine⟨u,List.replicate m 0,rfl,Nat.le_refl _,rfl,by simp,lu,liB_zeros,htop,by simp[qjk],?_,h7,h8,h9,h10,h11⟩;intro i hi;simp[dig,hi]
 ·rintro r E' H' ⟨u2,o2,rfl,hr,hu2,ho2,lu2,lo2,hdr,hval,hz,g7,g8,g9,g10,g11⟩;refine qa1 ?_;rcases r with _|j
  ·have n1:¬((0:Int)<=-1):=by omega
   rw[List.drop_zero]at hdr;simp[qe5,g11];exact hQ _ u2 o2 hu2 ho2 lu2 lo2 hdr hval (by simp[g7]) (by simp[g10])
  ·have e2:(j+1:Int)-1=j:=by omega
   simp only[Int.natCast_add,Int.natCast_one,e2]at g11;have p1:(0:Int)<=j:=by omega
   have hj:j+(n+1)<=u2.length:=by omega
   have k1':j+n<u2.length:=by omega
   have k2':j+n-1<u2.length:=by omega
   have k3':n-1<v.length:=by omega
   have dn0:dig ((u2.drop j).take (n+1)) n=u2[j+n]:=by
    rw[dig,List.getElem?_take,if_pos (by omega),List.getElem?_drop,List.getElem?_eq_getElem k1'];rfl
   have dm0:dig ((u2.drop j).take (n+1)) (n-1)=u2[j+n-1]:=by
    have:j+(n-1)=j+n-1:=by omega
    rw[dig,List.getElem?_take,if_pos (by omega),List.getElem?_drop,this,List.getElem?_eq_getElem k2'];rfl
   have⟨win,hwin⟩:∃win,win=(u2.drop j).take (n+1):=⟨_,rfl⟩
   have lwin:LiB win:=by rw[hwin];exact(lu2.drop _).take _
   have hwl:win.length=n+1:=by rw[hwin];simp;omega
   have hdj:natB (u2.drop j)<32768*natB v:=by
    rw[qbs];have:=qld lu2 j;have h2:32768*natB (u2.drop (j+1))+32768*1<=32768*natB v:=by rw[<-Nat.mul_add];exact Nat.mul_le_mul_left _ hdr
    omega
   have hsm:natB (u2.drop j)<32768^(n+1):=by rw[Nat.pow_succ];omega
   obtain⟨s1,s2⟩:=qg6 (lu2.drop j) hsm;rw[<-hwin]at s1;rw[List.drop_drop]at s2;have dn:dig win n=u2[j+n]:=by rw[<-dn0,hwin]
   have dm:dig win (n-1)=u2[j+n-1]:=by rw[<-dm0,hwin]
   have dv:dig v (n-1)=v[n-1]:=qak k3';have le:=qadc hwl (v:=v) (n:=n) hn.symm hn0 lwin _ rfl vt;rw[dn,dm,dv]at le;rw[dv]at vt vtl;have x1:u2[j+n]<32768:=lu2 _ (List.getElem_mem _);have x2:u2[j+n-1]<32768:=lu2 _ (List.getElem_mem _);have hWV:natB win/natB v<32768:=by rw[Nat.div_lt_iff_lt_mul hV,s1];exact hdj
   have k1:j+n<u.length:=by omega
   have k2:j+n-1<u.length:=by omega
   have k3:n-1<n:=by omega
   have⟨a1,ha1⟩:∃a1,a1=u2[j+n]:=⟨_,rfl⟩
   have⟨a2,ha2⟩:∃a2,a2=u2[j+n-1]:=⟨_,rfl⟩
   have⟨b1,hb1⟩:∃b1,b1=v[n-1]:=⟨_,rfl⟩
   rw[<-ha1,<-ha2,<-hb1]at le;rw[<-ha1]at x1;rw[<-ha2]at x2;rw[<-hb1]at vt vtl;have w1:IntKind.i64.wrap ((j:Int)+n)=((j+n:Nat):Int):=by rw[wrap_i64]<;>omega
   have w2:IntKind.i64.wrap (((j+n:Nat):Int)-1)=((j+n-1:Nat):Int):=by rw[wrap_i64]<;>omega
   have w3:IntKind.i64.wrap ((n:Int)-1)=((n-1:Nat):Int):=by rw[wrap_i64]<;>omega
   have w4:IntKind.i64.wrap ((a1:Int)*32768)=((a1*32768:Nat):Int):=by rw[wrap_i64]<;>omega
   have w5:IntKind.i64.wrap (((a1*32768:Nat):Int)+a2)=((a1*32768+a2:Nat):Int):=by rw[wrap_i64]<;>omega
   have⟨t,ht⟩:∃t,t=a1*32768+a2:=⟨_,rfl⟩
   have⟨t0,ht0⟩:∃t0,t0=a1*32768:=⟨_,rfl⟩
   rw[<-ht]at w5 le;rw[<-ht0]at w4 w5;have w6:=tdivN t b1;have⟨e,he⟩:∃e,e=t/b1:=⟨_,rfl⟩
   rw[<-he]at w6 le;have he2:e<=t:=by rw[he];exact Nat.div_le_self _ _
   have w7:IntKind.i64.wrap (e:Int)=e:=by rw[wrap_i64]<;>omega
   have w8:(if(32767:Int)<e then 32767 else(e:Int))=((min e 32767:Nat):Int):=by
    by_cases h:32767<e
    ·rw[if_pos (by omega)];omega
    ·rw[if_neg (by omega)];omega
   have b0:¬b1=0:=by omega
   have⟨jn,hjn⟩:∃jn,jn=j+n:=⟨_,rfl⟩
   have⟨jm,hjm⟩:∃jm,jm=j+n-1:=⟨_,rfl⟩
   have⟨nm,hnm⟩:∃nm,nm=n-1:=⟨_,rfl⟩
   simp only[<-hjm]at w2 k2 k2' ha2;simp only[<-hjn]at w1 w2 k1 k1' ha1;simp only[<-hnm]at w3 k3 k3' hb1;simp[qe5,g7,g8,g9,g11,p1,w1,w2,w3,k1,k2,k3,k1',k2',k3',bdg,<-ha1,<-ha2,<-hb1,w4,w5,b0,w6,w7,w8];refine q6m (K:=K) (T:=[some ⟨1,o2.map bdg,true,true⟩]) u2 v j n (min e 32767) hn (by omega) hj lu2 lv tv (by omega) (natB win) (by rw[hwin]) hV (by omega) (by simp[g7,hu2]) (by simp[g8]) (by simp[g9]) (by simp[g11]) (by simp) ?_;intro E1 u3 a1 a2 a3 a4 a5 c7 c8 c9 c10 c11 c12;have hm:((min e 32767:Nat):Int)=((min e 32767:Nat):Int):=rfl;simp[g7]at c7;simp[g8]at c8;simp[g9]at c9;simp[g10]at c10;simp[g11]at c11;have⟨d,hd⟩:∃d,d=natB win/natB v:=⟨_,rfl⟩
   rw[<-hd]at hWV a5 c12;have z0:=hz j (by omega);have hjo:j<o2.length:=by omega
   have hjm2:j<m:=by omega
   have hset:=ql8 (v:=d) hjo;rw[z0,Nat.mul_zero,Nat.add_zero]at hset;have ms:=qjz o2 j d;have y1:IntKind.i64.wrap ((j:Int)-1)=(j:Int)-1:=by rw[wrap_i64]<;>omega
   have e3:natB (u3.drop j)=natB ((u3.drop j).take (n+1)):=by
    have:=qcv (u3.drop j) (n+1);rw[List.drop_drop,a4,s2]at this;omega
   have hmodd:natB (u3.drop j)<natB v:=by
    rw[e3];have:=Nat.lt_succ_self d;have h1:natB win<natB v*(d+1):=by rw[hd];exact Nat.lt_mul_div_succ _ hV
    rw[Nat.mul_add]at h1;omega
   have hval2:natB u3+natB (o2.set j d)*natB v=natB u:=by
    rw[hset,qcv u3 j,a3,e3,Nat.add_mul,<-hval];have h1:=qcv u2 j;rw[h1,<-s1,<-a5,Nat.mul_add,Nat.mul_comm (natB v) d,Nat.mul_assoc];omega
   have zz:∀i,i<j->dig (o2.set j d) i=0:=fun i hi=>by rw[q6g (by omega)];exact hz i (by omega)
   simp[c7,c8,c9,c10,c11,c12,hjm2,hjo,y1];refine⟨j,by omega,u3,o2.set j d,⟨rfl,ms⟩,by omega,by omega,by simp[ho2],a2,LiB.set lo2 hWV,hmodd,hval2,zz,rfl⟩
theorem q6l (x y:Nat)(hx:(dgs x).length<=400000)(hy:(dgs y).length<=400000)(h0:y≠0):CQ prog qzg [bn x,bn y] (.tup [bn (x/y),.bool (decide (x%y≠0))]):=by
 have⟨R,hR⟩:∃R,R=decide (x%y≠0):=⟨_,rfl⟩
 have⟨D,hD⟩:∃D,D=x/y:=⟨_,rfl⟩
 rw[<-hR,<-hD];refine qaf rfl fun H=>?_
 have ly:=qes h0;have ny:(dgs y).length≠0:=fun h=>ly (List.eq_nil_of_length_eq_zero h)
 simp;refine qab rfl rfl rfl (q2l x y (by omega) (by omega)) ?_;obtain⟨c1,_⟩:=q4h x y;generalize cmpD (dgs x) (dgs y)=c at *
 by_cases hlt:x<y
 ·have hc:=c1.2 hlt;rw[Nat.div_eq_of_lt hlt]at hD;rw[Nat.mod_eq_of_lt hlt]at hR;have h5:decide (x≠0)=decide (0<(dgs x).length):=by
   rw[decide_eq_decide];constructor
   ·intro h;have:=qes h;exact List.length_pos_iff.2 this
   ·intro h hx0;rw[hx0,qbf]at h;simp at h
  rw[hD,hR,h5];simp[hc,bn,bl,qbf]
 ·have hc:¬c<0:=fun h=>hlt (c1.1 h)
  have hx0:x≠0:=by omega
  have by1:bitL y<=15*(dgs y).length:=by
   refine qax ?_;rw[<-qfw];exact dgs_len.1 (Nat.le_refl _)
  have by2:15*(dgs y).length<=bitL y+14:=by
   have h1:=qr1 (qfo y) ly;rw[qay,qfw]at h1;have h2:=qd1 h1;have h3:bitL (2^(15*((dgs y).length-1)))=15*((dgs y).length-1)+1:=qts (by have:=Nat.two_pow_pos (15*((dgs y).length-1));omega) (Nat.le_refl _) (Nat.pow_lt_pow_right (by omega) (by omega));omega
  have⟨k,hk⟩:∃k,k=15*(dgs y).length-bitL y:=⟨_,rfl⟩
  have w1:IntKind.i64.wrap (15*((dgs y).length:Int))=((15*(dgs y).length:Nat):Int):=by rw[wrap_i64]<;>omega
  have w2:IntKind.i64.wrap (((15*(dgs y).length:Nat):Int)-bitL y)=(k:Nat):=by rw[wrap_i64]<;>omega
  have⟨yl,hyl⟩:∃yl,yl=15*(dgs y).length:=⟨_,rfl⟩
  rw[<-hyl]at w1 w2;simp[hc,bn,bl,w1];refine qab rfl rfl rfl (qig y (by omega)) ?_;simp[w2];have px:x*2^k≠0:=Nat.mul_ne_zero hx0 (by have:=Nat.two_pow_pos k;omega);have py:y*2^k≠0:=Nat.mul_ne_zero h0 (by have:=Nat.two_pow_pos k;omega);refine qb6 rfl rfl rfl (q0c x k (by omega) (by omega) hx0 ⟨fun h=>by simp at h,?_⟩);have lu:=qa9 (x*2^k);have lv:=qa9 (y*2^k);have tv:=qfo (y*2^k);have vu:=qay (x*2^k);have vv:=qay (y*2^k);have nv:=qes py;have nu:=qes px;have sz:∀z,(dgs z).length<=400000->(dgs (z*2^k)).length<=400001:=by
   have⟨K,hK⟩:∃K,K=400000:=⟨_,rfl⟩
   rw[show 400001=K+1 by omega,<-hK];intro z hz;refine dgs_len.2 ?_;have h1:=dgs_len.1 hz;have h2:2^k<=32768:=Nat.pow_le_pow_right (j:=15) (by omega) (by omega);rw[Nat.pow_succ];exact Nat.lt_of_le_of_lt (Nat.mul_le_mul_left _ h2) (Nat.mul_lt_mul_of_pos_right h1 (by omega))
  have su:=sz x hx;have sv:=sz y hy;have e8:((dgs (x*2^k)).length+2)*8<=140737488355328:=by omega
  simp[qbq,qcc,qaz,e8];refine qb6 rfl rfl rfl (q0c y k (by omega) (by omega) h0 ⟨fun h=>by simp at h,?_⟩);generalize dgs (x*2^k)=u at *
  generalize dgs (y*2^k)=v at *
  have uv:v.length<=u.length:=by
   have h1:y*2^k<=x*2^k:=Nat.mul_le_mul_right _ (by omega);rcases Nat.lt_or_ge u.length v.length with h|h
   ·have:=qim lu tv h;omega
   ·exact h
  have w3:IntKind.i64.wrap ((u.length:Int)+2-v.length)=((u.length+2-v.length:Nat):Int):=by rw[wrap_i64]<;>omega
  have w4:IntKind.i64.wrap (((u.length+2-v.length:Nat):Int)-1)=((u.length+2-v.length:Nat):Int)-1:=by rw[wrap_i64]<;>omega
  have f1:(u.length+2-v.length)*8<=281474976710656/\u.length+2-v.length<=9223372036854775807:=by omega
  have⟨m,hm⟩:∃m,m=u.length+2-v.length:=⟨_,rfl⟩
  rw[<-hm]at w3 w4 f1;simp[w3,w4,f1];have⟨K,hK⟩:∃K:Heap,K=H++[none,some ⟨1,[.int .i64 0,.int .i64 0],true,true⟩]:=⟨_,rfl⟩
  have hKl:K.length=H.length+2:=by rw[hK];simp
  refine qaid (H':=K++[some ⟨1,(u++[0,0]).map bdg,true,true⟩,some ⟨1,v.map bdg,true,true⟩,some ⟨1,(List.replicate m 0).map bdg,true,true⟩]) (by simp[hK,bdg];exact List.take_of_length_le (by simp)) ?_;have lu2:LiB (u++[0,0]):=lu.append (by intro z hz;simp at hz;omega);have vu2:natB (u++[0,0])=natB u:=qwa u 2;have nv0:0<v.length:=List.length_pos_iff.2 nv;refine qaaq (K:=K) (u++[0,0]) v m v.length rfl (by simp;omega) (by simp;omega) lu2 lv tv nv ?_ (by simp[hKl]) (by simp[hKl]) (by simp) (by simp[hKl]) (by simp) ?_
  ·have h1:natB ((u++[0,0]).drop m)<32768^(v.length-1):=by
    rw[hm];rcases Nat.lt_or_ge 1 v.length with h2|h2
    ·rw[List.drop_append_of_le_length (by omega)];show natB (_++List.replicate 2 0)<_;rw[qwa];refine Nat.lt_of_lt_of_le (qcf (lu.drop _)) (qym ?_);simp;omega
    ·have:v.length=1:=by omega
     rw[this,show u.length+2-1=u.length+1 by omega,List.drop_append,List.drop_of_length_le (by omega)];simp[natB]
   exact Nat.lt_of_lt_of_le h1 (qr1 tv nv)
  ·intro E1 u2 o2 a1 a2 a3 a4 a5 a6 a7 a10;rw[vu2]at a6;have hq:natB o2=D/\(R=decide (natB u2≠0)):=by
    have hp:=Nat.two_pow_pos k;have hV:0<natB v:=by omega
    have e1:natB u/natB v=natB o2:=by
     rw[<-a6,Nat.add_mul_div_right _ _ hV,Nat.div_eq_of_lt a5,Nat.zero_add]
    have e2:natB u%natB v=natB u2:=by
     rw[<-a6,Nat.add_mul_mod_self_right,Nat.mod_eq_of_lt a5]
    rw[vu,vv,Nat.mul_div_mul_right _ _ hp]at e1;rw[vu,vv,Nat.mul_mod_mul_right]at e2;refine⟨by rw[<-e1,hD],?_⟩;rw[hR,<-e2,decide_eq_decide];constructor
    ·intro h h2;rcases Nat.mul_eq_zero.1 h2 with h3|h3<;>omega
    ·intro h h2;rw[h2]at h;simp at h
   obtain⟨hq1,hq2⟩:=hq;have so:SeesB (.ref (K.length+2) 1 0 m) o2 (K++[some ⟨1,u2.map bdg,true,true⟩,some ⟨1,v.map bdg,true,true⟩,some ⟨1,o2.map bdg,true,true⟩]):=by
    rw[<-a2];exact .blk (w:=true) (by simp)
   have su2:SeesB (.ref K.length 1 0 (u++[0,0]).length) u2 (K++[some ⟨1,u2.map bdg,true,true⟩,some ⟨1,v.map bdg,true,true⟩,some ⟨1,o2.map bdg,true,true⟩]):=by
    rw[<-a1];exact .blk (w:=true) (by simp)
   have hul:u2.length<=1000000:=by rw[a1];simp;omega
   simp[a10];refine WL_ev rfl rfl rfl (qfu so (by omega)) ?_;simp[a7];refine WL_ev rfl rfl rfl (qfu (by simpa using su2) (by omega)) ?_;have hle:(trimL o2).length<=o2.length:=by unfold trimL;rw[List.length_take];exact Nat.min_le_right _ _
   have htk:=qfb o2;rw[qbp a4,hq1]at htk hle;have hR2:decide (0<(trimL u2).length)=R:=by
    rw[qbp a3,hq2,decide_eq_decide];constructor
    ·intro h h2;rw[h2,qbf]at h;simp at h
    ·intro h;exact List.length_pos_iff.2 (qes h)
   have hH:∀G,List.take H.length (K++G)=H:=by intro G;rw[hK];simp
   rw[qbp a4,hq1];simp[cutV,hle,hR2,hH];rw[<-List.map_take,htk]
end Go.Abs.W
