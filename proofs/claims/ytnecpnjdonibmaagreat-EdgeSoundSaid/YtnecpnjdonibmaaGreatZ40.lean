/- Change. -/
import Derived.Test.YtnecpnjdonibmaaGreatZ39
namespace Go.Proofs.YtnecpnjdonibmaaGreat
open Go.Can Go.aP
set_option maxHeartbeats 2000000 in
theorem O3 {u:Un}(hu:ik u){x:Is}(hx:pV u x){k:Nat}{z:In}(hz:(aq u x)[k]? = some z)(m:Nat):ae Tryz.prog 65 [ef u,.agg (df x),I k,I m] (I (eP x m z)):=by
 obtain⟨pq,Qe,PK,Sc,UH⟩:=lh hu hx hz;rw[PK] at hz;have Qy:=(List.getElem?_eq_some_iff.1 Qe).1;have Qh:=(List.getElem?_eq_some_iff.1 hz).1;have PL:=bS (f:=nD) (n:=5) gD Qe 4 yA;have QL:=aO (f:=dd) (n:=12) fo hz;have Q4:=kS z;have R9:=eE z;have PO:=bO u;simp only[dh,ints] at PO;obtain⟨xc,QJ,QF⟩:=ku z;obtain⟨c1,c2,c3,c4,c5,c6,c7,c8,c9,VY,VX,rfl⟩:=wy QF;rw[QJ] at QL Q4 R9;simp only[List.all_cons,List.all_nil,Bool.and_true,Bool.and_eq_true] at Q4;obtain⟨_,o1,o2,o3,o4,o5,o6,o7,o8,o9,W2,W1⟩:=Q4;refine ae.aM ah Tryz.func65 rfl PH (by simp[Tryz.ntmps65]) rfl fun C hC PN=>?_;rw[Tryz.ntmps65] at hC;simp only[ef,dh,df,ints];apply aj;simp[hC];apply aj;simp[hC,Qy,PL,nD,Qh,QL];apply dZ;by_cases UG:∃ un p,z=.lock un p
 ·obtain⟨un,p,rfl⟩:=UG;have hp:l9 p=[c7,c8,c9]:=by
   have h:=congrArg (fun l=>(l.drop 7).take 3) QJ
   simpa [dd,bK,l9] using h
  have Zy:Fl u.ms u.gs.length pq.locals pq.bx p:=UH;have hq:p.param=true→p.index<x.bx.length:=fun h=>by
   rw[Sc];rcases Zy with h6 | h6
   ·exact h6.2.1
   ·rw[h] at h6;cases h6.1
  have QY:=vJ x p hq;rw[hp] at QY;have h2:trees [c7,c8,c9]=true:=by rw[← hp];exact gW p
  have tp:trees [.agg (df x),.agg [c7,c8,c9]]=true:=by
   rw[show trees [.agg (df x),.agg [c7,c8,c9]]=(trees (df x) && (trees [c7,c8,c9] && true)) from rfl,bV,h2];rfl
  simp only[df] at QY tp
  cases un with
  | false=>
   have P0:qj (.lock false p)=4:=rfl;rw[P0];apply aj;simp[hC];refine TL.cw PV rfl rfl rfl rfl (bT.of rfl tp QY) (TL.go' ah ?_);by_cases RS:ma x p=m
   ·have hc:eP x m (.lock false p)=1:=by simp[eP,RS]
    rw[hc];simp[hC,RS];refine fx ?_;simp;apply aj;simp[hC];apply T.ret;apply aa.here;simp[Tryz.results65]
   ·have hc:eP x m (.lock false p)=0:=by simp[eP,RS]
    have WB:¬ ((ma x p:Int)=(m:Int)):=by omega
    rw[hc];simp[hC];refine T.cond (b:=false) (by simp[ev,assoc,RS]) ?_;simp;apply aj;simp[hC];refine gO ?_;simp;apply aj;simp[hC];apply T.ret;apply aa.here;simp[Tryz.results65]
  | true=>
   have P0:qj (.lock true p)=5:=rfl;rw[P0];apply aj;simp[hC];refine bh ?_;simp;apply aj;simp[hC];refine TL.cw PV rfl rfl rfl rfl (bT.of rfl tp QY) (TL.go' ah ?_);by_cases RS:ma x p=m
   ·have hc:eP x m (.lock true p)=-1:=by simp[eP,RS]
    rw[hc];simp[hC,RS];refine fx ?_;simp;apply aj;simp[hC];apply T.ret;apply aa.here;simp[Tryz.results65]
   ·have hc:eP x m (.lock true p)=0:=by simp[eP,RS]
    rw[hc];simp[hC];refine T.cond (b:=false) (by simp[ev,assoc,RS]) (T.skip ?_);simp;apply aj;simp[hC];apply T.ret;apply aa.here;simp[Tryz.results65]
 ·have Qs:(((qj z:Int) == 4)=false∧((qj z:Int) == 5)=false)∧eP x m z=0:=by
   cases z with
   | lock un p=>exact (UG ⟨un,p,rfl⟩).elim
   | call g t l ps=>cases g<;>exact⟨⟨rfl,rfl⟩,rfl⟩
   | _=>exact⟨⟨rfl,rfl⟩,rfl⟩
  obtain⟨⟨h4,h5⟩,hc⟩:=Qs;rw[hc];apply aj;simp[hC,h4];refine bh ?_;simp;apply aj;simp[hC,h5];refine gO ?_;simp;apply aj;simp[hC];apply T.ret;apply aa.here;simp[Tryz.results65]
theorem Kp (x:Is)(m:Nat)(z:In) : -1≤eP x m z∧eP x m z≤1:=by
 unfold eP;split
 ·split
  ·split<;>omega
  ·omega
 ·omega
theorem fq (x:Mx):aI x≤8:=by unfold aI;split<;>omega
theorem qn (x:Mx):(eL x).length=3:=rfl
theorem Pt {u:Un}(hu:ik u){x:Is}(hx:pV u x){k:Nat}{z:In}(hz:(aq u x)[k]? = some z){m:Nat}{xm:Mx}(hm:u.ms[m]? = some xm):ae Tryz.prog 149 [ef u,.agg (df x),I k,I m] (aA (lp (aI xm) (eP x m z))):=by
 have SJ:=O3 hu hx hz m;have QC:=OL xm;have Ws:=NB (aI xm) (eP x m z) (fq xm) (Kp x m z).1 (Kp x m z).2;have QK:=(List.getElem?_eq_some_iff.1 hm).1;have SV:=aO (f:=eL) (n:=3) qn hm;have PO:=bO u;have ti:=bV x;have t1:trees [.agg (eL xm)]=true:=rfl;have t2:trees [ef u,.agg (df x),I k,I m]=true:=by simp only[trees,tree,ef,PO,ti,Bool.and_self]
 have t3:trees [I (aI xm),I (eP x m z)]=true:=rfl;refine ae.aM ah Tryz.func149 rfl PH (by simp[Tryz.ntmps149]) (aD _) fun C hC PN=>?_;rw[Tryz.ntmps149] at hC;simp only[ef,dh,df,ints] at SJ t2 ⊢;apply aj;simp[hC];refine T.seq (T.rx ah follows [0,1,2,3,4,6,7,8,9,5,10,11,12] [(6,5),(7,5)] PH ?_);simp[hC,QK,SV,eL];simp only[eL] at QC t1;refine RX.call rfl rfl rfl rfl rfl t1 QC ?_;simp;refine RX.call rfl rfl rfl rfl rfl t2 SJ ?_;simp;refine RX.call rfl rfl rfl rfl rfl t3 Ws ?_;simp;apply T.ret;apply aa.here;simp[Tryz.results149]
theorem zp {u:Un}(hu:ik u){x:Is}(hx:pV u x){k:Nat}{z:In}(hz:(aq u x)[k]? = some z):ae Tryz.prog 280 [ef u,.agg (df x),I k] (.agg (dd z)):=by
 obtain⟨pq,Qe,PK,Sc,UH⟩:=lh hu hx hz;rw[PK] at hz;have Qy:=(List.getElem?_eq_some_iff.1 Qe).1;have Qh:=(List.getElem?_eq_some_iff.1 hz).1;have PL:=bS (f:=nD) (n:=5) gD Qe 4 yA;have QL:=aO (f:=dd) (n:=12) fo hz;have Q4:=kS z;have R9:=eE z;have PO:=bO u;simp only[dh,ints] at PO;obtain⟨xc,QJ,QF⟩:=ku z;obtain⟨c1,c2,c3,c4,c5,c6,c7,c8,c9,VY,VX,rfl⟩:=wy QF;rw[QJ] at QL Q4 R9 ⊢;simp only[List.all_cons,List.all_nil,Bool.and_true,Bool.and_eq_true] at Q4;obtain⟨_,o1,o2,o3,o4,o5,o6,o7,o8,o9,W2,W1⟩:=Q4;have RQ:tree (.agg [I (qj z),c1,c2,c3,c4,c5,c6,c7,c8,c9,VY,VX])=true:=by simp only[tree,R9]
 refine ae.aM ah Tryz.func280 rfl PH (by simp[Tryz.ntmps280]) RQ fun C hC PN=>?_;rw[Tryz.ntmps280] at hC;simp only[ef,dh,df,ints];apply aj;simp[hC];apply aj;simp[hC,Qy,PL,nD,Qh,QL];apply T.ret;apply aa.here;simp[Tryz.results280]
set_option maxHeartbeats 2000000 in
theorem Bu {u:Un}(hu:ik u){x:Is}(hx:pV u x){k:Nat}{z:In}(hz:(aq u x)[k]? = some z)(m:Nat):ae Tryz.prog 275 [ef u,.agg (df x),I k,I m] (I (eP x m z)):=by
 have TE:=zp hu hx hz;obtain⟨pq,Qe,PK,Sc,UH⟩:=lh hu hx hz;have Q4:=kS z;have R9:=eE z;have PO:=bO u;have ti:=bV x;obtain⟨xc,QJ,QF⟩:=ku z;obtain⟨c1,c2,c3,c4,c5,c6,c7,c8,c9,VY,VX,rfl⟩:=wy QF;rw[QJ] at Q4 R9 TE;simp only[List.all_cons,List.all_nil,Bool.and_true,Bool.and_eq_true] at Q4;obtain⟨_,o1,o2,o3,o4,o5,o6,o7,o8,o9,W2,W1⟩:=Q4;have t2:trees [ef u,.agg (df x),I k]=true:=by simp only[trees,tree,ef,PO,ti,Bool.and_self]
 refine ae.aM ah Tryz.func275 rfl PH (by simp[Tryz.ntmps275]) rfl fun C hC PN=>?_;rw[Tryz.ntmps275] at hC;simp only[ef,dh,df,ints] at TE t2 ⊢;apply aj;simp[hC];apply aj;simp[hC];refine dQ t2 TE ?_;simp[hC];by_cases UG:∃ un p,z=.lock un p
 ·obtain⟨un,p,rfl⟩:=UG;have hp:l9 p=[c7,c8,c9]:=by
   have h:=congrArg (fun l=>(l.drop 7).take 3) QJ
   simpa [dd,bK,l9] using h
  have Zy:Fl u.ms u.gs.length pq.locals pq.bx p:=UH;have hq:p.param=true→p.index<x.bx.length:=fun h=>by
   rw[Sc];rcases Zy with h6 | h6
   ·exact h6.2.1
   ·rw[h] at h6;cases h6.1
  have QY:=zC x p hq;rw[hp] at QY;have h2:trees [c7,c8,c9]=true:=by rw[← hp];exact gW p
  have tp:trees [.agg (df x),.agg [c7,c8,c9]]=true:=by
   rw[show trees [.agg (df x),.agg [c7,c8,c9]]=(trees (df x) && (trees [c7,c8,c9] && true)) from rfl,bV,h2];rfl
  simp only[df] at QY tp
  cases un with
  | false=>
   have P0:qj (.lock false p)=4:=rfl;rw[P0];apply aU;simp[hC];refine TL.cw PV rfl rfl rfl rfl (bT.of rfl tp QY) (TL.go' ah ?_);by_cases RS:ma x p=m
   ·have hc:eP x m (.lock false p)=1:=by simp[eP,RS]
    rw[hc];simp[hC,RS];refine gO ?_;simp;apply aU;simp[hC];refine fx ?_;simp;apply aj;simp[hC];apply T.ret;apply aa.here;simp[Tryz.results275]
   ·have hc:eP x m (.lock false p)=0:=by simp[eP,RS]
    have WB:((ma x p:Int) != (m:Int))=true:=by rw[bne_iff_ne];omega
    rw[hc];simp[hC,WB];refine fx ?_;simp;apply aj;simp[hC];apply T.ret;apply aa.here;simp[Tryz.results275]
  | true=>
   have P0:qj (.lock true p)=5:=rfl;rw[P0];apply aU;simp[hC];refine TL.cw PV rfl rfl rfl rfl (bT.of rfl tp QY) (TL.go' ah ?_);by_cases RS:ma x p=m
   ·have hc:eP x m (.lock true p)=-1:=by simp[eP,RS]
    rw[hc];simp[hC,RS];refine gO ?_;simp;apply aU;simp[hC];refine gO ?_;simp;apply aj;simp[hC];apply T.ret;apply aa.here;simp[Tryz.results275]
   ·have hc:eP x m (.lock true p)=0:=by simp[eP,RS]
    have WB:((ma x p:Int) != (m:Int))=true:=by rw[bne_iff_ne];omega
    rw[hc];simp[hC,WB];refine fx ?_;simp;apply aj;simp[hC];apply T.ret;apply aa.here;simp[Tryz.results275]
 ·have Qs:(((qj z:Int) != 4)=true∧((qj z:Int) != 5)=true)∧eP x m z=0:=by
   cases z with
   | lock un p=>exact (UG ⟨un,p,rfl⟩).elim
   | call g t l ps=>cases g<;>exact⟨⟨rfl,rfl⟩,rfl⟩
   | _=>exact⟨⟨rfl,rfl⟩,rfl⟩
  obtain⟨⟨h4,h5⟩,hc⟩:=Qs;rw[hc];apply aU;simp[hC,h4,h5];refine fx ?_;simp;apply aj;simp[hC];apply T.ret;apply aa.here;simp[Tryz.results275]
theorem E1 (x:Is)(m:Nat)(z:In):eP x m z=1∨eP x m z=-1∨eP x m z=0:=by
 have:=Kp x m z;omega
theorem Jz {u:Un}(hu:ik u){x:Is}(hx:pV u x){k:Nat}{z:In}(hz:(aq u x)[k]? = some z){m:Nat}{xm:Mx}(hm:u.ms[m]? = some xm):ae Tryz.prog 218 [ef u,.agg (df x),I k,I m] (aA (lp (aI xm) (eP x m z))):=by
 have SJ:=Bu hu hx hz m;have QC:=sd xm;have QK:=(List.getElem?_eq_some_iff.1 hm).1;have SV:=aO (f:=eL) (n:=3) qn hm;have PO:=bO u;have ti:=bV x;have t1:trees [.agg (eL xm)]=true:=rfl;have t2:trees [ef u,.agg (df x),I k,I m]=true:=by simp only[trees,tree,ef,PO,ti,Bool.and_self]
 have t3:trees [I (aI xm)]=true:=rfl;refine ae.aM ah Tryz.func218 rfl PH (by simp[Tryz.ntmps218]) (aD _) fun C hC PN=>?_;rw[Tryz.ntmps218] at hC;simp only[ef,dh,df,ints] at SJ t2 ⊢;simp only[eL] at QC t1;apply aj;simp[hC];apply aj;simp[hC,QK,SV,eL];refine dQ t1 QC ?_;simp[hC];apply aU;simp[hC];refine dQ t2 SJ ?_;rcases E1 x m z with hc | hc | hc
 ·have Vj:=up_ok (aI xm) (fq xm);simp only[hc] at SJ ⊢;simp;apply T.block;apply aj;simp[hC];refine fx ?_;simp;apply aj;simp[hC];refine dQ t3 Vj ?_;simp[hC];apply T.ret;apply aa.here;simp[Tryz.results218]
 ·have hdn:=Ke (aI xm) (fq xm);simp only[hc] at SJ ⊢;simp;apply T.block;apply aj;simp[hC];refine bh ?_;simp;apply aj;simp[hC];refine fx ?_;simp;apply aj;simp[hC];refine dQ t3 hdn ?_;simp[hC];apply T.ret;apply aa.here;simp[Tryz.results218]
 ·have Z1:=zV (aI xm) (fq xm);simp only[hc] at SJ ⊢;simp;apply T.block;apply aj;simp[hC];refine bh ?_;simp;apply aj;simp[hC];refine gO ?_;simp;apply aj;simp[hC];refine dQ t3 Z1 ?_;simp[hC];apply T.ret;apply aa.here;simp[Tryz.results218]
theorem Pb (g p:Nat):gz [p] g=if g=p then [g] else [min g p,max g p]:=by
 unfold gz cz;by_cases h:g=p
 ·simp[h]
 ·rw[if_neg h];by_cases h2:p<g
  ·simp[h,h2];omega
  ·simp[h,h2];omega
theorem Pe {u:Un}(hu:ik u){x:Is}(hx:pV u x){k:Nat}{z:In}(hz:(aq u x)[k]? = some z)(hk:k≤1000000):ae Tryz.prog 131 [ef u,.agg (df x),I k] (aA (jS z k)):=by
 obtain⟨pq,Qe,PK,Sc,UH⟩:=lh hu hx hz;rw[PK] at hz;have Qy:=(List.getElem?_eq_some_iff.1 Qe).1;have Qh:=(List.getElem?_eq_some_iff.1 hz).1;have PL:=bS (f:=nD) (n:=5) gD Qe 4 yA;have QL:=aO (f:=dd) (n:=12) fo hz;have Q4:=kS z;have R9:=eE z;have PO:=bO u;have wk:=cE ((k:Int)+1) yA yA;simp only[dh,ints] at PO;obtain⟨xc,QJ,QF⟩:=ku z;obtain⟨c1,c2,c3,c4,c5,c6,c7,c8,c9,VY,VX,rfl⟩:=wy QF;rw[QJ] at QL Q4 R9;simp only[List.all_cons,List.all_nil,Bool.and_true,Bool.and_eq_true] at Q4;obtain⟨_,o1,o2,o3,o4,o5,o6,o7,o8,o9,W2,W1⟩:=Q4;refine ae.aM ah Tryz.func131 rfl PH (by simp[Tryz.ntmps131]) (aD _) fun C hC PN=>?_;rw[Tryz.ntmps131] at hC;simp only[ef,dh,df,ints];apply aj;simp[hC];apply aj;simp[hC,Qy,PL,nD,Qh,QL];apply aU;simp[hC];apply T.block
 cases z with
 | ret=>
  have P0:qj In.ret=8:=rfl;rw[P0];apply aj;simp[hC];refine fx ?_;simp;apply aj;simp[hC];apply T.ret;simp;refine aa.le (Le.trim [6] [] 0 zX yA) ?_;simp;refine aa.le (Le.nz [6] []) ?_;apply aa.here;simp[jS,aA]
 | jump g=>
  have P0:qj (In.jump g)=7:=rfl;have UL:c1=I g:=by
   have h:=congrArg (fun l=>l.drop 1) QJ;simp[dd] at h;exact h.1.symm
  subst UL;rw[P0];apply aj;simp[hC];refine bh ?_;simp;apply aj;simp[hC];refine fx ?_;simp;apply aj;simp[hC];apply T.ret;simp;refine aa.le (Le.trim [6] [3] 4 zX yA) ?_;simp;refine aa.le (Le.dz (o:=3) rfl rfl) ?_;apply aa.here;simp[jS,aA]
 | branch g e=>
  have P0:qj (In.branch g e)=6:=rfl;have UL:c1=I g:=by
   have h:=congrArg (fun l=>l.drop 1) QJ;simp[dd] at h;exact h.1.symm
  subst UL;have hw:=Gw [k+1] g zX;have Q2:jS (In.branch g e) k=gz [k+1] g:=by rw[Pb];rfl
  have PU:trees [aA [k+1],I g]=true:=rfl;rw[Q2,P0];apply aj;simp[hC];refine bh ?_;simp;apply aj;simp[hC];refine bh ?_;simp;apply aj;simp[hC];refine fx ?_;simp;apply aj;simp[hC,wk];refine TL.le (Le.dz (o:=3) rfl rfl) ?_;simp;refine dQ PU hw ?_;simp[hC];apply T.ret;simp;refine aa.le (Le.trim [6] [] 0 (by simp[aA]) yA) ?_;simp;apply aa.here;simp
 | set t gl e=>
  rw[show qj (In.set t gl e)=1 from rfl];apply aj;simp[hC];refine bh ?_;simp;apply aj;simp[hC];refine bh ?_;simp;apply aj;simp[hC];refine gO ?_;simp;apply aj;simp[hC,wk];apply T.ret;refine aa.le (Le.trim [6] [3] 4 zX yA) ?_;simp;refine aa.le (Le.dz (o:=3) rfl rfl) ?_;apply aa.here;simp[jS,aA]
 | call g t l ps=>
  cases g with
  | true=>
   rw[show qj (In.call true t l ps)=3 from rfl];apply aj;simp[hC];refine bh ?_;simp;apply aj;simp[hC];refine bh ?_;simp;apply aj;simp[hC];refine gO ?_;simp;apply aj;simp[hC,wk];apply T.ret;refine aa.le (Le.trim [6] [3] 4 zX yA) ?_;simp;refine aa.le (Le.dz (o:=3) rfl rfl) ?_;apply aa.here;simp[jS,aA]
  | false=>
   rw[show qj (In.call false t l ps)=2 from rfl];apply aj;simp[hC];refine bh ?_;simp;apply aj;simp[hC];refine bh ?_;simp;apply aj;simp[hC];refine gO ?_;simp;apply aj;simp[hC,wk];apply T.ret;refine aa.le (Le.trim [6] [3] 4 zX yA) ?_;simp;refine aa.le (Le.dz (o:=3) rfl rfl) ?_;apply aa.here;simp[jS,aA]
 | lock un p=>
  cases un with
  | true=>
   rw[show qj (In.lock true p)=5 from rfl];apply aj;simp[hC];refine bh ?_;simp;apply aj;simp[hC];refine bh ?_;simp;apply aj;simp[hC];refine gO ?_;simp;apply aj;simp[hC,wk];apply T.ret;refine aa.le (Le.trim [6] [3] 4 zX yA) ?_;simp;refine aa.le (Le.dz (o:=3) rfl rfl) ?_;apply aa.here;simp[jS,aA]
  | false=>
   rw[show qj (In.lock false p)=4 from rfl];apply aj;simp[hC];refine bh ?_;simp;apply aj;simp[hC];refine bh ?_;simp;apply aj;simp[hC];refine gO ?_;simp;apply aj;simp[hC,wk];apply T.ret;refine aa.le (Le.trim [6] [3] 4 zX yA) ?_;simp;refine aa.le (Le.dz (o:=3) rfl rfl) ?_;apply aa.here;simp[jS,aA]
def aY (t:List (List Nat)):CV:=.az (t.map aA) t.length
theorem bX:∀ t:List (List Nat),trees (t.map aA)=true
 | []=>rfl
 | r::t=>by
  have h:tree (aA r)=true:=aD r;have:=bX t;simp only[List.map_cons,trees,h,this,Bool.and_self]
theorem en (t:List (List Nat)):tree (aY t)=true:=by simp only[aY,tree]
theorem Cv {t:List (List Nat)}{p:Nat}(r:List Nat)(h:p<t.length):List.take p (t.map aA)++aA r::List.drop (p+1) (t.map aA)=(t.set p r).map aA:=by
 rw[List.map_set,List.set_eq_take_append_cons_drop,if_pos Sr]
theorem fA {α:Type}(f:α→CV){l:List α}{i:Nat}{a:α}(h:l[i]? = some a):(l.map f).drop i=f a::(l.drop (i+1)).map f:=by
 obtain⟨hl,rfl⟩:=List.getElem?_eq_some_iff.1 h;rw[← List.map_drop,List.drop_eq_getElem_cons hl,List.map_cons]
theorem zP {u:Un}(hu:ik u){i:Nat}{x:Is}(hx:(ak u).is[i]? = some x){pc:Nat}{z:In}(hz:(aq u x)[pc]? = some z)(hc:fy z=true):∃ row:List Int,(ak u).calls[i]? = some row∧row[pc]? = some ((eQ (ak u) i pc:Nat):Int)∧eQ (ak u) i pc<(ak u).is.length:=by
 obtain⟨h1,h2⟩:=xZ hu hx hz hc
 cases hr:(ak u).calls[i]? with
 | none=>rw[List.getD_eq_getElem?_getD,List.getD_eq_getElem?_getD,hr] at h2;simp at h2
 | some row=>
  rw[List.getD_eq_getElem?_getD,List.getD_eq_getElem?_getD,hr] at h2;simp only[Option.getD_some] at h2
  cases hp:row[pc]? with
  | none=>rw[hp] at h2;simp at h2
  | some n=>
   rw[hp] at h2;exact⟨row,rfl,by rw[hp,← h2];rfl,h1⟩
theorem zr (z:In):((qj z:Int) == 2)=fy z:=by
 cases z with
 | call g _ _ _=>cases g<;>rfl
 | lock g _=>cases g<;>rfl
 | _=>rfl
theorem Pw (l:List Nat):aA l=ints (l.map fun n:Nat=>(n:Int)):=by
 simp only[aA,ints,List.map_map,List.length_map];rfl
theorem OK (a b:List Nat)(ha:a.length≤4611686018427387904):ae Tryz.prog 40 [aA a,aA b] (.bool (decide (a=b))):=by
 have h:=qH (a.map fun n:Nat=>(n:Int)) (b.map fun n:Nat=>(n:Int)) (by rw[List.length_map];exact ha);rw[← Pw,← Pw] at h;have e:decide ((a.map fun n:Nat=>(n:Int))=b.map fun n:Nat=>(n:Int))=decide (a=b):=by
  refine decide_eq_decide.2 ⟨fun he=>?_,fun he=>by rw[he]⟩;have h2:=congrArg (List.map Int.toNat) he;rw[List.map_map,List.map_map] at h2;have e2:Int.toNat∘(fun n:Nat=>(n:Int))=id:=funext fun n=>by simp
  rw[e2,List.map_id,List.map_id] at h2;exact h2
 rwa [e] at h
theorem j5 {L:Nat}(h8:L≤8){r:List Nat}(h:sI L r):∀ s∈r,s<2 ^ 63:=fun s hs=>by
 have h1:=h.lt s hs;have h2:2 ^ (L+1)≤2 ^ 9:=Nat.pow_le_pow_right yA yA;have h3:(2:Nat) ^ 9<2 ^ 63:=by decide
 exact Nat.lt_of_lt_of_le h1 (Nat.le_trans h2 (Nat.le_of_lt h3))
theorem cO (c:Cl):trees (fp c)=true:=by
 simp only[fp,trees,tree,aD,Bool.and_self]
theorem fU {c:CV}(h:tree c=true):∀ n:Nat,trees (List.replicate n c)=true
 | 0=>rfl
 | n+1=>by simp only[List.replicate_succ,trees,h,fU h n,Bool.and_self]
theorem uE {u:Un}(hu:ik u){i:Nat}{x:Is}(hx:(ak u).is[i]? = some x):pV u x:=Ih hu x (List.mem_of_getElem? hx)
theorem eG (o:Nat)(cs:List CV)(n:Nat)(l:List Nat):cB o cs n (aA l)=aA l:=rfl
theorem lz (l:List Nat):dx (aA l)=false:=rfl
theorem lH (l:List Nat):(aA l).cells=[aA l]:=rfl
theorem zA (L:Nat):CV.az (List.replicate (L+1) (CV.int IntKind.i64 0)) (L+1)=aA (oJ L):=by simp[aA,oJ]
theorem CG {j n:Nat}(Z N:CV)(h:j<n):List.replicate j Z++Z::List.drop (j+1) (List.replicate j Z++List.replicate (n-j) N)=List.replicate (j+1) Z++List.replicate (n-(j+1)) N:=by
 have h1:List.drop (j+1) (List.replicate j Z++List.replicate (n-j) N)=List.replicate (n-(j+1)) N:=by
  rw[List.drop_append,List.length_replicate,List.drop_replicate,List.drop_replicate];have e1:j-(j+1)=0:=by omega
  have e2:n-j-(j+1-j)=n-(j+1):=by omega
  rw[e1,e2];rfl
 rw[h1,List.replicate_succ',List.append_assoc];rfl
def OC (u:Un)(x:Is)(t:List CV):List (Nat×Ob):=[(3,⟨22,1,t⟩),(2,⟨90,0,df x⟩),(1,⟨34,0,fp (ak u)⟩),(0,⟨30,0,dh u⟩)]
def OD (n m i:Nat)(sm:List (List Nat)):List (Nat×CV):=[(13,.bj 3 0 n),(11,.av 2 0),(6,.av 1 0),(5,.av 0 0),(4,I i),(3,aY sm),(2,I m)]
def J79a (u:Un)(x:Is)(n m i L:Nat)(sm:List (List Nat))(k:Nat)(s:St):Prop:=∃ j:Nat,k=n-j∧j≤n∧s=⟨(14,I j)::(12,I L)::OD n m i sm,OC u x (List.replicate j (aA (oJ L))++List.replicate (n-j) .ai),4⟩
theorem sw_at {u:Un}{c:Cl}{L m i:Nat}{x:Is}{sm:List (List Nat)}(H:InH u c L i x sm){t0:List (List Nat)}(h0:IJ u c L m i x sm t0){pc:Nat}{z:In}(hz:(aq u x)[pc]? = some z) :
  uS L (aq u x).length (swp u c L m i x sm t0 pc).1∧sI L ((swp u c L m i x sm t0 pc).1.getD pc [])∧sI L (jL c L m sm i x z pc)∧sI L (nK ((swp u c L m i x sm t0 pc).1.getD pc []) (jL c L m sm i x z pc))∧
  (∀ j,j≤(jS z pc).length→uS L (aq u x).length (OJ (nK ((swp u c L m i x sm t0 pc).1.getD pc []) (jL c L m sm i x z pc)) ((jS z pc).take j) (swp u c L m i x sm t0 pc)).1)∧
  swp u c L m i x sm t0 (pc+1)=OJ (nK ((swp u c L m i x sm t0 pc).1.getD pc []) (jL c L m sm i x z pc)) (jS z pc) (swp u c L m i x sm t0 pc):=by
 have hk:=(List.getElem?_eq_some_iff.1 hz).1;obtain⟨hI,hd⟩:=OP H h0 pc yA;obtain⟨w,g⟩:=x9 H hI.A.wf hk;have Qa:=mS H (m:=m) hz;have ha:=uC w Qa;refine⟨hI.A.wf,w,Qa,ha,fun j hj=>?_,by simp only[Go.aP.swp,hz]⟩;exact (Pc H ha hI (jS z pc) (fun q hq=>⟨H.nx pc z hz q hq,fun d e hb=>by
   obtain⟨y,y1,y2⟩:=(sB _ _ d e).1 hb;exact Cy H hz hq (hI.A.sound pc d y y1) y2⟩) j hj).1.A.wf
theorem JP (z:In)(pc:Nat):(jS z pc).length≤2:=by
 cases z<;>simp[jS];split<;>simp
noncomputable def IU (u:Un) (m i L:Nat) (x:Is) (sm:List (List Nat)):List (List Nat):=p8 L (aq u x).length (Ri u (ak u) m L (yJ sm) i)
def J79b (u:Un)(x:Is)(n m i L:Nat)(sm:List (List Nat))(k:Nat)(s:St):Prop:=∃ (t:List (List Nat)) (ag:Bool),k=(9*(L+1)*n-eD t)+(if ag=true then 1 else 0)∧IJ u (ak u) L m i x sm t∧(ag=false→t=IU u m i L x sm)∧s=⟨(15,.bool ag)::OD n m i sm,OC u x (t.map aA),4⟩
def J79c (u:Un)(x:Is)(n m i L:Nat)(sm t0:List (List Nat))(k:Nat)(s:St):Prop:=∃ pc:Nat,k=n-pc∧pc≤n∧s=⟨(16,I pc)::(15,.bool (swp u (ak u) L m i x sm t0 pc).2)::OD n m i sm,OC u x ((swp u (ak u) L m i x sm t0 pc).1.map aA),4⟩
def J79d (u:Un)(x:Is)(n m i:Nat)(sm:List (List Nat))(S:List (List Nat)×Bool)(a nx:List Nat)(pc:Nat)(k:Nat)(s:St):Prop:=∃ j:Nat,k=nx.length-j∧j≤nx.length∧s=⟨(20,I j)::(19,aA nx)::(18,aA a)::(16,I pc)::(15,.bool (OJ a (nx.take j) S).2)::OD n m i sm,OC u x ((OJ a (nx.take j) S).1.map aA),4⟩
theorem OI {u:Un}(hu:ik u){i:Nat}{x:Is}(hx:(ak u).is[i]? = some x){m:Nat}{xm:Mx}(hm:u.ms[m]? = some xm){sm:List (List Nat)}(hs:uS (aI xm) (ak u).is.length sm):ae Tryz.prog 79 [ef u,jj (ak u),I m,aY sm,I i] (aY (IU u m i (aI xm) x sm)):=by
 have hv:=uE hu hx;have h8:=fq xm;have H:=I7 hu h8 hx hs;have QC:=OL xm;have Ws:=NB (aI xm) 0 h8 yA yA;obtain⟨pq,Qe,PK⟩:=jZ hv;have PX:=eZ hu x;have PJ:=(List.getElem?_eq_some_iff.1 hx).1;have QK:=(List.getElem?_eq_some_iff.1 hm).1;have Qy:=(List.getElem?_eq_some_iff.1 Qe).1;have SV:=aO (f:=eL) (n:=3) qn hm;have R8:=aO (f:=df) (n:=2) fk hx;have PL:=bS (f:=nD) (n:=5) gD Qe 4 yA;have t1:trees [.agg (eL xm)]=true:=rfl;have bd:24*((aq u x).length:Int)≤281474976710656∧((aq u x).length:Int)≤9223372036854775807:=by omega
 have TW:=cE ((aI xm:Int)+1) yA yA;have UQ:(0≤(aI xm:Int)+1∧8*((aI xm:Int)+1)≤281474976710656∧(aI xm:Int)+1≤9223372036854775807):=by omega
 refine ae.aM ah Tryz.func79 rfl PH (by simp[Tryz.ntmps79]) (en _) fun C hC PN=>?_;rw[Tryz.ntmps79] at hC;simp only[eL] at QC t1;rw[PK] at PX bd;simp only[ef,jj,aY];apply aj;simp[hC];simp[dh,fp,ints];apply aj;simp[hC,PJ,R8,df];apply aj;simp[hC,QK,SV,eL];refine dQ t1 QC ?_;simp[hC];apply aj;simp[hC,Qy,PL,nD,bd];apply aU;simp[hC];apply T.block;have PO:=bO u;have PW:=cO (ak u);have tsm:=bX sm;have TS:=bV x;have tZ:trees (List.replicate (aI xm+1) (I 0))=true:=jr _;have SL:=fun j=>bF (List.replicate j (aA (oJ (aI xm)))) (List.replicate (pq.code.length-j) CV.ai);simp only[dh,fp,df,ints] at PO PW TS;refine T.aJ (J79a u x pq.code.length m i (aI xm) sm) (n:=pq.code.length) ?_ ?_
 ·refine aa.trim [14,12,13,11,6,5,4,3,2] [3,2,1,0] 4 (by simp[-List.all_eq_true,af PO,af PW,af TS]) yA ⟨0,by omega,by omega,?_⟩;simp[OD,OC,dh,fp,df,ints,aY]
 ·rintro n s ⟨j,rfl,hj,rfl⟩;simp only[OD,OC,dh,fp,df,ints,aY];by_cases P7:j<pq.code.length
  ·have R3:1≤pq.code.length-j:=by omega
   have wj:=cE ((j:Int)+1) yA yA;apply aU;simp[hC,P7];refine gQ ?_;simp;apply dZ;refine T.region (TL.some ah 5 ?_);simp[hC,TW,UQ];refine TL.le (Le.dz (o:=4) rfl tZ) ?_;simp;refine TL.go' ah ?_;simp[hC,P7,R3];apply aW;simp[hC,wj];simp only[eG];rw[zA,CG _ _ P7];have tF:=SL (j+1);rw[fU (aD _),fU rfl] at tF;refine⟨pq.code.length-(j+1),by omega,?_⟩;refine aa.trim [14,12,13,11,6,5,4,3,2] [3,2,1,0] 4 (by simp[-List.all_eq_true,af PO,af PW,af TS,af tF]) yA ⟨j+1,rfl,by omega,?_⟩;simp[OD,OC,dh,fp,df,ints,aY]
  ·have QV:j=pq.code.length:=by omega
   subst QV;apply aU;simp[hC];refine bh ?_;simp;apply T.exit;simp;have Sh:0<pq.code.length:=by have:=H.pos;rwa [PK] at this
   have PU:trees [I (aI xm),I 0]=true:=rfl;have SC:aA (lp (aI xm) 0)::List.replicate (pq.code.length-1) (aA (oJ (aI xm)))=((List.replicate pq.code.length (oJ (aI xm))).set 0 (lp (aI xm) 0)).map aA:=by
    obtain⟨n,hn⟩:∃ n,pq.code.length=n+1:=⟨pq.code.length-1,by omega⟩;rw[hn];simp[List.replicate_succ]
   apply aj;simp[hC];refine dQ PU Ws ?_;have Vs:1≤pq.code.length:=Sh;simp[hC,Sh,lz,lH,Vs];rw[SC];clear SL tZ;have h0:IJ u (ak u) (aI xm) m i x sm ((List.replicate pq.code.length (oJ (aI xm))).set 0 (lp (aI xm) 0)):=by
    rw[← PK];exact IJ.start H
   generalize (List.replicate pq.code.length (oJ (aI xm))).set 0 (lp (aI xm) 0)=t0 at h0 ⊢;apply aU;simp[hC];apply T.block;refine T.aJ (J79b u x pq.code.length m i (aI xm) sm) (n:=(9*((aI xm)+1)*pq.code.length-eD t0)+1) ?_ ?_
   ·have tT:=bX t0;refine aa.trim [15,13,11,6,5,4,3,2] [3,2,1,0] 4 (by simp[-List.all_eq_true,af PO,af PW,af TS,af tT]) yA ⟨t0,true,by simp,h0,(fun h=>by cases h),?_⟩;simp[OD,OC,dh,fp,df,ints,aY]
   ·clear h0 SC;clear t0;rintro n s ⟨t0,ag,rfl,h0,Rq,rfl⟩;simp only[OD,OC,dh,fp,df,ints,aY];have tT:=bX t0;have hlen:t0.length=pq.code.length:=by rw[h0.wf.len,PK]
    cases ag with
    | false=>
     have P8:=Rq rfl;apply aU;simp[hC];refine bh ?_;simp;apply T.exit;simp;apply aj;simp[hC];apply T.ret;refine aa.le (Le.dz (o:=3) rfl tT) ?_;apply aa.here;have PY:List.take t0.length (t0.map aA)=t0.map aA:=List.take_of_length_le (by rw[List.length_map];exact Nat.le_refl _);rw[P8] at PY hlen;simp[Tryz.results79,P8,← hlen,PY]
    | true=>
     apply aU;simp[hC];refine gQ ?_;simp;apply T.block;apply aj;simp[hC];apply aj;simp[hC];apply T.block;refine T.aJ (J79c u x pq.code.length m i (aI xm) sm t0) (n:=pq.code.length) ?_ ?_
     ·refine aa.trim [16,15,13,11,6,5,4,3,2] [3,2,1,0] 4 (by simp[-List.all_eq_true,af PO,af PW,af TS,af tT]) yA ⟨0,by omega,by omega,?_⟩;simp[OD,OC,dh,fp,df,ints,aY,Go.aP.swp]
     ·rintro n s ⟨pc,rfl,jN,rfl⟩;simp only[OD,OC,dh,fp,df,ints,aY];by_cases RR:pc<pq.code.length
      ·obtain⟨z,hz⟩:∃ z,(aq u x)[pc]? = some z:=⟨_,List.getElem?_eq_getElem (by rw[PK];exact RR)⟩;obtain⟨w1,w2,w3,w4,w5,w6⟩:=sw_at H h0 hz;have Tq:=w1.len;obtain⟨Wo,YD,_⟩:=w1.get (p:=pc) (by rw[PK];exact RR);have hg:(Go.aP.swp u (ak u) (aI xm) m i x sm t0 pc).1.getD pc []=Wo:=by rw[List.getD_eq_getElem?_getD,YD];rfl
       rw[hg] at w2 w4 w5 w6;rw[PK] at Tq;have tS:=bX (Go.aP.swp u (ak u) (aI xm) m i x sm t0 pc).1;apply aU;simp[hC,RR];refine gQ ?_;simp;apply dZ;have hrel:=Pt hu hv hz hm;have Sb:trees [.agg (dh u),.agg (df x),I pc,I m]=true:=by simp only[trees,tree,bO,bV,Bool.and_self]
       have Qt:=hz;rw[PK] at Qt;have QL:=aO (f:=dd) (n:=12) fo Qt;obtain⟨xc,QJ,QF⟩:=ku z;rw[QJ] at QL;have P0:=zr z;have tst:=aD (jL (ak u) (aI xm) m sm i x z pc);have Zl:=j5 h8 w3;have hst0:(jL (ak u) (aI xm) m sm i x z pc).length≤9:=by rw[w3.len];omega
       simp only[ef,dh,df,ints] at hrel Sb;apply aj;simp[hC];refine dQ Sb hrel ?_;simp[hC];refine T.cut (fun s=>s=⟨(17,aA (jL (ak u) (aI xm) m sm i x z pc))::(16,I pc)::(15,.bool (Go.aP.swp u (ak u) (aI xm) m i x sm t0 pc).2)::OD pq.code.length m i sm,OC u x ((Go.aP.swp u (ak u) (aI xm) m i x sm t0 pc).1.map aA),4⟩) ?_ ?_
       ·apply aj;simp[hC,Qy,PL,nD,RR,QL];by_cases hc:fy z=true
        ·obtain⟨row,QG,Qg,UB⟩:=zP hu hx hz hc;have SH:=fA ints QG;have Ua:=fA vq Qg;have Tb:=(List.getElem?_eq_some_iff.1 QG).1;have Q0:=(List.getElem?_eq_some_iff.1 Qg).1;have WC:eQ (ak u) i pc<sm.length:=by rw[hs.len];exact UB
         obtain⟨sk,SN⟩:∃ sk,sm[eQ (ak u) i pc]? = some sk:=⟨_,List.getElem?_eq_getElem WC⟩;have hd3:=fA aA SN;have T1:jL (ak u) (aI xm) m sm i x z pc=sk:=by rw[jL,if_pos hc,List.getD_eq_getElem?_getD,SN];rfl
         rw[hc] at P0;refine T.cond (b:=true) (by simp[ev,assoc,P0]) ?_;simp;apply aW;simp[hC,SH,Ua,Tb,Q0,WC,hd3,ints];rw[T1] at tst ⊢;refine aa.trim [17,16,15,13,11,6,5,4,3,2] [3,2,1,0] 4 (by simp[-List.all_eq_true,af PO,af PW,af TS,af tS,a6 _ _ tst]) yA ?_;simp[OD,OC,dh,fp,df,ints,aY]
        ·have T1:jL (ak u) (aI xm) m sm i x z pc=lp (aI xm) (eP x m z):=by rw[jL,if_neg hc]
         rw[Bool.not_eq_true] at hc;rw[hc] at P0;refine T.cond (b:=false) (by simp[ev,assoc,P0]) (T.skip ?_);simp;rw[T1] at tst ⊢;refine aa.trim [17,16,15,13,11,6,5,4,3,2] [3,2,1,0] 4 (by simp[-List.all_eq_true,af PO,af PW,af TS,af tS,a6 _ _ tst]) yA ?_;simp[OD,OC,dh,fp,df,ints,aY]
       ·rintro s rfl;simp only[OD,OC,dh,fp,df,ints,aY];have VM:=Pk Wo (jL (ak u) (aI xm) m sm i x z pc) (by rw[w2.len];omega) hst0 (j5 h8 w2) Zl;have Q2:=Pe hu hv hz yA;have Vc:trees [aA Wo,aA (jL (ak u) (aI xm) m sm i x z pc)]=true:=by simp only[trees,aD,Bool.and_self]
        have Th:trees [.agg (dh u),.agg (df x),I pc]=true:=by simp only[trees,tree,bO,bV,Bool.and_self]
        simp only[ef,dh,df,ints] at Q2 Th;refine T.seq (T.rx ah follows [0,1,2,3,4,6,7,8,5,9,10,11] [(6,5),(7,5)] PH ?_);simp[hC,RR,YD];refine RX.call rfl rfl rfl rfl rfl Vc VM ?_;simp;refine RX.call rfl rfl rfl rfl rfl Th Q2 ?_;simp;generalize hS:Go.aP.swp u (ak u) (aI xm) m i x sm t0 pc=S at *;generalize ha:nK Wo (jL (ak u) (aI xm) m sm i x z pc)=a at *;have QU:(jS z pc).length≤2:=JP z pc;apply aj;simp[hC];apply T.block;refine T.aJ (J79d u x pq.code.length m i sm S a (jS z pc) pc) (n:=(jS z pc).length) ?_ ?_
        ·refine aa.trim [20,19,18,16,15,13,11,6,5,4,3,2] [3,2,1,0] 4 (by simp[-List.all_eq_true,af PO,af PW,af TS,af tS,a6 _ _ (aD _)]) yA ⟨0,by omega,by omega,?_⟩;simp[OD,OC,dh,fp,df,ints,aY,OJ]
        ·rintro n s ⟨j,rfl,hj,rfl⟩;simp only[OD,OC,dh,fp,df,ints,aY];by_cases P7:j<(jS z pc).length
         ·obtain⟨q,hq⟩:∃ q,(jS z pc)[j]? = some q:=⟨_,List.getElem?_eq_getElem P7⟩;have XK:=dk hq;have wS:=w5 j hj;have cS:OJ a ((jS z pc).take (j+1)) S=(if uX a ((OJ a ((jS z pc).take j) S).1.getD q [])=true then OJ a ((jS z pc).take j) S else ((OJ a ((jS z pc).take j) S).1.set q (jK ((OJ a ((jS z pc).take j) S).1.getD q []) a),true)):=by
           rw[List.take_add_one,hq];exact OQ a _ q S
          have RI:q<pq.code.length:=by rw[← PK];exact G4 hu hv hz (List.mem_of_getElem? hq)
          obtain⟨rq,XH,wq⟩:=wS.get (p:=q) (by rw[PK];exact RI);have hgq:(OJ a ((jS z pc).take j) S).1.getD q []=rq:=by rw[List.getD_eq_getElem?_getD,XH];rfl
          rw[hgq] at cS;have Uz:=wS.len;rw[PK] at Uz;have Vd:=bX (OJ a ((jS z pc).take j) S).1;generalize OJ a ((jS z pc).take j) S=S2 at *;have Tm:=O6 rq a (by rw[wq.len];omega) (by rw[wq.len,w4.len]) (j5 h8 wq) (j5 h8 w4);have Ze:=Pz H (a:=a) (b:=rq) (by rw[wq.len,w4.len]);have Tg:trees [aA rq,aA a]=true:=by simp only[trees,aD,Bool.and_self]
          have wj:=cE ((j:Int)+1) yA yA;have PR:aA (jS z pc)=CV.az ((jS z pc).map fun n:Nat=>I n) (jS z pc).length:=rfl;simp only[PR];have tnx:=aC (jS z pc);have XJ:q+1≤pq.code.length:=RI;apply aU;simp[hC,P7];refine gQ ?_;simp;apply dZ;apply aj;simp[hC,P7,XK,RI,XH];refine dQ Tg Tm ?_;simp[hC];have QB:=OK (jK rq a) rq (by rw[(F4 wq w4).len];omega);have Vb:trees [aA (jK rq a),aA rq]=true:=by simp only[trees,aD,Bool.and_self]
          apply aj;simp[hC,P7,XK,RI,XH];refine dQ Vb QB ?_;simp[hC];by_cases P4:uX a rq=true
          ·rw[if_pos P4] at cS;have R7:=Ze.2 P4;refine T.cond (b:=false) (by simp[ev,assoc,R7]) (T.skip ?_);simp;apply aW;simp[hC,wj];refine⟨(jS z pc).length-(j+1),by omega,aa.trim [20,19,18,16,15,13,11,6,5,4,3,2] [3,2,1,0] 4 (by simp[-List.all_eq_true,af PO,af PW,af TS,af Vd,a6 _ _ (aD _)]) yA ⟨j+1,rfl,by omega,?_⟩⟩;rw[cS];simp[OD,OC,dh,fp,df,ints,aY,PR]
          ·rw[if_neg P4] at cS;have R7:¬ jK rq a=rq:=fun h=>P4 (Ze.1 h);refine T.cond (b:=true) (by simp[ev,assoc,R7]) ?_;simp;apply aW;simp[hC,P7,XK,RI,lz,lH,Uz,XJ];apply aW;simp[hC,wj];rw[Cv _ (show q<S2.1.length by omega)];generalize S2.1.set q (jK rq a)=t4 at *;have tS4:=bX t4;refine⟨(jS z pc).length-(j+1),by omega,aa.trim [20,19,18,16,15,13,11,6,5,4,3,2] [3,2,1,0] 4 (by simp[-List.all_eq_true,af PO,af PW,af TS,af tS4,a6 _ _ (aD _)]) yA ⟨j+1,rfl,by omega,?_⟩⟩;rw[cS];simp[OD,OC,dh,fp,df,ints,aY,PR]
         ·have QV:j=(jS z pc).length:=by omega
          subst QV;rw[List.take_length] at *;have PR:aA (jS z pc)=CV.az ((jS z pc).map fun n:Nat=>I n) (jS z pc).length:=rfl;simp only[PR];apply aU;simp[hC];refine bh ?_;simp;apply T.exit;simp;have RU:=cE ((pc:Int)+1) yA yA;have Vd:=bX (OJ a (jS z pc) S).1;apply aW;simp[hC,RU];refine⟨pq.code.length-(pc+1),by omega,aa.trim [16,15,13,11,6,5,4,3,2] [3,2,1,0] 4 (by simp[-List.all_eq_true,af PO,af PW,af TS,af Vd]) yA ⟨pc+1,rfl,by omega,?_⟩⟩;rw[w6];simp[OD,OC,dh,fp,df,ints,aY]
      ·have RY:pc=pq.code.length:=by omega
       subst RY;have ZB:(aq u x).length=pq.code.length:=by rw[PK]
       obtain⟨T0,_⟩:=OP H h0 pq.code.length yA;have YC:=Pq H h0;rw[ZB] at YC;have Tq:=T0.A.wf.len;rw[ZB] at Tq;have Vd:=bX (Go.aP.swp u (ak u) (aI xm) m i x sm t0 pq.code.length).1;generalize Go.aP.swp u (ak u) (aI xm) m i x sm t0 pq.code.length=S at *;apply aU;simp[hC];refine bh ?_;simp;apply T.exit;simp;have Qf:=pG S.1 T0.A.wf.row;rw[Tq] at Qf;have Xi:=T0.le;refine⟨(9*(aI xm+1)*pq.code.length-eD S.1)+(if S.2=true then 1 else 0),?_,aa.trim [15,13,11,6,5,4,3,2] [3,2,1,0] 4 (by simp[-List.all_eq_true,af PO,af PW,af TS,af Vd]) yA ⟨S.1,S.2,rfl,T0.A,fun h=>?_,?_⟩⟩
       ·cases h2:S.2 with
        | true=>have:=T0.lt h2;simp;omega
        | false=>simp;omega
       ·rw[T0.same h,YC h,← PK];rfl
       ·simp[OD,OC,dh,fp,df,ints,aY]
end Go.Proofs.YtnecpnjdonibmaaGreat
