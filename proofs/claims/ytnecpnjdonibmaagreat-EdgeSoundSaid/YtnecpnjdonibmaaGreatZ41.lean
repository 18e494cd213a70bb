/- The program's Next: the kinds of control. -/
import Derived.Test.YtnecpnjdonibmaaGreatZ40
namespace Go.Proofs.YtnecpnjdonibmaaGreat
open Go.Can Go.aP
theorem Hr (g k:Nat):ae Tryz.prog 348 [.agg [I g],I k] (aA [g]):=by
 refine ae.aM ah Tryz.func348 rfl PH (by simp[Tryz.ntmps348]) (aD _) fun C hC PN=>?_;rw[Tryz.ntmps348] at hC;apply aj;simp[hC];apply aj;simp[hC];apply T.ret;refine aa.le (Le.trim [4] [1] 2 zX yA) ?_;simp;refine aa.le (Le.dz (o:=1) rfl rfl) ?_;apply aa.here;simp[aA]
theorem Iw (g k:Nat)(hk:k≤1000000):ae Tryz.prog 349 [.agg [I g],I k] (aA (if g=k+1 then [g] else [min g (k+1),max g (k+1)])):=by
 have wk:=cE ((k:Int)+1) yA yA;refine ae.aM ah Tryz.func349 rfl PH (by simp[Tryz.ntmps349]) (aD _) fun C hC PN=>?_;rw[Tryz.ntmps349] at hC;apply aj;simp[hC];apply aU;simp[hC,wk];by_cases h:g=k+1
 ·subst h;simp;refine fx ?_;simp;apply aj;simp[hC];apply T.ret;simp;refine aa.le (Le.trim [4] [1] 2 zX yA) ?_;simp;refine aa.le (Le.dz (o:=1) rfl rfl) ?_;apply aa.here;simp[aA]
 ·have P3:(((g:Int) == (k:Int)+1))=false:=by rw[beq_eq_false_iff_ne];omega
  refine T.cond (b:=false) (by simp only[ev,assoc,P3];rfl) (T.skip ?_);rw[if_neg h];have UF:(if (k:Int)+1<(g:Int) then (k:Int)+1 else (g:Int))=((min g (k+1):Nat):Int):=by split<;>omega
  have ZQ:(if (g:Int)<(k:Int)+1 then (k:Int)+1 else (g:Int))=((max g (k+1):Nat):Int):=by split<;>omega
  generalize min g (k+1)=A at UF ⊢;generalize max g (k+1)=B at ZQ ⊢;simp;apply aj;simp[hC,wk,UF,ZQ];apply T.ret;refine aa.le (Le.trim [4] [1] 2 zX yA) ?_;simp;refine aa.le (Le.dz (o:=1) rfl rfl) ?_;apply aa.here;simp[aA]
theorem HU (k:Nat):ae Tryz.prog 347 [.agg [],I k] (aA []):=by
 refine ae.aM ah Tryz.func347 rfl PH (by simp[Tryz.ntmps347]) (aD _) fun C hC PN=>?_;rw[Tryz.ntmps347] at hC;apply aj;simp[hC];apply aj;simp[hC];apply T.ret;refine aa.le (Le.trim [4] [] 0 zX yA) ?_;simp;refine aa.le (Le.nz [4] []) ?_;apply aa.here;simp[aA]
theorem F7 (k:Nat)(hk:k≤1000000):ae Tryz.prog 350 [.agg [],I k] (aA [k+1]):=by
 have wk:=cE ((k:Int)+1) yA yA;refine ae.aM ah Tryz.func350 rfl PH (by simp[Tryz.ntmps350]) (aD _) fun C hC PN=>?_;rw[Tryz.ntmps350] at hC;apply aj;simp[hC];apply aj;simp[hC,wk];apply T.ret;refine aa.le (Le.trim [4] [1] 2 zX yA) ?_;simp;refine aa.le (Le.dz (o:=1) rfl rfl) ?_;apply aa.here;simp[aA]
def uA:In→CV
 | .ret=>.iface 373 [.agg []]
 | .jump g=>.iface 375 [.agg [I g]]
 | .branch g _=>.iface 376 [.agg [I g]]
 | _=>.iface 377 [.agg []]
set_option maxRecDepth 100000 in
theorem BU (z:In):ae Tryz.prog 279 [.agg (dd z)] (uA z):=by
 have Q4:=kS z;obtain⟨xc,QJ,QF⟩:=ku z;obtain⟨c1,c2,c3,c4,c5,c6,c7,c8,c9,VY,VX,rfl⟩:=wy QF;rw[QJ] at Q4 ⊢;simp only[List.all_cons,List.all_nil,Bool.and_true,Bool.and_eq_true] at Q4;obtain⟨_,o1,o2,o3,o4,o5,o6,o7,o8,o9,W2,W1⟩:=Q4;have RQ:tree (uA z)=true:=by cases z<;>rfl
 refine ae.aM ah Tryz.func279 rfl PH (by simp[Tryz.ntmps279]) RQ fun C hC PN=>?_;rw[Tryz.ntmps279] at hC;apply aj;simp[hC]
 cases z with
 | ret=>
  rw[show qj In.ret=8 from rfl];apply aU;simp[hC];apply T.block;apply aj;simp[hC];refine fx ?_;simp;refine T.seq (T.region (TL.some ah 1 ?_));simp[hC];refine kX rfl (gF (d:=.bw []) (c:=.agg []) ah PV rfl zX rfl (fun h=>by cases h)) (TL.go' ah ?_);simp[hC];apply T.ret;simp;refine aa.le (Le.trim [2] [] 0 zX yA) ?_;simp;apply aa.here;simp[uA]
 | jump g=>
  have UL:c1=I g:=by
   have h:=congrArg (fun l=>l.drop 1) QJ;simp[dd] at h;exact h.1.symm
  subst UL;rw[show qj (In.jump g)=7 from rfl];apply aU;simp[hC];apply T.block;apply aj;simp[hC];refine bh ?_;simp;apply aj;simp[hC];refine fx ?_;simp;refine T.seq (T.region (TL.some ah 3 ?_));simp[hC];refine kX rfl (gF (d:=.bw [(0,3)]) (c:=.agg [I g]) ah PV rfl zX rfl (fun h=>by cases h)) (TL.go' ah ?_);simp[hC];apply T.ret;simp;refine aa.le (Le.trim [2] [] 0 zX yA) ?_;simp;apply aa.here;simp[uA]
 | branch g e=>
  have UL:c1=I g:=by
   have h:=congrArg (fun l=>l.drop 1) QJ;simp[dd] at h;exact h.1.symm
  subst UL;rw[show qj (In.branch g e)=6 from rfl];apply aU;simp[hC];apply T.block;apply aj;simp[hC];refine bh ?_;simp;apply aj;simp[hC];refine bh ?_;simp;apply aj;simp[hC];refine fx ?_;simp;refine T.seq (T.region (TL.some ah 3 ?_));simp[hC];refine kX rfl (gF (d:=.bw [(0,3)]) (c:=.agg [I g]) ah PV rfl zX rfl (fun h=>by cases h)) (TL.go' ah ?_);simp[hC];apply T.ret;simp;refine aa.le (Le.trim [2] [] 0 zX yA) ?_;simp;apply aa.here;simp[uA]
 | set t gl e=>
  rw[show qj (In.set t gl e)=1 from rfl];apply aU;simp[hC];apply T.block;apply aj;simp[hC];refine bh ?_;simp;apply aj;simp[hC];refine bh ?_;simp;apply aj;simp[hC];refine gO ?_;simp;refine T.seq (T.region (TL.some ah 1 ?_));simp[hC];refine kX rfl (gF (d:=.bw []) (c:=.agg []) ah PV rfl zX rfl (fun h=>by cases h)) (TL.go' ah ?_);simp[hC];apply T.ret;refine aa.le (Le.trim [2] [] 0 zX yA) ?_;simp;apply aa.here;simp[uA]
 | call g t l ps=>
  cases g with
  | true=>
   rw[show qj (In.call true t l ps)=3 from rfl];apply aU;simp[hC];apply T.block;apply aj;simp[hC];refine bh ?_;simp;apply aj;simp[hC];refine bh ?_;simp;apply aj;simp[hC];refine gO ?_;simp;refine T.seq (T.region (TL.some ah 1 ?_));simp[hC];refine kX rfl (gF (d:=.bw []) (c:=.agg []) ah PV rfl zX rfl (fun h=>by cases h)) (TL.go' ah ?_);simp[hC];apply T.ret;refine aa.le (Le.trim [2] [] 0 zX yA) ?_;simp;apply aa.here;simp[uA]
  | false=>
   rw[show qj (In.call false t l ps)=2 from rfl];apply aU;simp[hC];apply T.block;apply aj;simp[hC];refine bh ?_;simp;apply aj;simp[hC];refine bh ?_;simp;apply aj;simp[hC];refine gO ?_;simp;refine T.seq (T.region (TL.some ah 1 ?_));simp[hC];refine kX rfl (gF (d:=.bw []) (c:=.agg []) ah PV rfl zX rfl (fun h=>by cases h)) (TL.go' ah ?_);simp[hC];apply T.ret;refine aa.le (Le.trim [2] [] 0 zX yA) ?_;simp;apply aa.here;simp[uA]
 | lock un p=>
  cases un with
  | true=>
   rw[show qj (In.lock true p)=5 from rfl];apply aU;simp[hC];apply T.block;apply aj;simp[hC];refine bh ?_;simp;apply aj;simp[hC];refine bh ?_;simp;apply aj;simp[hC];refine gO ?_;simp;refine T.seq (T.region (TL.some ah 1 ?_));simp[hC];refine kX rfl (gF (d:=.bw []) (c:=.agg []) ah PV rfl zX rfl (fun h=>by cases h)) (TL.go' ah ?_);simp[hC];apply T.ret;refine aa.le (Le.trim [2] [] 0 zX yA) ?_;simp;apply aa.here;simp[uA]
  | false=>
   rw[show qj (In.lock false p)=4 from rfl];apply aU;simp[hC];apply T.block;apply aj;simp[hC];refine bh ?_;simp;apply aj;simp[hC];refine bh ?_;simp;apply aj;simp[hC];refine gO ?_;simp;refine T.seq (T.region (TL.some ah 1 ?_));simp[hC];refine kX rfl (gF (d:=.bw []) (c:=.agg []) ah PV rfl zX rfl (fun h=>by cases h)) (TL.go' ah ?_);simp[hC];apply T.ret;refine aa.le (Le.trim [2] [] 0 zX yA) ?_;simp;apply aa.here;simp[uA]
def ctlM : gL := [((373, "lockorder/flow.next"), 347), ((375, "lockorder/flow.next"), 348), ((376, "lockorder/flow.next"), 349), ((377, "lockorder/flow.next"), 350)]
theorem Ki:iz Tryz.prog ctlM:=ot PH
theorem H7 (z : In) {k : Nat} (hk : k ≤ 1000000) : ∃ (t : Nat) (v : CV) (g : Nat), uA z = .iface t [v] ∧ wu ctlM t "lockorder/flow.next" = some g ∧ tree v = true ∧ ae Tryz.prog g [v, I k] (aA (jS z k)) := by
 cases z with
 | ret=>exact⟨_,_,_,rfl,by rfl,rfl,HU k⟩
 | jump g=>exact⟨_,_,_,rfl,by rfl,rfl,Hr g k⟩
 | branch g e=>exact⟨_,_,_,rfl,by rfl,rfl,Iw g k hk⟩
 | _=>exact⟨_,_,_,rfl,by rfl,rfl,F7 k hk⟩
theorem GO {u:Un}(hu:ik u){x:Is}(hx:pV u x){k:Nat}{z:In}(hz:(aq u x)[k]? = some z)(hk:k≤1000000):ae Tryz.prog 219 [ef u,.agg (df x),I k] (aA (jS z k)):=by
 have TE:=zp hu hx hz;have hct:=BU z;have PO:=bO u;have ti:=bV x;have R9:=eE z;obtain⟨t,v,g,e1,e2,e3,e4⟩:=H7 z hk;have t2:trees [ef u,.agg (df x),I k]=true:=by simp only[trees,tree,ef,PO,ti,Bool.and_self]
 have t3:trees [.agg (dd z)]=true:=by simp only[trees,tree,R9,Bool.and_self]
 have t4:trees [v,I k]=true:=by simp only[trees,e3];rfl
 rw[e1] at hct;refine ae.aM ah Tryz.func219 rfl PH (by simp[Tryz.ntmps219]) (aD _) fun C hC PN=>?_;rw[Tryz.ntmps219] at hC;simp only[ef,dh,df,ints] at TE t2 ⊢;apply aj;simp[hC];apply aj;simp[hC];refine dQ t2 TE ?_;simp;refine dQ t3 hct ?_;simp[hC];apply aj;simp[hC];refine KT PV rfl (nw.to Ki rfl (by simp[ig,ev,yN,assoc,e2]) e4.1) t4 e4 (TL.go' ah ?_);simp[hC];apply T.ret;apply aa.here;simp[Tryz.results219]
def nZ (u:Un)(x:Is)(m i:Nat)(sm:List (List Nat)):List CV:=[.cA (dh u),.cA (df x),.cA [aY sm],.cA (fp (ak u)),.cA [I i],.cA [I m]]
theorem qG (u:Un)(x:Is)(m i:Nat)(sm:List (List Nat)):trees (nZ u x m i sm)=true:=by
 simp only[nZ,trees,tree,Bool.and_self]
theorem GN {u:Un}(hu:ik u){i:Nat}{x:Is}(hx:(ak u).is[i]? = some x){m:Nat}{xm:Mx}(hm:u.ms[m]? = some xm){sm:List (List Nat)}(hs:uS (aI xm) (ak u).is.length sm){pc:Nat}{z:In}(hz:(aq u x)[pc]? = some z) :
  ae Tryz.prog 294 (I pc::nZ u x m i sm) (aA (jL (ak u) (aI xm) m sm i x z pc)):=by
 have hv:=uE hu hx;have h8:=fq xm;have hrel:=Jz hu hv hz hm;obtain⟨pq,Qe,PK⟩:=jZ hv;have PX:=eZ hu x;have Qy:=(List.getElem?_eq_some_iff.1 Qe).1;have PL:=bS (f:=nD) (n:=5) gD Qe 4 yA;have Qt:=hz;rw[PK] at Qt;have RR:=(List.getElem?_eq_some_iff.1 Qt).1;have QL:=aO (f:=dd) (n:=12) fo Qt;obtain⟨xc,QJ,QF⟩:=ku z;rw[QJ] at QL;have P0:=zr z;have PU:trees [ef u,.agg (df x),I pc,I m]=true:=by simp only[trees,tree,ef,bO,bV,Bool.and_self]
 refine ae.aM ah Tryz.func294 rfl PH (by simp[Tryz.ntmps294,nZ]) (aD _) fun C hC PN=>?_;rw[Tryz.ntmps294] at hC;simp only[nZ,ef,dh,fp,df,ints,aY] at hrel PU ⊢;apply aj;simp[hC];apply aU;simp[hC,Qy,PL,nD,RR,QL]
 cases hc:fy z with
 | true=>
  obtain⟨row,QG,Qg,UB⟩:=zP hu hx hz hc;have SH:=fA ints QG;have Ua:=fA vq Qg;have Tb:=(List.getElem?_eq_some_iff.1 QG).1;have Q0:=(List.getElem?_eq_some_iff.1 Qg).1;have WC:eQ (ak u) i pc<sm.length:=by rw[hs.len];exact UB
  obtain⟨sk,SN⟩:∃ sk,sm[eQ (ak u) i pc]? = some sk:=⟨_,List.getElem?_eq_getElem WC⟩;have hd3:=fA aA SN;have T1:jL (ak u) (aI xm) m sm i x z pc=sk:=by rw[jL,if_pos hc,List.getD_eq_getElem?_getD,SN];rfl
  rw[hc] at P0;refine T.cond (b:=true) (by simp[ev,assoc,P0]) ?_;simp;refine T.seq (T.rx ah follows [0,1,2,3,4,5,6,7,8,9,10,11] [] PH ?_);simp[hC,SH,Ua,Tb,Q0,WC,hd3,ints];apply T.ret;apply aa.here;simp[Tryz.results294,T1]
 | false=>
  have T1:jL (ak u) (aI xm) m sm i x z pc=lp (aI xm) (eP x m z):=by rw[jL,if_neg (by rw[hc];simp)]
  rw[hc] at P0;refine T.cond (b:=false) (by simp[ev,assoc,P0]) (T.skip ?_);simp;apply aj;simp[hC];refine dQ PU hrel ?_;simp[hC];apply T.ret;apply aa.here;simp[Tryz.results294,T1]
theorem MH (u:Un)(m i L:Nat)(x:Is)(sm:List (List Nat)):uS L (aq u x).length (IU u m i L x sm):=jQ _ _ _
theorem MR (u:Un)(c:Cl)(m L:Nat)(sm:List (List Nat))(i:Nat):sI L (ss u c m L sm i):=lq _ _
theorem JF (z:In):((qj z:Int) == 8)=D6 z:=by
 cases z with
 | call g _ _ _=>cases g<;>rfl
 | lock g _=>cases g<;>rfl
 | _=>rfl
def ir (u:Un):List (Nat×Ob):=[(1,⟨34,0,fp (ak u)⟩),(0,⟨30,0,dh u⟩)]
def J207 (u:Un)(x:Is)(n i L:Nat)(t:List (List Nat))(k:Nat)(s:St):Prop:=∃ j:Nat,k=n-j∧j≤n∧s=⟨[(13,I j),(12,aA (AS u x L t j)),(11,aY t),(6,.av 1 0),(5,.av 0 0),(4,I i)],ir u,2⟩
theorem Pf {u:Un}(hu:ik u){i:Nat}{x:Is}(hx:(ak u).is[i]? = some x){m:Nat}{xm:Mx}(hm:u.ms[m]? = some xm){sm:List (List Nat)}(hs:uS (aI xm) (ak u).is.length sm):ae Tryz.prog 207 [ef u,jj (ak u),I m,aY sm,I i] (aA (ss u (ak u) m (aI xm) sm i)):=by
 have P4:=OI hu hx hm hs;have Xv:=MH u m i (aI xm) x sm;have P8:=Ka (u:=u) (m:=m) (L:=aI xm) hx sm;have hv:=uE hu hx;have h8:=fq xm;have QC:=OL xm;obtain⟨pq,Qe,PK⟩:=jZ hv;have PX:=eZ hu x;have PJ:=(List.getElem?_eq_some_iff.1 hx).1;have QK:=(List.getElem?_eq_some_iff.1 hm).1;have Qy:=(List.getElem?_eq_some_iff.1 Qe).1;have SV:=aO (f:=eL) (n:=3) qn hm;have R8:=aO (f:=df) (n:=2) fk hx;have PL:=bS (f:=nD) (n:=5) gD Qe 4 yA;have t1:trees [.agg (eL xm)]=true:=rfl;have TW:=cE ((aI xm:Int)+1) yA yA;have UQ:(0≤(aI xm:Int)+1∧8*((aI xm:Int)+1)≤281474976710656∧(aI xm:Int)+1≤9223372036854775807):=by omega
 have PU:trees [ef u,jj (ak u),I m,aY sm,I i]=true:=by simp only[trees,tree,ef,jj,bO,cO,en,Bool.and_self]
 have PO:=bO u;have PW:=cO (ak u);have tZ:trees (List.replicate (aI xm+1) (I 0))=true:=jr _;refine ae.aM ah Tryz.func207 rfl PH (by simp[Tryz.ntmps207]) (aD _) fun C hC PN=>?_;rw[Tryz.ntmps207] at hC;simp only[eL] at QC t1;change AS u x (aI xm) (IU u m i (aI xm) x sm) (aq u x).length=_ at P8;generalize IU u m i (aI xm) x sm=t at *;rw[PK] at PX;have QA:t.length=pq.code.length:=by rw[Xv.len,PK]
 have tT:=bX t;simp only[ef,jj,dh,fp,ints,aY] at PU PO PW P4 ⊢;apply aj;simp[hC];apply aj;simp[hC];refine dQ PU P4 ?_;simp[hC];apply aj;simp[hC,QK,SV,eL];refine dQ t1 QC ?_;simp[hC,TW,UQ];refine T.le (Le.dz (o:=2) rfl tZ) ?_;simp[eG];rw[zA];apply aU;simp[hC];apply T.block;refine T.aJ (J207 u x pq.code.length i (aI xm) t) (n:=pq.code.length) ?_ ?_
 ·refine aa.trim [13,12,11,6,5,4] [1,0] 2 (by simp[-List.all_eq_true,af PO,af PW,a6 _ _ (aD _)]) yA ⟨0,by omega,by omega,?_⟩;simp[ir,dh,fp,ints,aY,AS]
 ·rintro n s ⟨j,rfl,hj,rfl⟩;simp only[ir,dh,fp,ints,aY];have hqw:=yc (u:=u) (x:=x) Xv;by_cases P7:j<pq.code.length
  ·obtain⟨z,Qt⟩:∃ z,pq.code[j]? = some z:=⟨_,List.getElem?_eq_getElem P7⟩;have hz:(aq u x)[j]? = some z:=by rw[PK];exact Qt
   have QL:=aO (f:=dd) (n:=12) fo Qt;obtain⟨xc,QJ,QF⟩:=ku z;rw[QJ] at QL;have P0:=JF z;obtain⟨rj,Zv,wj⟩:=Xv.get (p:=j) (by rw[PK];exact P7);have hdt:=fA aA Zv;have hgj:t.getD j []=rj:=by rw[List.getD_eq_getElem?_getD,Zv];rfl
   have hw:=hqw j (by rw[PK];exact hj);have cS:AS u x (aI xm) t (j+1)=if D6 z=true then jK (AS u x (aI xm) t j) rj else AS u x (aI xm) t j:=by
    rw[AS,hz,hgj];simp
   have YY:=cE ((j:Int)+1) yA yA;generalize AS u x (aI xm) t j=q at *;have Tm:=O6 q rj (by rw[hw.len];omega) (by rw[hw.len,wj.len]) (j5 h8 hw) (j5 h8 wj);have Tg:trees [aA q,aA rj]=true:=by simp only[trees,aD,Bool.and_self]
   apply aU;simp[hC,QA,P7];refine gQ ?_;simp;apply dZ;refine T.seq (T.rx ah follows [0,1,2,3,4,5,6,7,8,9,10,11,12,13,14,15] [] PH ?_);simp[hC,PJ,R8,df,Qy,PL,nD,P7,QL]
   cases hr:D6 z with
   | true=>
    rw[hr] at P0 cS;refine T.cond (b:=true) (by simp[ev,assoc,P0]) ?_;simp;apply aW;simp[hC,P7,hdt];refine dQ Tg Tm ?_;simp[hC];apply aW;simp[hC,YY];refine⟨pq.code.length-(j+1),by omega,aa.trim [13,12,11,6,5,4] [1,0] 2 (by simp[-List.all_eq_true,af PO,af PW,a6 _ _ (aD _)]) yA ⟨j+1,rfl,by omega,?_⟩⟩;rw[cS];simp[ir,dh,fp,ints,aY,QA]
   | false=>
    rw[hr] at P0 cS;refine T.cond (b:=false) (by simp[ev,assoc,P0]) (T.skip ?_);simp;apply aW;simp[hC,YY];refine⟨pq.code.length-(j+1),by omega,aa.trim [13,12,11,6,5,4] [1,0] 2 (by simp[-List.all_eq_true,af PO,af PW,a6 _ _ (aD _)]) yA ⟨j+1,rfl,by omega,?_⟩⟩;rw[cS];simp[ir,dh,fp,ints,aY,QA]
  ·have QV:j=pq.code.length:=by omega
   subst QV;apply aU;simp[hC,QA];refine bh ?_;simp;apply T.exit;simp;apply aj;simp[hC];apply T.ret;apply aa.here;rw[PK] at P8;simp[Tryz.results207,P8]
theorem xz {u:Un}(hu:ik u){x:Is}(hx:pV u x):∀ (c:List In) (l:List Is) (r:List Nat),(∀ i∈c,i∈aq u x)→uU u l→uU u (gw x c l r).1
 | [],_,_,_,h=>h
 | i::c,l,r,hc,h=>by
  simp only[gw];split
  ·exact xz hu hx c l r (fun j hj=>hc j (List.mem_cons_of_mem _ hj)) h
  ·rename_i y hy;have hyv:=BY hu hx (hc i List.mem_cons_self) hy;exact xz hu hx c _ _ (fun j hj=>hc j (List.mem_cons_of_mem _ hj)) ⟨lN h.nd,B8 h.v hyv⟩
theorem As {u:Un}(hu:ik u):∀ (f i:Nat) (l:List Is) (cs:List (List Int)) (r:List Nat),uU u l→uU u (lE u f i l cs r).is∧l.length≤(lE u f i l cs r).is.length
 | 0,_,l,_,_,h=>⟨h,Nat.le_refl _⟩
 | f+1,i,l,cs,r,h=>by
  simp only[lE];split
  ·exact⟨h,Nat.le_refl _⟩
  ·rename_i x hx;have hs:=xz hu (h.v x (List.mem_of_getElem? hx)) (aq u x) l r (fun _ hi=>hi) h;obtain⟨h1,h2⟩:=As hu f (i+1) (gw x (aq u x) l r).1 (cs++[(gw x (aq u x) l r).2.1]) (gw x (aq u x) l r).2.2 hs;obtain⟨t,ht⟩:=rV x (aq u x) l r;refine⟨h1,Nat.le_trans ?_ h2⟩;rw[ht];simp
theorem Ii {u:Un}(hu:ik u):uU u (ak u).is∧0<(ak u).is.length:=by
 have h0:uU u [⟨u.main,[]⟩]:=⟨by simp,fun x hx=>by
  rw[List.mem_singleton.1 hx];have hp:=hu.np.1;obtain⟨q,hq⟩:∃ q,u.ps[0]? = some q:=⟨_,List.getElem?_eq_getElem yA⟩;exact⟨⟨q,by rw[hu.main];exact hq,by rw[(hu.p0 q hq).2];rfl⟩,fun l hl=>by cases hl⟩⟩
 obtain⟨h1,h2⟩:=As hu 100 0 [⟨u.main,[]⟩] [] [0] h0;exact⟨h1,h2⟩
theorem j0 {u:Un}(hu:ik u):(ak u).is.length≤49∧0<(ak u).is.length:=by
 obtain⟨hI,Sh⟩:=Ii hu;exact⟨jD hu hI.nd hI.v,Sh⟩
theorem tj (ρ:Nat→Nat)(l:List Nat):dR ρ (aA l)=aA l:=by simp only[aA,dR]
def J145 (u:Un)(m n L:Nat)(k:Nat)(s:St):Prop:=∃ j:Nat,k=n-j∧j≤n∧s=⟨[(8,I j),(7,.bj 2 0 j),(4,.av 1 0),(3,.av 0 0),(2,I m)],(2,⟨22,1,List.replicate j (aA (oJ L))⟩)::ir u,3⟩
theorem O8 {u:Un}(hu:ik u){m:Nat}{xm:Mx}(hm:u.ms[m]? = some xm):ae Tryz.prog 145 [ef u,jj (ak u),I m] (aY (List.replicate (ak u).is.length (oJ (aI xm)))):=by
 have h8:=fq xm;have QC:=OL xm;obtain⟨PX,U1⟩:=j0 hu;have QK:=(List.getElem?_eq_some_iff.1 hm).1;have SV:=aO (f:=eL) (n:=3) qn hm;have t1:trees [.agg (eL xm)]=true:=rfl;have TW:=cE ((aI xm:Int)+1) yA yA;have UQ:(0≤(aI xm:Int)+1∧8*((aI xm:Int)+1)≤281474976710656∧(aI xm:Int)+1≤9223372036854775807):=by omega
 have PO:=bO u;have PW:=cO (ak u);have tZ:trees (List.replicate (aI xm+1) (I 0))=true:=jr _;refine ae.aM ah Tryz.func145 rfl PH (by simp[Tryz.ntmps145]) (en _) fun C hC PN=>?_;rw[Tryz.ntmps145] at hC;simp only[eL] at QC t1;generalize hn:(ak u).is.length=n at *;simp only[ef,jj,dh,fp,ints,aY] at PO PW ⊢;rw[hn] at PW ⊢;apply aj;simp[hC];apply aj;simp[hC];apply aU;simp[hC];apply T.block;refine T.aJ (J145 u m n (aI xm)) (n:=n) ?_ ?_
 ·refine aa.le (Le.own 7 22 1 rfl) ?_;simp[St.own];refine aa.trim [8,7,4,3,2] [2,1,0] 3 Wi yA ⟨0,by omega,by omega,?_⟩;simp[ir,dh,fp,ints,hn]
 ·rintro k s ⟨j,rfl,hj,rfl⟩;simp only[ir,dh,fp,ints,hn];have tR:=fU (aD (oJ (aI xm))) (j+1);have RO:trees (List.replicate j (aA (oJ (aI xm)))++[aA (oJ (aI xm))])=true:=by rw[← List.replicate_succ',tR]
  by_cases P7:j<n
  ·have wj:=cE ((j:Int)+1) yA yA;have UP:(j+1)*24≤140737488355328:=by omega
   have TU:=fun ρ=>ay ρ _ RO;have rU:=fun ρ=>ay ρ _ PO;have rC:=fun ρ=>ay ρ _ PW;apply aU;simp[hC,P7];refine gQ ?_;simp;apply dZ;apply aW;simp[hC,QK,SV,eL];refine TL.call PV rfl rfl (bT.of rfl t1 QC) (TL.some ah 2 ?_);simp[hC,TW,UQ];refine TL.le (Le.dz (o:=3) rfl tZ) ?_;simp[eG];rw[zA];refine TL.go' ah ?_;simp[hC,UP,lz,lH];apply aW;simp[hC,wj];refine⟨n-(j+1),by omega,?_⟩;refine aa.le (Le.norm [8,7,4,3,2] [(5,2),(1,1),(0,0)] 0 3 Rm Rl (by simp[dD,um,p4,tree,assoc,-List.all_eq_true,-List.all_flatMap,aH RO,aH PO,aH PW]) yA) ?_;simp[dC,ct,cq,dR,gf,assoc,TU,tj];refine aa.here ⟨j+1,rfl,by omega,?_⟩;simp[ir,dh,fp,ints,hn,List.replicate_succ']
  ·have QV:j=n:=by omega
   subst QV;apply aU;simp[hC];refine bh ?_;simp;apply T.exit;simp;apply aj;simp[hC];apply T.ret;have Ux:=fU (aD (oJ (aI xm))) j;refine aa.le (Le.dz (o:=2) rfl Ux) ?_;apply aa.here;simp[Tryz.results145]
def lX (u:Un)(x:Is)(m i:Nat)(sm:List (List Nat)):List CV:=dh u++df x++[I m,.fn 294 (nZ u x m i sm)]
theorem sO (u:Un)(x:Is)(m i:Nat)(sm:List (List Nat)):trees (lX u x m i sm)=true:=by
 simp only[lX,bF,bO,bV,trees,tree,qG,Bool.and_self]
def kT (u:Un)(x:Is)(m i:Nat)(sm:List (List Nat))(t:List CV):List (Nat×Ob):=[(1,⟨22,1,t⟩),(0,⟨355,0,lX u x m i sm⟩)]
def J295a (u:Un)(x:Is)(n m i L:Nat)(sm:List (List Nat))(k:Nat)(s:St):Prop:=∃ j:Nat,k=n-j∧j≤n∧s=⟨[(34,I j),(33,I n),(5,.bj 1 0 n),(3,I L),(1,.av 0 0)],kT u x m i sm (List.replicate j (aA (oJ L))++List.replicate (n-j) .ai),2⟩
def J295b (u:Un)(x:Is)(n m i L:Nat)(sm:List (List Nat))(k:Nat)(s:St):Prop:=∃ t td,k=Ha n L t td∧k≤30000∧I0 u (ak u) L m i x sm t td∧s=⟨[(7,.bj 2 0 td.length),(5,.bj 1 0 n),(1,.av 0 0)],(2,cK td)::kT u x m i sm (t.map aA),3⟩
def J295c (u:Un)(x:Is)(n m i:Nat)(sm:List (List Nat))(a nx:List Nat)(t0:List (List Nat))(td0:List Nat)(k:Nat)(s:St):Prop:=∃ j:Nat,k=nx.length-j∧j≤nx.length∧s=⟨[(79,I j),(78,I nx.length),(77,aA nx),(9,aA a),(7,.bj 2 0 (je a (nx.take j) t0 td0).2.length),(5,.bj 1 0 n),(1,.av 0 0)],(2,cK (je a (nx.take j) t0 td0).2)::kT u x m i sm ((je a (nx.take j) t0 td0).1.map aA),3⟩
set_option maxRecDepth 100000 in
set_option maxHeartbeats 1000000 in
theorem Jy {u:Un}(hu:ik u){i:Nat}{x:Is}(hx:(ak u).is[i]? = some x){m:Nat}{xm:Mx}(hm:u.ms[m]? = some xm){sm:List (List Nat)}(hs:uS (aI xm) (ak u).is.length sm) :
  ae Tryz.prog 295 [.agg (lX u x m i sm)] (aY (IU u m i (aI xm) x sm)):=by
 have hv:=uE hu hx;have h8:=fq xm;have H:=I7 hu h8 hx hs;have QC:=sd xm;have Z1:=zV (aI xm) h8;obtain⟨pq,Qe,PK⟩:=jZ hv;have PX:=eZ hu x;have QK:=(List.getElem?_eq_some_iff.1 hm).1;have Qy:=(List.getElem?_eq_some_iff.1 Qe).1;have SV:=aO (f:=eL) (n:=3) qn hm;have PL:=bS (f:=nD) (n:=5) gD Qe 4 yA;have t1:trees [.agg (eL xm)]=true:=rfl;have t2:trees [I (aI xm)]=true:=rfl;have bd:24*((aq u x).length:Int)≤281474976710656∧((aq u x).length:Int)≤9223372036854775807:=by omega
 have TW:=cE ((aI xm:Int)+1) yA yA;have UQ:(0≤(aI xm:Int)+1∧8*((aI xm:Int)+1)≤281474976710656∧(aI xm:Int)+1≤9223372036854775807):=by omega
 have tp:=sO u x m i sm;have VZ:=qG u x m i sm;have tZ:trees (List.replicate (aI xm+1) (I 0))=true:=jr _;have SL:=fun j=>bF (List.replicate j (aA (oJ (aI xm)))) (List.replicate (pq.code.length-j) CV.ai);refine ae.aM ah Tryz.func295 rfl PH (by simp[Tryz.ntmps295,lX,dh,df]) (en _) fun C hC PN=>?_;rw[Tryz.ntmps295] at hC;simp only[eL] at QC t1;rw[PK] at PX bd;simp only[lX,dh,df,ints,aY,List.cons_append,List.nil_append] at tp ⊢;apply aj;simp[hC];apply aj;simp[hC,QK,SV,eL];refine dQ t1 QC ?_;simp[hC];apply aj;simp[hC,Qy,PL,nD];apply aj;simp[hC,bd];apply aU;simp[hC];have tfn:tree (.fn 294 (nZ u x m i sm))=true:=by simp only[tree,VZ]
 have tu1:trees (u.gs.map vq)=true:=iC _;have tu2:=eT u.ms;have tu3:trees (u.ps.flatMap nD)=true:=aF mN u.ps;apply T.block;refine T.aJ (J295a u x pq.code.length m i (aI xm) sm) (n:=pq.code.length) ?_ ?_
 ·refine aa.trim [34,33,5,3,1] [1,0] 2 (by simp[-List.all_eq_true,af VZ,a6 _ _ (aD _)]) yA ⟨0,by omega,by omega,?_⟩;simp[kT,lX,dh,df,ints]
 ·rintro n s ⟨j,rfl,hj,rfl⟩;simp only[kT,lX,dh,df,ints,List.cons_append,List.nil_append];by_cases P7:j<pq.code.length
  ·have R3:1≤pq.code.length-j:=by omega
   have wj:=cE ((j:Int)+1) yA yA;apply aj;simp[hC,P7];refine T.seq (T.cond (b:=true) rfl (T.skip ?_));simp;apply dZ;apply aj;simp[hC];refine T.region (TL.some ah 5 ?_);simp[hC,TW,UQ];refine TL.le (Le.dz (o:=2) rfl tZ) ?_;simp[eG,cW VZ];refine TL.go' ah ?_;simp[hC,P7,R3];apply aW;simp[hC,wj];rw[zA,CG _ _ P7];have tF:=SL (j+1);rw[fU (aD _),fU rfl] at tF;refine⟨pq.code.length-(j+1),by omega,?_⟩;refine aa.trim [34,33,5,3,1] [1,0] 2 (by simp[-List.all_eq_true,af VZ,a6 _ _ (aD _),af tF]) yA ⟨j+1,rfl,by omega,?_⟩;simp[kT,lX,dh,df,ints]
  ·have QV:j=pq.code.length:=by omega
   subst QV;apply aj;simp[hC];refine T.seq (T.cond (b:=false) rfl (T.exit ?_));simp;have Sh:0<pq.code.length:=by have:=H.pos;rwa [PK] at this
   have Vs:1≤pq.code.length:=Sh;have SC:aA (lp (aI xm) 0)::List.replicate (pq.code.length-1) (aA (oJ (aI xm)))=((List.replicate pq.code.length (oJ (aI xm))).set 0 (lp (aI xm) 0)).map aA:=by
    obtain⟨n,hn⟩:∃ n,pq.code.length=n+1:=⟨pq.code.length-1,by omega⟩;rw[hn];simp[List.replicate_succ]
   apply aj;simp[hC];refine dQ t2 Z1 ?_;simp[hC,Sh,lz,lH,Vs];rw[SC];have h0:I0 u (ak u) (aI xm) m i x sm ((List.replicate pq.code.length (oJ (aI xm))).set 0 (lp (aI xm) 0)) [0]:=by
    rw[← PK];exact I0.start H
   have UE:Ha pq.code.length (aI xm) ((List.replicate pq.code.length (oJ (aI xm))).set 0 (lp (aI xm) 0)) [0]≤30000:=by
    unfold Ha;have:9*(aI xm+1)*pq.code.length≤81*145:=Nat.mul_le_mul yA PX;simp only[List.length_singleton];omega
   clear SL tZ;generalize (List.replicate pq.code.length (oJ (aI xm))).set 0 (lp (aI xm) 0)=t0 at h0 UE ⊢;have tT:=bX t0;apply aj;simp[hC];apply dZ;refine T.aJ (J295b u x pq.code.length m i (aI xm) sm) (n:=Ha pq.code.length (aI xm) t0 [0]) ?_ ?_
   ·refine aa.trim [7,5,1] [2,1,0] 3 (by simp[-List.all_eq_true,af VZ,a6 _ _ (aD _),af tT]) yA ⟨t0,[0],rfl,UE,h0,?_⟩;simp[kT,lX,dh,df,ints,cK]
   ·clear h0 SC UE tT;clear t0;rintro k s ⟨t,td,rfl,Tz,hI,rfl⟩;simp only[kT,lX,dh,df,ints,cK,List.cons_append,List.nil_append];have tT:=bX t;have tD:=aC td;have QA:t.length=pq.code.length:=by rw[hI.A.wf.len,PK]
    rcases List.eq_nil_or_concat td with rfl | ⟨td0,pc,rfl⟩
    ·have P8:=hI.fin H;change t=IU u m i (aI xm) x sm at P8;apply aU;simp[hC];refine T.cond (b:=false) RN (T.exit ?_);simp;apply aj;simp[hC];apply T.ret;refine aa.le (Le.dz (o:=1) rfl tT) ?_;apply aa.here;have PY:List.take pq.code.length (t.map aA)=t.map aA:=List.take_of_length_le Uf;rw[← P8];simp[Tryz.results295,PY,QA]
    ·rw[List.concat_eq_append] at *;have XO:pc<(aq u x).length:=hI.val pc zX;have RR:pc<pq.code.length:=by rw[← PK];exact XO
     obtain⟨z,hz⟩:∃ z,(aq u x)[pc]? = some z:=⟨_,List.getElem?_eq_getElem XO⟩;obtain⟨Tp,Rx⟩:=hI.step H hz;obtain⟨Wo,YD,w2⟩:=hI.A.wf.get (p:=pc) XO;have hg:t.getD pc []=Wo:=by rw[List.getD_eq_getElem?_getD,YD];rfl
     have w3:=mS H (m:=m) hz;have w4:=uC w2 w3;have hPrc:=CK H (td0:=td0) hI.A w4 (jS z pc) (fun q hq=>⟨H.nx pc z hz q hq,fun d e hb=>by
      obtain⟨y,y1,y2⟩:=(sB _ _ d e).1 hb;exact Cy H hz hq (hI.A.sound pc d y (by rw[ij YD];exact y1)) y2⟩)
     rw[hg] at Tp Rx;have hlen:(td0++[pc]).length=td0.length+1:=by simp
     rw[hlen];have wl:=cE ((td0.length:Int)+1-1) yA (by unfold Ha at Tz;rw[hlen] at Tz;omega);have YX:=cE (td0.length:Int) yA (by unfold Ha at Tz;rw[hlen] at Tz;omega);have bI:(td0.length:Int)<(td0.length:Int)+1:=by omega
     have bI2:(td0.length:Int)≤(td0.length:Int)+1:=by omega
     have tD0:=aC td0;have bt:td0.length≤30000:=by unfold Ha at Tz;rw[hlen] at Tz;omega
     apply aU;simp[hC];refine gQ ?_;simp;apply T.block;apply aj;simp[hC,YX,bI];apply aj;simp[hC,YX];refine T.le (Le.cut (o:=2) td0.length rfl) ?_;simp[St.cut];have XD:=GN hu hx hm hs hz;have VM:=GV Wo (jL (ak u) (aI xm) m sm i x z pc) (by rw[w2.len];omega) (by rw[w3.len];omega) (j5 h8 w2) (j5 h8 w3);have Q2:=GO hu hv hz yA;have Sb:trees (I pc::nZ u x m i sm)=true:=by simp only[trees,tree,VZ,Bool.and_self]
     have Vc:trees [aA Wo,aA (jL (ak u) (aI xm) m sm i x z pc)]=true:=by simp only[trees,aD,Bool.and_self]
     have Th:trees [.agg (dh u),.agg (df x),I pc]=true:=by simp only[trees,tree,bO,bV,Bool.and_self]
     simp only[ef,dh,df,ints] at Q2 Th;refine T.seq (T.rx ah follows [0,1,2,3,4,5,6,7,8,9] [(3,7)] PH ?_);simp[hC,RR,YD];refine RX.call rfl rfl rfl rfl rfl Sb XD ?_;simp;refine RX.call rfl rfl rfl rfl rfl Vc VM ?_;simp;apply aj;simp[hC];refine dQ Th Q2 ?_;have PR:aA (jS z pc)=CV.az ((jS z pc).map fun n:Nat=>I n) (jS z pc).length:=rfl;simp[hC,PR];generalize ha:nK Wo (jL (ak u) (aI xm) m sm i x z pc)=a at *;have QU:(jS z pc).length≤2:=JP z pc;have tnx:=aC (jS z pc);apply T.block;refine T.aJ (J295c u x pq.code.length m i sm a (jS z pc) t td0) (n:=(jS z pc).length) ?_ ?_
     ·refine aa.trim [79,78,77,9,7,5,1] [2,1,0] 3 (by simp[-List.all_eq_true,af VZ,a6 _ _ (aD _),af tT,af tD0]) yA ⟨0,by omega,by omega,?_⟩;simp[kT,lX,dh,df,ints,cK,PR,je]
     ·rintro n s ⟨j,rfl,hj,rfl⟩;simp only[kT,lX,dh,df,ints,cK,List.cons_append,List.nil_append,PR];by_cases P7:j<(jS z pc).length
      ·obtain⟨q,hq⟩:∃ q,(jS z pc)[j]? = some q:=⟨_,List.getElem?_eq_getElem P7⟩;have XK:=dk hq;have hPj:=hPrc j hj;have cS:=tG a ((jS z pc).take j) q t td0;have htk1:(jS z pc).take j++[q]=(jS z pc).take (j+1):=by rw[List.take_add_one,hq];rfl
       rw[htk1] at cS;have RI:q<pq.code.length:=by rw[← PK];exact G4 hu hv hz (List.mem_of_getElem? hq)
       generalize je a ((jS z pc).take j) t td0=S2 at *;obtain⟨rq,XH,wq⟩:=hPj.A.wf.get (p:=q) (by rw[PK];exact RI);have hgq:S2.1.getD q []=rq:=by rw[List.getD_eq_getElem?_getD,XH];rfl
       rw[hgq] at cS;have Uz:=hPj.A.wf.len;have Qf:=pG S2.1 hPj.A.wf.row;have QZ:=hPj.ms;rw[PK] at Uz;rw[Uz] at Qf;have hb9:9*(aI xm+1)*pq.code.length≤81*145:=Nat.mul_le_mul yA PX;have Vd:=bX S2.1;have tD3:=aC S2.2;have hpw:=Br a rq (by rw[w4.len];omega) (by rw[wq.len,w4.len]) (j5 h8 w4) (j5 h8 wq);have Tm:=Jx rq a (by rw[wq.len];omega) (by rw[wq.len,w4.len]) (j5 h8 wq) (j5 h8 w4);have Tg:trees [aA a,aA rq]=true:=by simp only[trees,aD,Bool.and_self]
       have Vb:trees [aA rq,aA a]=true:=by simp only[trees,aD,Bool.and_self]
       have wj:=cE ((j:Int)+1) yA yA;have XJ:q+1≤pq.code.length:=RI;apply aj;simp[hC,P7];refine T.seq (T.cond (b:=true) rfl (T.skip ?_));simp;apply dZ;apply aj;simp[hC,P7,XK];apply aj;simp[hC,RI,XH];refine dQ Tg hpw ?_;simp[hC]
       cases P4:uX a rq with
       | true=>
        rw[if_pos P4] at cS;refine T.cond (b:=false) RN (T.skip ?_);simp;apply aW;simp[hC,wj];refine⟨(jS z pc).length-(j+1),by omega,aa.trim [79,78,77,9,7,5,1] [2,1,0] 3 yCp yA ⟨j+1,rfl,by omega,?_⟩⟩;rw[cS];simp[kT,lX,dh,df,ints,cK,PR]
       | false=>
        rw[if_neg (by rw[P4];simp)] at cS;refine T.cond (b:=true) RN ?_;simp;apply aj;simp[hC,RI,XH];refine dQ Vb Tm ?_;simp[hC,RI,lz,lH,Uz,XJ];rw[Cv _ (show q<S2.1.length by omega)];generalize S2.1.set q (jK rq a)=t4 at *;have tT4:=bX t4;have bdd:(S2.2.length+1)*8≤140737488355328:=by omega
        have hD5:(S2.2.map fun n:Nat=>I n)++[I q]=(S2.2++[q]).map fun n:Nat=>I n:=by simp
        have Xr:=aC (S2.2++[q]);rw[← hD5] at Xr;apply aW;simp[hC,bdd];apply aW;simp[hC,wj];have rD:=fun ρ=>ay ρ _ Xr;have r1:=fun ρ=>ay ρ _ tu1;have r2:=fun ρ=>ay ρ _ tu2;have r3:=fun ρ=>ay ρ _ tu3;have r4:=fun ρ=>ay ρ _ VZ;have Y0:(nZ u x m i sm).all tree=true:=List.all_eq_true.2 fun c hc=>gX VZ c hc;have r5:=fun ρ=>ay ρ _ tnx;have r6:=fun ρ=>ay ρ _ tT4;have hna:aA a=CV.az (a.map fun n:Nat=>I n) a.length:=rfl;have ta:=aC a;have r7:=fun ρ=>ay ρ _ ta;have hnk:aA x.bx=CV.az (x.bx.map fun n:Nat=>I n) x.bx.length:=rfl;have tk:=aC x.bx;have r8:=fun ρ=>ay ρ _ tk;refine⟨(jS z pc).length-(j+1),by omega,?_⟩;simp only[hna,hnk];refine aa.le (Le.norm [79,78,77,9,7,5,1] [(4,2),(1,1),(0,0)] 0 3 Rm Rl (by simp[dD,um,p4,tree,assoc,-List.all_eq_true,-List.all_flatMap,aH Xr,Y0,aH tT4]) yA) ?_;simp[dC,ct,cq,dR,gf,assoc,rD,r4,r6];refine aa.here ⟨j+1,rfl,by omega,?_⟩;rw[cS];simp[kT,lX,dh,df,ints,cK,PR,hna,hnk]
      ·have QV:j=(jS z pc).length:=by omega
       subst QV;rw[List.take_length] at *;generalize je a (jS z pc) t td0=S2 at *;have Vd:=bX S2.1;have tD3:=aC S2.2;apply aj;simp[hC];refine T.seq (T.cond (b:=false) rfl (T.exit ?_));simp;rw[PK] at Rx;refine⟨Ha pq.code.length (aI xm) S2.1 S2.2,Rx,aa.trim [7,5,1] [2,1,0] 3 yCp yA ⟨S2.1,S2.2,rfl,by omega,Tp,?_⟩⟩;simp[kT,lX,dh,df,ints,cK]
theorem OV (u:Un)(c:Cl)(m L:Nat)(t:List (List Nat)):(Jo u c m L t).length=c.is.length:=by simp[Jo]
theorem u0 {l:List (List Nat)}{j:Nat}{r:List Nat}(h:l[j]? = some r):(l.take j).map aA++[aA r]=(l.take (j+1)).map aA:=by
 rw[List.take_add_one,h];simp
def J146 (u:Un)(m n:Nat)(s0 t:List (List Nat))(k:Nat)(s:St):Prop:=∃ j:Nat,k=n-j∧j≤n∧s=⟨[(10,I j),(9,.bj 2 0 j),(5,.av 1 0),(4,.av 0 0),(3,aY s0),(2,I m)],(2,⟨22,1,(t.take j).map aA⟩)::ir u,3⟩
theorem O7 {u:Un}(hu:ik u){m:Nat}{xm:Mx}(hm:u.ms[m]? = some xm){sm:List (List Nat)}(hs:uS (aI xm) (ak u).is.length sm):ae Tryz.prog 146 [ef u,jj (ak u),I m,aY sm] (aY (Jo u (ak u) m (aI xm) sm)):=by
 obtain⟨PX,U1⟩:=j0 hu;have PO:=bO u;have PW:=cO (ak u);have tS:=bX sm;have Tq:=hs.len;have Uj:=OV u (ak u) m (aI xm) sm;have Zx:=fun (i:Nat) (h:i<(ak u).is.length)=>Jn (u:=u) (c:=ak u) (m:=m) (L:=aI xm) (t:=sm) h;have Qn:∀ j:Nat,trees [ef u,jj (ak u),I m,aY sm,I j]=true:=fun j=>by simp only[trees,tree,ef,jj,bO,cO,en,Bool.and_self]
 have hex:=fun (j:Nat) (x:Is) (hx:(ak u).is[j]? = some x)=>Pf hu hx hm hs;refine ae.aM ah Tryz.func146 rfl PH (by simp[Tryz.ntmps146]) (en _) fun C hC PN=>?_;rw[Tryz.ntmps146] at hC;generalize Jo u (ak u) m (aI xm) sm=t at *;simp only[ef,jj,dh,fp,ints,aY] at PO PW Qn hex ⊢;apply aj;simp[hC];apply aj;simp[hC];apply aU;simp[hC];apply T.block;refine T.aJ (J146 u m sm.length sm t) (n:=sm.length) ?_ ?_
 ·refine aa.le (Le.own 9 22 1 rfl) ?_;simp[St.own];refine aa.trim [10,9,5,4,3,2] [2,1,0] 3 Wi yA ⟨0,by omega,by omega,?_⟩;simp[ir,dh,fp,ints,aY]
 ·rintro k s ⟨j,rfl,hj,rfl⟩;simp only[ir,dh,fp,ints,aY];by_cases P7:j<sm.length
  ·obtain⟨x,hx⟩:∃ x,(ak u).is[j]? = some x:=⟨_,List.getElem?_eq_getElem yA⟩;have wj:=cE ((j:Int)+1) yA yA;have UP:(j+1)*24≤140737488355328:=by omega
   have Qi:=u0 (Zx j yA);have RO:=bX (t.take (j+1));rw[← Qi] at RO;have QA:(List.map aA (List.take j t)).length=j:=by simp;omega
   have TU:=fun ρ=>ay ρ _ RO;have rU:=fun ρ=>ay ρ _ PO;have rC:=fun ρ=>ay ρ _ PW;have rS:=fun ρ=>ay ρ _ tS;have hexj:=hex j x hx;generalize hR:List.map aA (List.take j t)=R at *;apply aU;simp[hC,P7];refine gQ ?_;simp;apply dZ;apply aW;simp[hC];refine dQ (Qn j) hexj ?_;simp[hC,UP,lz,lH,QA];apply aW;simp[hC,wj];refine⟨sm.length-(j+1),by omega,?_⟩;refine aa.le (Le.norm [10,9,5,4,3,2] [(4,2),(1,1),(0,0)] 0 3 Rm Rl (by simp[dD,um,p4,tree,assoc,-List.all_eq_true,-List.all_flatMap,aH RO,aH PO,aH PW]) yA) ?_;simp[dC,ct,cq,dR,gf,assoc,TU,tj];refine aa.here ⟨j+1,rfl,by omega,?_⟩;simp[ir,dh,fp,ints,aY,← Qi]
  ·have QV:j=sm.length:=by omega
   subst QV;apply aU;simp[hC];refine bh ?_;simp;apply T.exit;simp;apply aj;simp[hC];apply T.ret;have PY:List.take sm.length (t.map aA)=t.map aA:=List.take_of_length_le Uf;rw[PY];refine aa.le (Le.dz (o:=2) rfl (bX t)) ?_;apply aa.here;have PQ:t.length=sm.length:=by omega
   simp[Tryz.results146,PY,PQ]
def J147 (a b:List (List Nat))(k:Nat)(s:St):Prop:=∃ j:Nat,k=a.length-j∧j≤a.length∧a.take j=b.take j∧s=⟨[(5,I j),(1,aY b),(0,aY a)],[],0⟩
theorem O2 (a b:List (List Nat))(hl:a.length=b.length)(ha:a.length≤100000)(hr:∀ r∈a,r.length≤100000):ae Tryz.prog 147 [aY a,aY b] (.bool (decide (a=b))):=by
 refine ae.aM ah Tryz.func147 rfl PH (by simp[Tryz.ntmps147]) rfl fun C hC PN=>?_;rw[Tryz.ntmps147] at hC;have ta:=bX a;have tb:=bX b;simp only[aY];apply aj;simp[hC];apply aU;simp[hC];refine T.cond (b:=false) (by simp[ev,assoc,hl]) (T.skip ?_);simp;apply aU;simp[hC];apply T.block;refine T.aJ (J147 a b) (n:=a.length) ?_ ?_
 ·refine aa.trim [5,1,0] [] 0 Rt yA ⟨0,by omega,by omega,by simp,?_⟩;simp[aY]
 ·rintro k s ⟨j,rfl,hj,PY,rfl⟩;simp only[aY];by_cases P7:j<a.length
  ·obtain⟨x,hx⟩:∃ x,a[j]? = some x:=⟨_,List.getElem?_eq_getElem P7⟩;obtain⟨y,hy⟩:∃ y,b[j]? = some y:=⟨_,List.getElem?_eq_getElem yA⟩;have hjb:j<b.length:=by omega
   have SV:=fA aA hx;have hdy:=fA aA hy;have QB:=OK x y (by have:=hr x (List.mem_of_getElem? hx);omega);have PU:trees [aA x,aA y]=true:=by simp only[trees,aD,Bool.and_self]
   have wj:=cE ((j:Int)+1) yA yA;apply aU;simp[hC,P7];refine gQ ?_;simp;apply dZ;refine T.seq (T.rx ah follows [0,1,2,3,4,5,6,7,8,9] [] PH ?_);simp[hC,P7,hjb,SV,hdy];refine RX.call rfl rfl rfl rfl rfl PU QB ?_;simp;by_cases Rn:x=y
   ·refine T.cond (b:=false) (by simp[ev,assoc,Rn]) (T.skip ?_);simp;apply aW;simp[hC,wj];refine⟨a.length-(j+1),by omega,aa.trim [5,1,0] [] 0 Rt yA ⟨j+1,rfl,by omega,?_,?_⟩⟩
    ·rw[List.take_add_one,List.take_add_one,hx,hy,PY,Rn]
    ·simp[aY]
   ·have UN:¬ a=b:=fun h=>by
     subst h;rw[hx] at hy;cases hy;exact Rn rfl
    refine T.cond (b:=true) (by simp[ev,assoc,Rn]) ?_;simp;apply aj;simp[hC];apply T.ret;apply aa.here;simp[Tryz.results147,UN]
  ·have QV:j=a.length:=by omega
   have UN:a=b:=by
    rw[QV,List.take_length,hl,List.take_length] at PY;exact PY
   subst QV;apply aU;simp[hC];refine bh ?_;simp;apply T.exit;simp;apply aj;simp[hC];apply T.ret;apply aa.here;simp[Tryz.results147,UN]
def J77 (u:Un)(m L:Nat)(k:Nat)(s:St):Prop:=∃ t:List (List Nat),k=9*(L+1)*(ak u).is.length-eD t∧Fj u (ak u) m L t∧s=⟨[(7,aY t),(4,.av 1 0),(3,.av 0 0),(2,I m)],ir u,2⟩
theorem Pd {u:Un}(hu:ik u){m:Nat}{xm:Mx}(hm:u.ms[m]? = some xm):ae Tryz.prog 77 [ef u,jj (ak u),I m] (aY (qa u (ak u) m (aI xm))):=by
 obtain⟨PX,U1⟩:=j0 hu;have h8:=fq xm;have Yc:=O8 hu hm;have h0:=Fj.start (u:=u) (c:=ak u) (m:=m) (L:=aI xm);have PO:=bO u;have PW:=cO (ak u);have PU:trees [ef u,jj (ak u),I m]=true:=by simp only[trees,tree,ef,jj,bO,cO,Bool.and_self]
 have Vn:∀ t,trees [ef u,jj (ak u),I m,aY t]=true:=fun t=>by simp only[trees,tree,ef,jj,bO,cO,en,Bool.and_self]
 have Zt:=fun t (ht:Fj u (ak u) m (aI xm) t)=>O7 hu hm ht.wf;refine ae.aM ah Tryz.func77 rfl PH (by simp[Tryz.ntmps77]) (en _) fun C hC PN=>?_;rw[Tryz.ntmps77] at hC;generalize List.replicate (ak u).is.length (oJ (aI xm))=t0 at *;simp only[ef,jj,dh,fp,ints,aY] at PO PW Vn PU Yc Zt ⊢;apply aj;simp[hC];apply aj;simp[hC];refine dQ PU Yc ?_;simp[hC];have tT:=bX t0;apply T.block;refine T.aJ (J77 u m (aI xm)) (n:=9*(aI xm+1)*(ak u).is.length-eD t0) ?_ ?_
 ·refine aa.trim [7,4,3,2] [1,0] 2 Wi yA ⟨t0,rfl,h0,?_⟩;simp[ir,dh,fp,ints,aY]
 ·clear tT h0 Yc;clear t0;rintro k s ⟨t,rfl,h0,rfl⟩;have tT:=bX t;obtain⟨k1,k2,k3⟩:=h0.round h8;have hr:=Zt t h0;have Uj:=OV u (ak u) m (aI xm) t;have QB:=O2 t (Jo u (ak u) m (aI xm) t) (by rw[h0.wf.len,Uj]) (by rw[h0.wf.len];omega) (fun r hr=>by have:=(h0.wf.row r hr).len;omega);have Sb:trees [aY t,aY (Jo u (ak u) m (aI xm) t)]=true:=by simp only[trees,en,Bool.and_self]
  have Qf:=pG _ k1.wf.row;rw[Uj] at Qf;generalize Jo u (ak u) m (aI xm) t=t2 at *;have tT2:=bX t2;simp only[ir,dh,fp,ints,aY] at QB Sb ⊢;apply T.block;apply aj;simp[hC];refine dQ (Vn t) hr ?_;simp[hC];apply aU;simp[hC];refine dQ Sb QB ?_;simp;by_cases he:t=t2
  ·refine T.cond (b:=true) (by simp[ev,assoc,he]) ?_;simp;apply aj;simp[hC];apply T.ret;apply aa.here;simp[Tryz.results77,k3 he]
  ·refine T.cond (b:=false) (by simp[ev,assoc,he]) (T.skip ?_);simp;apply aW;simp[hC];have:=k2 he;refine⟨9*(aI xm+1)*(ak u).is.length-eD t2,by omega,aa.trim [7,4,3,2] [1,0] 2 Wi yA ⟨t2,rfl,k1,?_⟩⟩;simp[ir,dh,fp,ints,aY]
end Go.Proofs.YtnecpnjdonibmaaGreat
