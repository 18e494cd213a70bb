/- Calls that leave new objects and hand out a value that names -/
import Derived.Test.YtnecpnjdonibmaaGreatZ41
namespace Go.Can
open Go.RowKit
section
variable {P:Program}{C:Cx}{σ:Nat→Option OB}{s:St}{a:Act}{w:World}{ops:Array Oper}{au:List (Nat×TI)}
theorem Body.retNr {f:FuncId}{args:List CV}{H H1:List (Nat×Ob)}{n m d:Nat}{r0:CV}(l:List Nat)(hl:l.length=n)(h:Body P au f args H n (iy r0 H1 (n+d)))(hk:G0 l m=true)(hr:aS n args=true)(hH:cT n H=true) :
  Body P au f (cq (cH l m) args) (cb (cH l m) H) m (iy (dR (cH l m) r0) (cb (cH l m) H1) (m+d)):=by
 subst hl;refine (Body.grow (CU hk) (BA hk) (fun p hp=>if_neg yA) h hr hH fun r s h=>h.2.2).ret fun r s ⟨r1,s1,h1,h2,h3⟩=>?_;obtain⟨k1,k2,k3⟩:=h1;subst h3;rw[h2,k1,k2];exact⟨rfl,rfl,rfl⟩
theorem TL.Iu (Se:aB P au){o:Oper}{l:List Oper}{c:Call}{g:FuncId}{args:List CV}{K:St→Prop}{r0:CV}{H H1:List (Nat×Ob)}(ns ks:List Nat)(n d:Nat)(hb:Body P au g args H n (iy r0 H1 (n+d)))(hl:ns.length=n)(hk:G0 ns s.nx=true)(hd:aZ C.nt o.dst=true)(hg:bN ops s o=Option.some true)(ho:o.op=.call c)(Qb:bl s c=Option.some (g,cq (cH ns s.nx) args))
  (hp:dX s.heap ks=Option.some (cb (cH ns s.nx) H)) (ha:aS n args=true) (hH:cT n H=true) (hx:kF ks s.nx (cb (cH ns s.nx) H1) (dy s.heap ks)=true)
  (hK:TL P C ops l (St.put ⟨s.env,cb (cH ns s.nx) H1++dy s.heap ks,s.nx+d⟩ o.dst (dR (cH ns s.nx) r0)) K):TL P C ops (o::l) s K:=by
 intro a w Q hr hQ;have hw:=dw hr hg;obtain⟨σ,hr⟩:=hr;unfold wpList;rw[if_pos hw];refine .inl ?_;have P5:=hb.retNr ns hl hk ha hH;have Wf:Enters P g:=by
  obtain⟨fn,code,hf,Q9,QH,_⟩:=P5;exact⟨fn,hf,QH,by simp[Q9]⟩
 simp only[kF,Bool.and_eq_true,List.all_eq_true,Bool.or_eq_true,decide_eq_true_eq] at hx;refine pF Se (mL.of hp) (nw.value ho Qb Wf) P5 ?_ hr _ _ ?_
 ·rintro r s1 ⟨_,h1,_⟩ p ob P6 h2 h3;rw[h1] at h2;have m3:=hx.2 _ (bp _ _ _ h3);rw[ed] at h3;rcases hx.1 _ (bp _ _ _ h2) with hm | hm
  ·rw[if_pos (by simpa using hm)] at h3;cases h3
  ·simp only at m3 hm;omega
 ·rintro r s1 v w' σ' ⟨h1,h2,h3⟩ Qo hv _;subst h1;rw[h2,h3] at Qo;rw[h2] at hv;refine hK _ w' Q ⟨σ',Qo.put ?_ hv⟩ hQ;intro t e;rw[Qo.tm];rw[e] at hd
  simpa [aZ] using hd
end
section
variable {P:Program}{C:Cx}{σ:Nat→Option OB}{s:St}{a:Act}{w:World}{ops:Array Oper}{au:List (Nat×TI)}
def lO (P:Program)(f:FuncId)(args:List CV)(r:CV):Prop:=
 Enters P f∧∀ (F:Nat→Prop) (vs:List Value) (w:World),(∀ b,F b→b<w.heap.size)→bP w F args vs →
  Calls P f vs.toArray w fun e w'=>∃ v,e=.returned v∧Below w.heap.size w w'∧ch w' (fun b=>b<w.heap.size) r v
theorem lO.JN (Se:aB P au){f:FuncId}{args:List CV}{n:Nat}{ob:Ob}(h:Body P au f args [] 0 (iy (.bj 0 0 n) [(0,ob)] 1))(hs:iq ob.cells=true)(Qa:trees ob.cells=true):lO P f args (.az ob.cells n):=by
 obtain⟨fn,c,hf,hb,hn,ha,h⟩:=h;refine⟨⟨fn,hf,hn,by simp[hb]⟩,fun F vs w hF hv=>?_⟩;have Q0:=bP.length _ _ hv;let C:Cx:=⟨w,F,fun _=>False,hF,fn.ntmps,fun _=>none,0⟩
 have h0:aL C (fun _=>none) ⟨(enter args).env,[],0⟩ { tmps:=vs.toArray++Array.replicate (fn.ntmps-vs.toArray.size) undef,defers:=[] } w:=by
  refine⟨rfl,by simp[C];omega,rfl,rfl,rfl,Nat.le_refl _,fun _ _ _=>rfl,?_,?_,?_,fun _ _=>rfl,fun _ h=>absurd h (Nat.not_lt_zero _),Nat.zero_le _,fun _ _ _ _ h=>by cases h⟩
  ·intro t c hc;obtain⟨_,h2⟩:=eI args 0 t c hc;obtain⟨v,h3,h4⟩:=bP.get _ _ hv t c (by simpa using h2);refine⟨v,?_,VR.cm _ _ (ch.bg (ck.same fun b hb=>?_).1 c v h4)⟩
   ·have PQ:=(List.getElem?_eq_some_iff.1 h3).1;simp only;rw[Array.getElem?_append_left (by simpa using PQ)]
    simpa using h3
   ·rcases hb with hF | ⟨o,ob,ho,_⟩
    ·exact hF
    ·simp[assoc] at ho
  ·intro o ob ho;simp[assoc] at ho
  ·intro o o' ob P6 b ho;simp[assoc] at ho
 refine calls_of_wp hf hb (wp_mono (h C rfl rfl _ _ ⟨_,h0⟩) fun e a' w' ⟨s',q,σ,hr⟩=>?_);have fin:aa C (fun s'=>∃ r,bD au fn s'=some r∧iy (.bj 0 0 n) [(0,ob)] 1 r s') s'→a'.defers=[]∧∃ v,(results fn a'.tmps).run P w'=.ok v w'∧(∃ Tf,Ending.returned v=.returned Tf∧Below w.heap.size w w'∧ch w' (fun b=>b<w.heap.size) (.az ob.cells n) Tf):=fun⟨s2,⟨r,hq,QG,Qg,UB⟩,hle⟩=>by
  subst QG;obtain⟨σ2,hr⟩:=hle _ _ ⟨σ,hr⟩;obtain⟨v,k1,k2⟩:=gr (P:=P) Se hr hq;refine⟨hr.mD,v,k1,v,rfl,⟨hr.os,hr.tape,hr.output,hr.size,fun k hk=>hr.frame k hk (fun hx=>hx)⟩,?_⟩;obtain⟨B,hB,PZ,QN,h1,h5⟩:=hr.obj 0 ob (by rw[Qg];simp[assoc]);simp only[VR] at k2;obtain⟨B',RM,k2⟩:=k2;rw[hB] at RM;cases RM;simp only[ch];split at k2
  ·rename_i Wz;obtain⟨rfl,_,rfl⟩:=k2;exact⟨none,0,rfl,Nat.le_refl _,Nat.zero_le _,.inl ⟨rfl,QN Wz⟩⟩
  ·rename_i b WR;obtain⟨cap,rfl,c1,c2,_⟩:=k2;obtain⟨cur,m1,m2,m3,m4,m5,m6⟩:=h5 b WR;refine⟨_,cap,rfl,c1,c2,.inr ⟨_,rfl,?_⟩⟩;have Wz:¬ b<w.heap.size:=by
    rcases hr.new 0 B b (Nat.zero_le _) hB WR with h6 | h6
    ·exact h6.elim
    ·exact Nat.not_lt.2 h6
   exact fw _ _ _ (bP.scalar _ _ hs (aN.dG _ _ Qa m6)) h1 Wz fun j u hu=>by
    rw[add_lit,Nat.zero_add,cell_of_row w' b j cur _ _ m1];rw[List.getElem?_take] at hu;split at hu
    ·simpa using hu
    ·cases hu
 cases e with
 | normal=>exact fin q
 | ret=>exact fin q
 | exit _=>exact q.elim
 | goto _=>exact q.elim
 | panic _=>exact q.elim
 | outgrown=>exact q.elim
theorem lO.pure {f:FuncId}{args:List CV}{r:CV}(h:lO P f args r):ae P f args r:=
 ⟨h.1,fun F vs w hF hv=>(h.2 F vs w hF hv).mono fun _ _ ⟨v,e,hb,hr⟩=>⟨v,e,hb,ch.bg (ck.same fun b hb=>hF b hb).1 _ _ hr⟩⟩
theorem TL.callL {o:Oper}{l:List Oper}{c:Call}{g:FuncId}{cs ds:List CV}{r:CV}{K:St→Prop}(hd:aZ C.nt o.dst=true)(hg:o.guard=none)(ho:o.op=.call c)(Qb:bl s c=Option.some (g,cs))(hl:qQ s cs=Option.some ds)(hp:lO P g ds r)(h:TL P C ops l (s.put o.dst r) K):TL P C ops (o::l) s K:=by
 intro a w Q hr hQ;obtain⟨σ,hr⟩:=hr;unfold wpList;rw[if_pos (by simp[Region.wanted,hg])];refine .inl ?_;obtain⟨vs,VJ,Qs⟩:=nw.value ho Qb hp.1 σ a w hr;unfold Oper.wp;rw[VJ];refine (hp.2 C.F _ w (fun b hb=>Nat.lt_of_lt_of_le (C.hF b hb) hr.size) (uh hr _ _ _ Qs hl)).mono fun e w' ⟨v,he,hb,hv⟩=>?_;subst he;have Qo:=hr.below hb;refine h _ _ Q ⟨σ,Qo.put ?_ (VR.cm _ _ (ch.bg (ck.same fun b hb=>uV hr b hb).1 _ _ hv))⟩ hQ;intro t e;rw[Qo.tm];rw[e] at hd
 simpa [aZ] using hd
end
end Go.Can
namespace Go.Proofs.YtnecpnjdonibmaaGreat
open Go.Can Go.aP
set_option maxRecDepth 100000 in
theorem LJ:assoc au 290=some ⟨.func,1,8,[.cd]⟩:=rfl
set_option maxRecDepth 100000 in
theorem vQ {u:Un}(hu:ik u){i:Nat}{x:Is}(hx:(ak u).is[i]? = some x){m:Nat}{xm:Mx}(hm:u.ms[m]? = some xm){sm:List (List Nat)}(hs:uS (aI xm) (ak u).is.length sm):ae Tryz.prog 232 [ef u,jj (ak u),I m,aY sm,I i] (aY (IU u m i (aI xm) x sm)):=by
 have QP:=Jy hu hx hm hs;have PJ:=(List.getElem?_eq_some_iff.1 hx).1;have R8:=aO (f:=df) (n:=2) fk hx;have PU:trees [.agg (lX u x m i sm)]=true:=by simp only[trees,tree,sO,Bool.and_self]
 have PO:=bO u;have PW:=cO (ak u);have TS:=bV x;have tsm:trees [aY sm]=true:=by simp only[trees,en,Bool.and_self]
 have tI:trees [I m]=true:=rfl;have tI2:trees [I i]=true:=rfl;refine ae.aM ah Tryz.func232 rfl PH (by simp[Tryz.ntmps232]) (en _) fun C hC PN=>?_;rw[Tryz.ntmps232] at hC;generalize IU u m i (aI xm) x sm=t at *;simp only[lX,nZ,ef,jj,dh,fp,df,ints,aY,List.cons_append,List.nil_append] at PO PW TS tsm QP PU ⊢;apply aj;simp[hC];apply aj;simp[hC,PJ,R8,df];apply aj;simp[hC];refine T.le (Le.dz (o:=0) rfl PO) ?_;simp[eG];refine T.le (Le.dz (o:=1) rfl PW) ?_;simp[eG];refine T.le (Le.dz (o:=2) rfl tI) ?_;simp[eG];refine T.le (Le.dz (o:=3) rfl tsm) ?_;simp[eG];refine T.le (Le.dz (o:=4) rfl tI2) ?_;simp[eG];refine T.le (Le.dz (o:=5) rfl TS) ?_;simp[eG];apply aj;simp[hC];refine dQ PU QP ?_;simp[hC];apply T.ret;apply aa.here;simp[Tryz.results232]
def J233b (a b:List Nat)(m:Nat)(s:St):Prop:=∃ i:Nat,m=a.length-i∧i≤a.length∧s=⟨[(12,I i),(11,I a.length),(5,.bj 0 0 a.length),(0,aA a),(1,aA b)],[(0,⟨3,1,fD (jK a b) i⟩)],1⟩
theorem Mf (a b:List Nat)(la:a.length≤1000)(lb:b.length=a.length)(ha:∀ s∈a,s<2 ^ 63)(hb:∀ s∈b,s<2 ^ 63):Body Tryz.prog au 233 [aA a,aA b] [] 0 (iy (.bj 0 0 a.length) [(0,cK (jK a b))] 1):=by
 refine Body.iV Tryz.func233 rfl PH (by simp[Tryz.ntmps233]) fun C hC PN=>?_;rw[Tryz.ntmps233] at hC;have ta:=aC a;have tb:=aC b;have bd:8*(a.length:Int)≤281474976710656∧(a.length:Int)≤9223372036854775807:=by omega
 simp only[aA];apply aj;simp[hC];apply aj;simp[hC,bd];apply aU;simp[hC];apply T.block;refine T.aJ (J233b a b) (n:=a.length) ?_ ?_
 ·refine aa.trim [12,11,5,0,1] [0] 1 Rt yA ⟨0,by omega,by omega,?_⟩;rw[gq,dT lb];simp[aA]
 ·rintro n s ⟨i,rfl,hi,rfl⟩;have Qv:(fD (jK a b) i).length=a.length:=by rw[iM (by rw[dT lb];exact hi),dT lb]
  have SL:=ey (jK a b) i;simp only[aA];by_cases PJ:i<a.length
  ·obtain⟨x,hx⟩:∃ x,a[i]? = some x:=⟨_,List.getElem?_eq_getElem PJ⟩;have Sl:i<b.length:=by omega
   obtain⟨y,hy⟩:∃ y,b[i]? = some y:=⟨_,List.getElem?_eq_getElem Sl⟩;have PL:=dk hx;have QI:=dk hy;have QO:=Ba hx hy;have wi:=cE ((i:Int)+1) yA yA;have Um:=Ep (ha x (List.mem_of_getElem? hx)) (hb y (List.mem_of_getElem? hy));have SR:i+1≤a.length:=PJ;apply aj;simp[hC,PJ];refine T.seq (T.cond (b:=true) rfl (T.skip ?_));simp;apply dZ;apply aj;simp[hC];refine T.rx ah follows [0,1,2,3,4,5,6,7,8,9,10,11,12] [] PH ?_;simp[hC,PJ,Sl,PL,QI,Um,SR,Qv];apply aW;simp[hC,wi];refine⟨a.length-(i+1),by omega,aa.trim [12,11,5,0,1] [0] 1 Xp yA ⟨i+1,rfl,by omega,?_⟩⟩;rw[← iL QO];simp[aA]
  ·have PS:i=a.length:=by omega
   subst PS;have RC:=iN (jK a b);rw[dT lb] at RC;have tF:=aC (jK a b);rw[RC] at Qv ⊢;apply aj;simp[hC];refine T.seq (T.cond (b:=false) rfl (T.exit ?_));simp;apply aj;simp[hC];apply T.ret;refine aa.trim [4] [0] 1 (by simp[-List.all_eq_true,af tF]) yA ?_;simp[Tryz.results233,cK,iy]
def J177 (u:Un)(x:Is)(n i L:Nat)(t:List (List Nat))(k:Nat)(s:St):Prop:=∃ j:Nat,k=n-j∧j≤n∧s=⟨[(29,I j),(28,I n),(27,aY t),(11,.bj 2 0 (L+1)),(6,.av 1 0),(5,.av 0 0),(4,I i)],(2,cK (AS u x L t j))::ir u,3⟩
theorem JC {u:Un}(hu:ik u){i:Nat}{x:Is}(hx:(ak u).is[i]? = some x){m:Nat}{xm:Mx}(hm:u.ms[m]? = some xm){sm:List (List Nat)}(hs:uS (aI xm) (ak u).is.length sm):Body Tryz.prog au 177 [ef u,jj (ak u),I m,aY sm,I i] [] 0 (iy (.bj 0 0 (aI xm+1)) [(0,cK (ss u (ak u) m (aI xm) sm i))] 1):=by
 have P4:=vQ hu hx hm hs;have Xv:=MH u m i (aI xm) x sm;have P8:=Ka (u:=u) (m:=m) (L:=aI xm) hx sm;have hv:=uE hu hx;have h8:=fq xm;have QC:=sd xm;obtain⟨pq,Qe,PK⟩:=jZ hv;have PX:=eZ hu x;have PJ:=(List.getElem?_eq_some_iff.1 hx).1;have QK:=(List.getElem?_eq_some_iff.1 hm).1;have Qy:=(List.getElem?_eq_some_iff.1 Qe).1;have SV:=aO (f:=eL) (n:=3) qn hm;have R8:=aO (f:=df) (n:=2) fk hx;have PL:=bS (f:=nD) (n:=5) gD Qe 4 yA;have t1:trees [.agg (eL xm)]=true:=rfl;have TW:=cE ((aI xm:Int)+1) yA yA;have UQ:(0≤(aI xm:Int)+1∧8*((aI xm:Int)+1)≤281474976710656∧(aI xm:Int)+1≤9223372036854775807):=by omega
 have PU:trees [ef u,jj (ak u),I m,aY sm,I i]=true:=by simp only[trees,tree,ef,jj,bO,cO,en,Bool.and_self]
 have PO:=bO u;have PW:=cO (ak u);have tZ:trees (List.replicate (aI xm+1) (I 0))=true:=jr _;refine Body.iV Tryz.func177 rfl PH (by simp[Tryz.ntmps177]) fun C hC PN=>?_;rw[Tryz.ntmps177] at hC;simp only[eL] at QC t1;change AS u x (aI xm) (IU u m i (aI xm) x sm) (aq u x).length=_ at P8;generalize IU u m i (aI xm) x sm=t at *;rw[PK] at PX;have QA:t.length=pq.code.length:=by rw[Xv.len,PK]
 have tT:=bX t;simp only[ef,jj,dh,fp,ints,aY] at PU PO PW P4 ⊢;apply aj;simp[hC];apply aj;simp[hC,QK,SV,eL];refine dQ t1 QC ?_;simp[hC,TW,UQ];apply aU;simp[hC];refine dQ PU P4 ?_;simp[hC];apply T.block;refine T.aJ (J177 u x pq.code.length i (aI xm) t) (n:=pq.code.length) ?_ ?_
 ·refine aa.trim [29,28,27,11,6,5,4] [2,1,0] 3 yCd yA ⟨0,by omega,by omega,?_⟩;simp[ir,dh,fp,ints,aY,AS,cK,oJ,QA]
 ·rintro n s ⟨j,rfl,hj,rfl⟩;simp only[ir,dh,fp,ints,aY,cK];have hqw:=yc (u:=u) (x:=x) Xv;by_cases P7:j<pq.code.length
  ·obtain⟨z,Qt⟩:∃ z,pq.code[j]? = some z:=⟨_,List.getElem?_eq_getElem P7⟩;have hz:(aq u x)[j]? = some z:=by rw[PK];exact Qt
   have QL:=aO (f:=dd) (n:=12) fo Qt;obtain⟨xc,QJ,QF⟩:=ku z;rw[QJ] at QL;have P0:=JF z;obtain⟨rj,Zv,wj⟩:=Xv.get (p:=j) (by rw[PK];exact P7);have hdt:=fA aA Zv;have hgj:t.getD j []=rj:=by rw[List.getD_eq_getElem?_getD,Zv];rfl
   have hw:=hqw j (by rw[PK];exact hj);have cS:AS u x (aI xm) t (j+1)=if D6 z=true then jK (AS u x (aI xm) t j) rj else AS u x (aI xm) t j:=by
    rw[AS,hz,hgj];simp
   have YY:=cE ((j:Int)+1) yA yA;generalize AS u x (aI xm) t j=q at *;have Tm:=Mf q rj (by rw[hw.len];omega) (by rw[hw.len,wj.len]) (j5 h8 hw) (j5 h8 wj);rw[hw.len] at Tm;have tq:=aC q;have tq2:=aC (jK q rj);apply aj;simp[hC,QA,P7];refine T.seq (T.cond (b:=true) rfl (T.skip ?_));simp;apply dZ;apply aj;simp[hC,P7,hdt];refine T.seq (T.rx ah follows [0,1,2,3,4,5,6,7,8,9,10,11,12,13,14,15] [] PH ?_);simp[hC,PJ,R8,df,Qy,PL,nD,P7,QL]
   cases hr:D6 z with
   | true=>
    rw[hr] at P0 cS;refine T.cond (b:=true) (by simp[ev,assoc,P0]) ?_;simp;refine T.le (Le.trim [29,28,27,13,11,6,5,4] [2,1,0] 3 (by simp[-List.all_eq_true,af PO,af PW,af tq,a6 _ _ (aD _)]) yA) ?_;simp;refine T.le (Le.dz (o:=2) rfl tq) ?_;have PY:List.take (aI xm+1) (q.map fun n:Nat=>I n)=q.map fun n:Nat=>I n:=List.take_of_length_le (by rw[List.length_map,hw.len];omega);have Uk:CV.az (q.map fun n:Nat=>I n) (aI xm+1)=aA q:=by simp only[aA];rw[hw.len]
    simp[eG,PY,Uk];apply aW;simp[hC];have rq2:=fun ρ=>ay ρ _ tq2;refine TL.Iu ah [] [] 0 1 (Tm) rfl (by rfl) PV rfl rfl WX WX yCj WX WX (TL.go' ah ?_);simp[hC,cb,ct,dR,cH,cK,rq2];apply aW;simp[hC,YY];refine⟨pq.code.length-(j+1),by omega,?_⟩;have rT:=fun ρ=>ay ρ _ tT;have rU:=fun ρ=>ay ρ _ PO;have rC:=fun ρ=>ay ρ _ PW;refine aa.le (Le.norm [29,28,27,11,6,5,4] [(3,2),(1,1),(0,0)] 0 3 Rm Rl (by simp[dD,um,p4,tree,assoc,-List.all_eq_true,-List.all_flatMap,aH tq2,aH PO,aH PW]) yA) ?_;simp[dC,ct,cq,dR,gf,assoc,rq2,tj];refine aa.here ⟨j+1,rfl,by omega,?_⟩;rw[cS];simp[ir,dh,fp,ints,aY,QA,cK]
   | false=>
    rw[hr] at P0 cS;refine T.cond (b:=false) (by simp[ev,assoc,P0]) (T.skip ?_);simp;apply aW;simp[hC,YY];refine⟨pq.code.length-(j+1),by omega,aa.trim [29,28,27,11,6,5,4] [2,1,0] 3 (by simp[-List.all_eq_true,af PO,af PW,af tq]) yA ⟨j+1,rfl,by omega,?_⟩⟩;rw[cS];simp[ir,dh,fp,ints,aY,QA,cK]
  ·have QV:j=pq.code.length:=by omega
   subst QV;apply aj;simp[hC,QA];refine T.seq (T.cond (b:=false) rfl (T.exit ?_));simp;apply aj;simp[hC];apply T.ret;rw[PK] at P8;rw[P8];have tE:=aC (ss u (ak u) m (aI xm) sm i);have rE:=fun ρ=>ay ρ _ tE;refine aa.le (Le.norm [10] [(2,0)] 0 1 Rm Rl (by simp[dD,um,p4,assoc,-List.all_eq_true,-List.all_flatMap,aH tE]) yA) ?_;simp[dC,ct,dR,gf,assoc,rE];apply aa.here;simp[iy]
def J178 (a b:List Nat)(k:Nat)(s:St):Prop:=∃ j:Nat,k=a.length-j∧j≤a.length∧a.take j=b.take j∧s=⟨[(13,I j),(12,I a.length),(1,aA b),(0,aA a)],[],0⟩
theorem D1 (a b:List Nat)(hl:a.length=b.length)(ha:a.length≤100000):ae Tryz.prog 178 [aA a,aA b] (.bool (decide (a=b))):=by
 refine ae.aM ah Tryz.func178 rfl PH (by simp[Tryz.ntmps178]) rfl fun C hC PN=>?_;rw[Tryz.ntmps178] at hC;have ta:=aC a;have tb:=aC b;simp only[aA];apply aj;simp[hC];apply aU;simp[hC];refine T.cond (b:=false) (by simp[ev,assoc,hl]) (T.skip ?_);simp;apply aU;simp[hC];apply T.block;refine T.aJ (J178 a b) (n:=a.length) ?_ ?_
 ·refine aa.trim [13,12,1,0] [] 0 Rt yA ⟨0,by omega,by omega,by simp,?_⟩;simp[aA]
 ·rintro k s ⟨j,rfl,hj,PY,rfl⟩;simp only[aA];by_cases P7:j<a.length
  ·obtain⟨x,hx⟩:∃ x,a[j]? = some x:=⟨_,List.getElem?_eq_getElem P7⟩;obtain⟨y,hy⟩:∃ y,b[j]? = some y:=⟨_,List.getElem?_eq_getElem yA⟩;have hjb:j<b.length:=by omega
   have SV:=dk hx;have hdy:=dk hy;have wj:=cE ((j:Int)+1) yA yA;apply aj;simp[hC,P7];refine T.seq (T.cond (b:=true) rfl (T.skip ?_));simp;apply dZ;apply aj;simp[hC];refine T.seq (T.rx ah follows [0,1,2,3,4,5,6,7,8] [] PH ?_);simp[hC,P7,hjb,SV,hdy];by_cases Rn:x=y
   ·refine T.cond (b:=false) (by simp[ev,assoc,Rn]) (T.skip ?_);simp;apply aW;simp[hC,wj];refine⟨a.length-(j+1),by omega,aa.trim [13,12,1,0] [] 0 Rt yA ⟨j+1,rfl,by omega,?_,?_⟩⟩
    ·rw[List.take_add_one,List.take_add_one,hx,hy,PY,Rn]
    ·simp[aA]
   ·have UN:¬ a=b:=fun h=>by
     subst h;rw[hx] at hy;cases hy;exact Rn rfl
    have hxyi:¬ (x:Int)=(y:Int):=fun h=>Rn (Int.ofNat.inj h);refine T.cond (b:=true) (by simp[ev,assoc,hxyi]) ?_;simp;apply aj;simp[hC];apply T.ret;apply aa.here;simp[Tryz.results178,UN]
  ·have QV:j=a.length:=by omega
   have UN:a=b:=by
    rw[QV,List.take_length,hl,List.take_length] at PY;exact PY
   subst QV;apply aj;simp[hC];refine T.seq (T.cond (b:=false) rfl (T.exit ?_));simp;apply aj;simp[hC];apply T.ret;apply aa.here;simp[Tryz.results178,UN]
def J176 (u:Un)(m n L:Nat)(k:Nat)(s:St):Prop:=∃ j:Nat,k=n-j∧j≤n∧s=⟨[(15,I j),(14,I n),(7,.bj 2 0 n),(4,.av 1 0),(3,.av 0 0),(2,I m)],(2,⟨22,1,List.replicate j (aA (oJ L))++List.replicate (n-j) .ai⟩)::ir u,3⟩
theorem GS {u:Un}(hu:ik u){m:Nat}{xm:Mx}(hm:u.ms[m]? = some xm):Body Tryz.prog au 176 [ef u,jj (ak u),I m] [] 0 (iy (.bj 0 0 (ak u).is.length) [(0,⟨22,1,(List.replicate (ak u).is.length (oJ (aI xm))).map aA⟩)] 1):=by
 have h8:=fq xm;have QC:=sd xm;obtain⟨PX,U1⟩:=j0 hu;have QK:=(List.getElem?_eq_some_iff.1 hm).1;have SV:=aO (f:=eL) (n:=3) qn hm;have t1:trees [.agg (eL xm)]=true:=rfl;have TW:=cE ((aI xm:Int)+1) yA yA;have UQ:(0≤(aI xm:Int)+1∧8*((aI xm:Int)+1)≤281474976710656∧(aI xm:Int)+1≤9223372036854775807):=by omega
 have PO:=bO u;have PW:=cO (ak u);have tZ:trees (List.replicate (aI xm+1) (I 0))=true:=jr _;refine Body.iV Tryz.func176 rfl PH (by simp[Tryz.ntmps176]) fun C hC PN=>?_;rw[Tryz.ntmps176] at hC;simp only[eL] at QC t1;generalize hn:(ak u).is.length=n at *;have bd:24*(n:Int)≤281474976710656∧(n:Int)≤9223372036854775807:=by omega
 have SL:=fun j=>bF (List.replicate j (aA (oJ (aI xm)))) (List.replicate (n-j) CV.ai);simp only[ef,jj,dh,fp,ints] at PO PW ⊢;rw[hn] at PW ⊢;apply aj;simp[hC];apply aj;simp[hC,bd];apply aU;simp[hC];apply T.block;refine T.aJ (J176 u m n (aI xm)) (n:=n) ?_ ?_
 ·refine aa.trim [15,14,7,4,3,2] [2,1,0] 3 Wi yA ⟨0,by omega,by omega,?_⟩;simp[ir,dh,fp,ints,hn]
 ·rintro k s ⟨j,rfl,hj,rfl⟩;simp only[ir,dh,fp,ints,hn];by_cases P7:j<n
  ·have R3:1≤n-j:=by omega
   have wj:=cE ((j:Int)+1) yA yA;apply aj;simp[hC,P7];refine T.seq (T.cond (b:=true) rfl (T.skip ?_));simp;apply dZ;apply aj;simp[hC];apply aW;simp[hC,QK,SV,eL];refine TL.call PV rfl rfl (bT.of rfl t1 QC) (TL.some ah 2 ?_);simp[hC,TW,UQ];refine TL.le (Le.dz (o:=3) rfl tZ) ?_;simp[eG];rw[zA];refine TL.go' ah ?_;simp[hC,P7,R3,lz,lH];apply aW;simp[hC,wj];rw[CG _ _ P7];have tF:=SL (j+1);rw[fU (aD _),fU rfl] at tF;refine⟨n-(j+1),by omega,?_⟩;refine aa.trim [15,14,7,4,3,2] [2,1,0] 3 (by simp[-List.all_eq_true,af PO,af PW,af tF]) yA ⟨j+1,rfl,by omega,?_⟩;simp[ir,dh,fp,ints,hn]
  ·have QV:j=n:=by omega
   subst QV;apply aj;simp[hC];refine T.seq (T.cond (b:=false) rfl (T.exit ?_));simp;apply aj;simp[hC];apply T.ret;have Ux:=fU (aD (oJ (aI xm))) j;have rR:=fun ρ=>ay ρ _ Ux;refine aa.le (Le.norm [6] [(2,0)] 0 1 Rm Rl (by simp[dD,um,p4,assoc,-List.all_eq_true,-List.all_flatMap,aH Ux]) yA) ?_;simp[dC,ct,dR,gf,assoc,rR];apply aa.here;simp[iy]
theorem zc:∀ l:List Nat,iq (l.map fun n:Nat=>I n)=true
 | []=>rfl
 | n::l=>by
  have:=zc l;simp only[List.map_cons,iq,this,Bool.and_true];rfl
def pz (u:Un)(m:Nat):List (Nat×CV):=[(7,.bj 2 0 (ak u).is.length),(4,.av 1 0),(3,.av 0 0),(2,I m)]
def pg (u:Un)(t:List (List Nat)):List (Nat×Ob):=(2,⟨22,1,t.map aA⟩)::ir u
def J112a (u:Un)(m L:Nat)(k:Nat)(s:St):Prop:=∃ (t:List (List Nat)) (ag:Bool),k=(9*(L+1)*(ak u).is.length-eD t)+(if ag=true then 1 else 0)∧Fj u (ak u) m L t∧(ag=false→t=qa u (ak u) m L)∧s=⟨(8,.bool ag)::pz u m,pg u t,3⟩
def J112b (u:Un)(m L:Nat)(t0:List (List Nat))(k:Nat)(s:St):Prop:=∃ j:Nat,k=(ak u).is.length-j∧j≤(ak u).is.length∧s=⟨(9,I (((ak u).is.length:Int)-1-(j:Int)))::(8,.bool (vc u (ak u) m L t0 j).2)::pz u m,pg u (vc u (ak u) m L t0 j).1,3⟩
set_option maxHeartbeats 1000000 in
theorem Mg {u:Un}(hu:ik u){m:Nat}{xm:Mx}(hm:u.ms[m]? = some xm):ae Tryz.prog 112 [ef u,jj (ak u),I m] (aY (qa u (ak u) m (aI xm))):=by
 obtain⟨PX,U1⟩:=j0 hu;have h8:=fq xm;have Yc:=GS hu hm;have h0:=Fj.start (u:=u) (c:=ak u) (m:=m) (L:=aI xm);have PO:=bO u;have PW:=cO (ak u);have Z9:=fun (t:List (List Nat)) (ht:Fj u (ak u) m (aI xm) t) (i:Nat) (x:Is) (hx:(ak u).is[i]? = some x)=>lO.JN ah (JC hu hx hm ht.wf) (zc _) (aC _);refine ae.aM ah Tryz.func112 rfl PH (by simp[Tryz.ntmps112]) (en _) fun C hC PN=>?_;rw[Tryz.ntmps112] at hC;have hB0:eD (List.replicate (ak u).is.length (oJ (aI xm)))=eD (List.replicate (ak u).is.length (oJ (aI xm))):=rfl;generalize List.replicate (ak u).is.length (oJ (aI xm))=t0 at *;simp only[ef,jj,dh,fp,ints,aY] at PO PW Yc Z9 ⊢;have tT:=bX t0;have rT:=fun ρ=>ay ρ _ tT;apply aj;simp[hC];apply aj;simp[hC];refine TL.Iu ah [] [] 0 1 (Yc) rfl (by rfl) PV rfl rfl WX WX yCj WX WX (TL.go' ah ?_);simp[hC,cb,ct,dR,cH,rT];apply aU;simp[hC];apply T.block;refine T.aJ (J112a u m (aI xm)) (n:=(9*(aI xm+1)*(ak u).is.length-eD t0)+1) ?_ ?_
 ·refine aa.trim [8,7,4,3,2] [2,1,0] 3 (by simp[-List.all_eq_true,af PO,af PW,af tT]) yA ⟨t0,true,by simp,h0,(fun h=>by cases h),?_⟩;simp[pz,pg,ir,dh,fp,ints]
 ·clear tT rT h0 Yc hB0;clear t0;rintro k s ⟨t0,ag,rfl,h0,Rq,rfl⟩;have tT:=bX t0;have QA:=h0.wf.len;simp only[pz,pg,ir,dh,fp,ints]
  cases ag with
  | false=>
   have P8:=Rq rfl;apply aU;simp[hC];refine bh ?_;simp;apply T.exit;simp;apply aj;simp[hC];apply T.ret;refine aa.le (Le.dz (o:=2) rfl tT) ?_;apply aa.here;have PY:List.take (ak u).is.length (t0.map aA)=t0.map aA:=List.take_of_length_le Uf;rw[← P8];simp[Tryz.results112,PY,QA]
  | true=>
   apply aU;simp[hC];refine gQ ?_;simp;apply T.block;have wn:=cE (((ak u).is.length:Int)-1) yA yA;apply aj;simp[hC];apply aj;simp[hC,wn];apply T.block;refine T.aJ (J112b u m (aI xm) t0) (n:=(ak u).is.length) ?_ ?_
   ·refine aa.trim [9,8,7,4,3,2] [2,1,0] 3 (by simp[-List.all_eq_true,af PO,af PW,af tT]) yA ⟨0,by omega,by omega,?_⟩;simp[pz,pg,ir,dh,fp,ints,vc]
   ·rintro k s ⟨j,rfl,hj,rfl⟩;simp only[pz,pg,ir,dh,fp,ints];obtain⟨hI,_⟩:=BB h8 h0 j hj;by_cases P7:j<(ak u).is.length
    ·obtain⟨i,hi⟩:∃ i:Nat,(ak u).is.length-1-j=i:=⟨_,rfl⟩;have hii:((ak u).is.length:Int)-1-(j:Int)=(i:Int):=by omega
     have PJ:i<(ak u).is.length:=by omega
     have QW:i+1≤(ak u).is.length:=PJ;obtain⟨x,hx⟩:∃ x,(ak u).is[i]? = some x:=⟨_,List.getElem?_eq_getElem PJ⟩;have cS:vc u (ak u) m (aI xm) t0 (j+1)=if (vc u (ak u) m (aI xm) t0 j).1.getD i []=ss u (ak u) m (aI xm) (vc u (ak u) m (aI xm) t0 j).1 i then vc u (ak u) m (aI xm) t0 j else ((vc u (ak u) m (aI xm) t0 j).1.set i (ss u (ak u) m (aI xm) (vc u (ak u) m (aI xm) t0 j).1 i),true):=by
      rw[vc,hi]
     generalize hS:vc u (ak u) m (aI xm) t0 j=S at *;have hex:=Z9 S.1 hI.A i x hx;have hew:=MR u (ak u) m (aI xm) S.1 i;simp only[cK] at hex;rw[← hew.len] at hex;change lO _ _ _ (aA (ss u (ak u) m (aI xm) S.1 i)) at hex;generalize ss u (ak u) m (aI xm) S.1 i=e at *;have Wg:=hI.A.wf.len;obtain⟨ri,V4,wri⟩:=hI.A.wf.get (p:=i) PJ;have TN:S.1.getD i []=ri:=by rw[List.getD_eq_getElem?_getD,V4];rfl
     rw[TN] at cS;have tS:=bX S.1;have V0:=gX tS;have PY:List.take (ak u).is.length (S.1.map aA)=S.1.map aA:=List.take_of_length_le Uf;have heq:=D1 e ri (by rw[hew.len,wri.len]) (by rw[hew.len];omega);have PU:trees [aA e,aA ri]=true:=by simp only[trees,aD,Bool.and_self]
     rw[hii];have wi:=cE ((i:Int)-1) yA yA;have PS:(i:Int)-1=((ak u).is.length:Int)-1-((j+1:Nat):Int):=by omega
     apply aU;simp[hC];refine T.cond (b:=true) RN (T.skip ?_);simp;apply dZ;apply aj;simp[hC];refine TL.callL PV rfl rfl rfl (by simp[qQ,Hn,assoc,PY,Wg,aD]) hex (TL.go' ah ?_);simp[hC];apply aj;simp[hC,PJ,V4];refine dQ PU heq ?_;simp[hC];by_cases he:e=ri
     ·rw[if_pos he.symm] at cS;refine T.cond (b:=false) (by simp[ev,assoc,he]) (T.skip ?_);simp;apply aW;simp[hC,wi];refine⟨(ak u).is.length-(j+1),by omega,aa.trim [9,8,7,4,3,2] [2,1,0] 3 (by simp[-List.all_eq_true,af PO,af PW,af tS]) yA ⟨j+1,rfl,by omega,?_⟩⟩;rw[cS,← PS];simp[pz,pg,ir,dh,fp,ints]
     ·rw[if_neg (fun h=>he h.symm)] at cS;refine T.cond (b:=true) (by simp[ev,assoc,he]) ?_;simp;apply aW;simp[hC,PJ,QW,lz,lH,Wg];apply aW;simp[hC,wi];rw[Cv _ (show i<S.1.length by omega)];generalize S.1.set i e=t4 at *;have tT4:=bX t4;refine⟨(ak u).is.length-(j+1),by omega,aa.trim [9,8,7,4,3,2] [2,1,0] 3 (by simp[-List.all_eq_true,af PO,af PW,af tT4]) yA ⟨j+1,rfl,by omega,?_⟩⟩;rw[cS,← PS];simp[pz,pg,ir,dh,fp,ints]
    ·have QV:j=(ak u).is.length:=by omega
     subst QV;have YC:=JO h8 h0;generalize vc u (ak u) m (aI xm) t0 (ak u).is.length=S at *;have tS:=bX S.1;have hm1:((ak u).is.length:Int)-1-((ak u).is.length:Int)=-1:=by omega
     rw[hm1];apply aU;simp[hC];refine T.cond (b:=false) RN ?_;simp;apply T.exit;simp;have Wg:=hI.A.wf.len;have Qf:=pG S.1 hI.A.wf.row;rw[Wg] at Qf;have Xi:=hI.le;refine⟨(9*(aI xm+1)*(ak u).is.length-eD S.1)+(if S.2=true then 1 else 0),?_,aa.trim [8,7,4,3,2] [2,1,0] 3 (by simp[-List.all_eq_true,af PO,af PW,af tS]) yA ⟨S.1,S.2,rfl,hI.A,fun h=>?_,?_⟩⟩
     ·cases h2:S.2 with
      | true=>have:=hI.lt h2;simp;omega
      | false=>simp;omega
     ·rw[hI.same h,YC h]
     ·simp[pz,pg,ir,dh,fp,ints]
end Go.Proofs.YtnecpnjdonibmaaGreat
namespace Go.aP
open Go.Can
theorem DK (l:List Nat)(n:Nat):(gz l n).length≤l.length+1:=by
 unfold gz;split
 ·omega
 ·simp;omega
theorem Bh (x:Is):∀ (c:List In) (l:List Is) (r:List Nat),(gw x c l r).2.2.length≤r.length+c.length
 | [],_,_=>by simp[gw]
 | i::c,l,r=>by
  cases h:jn x i with
  | none=>
   have:=Bh x c l r;simp only[gw,h,List.length_cons];omega
  | some y=>
   have:=Bh x c (ec l y) (if qq i=true then gz r (fJ (ec l y) y) else r);have h2:(if qq i=true then gz r (fJ (ec l y) y) else r).length≤r.length+1:=by
    split
    ·exact DK _ _
    ·omega
   simp only[gw,h,List.length_cons];omega
theorem Dx {u:Un}(hu:ik u):∀ (f i:Nat) (l:List Is) (cs:List (List Int)) (r:List Nat),(lE u f i l cs r).roots.length≤r.length+145*f
 | 0,_,_,_,_=>by simp[lE]
 | f+1,i,l,cs,r=>by
  simp only[lE];split
  ·simp
  ·rename_i x _;have h1:=Dx hu f (i+1) (gw x (aq u x) l r).1 (cs++[(gw x (aq u x) l r).2.1]) (gw x (aq u x) l r).2.2;have h2:=Bh x (aq u x) l r;have h3:=eZ hu x;omega
theorem Kl {u:Un}(hu:ik u):(ak u).roots.length≤14501:=Dx hu 100 0 _ _ _
end Go.aP
