/- Exit, empty, round, SameTables, Of of the reference. -/
import Derived.Test.YtnecpnjdonibmaaGreatZ41
namespace Go.Proofs.YtnecpnjdonibmaaGreat
open Go.Can Go.aP
theorem Iu (u:Un)(m i L:Nat)(x:Is)(sm:List (List Nat)):qb L (au u x).length (BX u m i L x sm):=fX _ _ _
theorem Nn (u:Un)(c:Cl)(m L:Nat)(sm:List (List Nat))(i:Nat):qc L (tL u c m L sm i):=kG _ _
theorem DU (z:In):((mU z:Int) == 8)=AD z:=by
 cases z with
 | call g _ _ _=>cases g<;>rfl
 | lock g _=>cases g<;>rfl
 | _=>rfl
def dY (u:Un):List (Nat×Ob):=[(1,⟨34,0,cN (aj u)⟩),(0,⟨30,0,bY u⟩)]
def J207 (u:Un)(x:Is)(n i L:Nat)(t:List (List Nat))(k:Nat)(s:St):Prop:=∃ j:Nat,k=n-j∧j≤n∧s=⟨[(13,I j),(12,az (ux u x L t j)),(11,aF t),(6,.ax 1 0),(5,.ax 0 0),(4,I i)],dY u,2⟩
theorem Hz {u:Un}(hu:iy u){i:Nat}{x:Is}(hx:(aj u).is[i]? = some x){m:Nat}{xm:Mx}(hm:u.ms[m]? = some xm){sm:List (List Nat)}(hs:qb (ay xm) (aj u).is.length sm):af Tryz.prog 207 [df u,eQ (aj u),I m,aF sm,I i] (az (tL u (aj u) m (ay xm) sm i)):=by
 have Pj:=rQ hu hx hm hs;have WM:=Iu u m i (ay xm) x sm;have Pq:=Em (u:=u) (m:=m) (L:=ay xm) hx sm;have hv:=s7 hu hx;have h8:=dD xm;have PV:=uh xm;obtain⟨pq,PA,OY⟩:=jO hv;have O7:=fo hu x;have OX:=(List.getElem?_eq_some_iff.1 hx).1;have P3:=(List.getElem?_eq_some_iff.1 hm).1;have PR:=(List.getElem?_eq_some_iff.1 PA).1;have Sc:=aN (f:=eJ) (n:=3) nU hm;have Sd:=aN (f:=cO) (n:=2) fa hx;have OZ:=bQ (f:=lF) (n:=5) eZ PA 4 yA;have t1:trees [.agg (eJ xm)]=true:=rfl;have SQ:=cC ((ay xm:Int)+1) yA yA;have T7:(0≤(ay xm:Int)+1∧8*((ay xm:Int)+1)≤281474976710656∧(ay xm:Int)+1≤9223372036854775807):=by omega
 have O3:trees [df u,eQ (aj u),I m,aF sm,I i]=true:=by simp only[trees,tree,df,eQ,aT,bJ,cg,Bool.and_self]
 have Pa:=aT u;have Ph:=bJ (aj u);have tZ:trees (List.replicate (ay xm+1) (I 0))=true:=fU _;refine af.aK ai Tryz.func207 rfl OV (by simp[Tryz.ntmps207]) (aD _) fun C hC O0=>?_;rw[Tryz.ntmps207] at hC;simp only[eJ] at PV t1;change ux u x (ay xm) (BX u m i (ay xm) x sm) (au u x).length=_ at Pq;generalize BX u m i (ay xm) x sm=t at *;rw[OY] at O7;have PK:t.length=pq.code.length:=by rw[WM.len,OY]
 have tT:=aJ t;simp only[df,eQ,bY,cN,ints,aF] at O3 Pa Ph Pj ⊢;apply aq;simp[hC];apply aq;simp[hC];refine dz O3 Pj ?_;simp[hC];apply aq;simp[hC,P3,Sc,eJ];refine dz t1 PV ?_;simp[hC,SQ,T7];refine T.le (Le.dp (o:=2) rfl tZ) ?_;simp[dB];rw[nS];apply aO;simp[hC];apply T.block;refine T.aH (J207 u x pq.code.length i (ay xm) t) (n:=pq.code.length) ?_ ?_
 ·refine ae.trim [13,12,11,6,5,4] [1,0] 2 XL yA ⟨0,by omega,by omega,?_⟩;simp[dY,bY,cN,ints,aF,ux]
 ·rintro n s ⟨j,rfl,hj,rfl⟩;simp only[dY,bY,cN,ints,aF];have hqw:=vL (u:=u) (x:=x) WM;by_cases Pn:j<pq.code.length
  ·obtain⟨z,PZ⟩:∃ z,pq.code[j]? = some z:=⟨_,List.getElem?_eq_getElem Pn⟩;have hz:(au u x)[j]? = some z:=by rw[OY];exact PZ
   have Qy:=aN (f:=dt) (n:=12) eK PZ;obtain⟨xc,Qm,QB⟩:=iK z;rw[Qm] at Qy;have O8:=DU z;obtain⟨rj,YO,wj⟩:=WM.get (p:=j) (by rw[OY];exact Pn);have hdt:=dX az YO;have hgj:t.getD j []=rj:=by rw[List.getD_eq_getElem?_getD,YO];rfl
   have hw:=hqw j (by rw[OY];exact hj);have bq:ux u x (ay xm) t (j+1)=if AD z=true then iU (ux u x (ay xm) t j) rj else ux u x (ay xm) t j:=by
    rw[ux,hz,hgj];simp
   have Yi:=cC ((j:Int)+1) yA yA;generalize ux u x (ay xm) t j=q at *;have Sw:=DJ q rj (by rw[hw.len];omega) (by rw[hw.len,wj.len]) (fx h8 hw) (fx h8 wj);have Ss:trees [az q,az rj]=true:=by simp only[trees,aD,Bool.and_self]
   apply aO;simp[hC,PK,Pn];refine fB ?_;simp;apply ed;refine T.seq (T.rx ai follows [0,1,2,3,4,5,6,7,8,9,10,11,12,13,14,15] [] OV ?_);simp[hC,OX,Sd,cO,PR,OZ,lF,Pn,Qy]
   cases hr:AD z with
   | true=>
    rw[hr] at O8 bq;refine T.cond (b:=true) V8 ?_;simp;apply aV;simp[hC,Pn,hdt];refine dz Ss Sw ?_;simp[hC];apply aV;simp[hC,Yi];refine⟨pq.code.length-(j+1),by omega,ae.trim [13,12,11,6,5,4] [1,0] 2 XL yA ⟨j+1,rfl,by omega,?_⟩⟩;rw[bq];simp[dY,bY,cN,ints,aF,PK]
   | false=>
    rw[hr] at O8 bq;refine T.cond (b:=false) V8 (T.skip ?_);simp;apply aV;simp[hC,Yi];refine⟨pq.code.length-(j+1),by omega,ae.trim [13,12,11,6,5,4] [1,0] 2 XL yA ⟨j+1,rfl,by omega,?_⟩⟩;rw[bq];simp[dY,bY,cN,ints,aF,PK]
  ·have Qh:j=pq.code.length:=by omega
   subst Qh;apply aO;simp[hC,PK];refine a7 ?_;simp;apply T.exit;simp;apply aq;simp[hC];apply T.ret;apply ae.here;rw[OY] at Pq;simp[Tryz.results207,Pq]
theorem J3 (u:Un)(hu:iy u)(l:List Is)(hl:l.length≤100000)(X Y:CV)(x y:Int)(i:Nat)(hi:x % (l.length:Int)=(i:Int))(is:Is)(Wn:l[i]? = some is)(hv:pE u is) :
  af Tryz.prog 36 [df u,.agg [.aA (l.flatMap cO) l.length,X,Y],I x,I y] (.dS [I i,I (y % ((au u is).length:Int))]):=by
 obtain⟨⟨pq,PA,SF⟩,hlm⟩:=id hv;have OY:au u is=pq.code:=by simp only[au,PA]
 rw[OY];have PR:=(List.getElem?_eq_some_iff.1 PA).1;have OX:=(List.getElem?_eq_some_iff.1 Wn).1;have OZ:=bQ (f:=lF) (n:=5) eZ PA 4 yA;have Sd:=aN (f:=cO) (n:=2) fa Wn;have hprb:=hu.pr pq (List.mem_of_getElem? PA);have hc0:0<pq.code.length:=by
  obtain⟨c,hc⟩:=(hu.pc pq (List.mem_of_getElem? PA)).1;rw[hc];simp
 have SQ:=rz x l.length yA yA;rw[hi] at SQ;have Yx:=rz y pq.code.length yA yA;refine af.aK ai Tryz.func36 rfl OV (by simp[Tryz.ntmps36]) rfl fun C hC O0=>?_;rw[Tryz.ntmps36] at hC;simp only[df,bY,ints];apply aq;simp[hC];apply aq;simp[hC];refine dz rfl SQ ?_;simp[hC];refine T.seq (T.rx ai follows [0,1,2,3,4,5,6,7,8,9,10,11,12,13,14,15,16] [] OV ?_);simp[hC,OX,Sd,cO,PR,OZ,lF];refine RX.call rfl rfl rfl rfl rfl rfl Yx ?_;simp;apply T.ret;apply ae.here;simp[Tryz.results36]
theorem yX {u:Un}(hu:iy u){x:Is}(hx:pE u x):∀ (c:List In) (l:List Is) (r:List Nat),(∀ i∈c,i∈au u x)→wD u l→wD u (gY x c l r).1
 | [],_,_,_,h=>h
 | i::c,l,r,hc,h=>by
  simp only[gY];split
  ·exact yX hu hx c l r (fun j hj=>hc j (List.mem_cons_of_mem _ hj)) h
  ·rename_i y hy;have hyv:=C8 hu hx (hc i List.mem_cons_self) hy;exact yX hu hx c _ _ (fun j hj=>hc j (List.mem_cons_of_mem _ hj)) ⟨mM h.nd,Df h.v hyv⟩
theorem BH {u:Un}(hu:iy u):∀ (f i:Nat) (l:List Is) (cs:List (List Int)) (r:List Nat),wD u l→wD u (mC u f i l cs r).is∧l.length≤(mC u f i l cs r).is.length
 | 0,_,l,_,_,h=>⟨h,Nat.le_refl _⟩
 | f+1,i,l,cs,r,h=>by
  simp only[mC];split
  ·exact⟨h,Nat.le_refl _⟩
  ·rename_i x hx;have hs:=yX hu (h.v x (List.mem_of_getElem? hx)) (au u x) l r (fun _ hi=>hi) h;obtain⟨h1,h2⟩:=BH hu f (i+1) (gY x (au u x) l r).1 (cs++[(gY x (au u x) l r).2.1]) (gY x (au u x) l r).2.2 hs;obtain⟨t,ht⟩:=ua x (au u x) l r;refine⟨h1,Nat.le_trans ?_ h2⟩;rw[ht];simp
theorem Jf {u:Un}(hu:iy u):wD u (aj u).is∧0<(aj u).is.length:=by
 have h0:wD u [⟨u.main,[]⟩]:=⟨by simp,fun x hx=>by
  rw[List.mem_singleton.1 hx];have hp:=hu.np.1;obtain⟨q,hq⟩:∃ q,u.ps[0]? = some q:=⟨_,List.getElem?_eq_getElem yA⟩;exact⟨⟨q,by rw[hu.main];exact hq,by rw[(hu.p0 q hq).2];rfl⟩,fun l hl=>by cases hl⟩⟩
 obtain⟨h1,h2⟩:=BH hu 100 0 [⟨u.main,[]⟩] [] [0] h0;exact⟨h1,h2⟩
theorem ja {u:Un}(hu:iy u):(aj u).is.length≤49∧0<(aj u).is.length:=by
 obtain⟨hI,Rh⟩:=Jf hu;exact⟨ka hu hI.nd hI.v,Rh⟩
theorem g8 (ρ:Nat→Nat)(l:List Nat):dR ρ (az l)=az l:=by simp only[az,dR]
def J145 (u:Un)(m n L:Nat)(k:Nat)(s:St):Prop:=∃ j:Nat,k=n-j∧j≤n∧s=⟨[(8,I j),(7,.bl 2 0 j),(4,.ax 1 0),(3,.ax 0 0),(2,I m)],(2,⟨22,1,List.replicate j (az (kS L))⟩)::dY u,3⟩
theorem Fo {u:Un}(hu:iy u){m:Nat}{xm:Mx}(hm:u.ms[m]? = some xm):af Tryz.prog 145 [df u,eQ (aj u),I m] (aF (List.replicate (aj u).is.length (kS (ay xm)))):=by
 have h8:=dD xm;have PV:=uh xm;obtain⟨O7,VZ⟩:=ja hu;have P3:=(List.getElem?_eq_some_iff.1 hm).1;have Sc:=aN (f:=eJ) (n:=3) nU hm;have t1:trees [.agg (eJ xm)]=true:=rfl;have SQ:=cC ((ay xm:Int)+1) yA yA;have T7:(0≤(ay xm:Int)+1∧8*((ay xm:Int)+1)≤281474976710656∧(ay xm:Int)+1≤9223372036854775807):=by omega
 have Pa:=aT u;have Ph:=bJ (aj u);have tZ:trees (List.replicate (ay xm+1) (I 0))=true:=fU _;refine af.aK ai Tryz.func145 rfl OV (by simp[Tryz.ntmps145]) (cg _) fun C hC O0=>?_;rw[Tryz.ntmps145] at hC;simp only[eJ] at PV t1;generalize hn:(aj u).is.length=n at *;simp only[df,eQ,bY,cN,ints,aF] at Pa Ph ⊢;rw[hn] at Ph ⊢;apply aq;simp[hC];apply aq;simp[hC];apply aO;simp[hC];apply T.block;refine T.aH (J145 u m n (ay xm)) (n:=n) ?_ ?_
 ·refine ae.le (Le.own 7 22 1 rfl) ?_;simp[St.own];refine ae.trim [8,7,4,3,2] [2,1,0] 3 V9 yA ⟨0,by omega,by omega,?_⟩;simp[dY,bY,cN,ints,hn]
 ·rintro k s ⟨j,rfl,hj,rfl⟩;simp only[dY,bY,cN,ints,hn];have tR:=dV (aD (kS (ay xm))) (j+1);have Sk:trees (List.replicate j (az (kS (ay xm)))++[az (kS (ay xm))])=true:=by rw[← List.replicate_succ',tR]
  by_cases Pn:j<n
  ·have wj:=cC ((j:Int)+1) yA yA;have V7:(j+1)*24≤140737488355328:=by omega
   have Uv:=fun ρ=>av ρ _ Sk;have rU:=fun ρ=>av ρ _ Pa;have rC:=fun ρ=>av ρ _ Ph;apply aO;simp[hC,Pn];refine fB ?_;simp;apply ed;apply aV;simp[hC,P3,Sc,eJ];refine TL.call O5 rfl rfl (bN.of rfl t1 PV) (TL.some ai 2 ?_);simp[hC,SQ,T7];refine TL.le (Le.dp (o:=3) rfl tZ) ?_;simp[dB];rw[nS];refine TL.go' ai ?_;simp[hC,V7,e9,fc];apply aV;simp[hC,wj];refine⟨n-(j+1),by omega,?_⟩;refine ae.le (Le.norm [8,7,4,3,2] [(5,2),(1,1),(0,0)] 0 3 Ql Qk yCi yA) ?_;simp[dj,cc,ca,dR,fF,assoc,Uv,g8];refine ae.here ⟨j+1,rfl,by omega,?_⟩;simp[dY,bY,cN,ints,hn,List.replicate_succ']
  ·have Qh:j=n:=by omega
   subst Qh;apply aO;simp[hC];refine a7 ?_;simp;apply T.exit;simp;apply aq;simp[hC];apply T.ret;have TJ:=dV (aD (kS (ay xm))) j;refine ae.le (Le.dp (o:=2) rfl TJ) ?_;apply ae.here;simp[Tryz.results145]
def na (u:Un)(x:Is)(m i:Nat)(sm:List (List Nat)):List CV:=bY u++cO x++[I m,.fn 294 (pB u x m i sm)]
theorem uK (u:Un)(x:Is)(m i:Nat)(sm:List (List Nat)):trees (na u x m i sm)=true:=by
 simp only[na,bC,aT,bT,trees,tree,sJ,Bool.and_self]
def lS (u:Un)(x:Is)(m i:Nat)(sm:List (List Nat))(t:List CV):List (Nat×Ob):=[(1,⟨22,1,t⟩),(0,⟨355,0,na u x m i sm⟩)]
def J295a (u:Un)(x:Is)(n m i L:Nat)(sm:List (List Nat))(k:Nat)(s:St):Prop:=∃ j:Nat,k=n-j∧j≤n∧s=⟨[(34,I j),(33,I n),(5,.bl 1 0 n),(3,I L),(1,.ax 0 0)],lS u x m i sm (List.replicate j (az (kS L))++List.replicate (n-j) .aa),2⟩
def J295b (u:Un)(x:Is)(n m i L:Nat)(sm:List (List Nat))(k:Nat)(s:St):Prop:=∃ t td,k=H7 n L t td∧k≤30000∧JO u (aj u) L m i x sm t td∧s=⟨[(7,.bl 2 0 td.length),(5,.bl 1 0 n),(1,.ax 0 0)],(2,a8 td)::lS u x m i sm (t.map az),3⟩
def J295c (u:Un)(x:Is)(n m i:Nat)(sm:List (List Nat))(a nx:List Nat)(t0:List (List Nat))(td0:List Nat)(k:Nat)(s:St):Prop:=∃ j:Nat,k=nx.length-j∧j≤nx.length∧s=⟨[(79,I j),(78,I nx.length),(77,az nx),(9,az a),(7,.bl 2 0 (jI a (nx.take j) t0 td0).2.length),(5,.bl 1 0 n),(1,.ax 0 0)],(2,a8 (jI a (nx.take j) t0 td0).2)::lS u x m i sm ((jI a (nx.take j) t0 td0).1.map az),3⟩
set_option maxRecDepth 100000 in
set_option maxHeartbeats 1000000 in
theorem Ki {u:Un}(hu:iy u){i:Nat}{x:Is}(hx:(aj u).is[i]? = some x){m:Nat}{xm:Mx}(hm:u.ms[m]? = some xm){sm:List (List Nat)}(hs:qb (ay xm) (aj u).is.length sm) :
  af Tryz.prog 295 [.agg (na u x m i sm)] (aF (BX u m i (ay xm) x sm)):=by
 have hv:=s7 hu hx;have h8:=dD xm;have H:=DC hu h8 hx hs;have PV:=uj xm;have Zm:=Bf (ay xm) h8;obtain⟨pq,PA,OY⟩:=jO hv;have O7:=fo hu x;have P3:=(List.getElem?_eq_some_iff.1 hm).1;have PR:=(List.getElem?_eq_some_iff.1 PA).1;have Sc:=aN (f:=eJ) (n:=3) nU hm;have OZ:=bQ (f:=lF) (n:=5) eZ PA 4 yA;have t1:trees [.agg (eJ xm)]=true:=rfl;have t2:trees [I (ay xm)]=true:=rfl;have bd:24*((au u x).length:Int)≤281474976710656∧((au u x).length:Int)≤9223372036854775807:=by omega
 have SQ:=cC ((ay xm:Int)+1) yA yA;have T7:(0≤(ay xm:Int)+1∧8*((ay xm:Int)+1)≤281474976710656∧(ay xm:Int)+1≤9223372036854775807):=by omega
 have tp:=uK u x m i sm;have Vf:=sJ u x m i sm;have tZ:trees (List.replicate (ay xm+1) (I 0))=true:=fU _;have R1:=fun j=>bC (List.replicate j (az (kS (ay xm)))) (List.replicate (pq.code.length-j) CV.aa);refine af.aK ai Tryz.func295 rfl OV (by simp[Tryz.ntmps295,na,bY,cO]) (cg _) fun C hC O0=>?_;rw[Tryz.ntmps295] at hC;simp only[eJ] at PV t1;rw[OY] at O7 bd;simp only[na,bY,cO,ints,aF,List.cons_append,List.nil_append] at tp ⊢;apply aq;simp[hC];apply aq;simp[hC,P3,Sc,eJ];refine dz t1 PV ?_;simp[hC];apply aq;simp[hC,PR,OZ,lF];apply aq;simp[hC,bd];apply aO;simp[hC];have tfn:tree (.fn 294 (pB u x m i sm))=true:=by simp only[tree,Vf]
 have tu1:trees (u.gs.map wE)=true:=jf _;have tu2:=fH u.ms;have tu3:trees (u.ps.flatMap lF)=true:=aQ oA u.ps;apply T.block;refine T.aH (J295a u x pq.code.length m i (ay xm) sm) (n:=pq.code.length) ?_ ?_
 ·refine ae.trim [34,33,5,3,1] [1,0] 2 (by simp[-List.all_eq_true,ah Vf,aW _ _ (aD _)]) yA ⟨0,by omega,by omega,?_⟩;simp[lS,na,bY,cO,ints]
 ·rintro n s ⟨j,rfl,hj,rfl⟩;simp only[lS,na,bY,cO,ints,List.cons_append,List.nil_append];by_cases Pn:j<pq.code.length
  ·have Rk:1≤pq.code.length-j:=by omega
   have wj:=cC ((j:Int)+1) yA yA;apply aq;simp[hC,Pn];refine T.seq (T.cond (b:=true) rfl (T.skip ?_));simp;apply ed;apply aq;simp[hC];refine T.region (TL.some ai 5 ?_);simp[hC,SQ,T7];refine TL.le (Le.dp (o:=2) rfl tZ) ?_;simp[dB,cI Vf];refine TL.go' ai ?_;simp[hC,Pn,Rk];apply aV;simp[hC,wj];rw[nS,y8 _ _ Pn];have tF:=R1 (j+1);rw[dV (aD _),dV rfl] at tF;refine⟨pq.code.length-(j+1),by omega,?_⟩;refine ae.trim [34,33,5,3,1] [1,0] 2 (by simp[-List.all_eq_true,ah Vf,aW _ _ (aD _),ah tF]) yA ⟨j+1,rfl,by omega,?_⟩;simp[lS,na,bY,cO,ints]
  ·have Qh:j=pq.code.length:=by omega
   subst Qh;apply aq;simp[hC];refine T.seq (T.cond (b:=false) rfl (T.exit ?_));simp;have Rh:0<pq.code.length:=by have:=H.pos;rwa [OY] at this
   have UI:1≤pq.code.length:=Rh;have Q7:az (kr (ay xm) 0)::List.replicate (pq.code.length-1) (az (kS (ay xm)))=((List.replicate pq.code.length (kS (ay xm))).set 0 (kr (ay xm) 0)).map az:=by
    obtain⟨n,hn⟩:∃ n,pq.code.length=n+1:=⟨pq.code.length-1,by omega⟩;rw[hn];simp[List.replicate_succ]
   apply aq;simp[hC];refine dz t2 Zm ?_;simp[hC,Rh,e9,fc,UI];rw[Q7];have h0:JO u (aj u) (ay xm) m i x sm ((List.replicate pq.code.length (kS (ay xm))).set 0 (kr (ay xm) 0)) [0]:=by
    rw[← OY];exact JO.start H
   have TU:H7 pq.code.length (ay xm) ((List.replicate pq.code.length (kS (ay xm))).set 0 (kr (ay xm) 0)) [0]≤30000:=by
    unfold H7;have:9*(ay xm+1)*pq.code.length≤81*145:=Nat.mul_le_mul yA O7;simp only[List.length_singleton];omega
   clear R1 tZ;generalize (List.replicate pq.code.length (kS (ay xm))).set 0 (kr (ay xm) 0)=t0 at h0 TU ⊢;have tT:=aJ t0;apply aq;simp[hC];apply ed;refine T.aH (J295b u x pq.code.length m i (ay xm) sm) (n:=H7 pq.code.length (ay xm) t0 [0]) ?_ ?_
   ·refine ae.trim [7,5,1] [2,1,0] 3 (by simp[-List.all_eq_true,ah Vf,aW _ _ (aD _),ah tT]) yA ⟨t0,[0],rfl,TU,h0,?_⟩;simp[lS,na,bY,cO,ints,a8]
   ·clear h0 Q7 TU tT;clear t0;rintro k s ⟨t,td,rfl,SG,hI,rfl⟩;simp only[lS,na,bY,cO,ints,a8,List.cons_append,List.nil_append];have tT:=aJ t;have tD:=aC td;have PK:t.length=pq.code.length:=by rw[hI.A.wf.len,OY]
    rcases List.eq_nil_or_concat td with rfl | ⟨td0,pc,rfl⟩
    ·have Pq:=hI.fin H;change t=BX u m i (ay xm) x sm at Pq;apply aO;simp[hC];refine T.cond (b:=false) RD (T.exit ?_);simp;apply aq;simp[hC];apply T.ret;refine ae.le (Le.dp (o:=1) rfl tT) ?_;apply ae.here;have Pd:List.take pq.code.length (t.map az)=t.map az:=List.take_of_length_le T9;rw[← Pq];simp[Tryz.results295,Pd,PK]
    ·rw[List.concat_eq_append] at *;have W0:pc<(au u x).length:=hI.val pc OU;have Rv:pc<pq.code.length:=by rw[← OY];exact W0
     obtain⟨z,hz⟩:∃ z,(au u x)[pc]? = some z:=⟨_,List.getElem?_eq_getElem W0⟩;obtain⟨TO,R4⟩:=hI.step H hz;obtain⟨VF,XU,w2⟩:=hI.A.wf.get (p:=pc) W0;have hg:t.getD pc []=VF:=by rw[List.getD_eq_getElem?_getD,XU];rfl
     have w3:=kD H (m:=m) hz;have w4:=pZ w2 w3;have hPrc:=DP H (td0:=td0) hI.A w4 (eM z pc) (fun q hq=>⟨H.nx pc z hz q hq,fun d e hb=>by
      obtain⟨y,y1,y2⟩:=(oQ _ _ d e).1 hb;exact tY H hz hq (hI.A.sound pc d y (by rw[iQ XU];exact y1)) y2⟩)
     rw[hg] at TO R4;have hlen:(td0++[pc]).length=td0.length+1:=by simp
     rw[hlen];have wl:=cC ((td0.length:Int)+1-1) yA (by unfold H7 at SG;rw[hlen] at SG;omega);have Yh:=cC (td0.length:Int) yA (by unfold H7 at SG;rw[hlen] at SG;omega);have bI:(td0.length:Int)<(td0.length:Int)+1:=by omega
     have bI2:(td0.length:Int)≤(td0.length:Int)+1:=by omega
     have tD0:=aC td0;have bt:td0.length≤30000:=by unfold H7 at SG;rw[hlen] at SG;omega
     apply aO;simp[hC];refine fB ?_;simp;apply T.block;apply aq;simp[hC,Yh,bI];apply aq;simp[hC,Yh];refine T.le (Le.cut (o:=2) td0.length rfl) ?_;simp[St.cut];have WS:=HK hu hx hm hs hz;have U2:=HR VF (fC (aj u) (ay xm) m sm i x z pc) (by rw[w2.len];omega) (by rw[w3.len];omega) (fx h8 w2) (fx h8 w3);have Qa:=HL hu hv hz yA;have Ro:trees (I pc::pB u x m i sm)=true:=by simp only[trees,tree,Vf,Bool.and_self]
     have Ut:trees [az VF,az (fC (aj u) (ay xm) m sm i x z pc)]=true:=by simp only[trees,aD,Bool.and_self]
     have Su:trees [.agg (bY u),.agg (cO x),I pc]=true:=by simp only[trees,tree,aT,bT,Bool.and_self]
     simp only[df,bY,cO,ints] at Qa Su;refine T.seq (T.rx ai follows [0,1,2,3,4,5,6,7,8,9] [(3,7)] OV ?_);simp[hC,Rv,XU];refine RX.call rfl rfl rfl rfl rfl Ro WS ?_;simp;refine RX.call rfl rfl rfl rfl rfl Ut U2 ?_;simp;apply aq;simp[hC];refine dz Su Qa ?_;have O2:az (eM z pc)=CV.aA ((eM z pc).map fun n:Nat=>I n) (eM z pc).length:=rfl;simp[hC,O2];generalize ha:nr VF (fC (aj u) (ay xm) m sm i x z pc)=a at *;have Qe:(eM z pc).length≤2:=DY z pc;have tnx:=aC (eM z pc);apply T.block;refine T.aH (J295c u x pq.code.length m i sm a (eM z pc) t td0) (n:=(eM z pc).length) ?_ ?_
     ·refine ae.trim [79,78,77,9,7,5,1] [2,1,0] 3 (by simp[-List.all_eq_true,ah Vf,aW _ _ (aD _),ah tT,ah tD0]) yA ⟨0,by omega,by omega,?_⟩;simp[lS,na,bY,cO,ints,a8,O2,jI]
     ·rintro n s ⟨j,rfl,hj,rfl⟩;simp only[lS,na,bY,cO,ints,a8,List.cons_append,List.nil_append,O2];by_cases Pn:j<(eM z pc).length
      ·obtain⟨q,hq⟩:∃ q,(eM z pc)[j]? = some q:=⟨_,List.getElem?_eq_getElem Pn⟩;have WX:=cZ hq;have hPj:=hPrc j hj;have bq:=va a ((eM z pc).take j) q t td0;have htk1:(eM z pc).take j++[q]=(eM z pc).take (j+1):=by rw[List.take_add_one,hq];rfl
       rw[htk1] at bq;have QW:q<pq.code.length:=by rw[← OY];exact CF hu hv hz (List.mem_of_getElem? hq)
       generalize jI a ((eM z pc).take j) t td0=S2 at *;obtain⟨rq,WU,wq⟩:=hPj.A.wf.get (p:=q) (by rw[OY];exact QW);have hgq:S2.1.getD q []=rq:=by rw[List.getD_eq_getElem?_getD,WU];rfl
       rw[hgq] at bq;have TP:=hPj.A.wf.len;have P4:=l8 S2.1 hPj.A.wf.row;have Qx:=hPj.ms;rw[OY] at TP;rw[TP] at P4;have hb9:9*(ay xm+1)*pq.code.length≤81*145:=Nat.mul_le_mul yA O7;have Uu:=aJ S2.1;have tD3:=aC S2.2;have hpw:=Cu a rq (by rw[w4.len];omega) (by rw[wq.len,w4.len]) (fx h8 w4) (fx h8 wq);have Sw:=Kh rq a (by rw[wq.len];omega) (by rw[wq.len,w4.len]) (fx h8 wq) (fx h8 w4);have Ss:trees [az a,az rq]=true:=by simp only[trees,aD,Bool.and_self]
       have Us:trees [az rq,az a]=true:=by simp only[trees,aD,Bool.and_self]
       have wj:=cC ((j:Int)+1) yA yA;have WW:q+1≤pq.code.length:=QW;apply aq;simp[hC,Pn];refine T.seq (T.cond (b:=true) rfl (T.skip ?_));simp;apply ed;apply aq;simp[hC,Pn,WX];apply aq;simp[hC,QW,WU];refine dz Ss hpw ?_;simp[hC]
       cases Pj:rv a rq with
       | true=>
        rw[if_pos Pj] at bq;refine T.cond (b:=false) RD (T.skip ?_);simp;apply aV;simp[hC,wj];refine⟨(eM z pc).length-(j+1),by omega,ae.trim [79,78,77,9,7,5,1] [2,1,0] 3 yD yA ⟨j+1,rfl,by omega,?_⟩⟩;rw[bq];simp[lS,na,bY,cO,ints,a8,O2]
       | false=>
        rw[if_neg (by rw[Pj];simp)] at bq;refine T.cond (b:=true) RD ?_;simp;apply aq;simp[hC,QW,WU];refine dz Us Sw ?_;simp[hC,QW,e9,fc,TP,WW];rw[yQ _ (show q<S2.1.length by omega)];generalize S2.1.set q (iU rq a)=t4 at *;have Z8:=aJ t4;have bdd:(S2.2.length+1)*8≤140737488355328:=by omega
        have hD5:(S2.2.map fun n:Nat=>I n)++[I q]=(S2.2++[q]).map fun n:Nat=>I n:=by simp
        have WI:=aC (S2.2++[q]);rw[← hD5] at WI;apply aV;simp[hC,bdd];apply aV;simp[hC,wj];have rD:=fun ρ=>av ρ _ WI;have r1:=fun ρ=>av ρ _ tu1;have r2:=fun ρ=>av ρ _ tu2;have r3:=fun ρ=>av ρ _ tu3;have r4:=fun ρ=>av ρ _ Vf;have Yk:(pB u x m i sm).all tree=true:=List.all_eq_true.2 fun c hc=>iA Vf c hc;have r5:=fun ρ=>av ρ _ tnx;have r6:=fun ρ=>av ρ _ Z8;have hna:az a=CV.aA (a.map fun n:Nat=>I n) a.length:=rfl;have ta:=aC a;have r7:=fun ρ=>av ρ _ ta;have hnk:az x.bH=CV.aA (x.bH.map fun n:Nat=>I n) x.bH.length:=rfl;have tk:=aC x.bH;have r8:=fun ρ=>av ρ _ tk;refine⟨(eM z pc).length-(j+1),by omega,?_⟩;simp only[hna,hnk];refine ae.le (Le.norm [79,78,77,9,7,5,1] [(4,2),(1,1),(0,0)] 0 3 Ql Qk (by simp[dr,ss,pw,tree,assoc,-List.all_eq_true,-List.all_flatMap,aE WI,Yk,aE Z8]) yA) ?_;simp[dj,cc,ca,dR,fF,assoc,rD,r4,r6];refine ae.here ⟨j+1,rfl,by omega,?_⟩;rw[bq];simp[lS,na,bY,cO,ints,a8,O2,hna,hnk]
      ·have Qh:j=(eM z pc).length:=by omega
       subst Qh;rw[List.take_length] at *;generalize jI a (eM z pc) t td0=S2 at *;have Uu:=aJ S2.1;have tD3:=aC S2.2;apply aq;simp[hC];refine T.seq (T.cond (b:=false) rfl (T.exit ?_));simp;rw[OY] at R4;refine⟨H7 pq.code.length (ay xm) S2.1 S2.2,R4,ae.trim [7,5,1] [2,1,0] 3 yD yA ⟨S2.1,S2.2,rfl,by omega,TO,?_⟩⟩;simp[lS,na,bY,cO,ints,a8]
theorem AA (u:Un)(c:Cl)(m L:Nat)(t:List (List Nat)):(mc u c m L t).length=c.is.length:=by simp[mc]
theorem kT {l:List (List Nat)}{j:Nat}{r:List Nat}(h:l[j]? = some r):(l.take j).map az++[az r]=(l.take (j+1)).map az:=by
 rw[List.take_add_one,h];simp
def J146 (u:Un)(m n:Nat)(s0 t:List (List Nat))(k:Nat)(s:St):Prop:=∃ j:Nat,k=n-j∧j≤n∧s=⟨[(10,I j),(9,.bl 2 0 j),(5,.ax 1 0),(4,.ax 0 0),(3,aF s0),(2,I m)],(2,⟨22,1,(t.take j).map az⟩)::dY u,3⟩
theorem Fi {u:Un}(hu:iy u){m:Nat}{xm:Mx}(hm:u.ms[m]? = some xm){sm:List (List Nat)}(hs:qb (ay xm) (aj u).is.length sm):af Tryz.prog 146 [df u,eQ (aj u),I m,aF sm] (aF (mc u (aj u) m (ay xm) sm)):=by
 obtain⟨O7,VZ⟩:=ja hu;have Pa:=aT u;have Ph:=bJ (aj u);have tS:=aJ sm;have Ts:=hs.len;have Vn:=AA u (aj u) m (ay xm) sm;have hra:=fun (i:Nat) (h:i<(aj u).is.length)=>y6 (u:=u) (c:=aj u) (m:=m) (L:=ay xm) (t:=sm) h;have PF:∀ j:Nat,trees [df u,eQ (aj u),I m,aF sm,I j]=true:=fun j=>by simp only[trees,tree,df,eQ,aT,bJ,cg,Bool.and_self]
 have hex:=fun (j:Nat) (x:Is) (hx:(aj u).is[j]? = some x)=>Hz hu hx hm hs;refine af.aK ai Tryz.func146 rfl OV (by simp[Tryz.ntmps146]) (cg _) fun C hC O0=>?_;rw[Tryz.ntmps146] at hC;generalize mc u (aj u) m (ay xm) sm=t at *;simp only[df,eQ,bY,cN,ints,aF] at Pa Ph PF hex ⊢;apply aq;simp[hC];apply aq;simp[hC];apply aO;simp[hC];apply T.block;refine T.aH (J146 u m sm.length sm t) (n:=sm.length) ?_ ?_
 ·refine ae.le (Le.own 9 22 1 rfl) ?_;simp[St.own];refine ae.trim [10,9,5,4,3,2] [2,1,0] 3 V9 yA ⟨0,by omega,by omega,?_⟩;simp[dY,bY,cN,ints,aF]
 ·rintro k s ⟨j,rfl,hj,rfl⟩;simp only[dY,bY,cN,ints,aF];by_cases Pn:j<sm.length
  ·obtain⟨x,hx⟩:∃ x,(aj u).is[j]? = some x:=⟨_,List.getElem?_eq_getElem yA⟩;have wj:=cC ((j:Int)+1) yA yA;have V7:(j+1)*24≤140737488355328:=by omega
   have P5:=kT (hra j yA);have Sk:=aJ (t.take (j+1));rw[← P5] at Sk;have PK:(List.map az (List.take j t)).length=j:=by simp;omega
   have Uv:=fun ρ=>av ρ _ Sk;have rU:=fun ρ=>av ρ _ Pa;have rC:=fun ρ=>av ρ _ Ph;have rS:=fun ρ=>av ρ _ tS;have hexj:=hex j x hx;generalize hR:List.map az (List.take j t)=R at *;apply aO;simp[hC,Pn];refine fB ?_;simp;apply ed;apply aV;simp[hC];refine dz (PF j) hexj ?_;simp[hC,V7,e9,fc,PK];apply aV;simp[hC,wj];refine⟨sm.length-(j+1),by omega,?_⟩;refine ae.le (Le.norm [10,9,5,4,3,2] [(4,2),(1,1),(0,0)] 0 3 Ql Qk yCi yA) ?_;simp[dj,cc,ca,dR,fF,assoc,Uv,g8];refine ae.here ⟨j+1,rfl,by omega,?_⟩;simp[dY,bY,cN,ints,aF,← P5]
  ·have Qh:j=sm.length:=by omega
   subst Qh;apply aO;simp[hC];refine a7 ?_;simp;apply T.exit;simp;apply aq;simp[hC];apply T.ret;have Pd:List.take sm.length (t.map az)=t.map az:=List.take_of_length_le T9;rw[Pd];refine ae.le (Le.dp (o:=2) rfl (aJ t)) ?_;apply ae.here;have O1:t.length=sm.length:=by omega
   simp[Tryz.results146,Pd,O1]
def J147 (a b:List (List Nat))(k:Nat)(s:St):Prop:=∃ j:Nat,k=a.length-j∧j≤a.length∧a.take j=b.take j∧s=⟨[(5,I j),(1,aF b),(0,aF a)],[],0⟩
theorem Cm (a b:List (List Nat))(hl:a.length=b.length)(ha:a.length≤100000)(hr:∀ r∈a,r.length≤100000):af Tryz.prog 147 [aF a,aF b] (.bool (decide (a=b))):=by
 refine af.aK ai Tryz.func147 rfl OV (by simp[Tryz.ntmps147]) rfl fun C hC O0=>?_;rw[Tryz.ntmps147] at hC;have ta:=aJ a;have tb:=aJ b;simp only[aF];apply aq;simp[hC];apply aO;simp[hC];refine T.cond (b:=false) (by simp[ev,assoc,hl]) (T.skip ?_);simp;apply aO;simp[hC];apply T.block;refine T.aH (J147 a b) (n:=a.length) ?_ ?_
 ·refine ae.trim [5,1,0] [] 0 QJ yA ⟨0,by omega,by omega,by simp,?_⟩;simp[aF]
 ·rintro k s ⟨j,rfl,hj,Pd,rfl⟩;simp only[aF];by_cases Pn:j<a.length
  ·obtain⟨x,hx⟩:∃ x,a[j]? = some x:=⟨_,List.getElem?_eq_getElem Pn⟩;obtain⟨y,hy⟩:∃ y,b[j]? = some y:=⟨_,List.getElem?_eq_getElem yA⟩;have hjb:j<b.length:=by omega
   have Sc:=dX az hx;have hdy:=dX az hy;have PT:=kF x y (by have:=hr x (List.mem_of_getElem? hx);omega);have O3:trees [az x,az y]=true:=by simp only[trees,aD,Bool.and_self]
   have wj:=cC ((j:Int)+1) yA yA;apply aO;simp[hC,Pn];refine fB ?_;simp;apply ed;refine T.seq (T.rx ai follows [0,1,2,3,4,5,6,7,8,9] [] OV ?_);simp[hC,Pn,hjb,Sc,hdy];refine RX.call rfl rfl rfl rfl rfl O3 PT ?_;simp;by_cases QL:x=y
   ·refine T.cond (b:=false) (by simp[ev,assoc,QL]) (T.skip ?_);simp;apply aV;simp[hC,wj];refine⟨a.length-(j+1),by omega,ae.trim [5,1,0] [] 0 QJ yA ⟨j+1,rfl,by omega,?_,?_⟩⟩
    ·rw[List.take_add_one,List.take_add_one,hx,hy,Pd,QL]
    ·simp[aF]
   ·have T5:¬ a=b:=fun h=>by
     subst h;rw[hx] at hy;cases hy;exact QL rfl
    refine T.cond (b:=true) (by simp[ev,assoc,QL]) ?_;simp;apply aq;simp[hC];apply T.ret;apply ae.here;simp[Tryz.results147,T5]
  ·have Qh:j=a.length:=by omega
   have T5:a=b:=by
    rw[Qh,List.take_length,hl,List.take_length] at Pd;exact Pd
   subst Qh;apply aO;simp[hC];refine a7 ?_;simp;apply T.exit;simp;apply aq;simp[hC];apply T.ret;apply ae.here;simp[Tryz.results147,T5]
def J77 (u:Un)(m L:Nat)(k:Nat)(s:St):Prop:=∃ t:List (List Nat),k=9*(L+1)*(aj u).is.length-cL t∧z0 u (aj u) m L t∧s=⟨[(7,aF t),(4,.ax 1 0),(3,.ax 0 0),(2,I m)],dY u,2⟩
theorem Hw {u:Un}(hu:iy u){m:Nat}{xm:Mx}(hm:u.ms[m]? = some xm):af Tryz.prog 77 [df u,eQ (aj u),I m] (aF (j3 u (aj u) m (ay xm))):=by
 obtain⟨O7,VZ⟩:=ja hu;have h8:=dD xm;have Xn:=Fo hu hm;have h0:=z0.start (u:=u) (c:=aj u) (m:=m) (L:=ay xm);have Pa:=aT u;have Ph:=bJ (aj u);have O3:trees [df u,eQ (aj u),I m]=true:=by simp only[trees,tree,df,eQ,aT,bJ,Bool.and_self]
 have UB:∀ t,trees [df u,eQ (aj u),I m,aF t]=true:=fun t=>by simp only[trees,tree,df,eQ,aT,bJ,cg,Bool.and_self]
 have YM:=fun t (ht:z0 u (aj u) m (ay xm) t)=>Fi hu hm ht.wf;refine af.aK ai Tryz.func77 rfl OV (by simp[Tryz.ntmps77]) (cg _) fun C hC O0=>?_;rw[Tryz.ntmps77] at hC;generalize List.replicate (aj u).is.length (kS (ay xm))=t0 at *;simp only[df,eQ,bY,cN,ints,aF] at Pa Ph UB O3 Xn YM ⊢;apply aq;simp[hC];apply aq;simp[hC];refine dz O3 Xn ?_;simp[hC];have tT:=aJ t0;apply T.block;refine T.aH (J77 u m (ay xm)) (n:=9*(ay xm+1)*(aj u).is.length-cL t0) ?_ ?_
 ·refine ae.trim [7,4,3,2] [1,0] 2 V9 yA ⟨t0,rfl,h0,?_⟩;simp[dY,bY,cN,ints,aF]
 ·clear tT h0 Xn;clear t0;rintro k s ⟨t,rfl,h0,rfl⟩;have tT:=aJ t;obtain⟨k1,k2,k3⟩:=h0.round h8;have hr:=YM t h0;have Vn:=AA u (aj u) m (ay xm) t;have PT:=Cm t (mc u (aj u) m (ay xm) t) (by rw[h0.wf.len,Vn]) (by rw[h0.wf.len];omega) (fun r hr=>by have:=(h0.wf.row r hr).len;omega);have Ro:trees [aF t,aF (mc u (aj u) m (ay xm) t)]=true:=by simp only[trees,cg,Bool.and_self]
  have P4:=l8 _ k1.wf.row;rw[Vn] at P4;generalize mc u (aj u) m (ay xm) t=t2 at *;have tT2:=aJ t2;simp only[dY,bY,cN,ints,aF] at PT Ro ⊢;apply T.block;apply aq;simp[hC];refine dz (UB t) hr ?_;simp[hC];apply aO;simp[hC];refine dz Ro PT ?_;simp;by_cases he:t=t2
  ·refine T.cond (b:=true) (by simp[ev,assoc,he]) ?_;simp;apply aq;simp[hC];apply T.ret;apply ae.here;simp[Tryz.results77,k3 he]
  ·refine T.cond (b:=false) (by simp[ev,assoc,he]) (T.skip ?_);simp;apply aV;simp[hC];have:=k2 he;refine⟨9*(ay xm+1)*(aj u).is.length-cL t2,by omega,ae.trim [7,4,3,2] [1,0] 2 V9 yA ⟨t2,rfl,k1,?_⟩⟩;simp[dY,bY,cN,ints,aF]
end Go.Proofs.YtnecpnjdonibmaaGreat
namespace Go.Can
open Go.RowKit
section
variable {P:Program}{C:Cx}{σ:Nat→Option OB}{s:St}{a:Act}{w:World}{ops:Array Oper}{ak:List (Nat×TI)}
theorem Body.retNr {f:FuncId}{args:List CV}{H H1:List (Nat×Ob)}{n m d:Nat}{r0:CV}(l:List Nat)(hl:l.length=n)(h:Body P ak f args H n (jb r0 H1 (n+d)))(hk:HW l m=true)(hr:aX n args=true)(hH:dc n H=true) :
  Body P ak f (ca (cQ l m) args) (cj (cQ l m) H) m (jb (dR (cQ l m) r0) (cj (cQ l m) H1) (m+d)):=by
 subst hl;refine (Body.grow (DX hk) (CD hk) (fun p hp=>if_neg yA) h hr hH fun r s h=>h.2.2).ret fun r s ⟨r1,s1,h1,h2,h3⟩=>?_;obtain⟨k1,k2,k3⟩:=h1;subst h3;rw[h2,k1,k2];exact⟨rfl,rfl,rfl⟩
theorem TL.Jn (Rp:aG P ak){o:Oper}{l:List Oper}{c:Call}{g:FuncId}{args:List CV}{K:St→Prop}{r0:CV}{H H1:List (Nat×Ob)}(ns ks:List Nat)(n d:Nat)(hb:Body P ak g args H n (jb r0 H1 (n+d)))(hl:ns.length=n)(hk:HW ns s.nx=true)(hd:a6 C.nt o.dst=true)(hg:bZ ops s o=Option.some true)(ho:o.op=.call c)(Ps:bm s c=Option.some (g,ca (cQ ns s.nx) args))
  (hp:eg s.heap ks=Option.some (cj (cQ ns s.nx) H)) (ha:aX n args=true) (hH:dc n H=true) (hx:lD ks s.nx (cj (cQ ns s.nx) H1) (dx s.heap ks)=true)
  (hK:TL P C ops l (St.put ⟨s.env,cj (cQ ns s.nx) H1++dx s.heap ks,s.nx+d⟩ o.dst (dR (cQ ns s.nx) r0)) K):TL P C ops (o::l) s K:=by
 intro a w Q hr hQ;have hw:=eT hr hg;obtain⟨σ,hr⟩:=hr;unfold wpList;rw[if_pos hw];refine .inl ?_;have Po:=hb.retNr ns hl hk ha hH;have Ws:iR P g:=by
  obtain⟨fn,code,hf,P7,P2,_⟩:=Po;exact⟨fn,hf,P2,by simp[P7]⟩
 simp only[lD,Bool.and_eq_true,List.all_eq_true,Bool.or_eq_true,decide_eq_true_eq] at hx;refine oT Rp (mY.of hp) (pf.value ho Ps Ws) Po ?_ hr _ _ ?_
 ·rintro r s1 ⟨_,h1,_⟩ p ob Pk h2 h3;rw[h1] at h2;have m3:=hx.2 _ (bD _ _ _ h3);rw[dQ] at h3;rcases hx.1 _ (bD _ _ _ h2) with hm | hm
  ·rw[if_pos (by simpa using hm)] at h3;cases h3
  ·simp only at m3 hm;omega
 ·rintro r s1 v w' σ' ⟨h1,h2,h3⟩ Pp hv _;subst h1;rw[h2,h3] at Pp;rw[h2] at hv;refine hK _ w' Q ⟨σ',Pp.put ?_ hv⟩ hQ;intro t e;rw[Pp.tm];rw[e] at hd
  simpa [a6] using hd
end
section
variable {P:Program}{C:Cx}{σ:Nat→Option OB}{s:St}{a:Act}{w:World}{ops:Array Oper}{ak:List (Nat×TI)}
def mN (P:Program)(f:FuncId)(args:List CV)(r:CV):Prop:=
 iR P f∧∀ (F:Nat→Prop) (vs:List Value) (w:World),(∀ b,F b→b<w.heap.size)→bW w F args vs →
  Calls P f vs.toArray w fun e w'=>∃ v,e=.returned v∧Below w.heap.size w w'∧cq w' (fun b=>b<w.heap.size) r v
theorem mN.Kv (Rp:aG P ak){f:FuncId}{args:List CV}{n:Nat}{ob:Ob}(h:Body P ak f args [] 0 (jb (.bl 0 0 n) [(0,ob)] 1))(hs:iW ob.cells=true)(Pw:trees ob.cells=true):mN P f args (.aA ob.cells n):=by
 obtain⟨fn,c,hf,hb,hn,ha,h⟩:=h;refine⟨⟨fn,hf,hn,by simp[hb]⟩,fun F vs w hF hv=>?_⟩;have Qj:=bW.length _ _ hv;let C:Cx:=⟨w,F,fun _=>False,hF,fn.ntmps,fun _=>none,0⟩
 have h0:aM C (fun _=>none) ⟨(enter args).env,[],0⟩ { tmps:=vs.toArray++Array.replicate (fn.ntmps-vs.toArray.size) undef,defers:=[] } w:=by
  refine⟨rfl,by simp[C];omega,rfl,rfl,rfl,Nat.le_refl _,fun _ _ _=>rfl,?_,?_,?_,fun _ _=>rfl,fun _ h=>absurd h (Nat.not_lt_zero _),Nat.zero_le _,fun _ _ _ _ h=>by cases h⟩
  ·intro t c hc;obtain⟨_,h2⟩:=fw args 0 t c hc;obtain⟨v,h3,h4⟩:=bW.get _ _ hv t c (by simpa using h2);refine⟨v,?_,VR.cz _ _ (cq.bk (cw.same fun b hb=>?_).1 c v h4)⟩
   ·have O1:=(List.getElem?_eq_some_iff.1 h3).1;simp only;rw[Array.getElem?_append_left (by simpa using O1)]
    simpa using h3
   ·rcases hb with hF | ⟨o,ob,ho,_⟩
    ·exact hF
    ·simp[assoc] at ho
  ·intro o ob ho;simp[assoc] at ho
  ·intro o o' ob Pk b ho;simp[assoc] at ho
 refine calls_of_wp hf hb (wp_mono (h C rfl rfl _ _ ⟨_,h0⟩) fun e a' w' ⟨s',q,σ,hr⟩=>?_);have fin:ae C (fun s'=>∃ r,bG ak fn s'=some r∧jb (.bl 0 0 n) [(0,ob)] 1 r s') s'→a'.defers=[]∧∃ v,(results fn a'.tmps).run P w'=.ok v w'∧(∃ Sr,Ending.returned v=.returned Sr∧Below w.heap.size w w'∧cq w' (fun b=>b<w.heap.size) (.aA ob.cells n) Sr):=fun⟨s2,⟨r,hq,PQ,Px,TR⟩,hle⟩=>by
  subst PQ;obtain⟨σ2,hr⟩:=hle _ _ ⟨σ,hr⟩;obtain⟨v,k1,k2⟩:=gW (P:=P) Rp hr hq;refine⟨hr.nk,v,k1,v,rfl,⟨hr.os,hr.tape,hr.output,hr.size,fun k hk=>hr.frame k hk (fun hx=>hx)⟩,?_⟩;obtain⟨B,hB,O9,PW,h1,h5⟩:=hr.obj 0 ob (by rw[Px];simp[assoc]);simp only[VR] at k2;obtain⟨B',Q3,k2⟩:=k2;rw[hB] at Q3;cases Q3;simp only[cq];split at k2
  ·rename_i VN;obtain⟨rfl,_,rfl⟩:=k2;exact⟨none,0,rfl,Nat.le_refl _,Nat.zero_le _,.inl ⟨rfl,PW VN⟩⟩
  ·rename_i b V3;obtain⟨cap,rfl,c1,c2,_⟩:=k2;obtain⟨cur,m1,m2,m3,m4,m5,m6⟩:=h5 b V3;refine⟨_,cap,rfl,c1,c2,.inr ⟨_,rfl,?_⟩⟩;have VN:¬ b<w.heap.size:=by
    rcases hr.new 0 B b (Nat.zero_le _) hB V3 with h6 | h6
    ·exact h6.elim
    ·exact Nat.not_lt.2 h6
   exact gg _ _ _ (bW.scalar _ _ hs (aS.ec _ _ Pw m6)) h1 VN fun j u hu=>by
    rw[add_lit,Nat.zero_add,cell_of_row w' b j cur _ _ m1];rw[List.getElem?_take] at hu;split at hu
    ·simpa using hu
    ·cases hu
 cases e with
 | normal=>exact fin q
 | ret=>exact fin q
 | exit _=>exact q.elim
 | goto _=>exact q.elim
 | panic _=>exact q.elim
 | outgrown=>exact q.elim
theorem mN.pure {f:FuncId}{args:List CV}{r:CV}(h:mN P f args r):af P f args r:=
 ⟨h.1,fun F vs w hF hv=>(h.2 F vs w hF hv).mono fun _ _ ⟨v,e,hb,hr⟩=>⟨v,e,hb,cq.bk (cw.same fun b hb=>hF b hb).1 _ _ hr⟩⟩
theorem TL.callL {o:Oper}{l:List Oper}{c:Call}{g:FuncId}{cs ds:List CV}{r:CV}{K:St→Prop}(hd:a6 C.nt o.dst=true)(hg:o.guard=none)(ho:o.op=.call c)(Ps:bm s c=Option.some (g,cs))(hl:nV s cs=Option.some ds)(hp:mN P g ds r)(h:TL P C ops l (s.put o.dst r) K):TL P C ops (o::l) s K:=by
 intro a w Q hr hQ;obtain⟨σ,hr⟩:=hr;unfold wpList;rw[if_pos (by simp[Region.wanted,hg])];refine .inl ?_;obtain⟨vs,Th,Pt⟩:=pf.value ho Ps hp.1 σ a w hr;unfold Oper.wp;rw[Th];refine (hp.2 C.F _ w (fun b hb=>Nat.lt_of_lt_of_le (C.hF b hb) hr.size) (vA hr _ _ _ Pt hl)).mono fun e w' ⟨v,he,hb,hv⟩=>?_;subst he;have Pp:=hr.below hb;refine h _ _ Q ⟨σ,Pp.put ?_ (VR.cz _ _ (cq.bk (cw.same fun b hb=>wF hr b hb).1 _ _ hv))⟩ hQ;intro t e;rw[Pp.tm];rw[e] at hd
 simpa [a6] using hd
end
end Go.Can
namespace Go.Proofs.YtnecpnjdonibmaaGreat
open Go.Can Go.aP
set_option maxRecDepth 100000 in
theorem xI {u:Un}(hu:iy u){i:Nat}{x:Is}(hx:(aj u).is[i]? = some x){m:Nat}{xm:Mx}(hm:u.ms[m]? = some xm){sm:List (List Nat)}(hs:qb (ay xm) (aj u).is.length sm):af Tryz.prog 232 [df u,eQ (aj u),I m,aF sm,I i] (aF (BX u m i (ay xm) x sm)):=by
 have Pz:=Ki hu hx hm hs;have OX:=(List.getElem?_eq_some_iff.1 hx).1;have Sd:=aN (f:=cO) (n:=2) fa hx;have O3:trees [.agg (na u x m i sm)]=true:=by simp only[trees,tree,uK,Bool.and_self]
 have Pa:=aT u;have Ph:=bJ (aj u);have To:=bT x;have Z4:trees [aF sm]=true:=by simp only[trees,cg,Bool.and_self]
 have tI:trees [I m]=true:=rfl;have tI2:trees [I i]=true:=rfl;refine af.aK ai Tryz.func232 rfl OV (by simp[Tryz.ntmps232]) (cg _) fun C hC O0=>?_;rw[Tryz.ntmps232] at hC;generalize BX u m i (ay xm) x sm=t at *;simp only[na,pB,df,eQ,bY,cN,cO,ints,aF,List.cons_append,List.nil_append] at Pa Ph To Z4 Pz O3 ⊢;apply aq;simp[hC];apply aq;simp[hC,OX,Sd,cO];apply aq;simp[hC];refine T.le (Le.dp (o:=0) rfl Pa) ?_;simp[dB];refine T.le (Le.dp (o:=1) rfl Ph) ?_;simp[dB];refine T.le (Le.dp (o:=2) rfl tI) ?_;simp[dB];refine T.le (Le.dp (o:=3) rfl Z4) ?_;simp[dB];refine T.le (Le.dp (o:=4) rfl tI2) ?_;simp[dB];refine T.le (Le.dp (o:=5) rfl To) ?_;simp[dB];apply aq;simp[hC];refine dz O3 Pz ?_;simp[hC];apply T.ret;apply ae.here;simp[Tryz.results232]
def J233b (a b:List Nat)(m:Nat)(s:St):Prop:=∃ i:Nat,m=a.length-i∧i≤a.length∧s=⟨[(12,I i),(11,I a.length),(5,.bl 0 0 a.length),(0,az a),(1,az b)],[(0,⟨3,1,gq (iU a b) i⟩)],1⟩
theorem MM (a b:List Nat)(la:a.length≤1000)(lb:b.length=a.length)(ha:∀ s∈a,s<2 ^ 63)(hb:∀ s∈b,s<2 ^ 63):Body Tryz.prog ak 233 [az a,az b] [] 0 (jb (.bl 0 0 a.length) [(0,a8 (iU a b))] 1):=by
 refine Body.jA Tryz.func233 rfl OV (by simp[Tryz.ntmps233]) fun C hC O0=>?_;rw[Tryz.ntmps233] at hC;have ta:=aC a;have tb:=aC b;have bd:8*(a.length:Int)≤281474976710656∧(a.length:Int)≤9223372036854775807:=by omega
 simp only[az];apply aq;simp[hC];apply aq;simp[hC,bd];apply aO;simp[hC];apply T.block;refine T.aH (J233b a b) (n:=a.length) ?_ ?_
 ·refine ae.trim [12,11,5,0,1] [0] 1 QJ yA ⟨0,by omega,by omega,?_⟩;rw[gV,eG lb];simp[az]
 ·rintro n s ⟨i,rfl,hi,rfl⟩;have PO:(gq (iU a b) i).length=a.length:=by rw[jo (by rw[eG lb];exact hi),eG lb]
  have R1:=fb (iU a b) i;simp only[az];by_cases OX:i<a.length
  ·obtain⟨x,hx⟩:∃ x,a[i]? = some x:=⟨_,List.getElem?_eq_getElem OX⟩;have Ry:i<b.length:=by omega
   obtain⟨y,hy⟩:∃ y,b[i]? = some y:=⟨_,List.getElem?_eq_getElem Ry⟩;have OZ:=cZ hx;have PY:=cZ hy;have P8:=Ca hx hy;have wi:=cC ((i:Int)+1) yA yA;have Tw:=CB (ha x (List.mem_of_getElem? hx)) (hb y (List.mem_of_getElem? hy));have R9:i+1≤a.length:=OX;apply aq;simp[hC,OX];refine T.seq (T.cond (b:=true) rfl (T.skip ?_));simp;apply ed;apply aq;simp[hC];refine T.rx ai follows [0,1,2,3,4,5,6,7,8,9,10,11,12] [] OV ?_;simp[hC,OX,Ry,OZ,PY,Tw,R9,PO];apply aV;simp[hC,wi];refine⟨a.length-(i+1),by omega,ae.trim [12,11,5,0,1] [0] 1 WD yA ⟨i+1,rfl,by omega,?_⟩⟩;rw[← jn P8];simp[az]
  ·have O6:i=a.length:=by omega
   subst O6;have Q2:=jq (iU a b);rw[eG lb] at Q2;have tF:=aC (iU a b);rw[Q2] at PO ⊢;apply aq;simp[hC];refine T.seq (T.cond (b:=false) rfl (T.exit ?_));simp;apply aq;simp[hC];apply T.ret;refine ae.trim [4] [0] 1 (by simp[-List.all_eq_true,ah tF]) yA ?_;simp[Tryz.results233,a8,jb]
end Go.Proofs.YtnecpnjdonibmaaGreat
