/- The program's exit and empty, as bodies. -/
import Derived.Test.YtnecpnjdonibmaaGreatZ42
namespace Go.Proofs.YtnecpnjdonibmaaGreat
open Go.Can Go.aP
def J177 (u:Un)(x:Is)(n i L:Nat)(t:List (List Nat))(k:Nat)(s:St):Prop:=∃ j:Nat,k=n-j∧j≤n∧s=⟨[(29,I j),(28,I n),(27,aF t),(11,.bl 2 0 (L+1)),(6,.ax 1 0),(5,.ax 0 0),(4,I i)],(2,a8 (ux u x L t j))::dY u,3⟩
theorem Kl {u:Un}(hu:iy u){i:Nat}{x:Is}(hx:(aj u).is[i]? = some x){m:Nat}{xm:Mx}(hm:u.ms[m]? = some xm){sm:List (List Nat)}(hs:qb (ay xm) (aj u).is.length sm):Body Tryz.prog ak 177 [df u,eQ (aj u),I m,aF sm,I i] [] 0 (jb (.bl 0 0 (ay xm+1)) [(0,a8 (tL u (aj u) m (ay xm) sm i))] 1):=by
 have Pj:=xI hu hx hm hs;have WM:=Iu u m i (ay xm) x sm;have Pq:=Em (u:=u) (m:=m) (L:=ay xm) hx sm;have hv:=s7 hu hx;have h8:=dD xm;have PV:=uj xm;obtain⟨pq,PA,OY⟩:=jO hv;have O7:=fo hu x;have OX:=(List.getElem?_eq_some_iff.1 hx).1;have P3:=(List.getElem?_eq_some_iff.1 hm).1;have PR:=(List.getElem?_eq_some_iff.1 PA).1;have Sc:=aN (f:=eJ) (n:=3) nU hm;have Sd:=aN (f:=cO) (n:=2) fa hx;have OZ:=bQ (f:=lF) (n:=5) eZ PA 4 yA;have t1:trees [.agg (eJ xm)]=true:=rfl;have SQ:=cC ((ay xm:Int)+1) yA yA;have T7:(0≤(ay xm:Int)+1∧8*((ay xm:Int)+1)≤281474976710656∧(ay xm:Int)+1≤9223372036854775807):=by omega
 have O3:trees [df u,eQ (aj u),I m,aF sm,I i]=true:=by simp only[trees,tree,df,eQ,aT,bJ,cg,Bool.and_self]
 have Pa:=aT u;have Ph:=bJ (aj u);have tZ:trees (List.replicate (ay xm+1) (I 0))=true:=fU _;refine Body.jA Tryz.func177 rfl OV (by simp[Tryz.ntmps177]) fun C hC O0=>?_;rw[Tryz.ntmps177] at hC;simp only[eJ] at PV t1;change ux u x (ay xm) (BX u m i (ay xm) x sm) (au u x).length=_ at Pq;generalize BX u m i (ay xm) x sm=t at *;rw[OY] at O7;have PK:t.length=pq.code.length:=by rw[WM.len,OY]
 have tT:=aJ t;simp only[df,eQ,bY,cN,ints,aF] at O3 Pa Ph Pj ⊢;apply aq;simp[hC];apply aq;simp[hC,P3,Sc,eJ];refine dz t1 PV ?_;simp[hC,SQ,T7];apply aO;simp[hC];refine dz O3 Pj ?_;simp[hC];apply T.block;refine T.aH (J177 u x pq.code.length i (ay xm) t) (n:=pq.code.length) ?_ ?_
 ·refine ae.trim [29,28,27,11,6,5,4] [2,1,0] 3 yCk yA ⟨0,by omega,by omega,?_⟩;simp[dY,bY,cN,ints,aF,ux,a8,kS,PK]
 ·rintro n s ⟨j,rfl,hj,rfl⟩;simp only[dY,bY,cN,ints,aF,a8];have hqw:=vL (u:=u) (x:=x) WM;by_cases Pn:j<pq.code.length
  ·obtain⟨z,PZ⟩:∃ z,pq.code[j]? = some z:=⟨_,List.getElem?_eq_getElem Pn⟩;have hz:(au u x)[j]? = some z:=by rw[OY];exact PZ
   have Qy:=aN (f:=dt) (n:=12) eK PZ;obtain⟨xc,Qm,QB⟩:=iK z;rw[Qm] at Qy;have O8:=DU z;obtain⟨rj,YO,wj⟩:=WM.get (p:=j) (by rw[OY];exact Pn);have hdt:=dX az YO;have hgj:t.getD j []=rj:=by rw[List.getD_eq_getElem?_getD,YO];rfl
   have hw:=hqw j (by rw[OY];exact hj);have bq:ux u x (ay xm) t (j+1)=if AD z=true then iU (ux u x (ay xm) t j) rj else ux u x (ay xm) t j:=by
    rw[ux,hz,hgj];simp
   have Yi:=cC ((j:Int)+1) yA yA;generalize ux u x (ay xm) t j=q at *;have Sw:=MM q rj (by rw[hw.len];omega) (by rw[hw.len,wj.len]) (fx h8 hw) (fx h8 wj);rw[hw.len] at Sw;have tq:=aC q;have tq2:=aC (iU q rj);apply aq;simp[hC,PK,Pn];refine T.seq (T.cond (b:=true) rfl (T.skip ?_));simp;apply ed;apply aq;simp[hC,Pn,hdt];refine T.seq (T.rx ai follows [0,1,2,3,4,5,6,7,8,9,10,11,12,13,14,15] [] OV ?_);simp[hC,OX,Sd,cO,PR,OZ,lF,Pn,Qy]
   cases hr:AD z with
   | true=>
    rw[hr] at O8 bq;refine T.cond (b:=true) V8 ?_;simp;refine T.le (Le.trim [29,28,27,13,11,6,5,4] [2,1,0] 3 (by simp[-List.all_eq_true,ah Pa,ah Ph,ah tq,aW _ _ (aD _)]) yA) ?_;simp;refine T.le (Le.dp (o:=2) rfl tq) ?_;have Pd:List.take (ay xm+1) (q.map fun n:Nat=>I n)=q.map fun n:Nat=>I n:=List.take_of_length_le (by rw[List.length_map,hw.len];omega);have Tu:CV.aA (q.map fun n:Nat=>I n) (ay xm+1)=az q:=by simp only[az];rw[hw.len]
    simp[dB,Pd,Tu];apply aV;simp[hC];have rq2:=fun ρ=>av ρ _ tq2;refine TL.Jn ai [] [] 0 1 (Sw) rfl (by rfl) O5 rfl rfl Wb Wb yCp Wb Wb (TL.go' ai ?_);simp[hC,cj,cc,dR,cQ,a8,rq2];apply aV;simp[hC,Yi];refine⟨pq.code.length-(j+1),by omega,?_⟩;have rT:=fun ρ=>av ρ _ tT;have rU:=fun ρ=>av ρ _ Pa;have rC:=fun ρ=>av ρ _ Ph;refine ae.le (Le.norm [29,28,27,11,6,5,4] [(3,2),(1,1),(0,0)] 0 3 Ql Qk (by simp[dr,ss,pw,tree,assoc,-List.all_eq_true,-List.all_flatMap,aE tq2,aE Pa,aE Ph]) yA) ?_;simp[dj,cc,ca,dR,fF,assoc,rq2,g8];refine ae.here ⟨j+1,rfl,by omega,?_⟩;rw[bq];simp[dY,bY,cN,ints,aF,PK,a8]
   | false=>
    rw[hr] at O8 bq;refine T.cond (b:=false) V8 (T.skip ?_);simp;apply aV;simp[hC,Yi];refine⟨pq.code.length-(j+1),by omega,ae.trim [29,28,27,11,6,5,4] [2,1,0] 3 (by simp[-List.all_eq_true,ah Pa,ah Ph,ah tq]) yA ⟨j+1,rfl,by omega,?_⟩⟩;rw[bq];simp[dY,bY,cN,ints,aF,PK,a8]
  ·have Qh:j=pq.code.length:=by omega
   subst Qh;apply aq;simp[hC,PK];refine T.seq (T.cond (b:=false) rfl (T.exit ?_));simp;apply aq;simp[hC];apply T.ret;rw[OY] at Pq;rw[Pq];have tE:=aC (tL u (aj u) m (ay xm) sm i);have rE:=fun ρ=>av ρ _ tE;refine ae.le (Le.norm [10] [(2,0)] 0 1 Ql Qk (by simp[dr,ss,pw,assoc,-List.all_eq_true,-List.all_flatMap,aE tE]) yA) ?_;simp[dj,cc,dR,fF,assoc,rE];apply ae.here;simp[jb]
def J178 (a b:List Nat)(k:Nat)(s:St):Prop:=∃ j:Nat,k=a.length-j∧j≤a.length∧a.take j=b.take j∧s=⟨[(13,I j),(12,I a.length),(1,az b),(0,az a)],[],0⟩
theorem Fh (a b:List Nat)(hl:a.length=b.length)(ha:a.length≤100000):af Tryz.prog 178 [az a,az b] (.bool (decide (a=b))):=by
 refine af.aK ai Tryz.func178 rfl OV (by simp[Tryz.ntmps178]) rfl fun C hC O0=>?_;rw[Tryz.ntmps178] at hC;have ta:=aC a;have tb:=aC b;simp only[az];apply aq;simp[hC];apply aO;simp[hC];refine T.cond (b:=false) (by simp[ev,assoc,hl]) (T.skip ?_);simp;apply aO;simp[hC];apply T.block;refine T.aH (J178 a b) (n:=a.length) ?_ ?_
 ·refine ae.trim [13,12,1,0] [] 0 QJ yA ⟨0,by omega,by omega,by simp,?_⟩;simp[az]
 ·rintro k s ⟨j,rfl,hj,Pd,rfl⟩;simp only[az];by_cases Pn:j<a.length
  ·obtain⟨x,hx⟩:∃ x,a[j]? = some x:=⟨_,List.getElem?_eq_getElem Pn⟩;obtain⟨y,hy⟩:∃ y,b[j]? = some y:=⟨_,List.getElem?_eq_getElem yA⟩;have hjb:j<b.length:=by omega
   have Sc:=cZ hx;have hdy:=cZ hy;have wj:=cC ((j:Int)+1) yA yA;apply aq;simp[hC,Pn];refine T.seq (T.cond (b:=true) rfl (T.skip ?_));simp;apply ed;apply aq;simp[hC];refine T.seq (T.rx ai follows [0,1,2,3,4,5,6,7,8] [] OV ?_);simp[hC,Pn,hjb,Sc,hdy];by_cases QL:x=y
   ·refine T.cond (b:=false) (by simp[ev,assoc,QL]) (T.skip ?_);simp;apply aV;simp[hC,wj];refine⟨a.length-(j+1),by omega,ae.trim [13,12,1,0] [] 0 QJ yA ⟨j+1,rfl,by omega,?_,?_⟩⟩
    ·rw[List.take_add_one,List.take_add_one,hx,hy,Pd,QL]
    ·simp[az]
   ·have T5:¬ a=b:=fun h=>by
     subst h;rw[hx] at hy;cases hy;exact QL rfl
    have hxyi:¬ (x:Int)=(y:Int):=fun h=>QL (Int.ofNat.inj h);refine T.cond (b:=true) (by simp[ev,assoc,hxyi]) ?_;simp;apply aq;simp[hC];apply T.ret;apply ae.here;simp[Tryz.results178,T5]
  ·have Qh:j=a.length:=by omega
   have T5:a=b:=by
    rw[Qh,List.take_length,hl,List.take_length] at Pd;exact Pd
   subst Qh;apply aq;simp[hC];refine T.seq (T.cond (b:=false) rfl (T.exit ?_));simp;apply aq;simp[hC];apply T.ret;apply ae.here;simp[Tryz.results178,T5]
def J176 (u:Un)(m n L:Nat)(k:Nat)(s:St):Prop:=∃ j:Nat,k=n-j∧j≤n∧s=⟨[(15,I j),(14,I n),(7,.bl 2 0 n),(4,.ax 1 0),(3,.ax 0 0),(2,I m)],(2,⟨22,1,List.replicate j (az (kS L))++List.replicate (n-j) .aa⟩)::dY u,3⟩
theorem HQ {u:Un}(hu:iy u){m:Nat}{xm:Mx}(hm:u.ms[m]? = some xm):Body Tryz.prog ak 176 [df u,eQ (aj u),I m] [] 0 (jb (.bl 0 0 (aj u).is.length) [(0,⟨22,1,(List.replicate (aj u).is.length (kS (ay xm))).map az⟩)] 1):=by
 have h8:=dD xm;have PV:=uj xm;obtain⟨O7,VZ⟩:=ja hu;have P3:=(List.getElem?_eq_some_iff.1 hm).1;have Sc:=aN (f:=eJ) (n:=3) nU hm;have t1:trees [.agg (eJ xm)]=true:=rfl;have SQ:=cC ((ay xm:Int)+1) yA yA;have T7:(0≤(ay xm:Int)+1∧8*((ay xm:Int)+1)≤281474976710656∧(ay xm:Int)+1≤9223372036854775807):=by omega
 have Pa:=aT u;have Ph:=bJ (aj u);have tZ:trees (List.replicate (ay xm+1) (I 0))=true:=fU _;refine Body.jA Tryz.func176 rfl OV (by simp[Tryz.ntmps176]) fun C hC O0=>?_;rw[Tryz.ntmps176] at hC;simp only[eJ] at PV t1;generalize hn:(aj u).is.length=n at *;have bd:24*(n:Int)≤281474976710656∧(n:Int)≤9223372036854775807:=by omega
 have R1:=fun j=>bC (List.replicate j (az (kS (ay xm)))) (List.replicate (n-j) CV.aa);simp only[df,eQ,bY,cN,ints] at Pa Ph ⊢;rw[hn] at Ph ⊢;apply aq;simp[hC];apply aq;simp[hC,bd];apply aO;simp[hC];apply T.block;refine T.aH (J176 u m n (ay xm)) (n:=n) ?_ ?_
 ·refine ae.trim [15,14,7,4,3,2] [2,1,0] 3 V9 yA ⟨0,by omega,by omega,?_⟩;simp[dY,bY,cN,ints,hn]
 ·rintro k s ⟨j,rfl,hj,rfl⟩;simp only[dY,bY,cN,ints,hn];by_cases Pn:j<n
  ·have Rk:1≤n-j:=by omega
   have wj:=cC ((j:Int)+1) yA yA;apply aq;simp[hC,Pn];refine T.seq (T.cond (b:=true) rfl (T.skip ?_));simp;apply ed;apply aq;simp[hC];apply aV;simp[hC,P3,Sc,eJ];refine TL.call O5 rfl rfl (bN.of rfl t1 PV) (TL.some ai 2 ?_);simp[hC,SQ,T7];refine TL.le (Le.dp (o:=3) rfl tZ) ?_;simp[dB];rw[nS];refine TL.go' ai ?_;simp[hC,Pn,Rk,e9,fc];apply aV;simp[hC,wj];rw[y8 _ _ Pn];have tF:=R1 (j+1);rw[dV (aD _),dV rfl] at tF;refine⟨n-(j+1),by omega,?_⟩;refine ae.trim [15,14,7,4,3,2] [2,1,0] 3 (by simp[-List.all_eq_true,ah Pa,ah Ph,ah tF]) yA ⟨j+1,rfl,by omega,?_⟩;simp[dY,bY,cN,ints,hn]
  ·have Qh:j=n:=by omega
   subst Qh;apply aq;simp[hC];refine T.seq (T.cond (b:=false) rfl (T.exit ?_));simp;apply aq;simp[hC];apply T.ret;have TJ:=dV (aD (kS (ay xm))) j;have rR:=fun ρ=>av ρ _ TJ;refine ae.le (Le.norm [6] [(2,0)] 0 1 Ql Qk (by simp[dr,ss,pw,assoc,-List.all_eq_true,-List.all_flatMap,aE TJ]) yA) ?_;simp[dj,cc,dR,fF,assoc,rR];apply ae.here;simp[jb]
theorem Aw:∀ l:List Nat,iW (l.map fun n:Nat=>I n)=true
 | []=>rfl
 | n::l=>by
  have:=Aw l;simp only[List.map_cons,iW,this,Bool.and_true];rfl
def qL (u:Un)(m:Nat):List (Nat×CV):=[(7,.bl 2 0 (aj u).is.length),(4,.ax 1 0),(3,.ax 0 0),(2,I m)]
def qD (u:Un)(t:List (List Nat)):List (Nat×Ob):=(2,⟨22,1,t.map az⟩)::dY u
def J112a (u:Un)(m L:Nat)(k:Nat)(s:St):Prop:=∃ (t:List (List Nat)) (ag:Bool),k=(9*(L+1)*(aj u).is.length-cL t)+(if ag=true then 1 else 0)∧z0 u (aj u) m L t∧(ag=false→t=j3 u (aj u) m L)∧s=⟨(8,.bool ag)::qL u m,qD u t,3⟩
def J112b (u:Un)(m L:Nat)(t0:List (List Nat))(k:Nat)(s:St):Prop:=∃ j:Nat,k=(aj u).is.length-j∧j≤(aj u).is.length∧s=⟨(9,I (((aj u).is.length:Int)-1-(j:Int)))::(8,.bool (wT u (aj u) m L t0 j).2)::qL u m,qD u (wT u (aj u) m L t0 j).1,3⟩
set_option maxHeartbeats 1000000 in
theorem MO {u:Un}(hu:iy u){m:Nat}{xm:Mx}(hm:u.ms[m]? = some xm):af Tryz.prog 112 [df u,eQ (aj u),I m] (aF (j3 u (aj u) m (ay xm))):=by
 obtain⟨O7,VZ⟩:=ja hu;have h8:=dD xm;have Xn:=HQ hu hm;have h0:=z0.start (u:=u) (c:=aj u) (m:=m) (L:=ay xm);have Pa:=aT u;have Ph:=bJ (aj u);have Zu:=fun (t:List (List Nat)) (ht:z0 u (aj u) m (ay xm) t) (i:Nat) (x:Is) (hx:(aj u).is[i]? = some x)=>mN.Kv ai (Kl hu hx hm ht.wf) (Aw _) (aC _);refine af.aK ai Tryz.func112 rfl OV (by simp[Tryz.ntmps112]) (cg _) fun C hC O0=>?_;rw[Tryz.ntmps112] at hC;have hB0:cL (List.replicate (aj u).is.length (kS (ay xm)))=cL (List.replicate (aj u).is.length (kS (ay xm))):=rfl;generalize List.replicate (aj u).is.length (kS (ay xm))=t0 at *;simp only[df,eQ,bY,cN,ints,aF] at Pa Ph Xn Zu ⊢;have tT:=aJ t0;have rT:=fun ρ=>av ρ _ tT;apply aq;simp[hC];apply aq;simp[hC];refine TL.Jn ai [] [] 0 1 (Xn) rfl (by rfl) O5 rfl rfl Wb Wb yCp Wb Wb (TL.go' ai ?_);simp[hC,cj,cc,dR,cQ,rT];apply aO;simp[hC];apply T.block;refine T.aH (J112a u m (ay xm)) (n:=(9*(ay xm+1)*(aj u).is.length-cL t0)+1) ?_ ?_
 ·refine ae.trim [8,7,4,3,2] [2,1,0] 3 (by simp[-List.all_eq_true,ah Pa,ah Ph,ah tT]) yA ⟨t0,true,by simp,h0,(fun h=>by cases h),?_⟩;simp[qL,qD,dY,bY,cN,ints]
 ·clear tT rT h0 Xn hB0;clear t0;rintro k s ⟨t0,ag,rfl,h0,P9,rfl⟩;have tT:=aJ t0;have PK:=h0.wf.len;simp only[qL,qD,dY,bY,cN,ints]
  cases ag with
  | false=>
   have Pq:=P9 rfl;apply aO;simp[hC];refine a7 ?_;simp;apply T.exit;simp;apply aq;simp[hC];apply T.ret;refine ae.le (Le.dp (o:=2) rfl tT) ?_;apply ae.here;have Pd:List.take (aj u).is.length (t0.map az)=t0.map az:=List.take_of_length_le T9;rw[← Pq];simp[Tryz.results112,Pd,PK]
  | true=>
   apply aO;simp[hC];refine fB ?_;simp;apply T.block;have wn:=cC (((aj u).is.length:Int)-1) yA yA;apply aq;simp[hC];apply aq;simp[hC,wn];apply T.block;refine T.aH (J112b u m (ay xm) t0) (n:=(aj u).is.length) ?_ ?_
   ·refine ae.trim [9,8,7,4,3,2] [2,1,0] 3 (by simp[-List.all_eq_true,ah Pa,ah Ph,ah tT]) yA ⟨0,by omega,by omega,?_⟩;simp[qL,qD,dY,bY,cN,ints,wT]
   ·rintro k s ⟨j,rfl,hj,rfl⟩;simp only[qL,qD,dY,bY,cN,ints];obtain⟨hI,_⟩:=CE h8 h0 j hj;by_cases Pn:j<(aj u).is.length
    ·obtain⟨i,hi⟩:∃ i:Nat,(aj u).is.length-1-j=i:=⟨_,rfl⟩;have hii:((aj u).is.length:Int)-1-(j:Int)=(i:Int):=by omega
     have OX:i<(aj u).is.length:=by omega
     have Qq:i+1≤(aj u).is.length:=OX;obtain⟨x,hx⟩:∃ x,(aj u).is[i]? = some x:=⟨_,List.getElem?_eq_getElem OX⟩;have bq:wT u (aj u) m (ay xm) t0 (j+1)=if (wT u (aj u) m (ay xm) t0 j).1.getD i []=tL u (aj u) m (ay xm) (wT u (aj u) m (ay xm) t0 j).1 i then wT u (aj u) m (ay xm) t0 j else ((wT u (aj u) m (ay xm) t0 j).1.set i (tL u (aj u) m (ay xm) (wT u (aj u) m (ay xm) t0 j).1 i),true):=by
      rw[wT,hi]
     generalize hS:wT u (aj u) m (ay xm) t0 j=S at *;have hex:=Zu S.1 hI.A i x hx;have hew:=Nn u (aj u) m (ay xm) S.1 i;simp only[a8] at hex;rw[← hew.len] at hex;change mN _ _ _ (az (tL u (aj u) m (ay xm) S.1 i)) at hex;generalize tL u (aj u) m (ay xm) S.1 i=e at *;have Vx:=hI.A.wf.len;obtain⟨ri,Vo,wri⟩:=hI.A.wf.get (p:=i) OX;have SU:S.1.getD i []=ri:=by rw[List.getD_eq_getElem?_getD,Vo];rfl
     rw[SU] at bq;have tS:=aJ S.1;have WG:=iA tS;have Pd:List.take (aj u).is.length (S.1.map az)=S.1.map az:=List.take_of_length_le T9;have heq:=Fh e ri (by rw[hew.len,wri.len]) (by rw[hew.len];omega);have O3:trees [az e,az ri]=true:=by simp only[trees,aD,Bool.and_self]
     rw[hii];have wi:=cC ((i:Int)-1) yA yA;have O6:(i:Int)-1=((aj u).is.length:Int)-1-((j+1:Nat):Int):=by omega
     apply aO;simp[hC];refine T.cond (b:=true) RD (T.skip ?_);simp;apply ed;apply aq;simp[hC];refine TL.callL O5 rfl rfl rfl (by simp[nV,AZ,assoc,Pd,Vx,aD]) hex (TL.go' ai ?_);simp[hC];apply aq;simp[hC,OX,Vo];refine dz O3 heq ?_;simp[hC];by_cases he:e=ri
     ·rw[if_pos he.symm] at bq;refine T.cond (b:=false) (by simp[ev,assoc,he]) (T.skip ?_);simp;apply aV;simp[hC,wi];refine⟨(aj u).is.length-(j+1),by omega,ae.trim [9,8,7,4,3,2] [2,1,0] 3 (by simp[-List.all_eq_true,ah Pa,ah Ph,ah tS]) yA ⟨j+1,rfl,by omega,?_⟩⟩;rw[bq,← O6];simp[qL,qD,dY,bY,cN,ints]
     ·rw[if_neg (fun h=>he h.symm)] at bq;refine T.cond (b:=true) (by simp[ev,assoc,he]) ?_;simp;apply aV;simp[hC,OX,Qq,e9,fc,Vx];apply aV;simp[hC,wi];rw[yQ _ (show i<S.1.length by omega)];generalize S.1.set i e=t4 at *;have Z8:=aJ t4;refine⟨(aj u).is.length-(j+1),by omega,ae.trim [9,8,7,4,3,2] [2,1,0] 3 (by simp[-List.all_eq_true,ah Pa,ah Ph,ah Z8]) yA ⟨j+1,rfl,by omega,?_⟩⟩;rw[bq,← O6];simp[qL,qD,dY,bY,cN,ints]
    ·have Qh:j=(aj u).is.length:=by omega
     subst Qh;have Wh:=Ky h8 h0;generalize wT u (aj u) m (ay xm) t0 (aj u).is.length=S at *;have tS:=aJ S.1;have hm1:((aj u).is.length:Int)-1-((aj u).is.length:Int)=-1:=by omega
     rw[hm1];apply aO;simp[hC];refine T.cond (b:=false) RD ?_;simp;apply T.exit;simp;have Vx:=hI.A.wf.len;have P4:=l8 S.1 hI.A.wf.row;rw[Vx] at P4;have Wu:=hI.le;refine⟨(9*(ay xm+1)*(aj u).is.length-cL S.1)+(if S.2=true then 1 else 0),?_,ae.trim [8,7,4,3,2] [2,1,0] 3 (by simp[-List.all_eq_true,ah Pa,ah Ph,ah tS]) yA ⟨S.1,S.2,rfl,hI.A,fun h=>?_,?_⟩⟩
     ·cases h2:S.2 with
      | true=>have:=hI.lt h2;simp;omega
      | false=>simp;omega
     ·rw[hI.same h,Wh h]
     ·simp[qL,qD,dY,bY,cN,ints]
end Go.Proofs.YtnecpnjdonibmaaGreat
namespace Go.aP
open Go.Can
theorem EV (l:List Nat)(n:Nat):(gh l n).length≤l.length+1:=by
 unfold gh;split
 ·omega
 ·simp;omega
theorem Ci (x:Is):∀ (c:List In) (l:List Is) (r:List Nat),(gY x c l r).2.2.length≤r.length+c.length
 | [],_,_=>by simp[gY]
 | i::c,l,r=>by
  cases h:jS x i with
  | none=>
   have:=Ci x c l r;simp only[gY,h,List.length_cons];omega
  | some y=>
   have:=Ci x c (eR l y) (if sj i=true then gh r (gA (eR l y) y) else r);have h2:(if sj i=true then gh r (gA (eR l y) y) else r).length≤r.length+1:=by
    split
    ·exact EV _ _
    ·omega
   simp only[gY,h,List.length_cons];omega
theorem EG {u:Un}(hu:iy u):∀ (f i:Nat) (l:List Is) (cs:List (List Int)) (r:List Nat),(mC u f i l cs r).roots.length≤r.length+145*f
 | 0,_,_,_,_=>by simp[mC]
 | f+1,i,l,cs,r=>by
  simp only[mC];split
  ·simp
  ·rename_i x _;have h1:=EG hu f (i+1) (gY x (au u x) l r).1 (cs++[(gY x (au u x) l r).2.1]) (gY x (au u x) l r).2.2;have h2:=Ci x (au u x) l r;have h3:=fo hu x;omega
theorem EF {u:Un}(hu:iy u):(aj u).roots.length≤14501:=EG hu 100 0 _ _ _
end Go.aP
namespace Go.Proofs.YtnecpnjdonibmaaGreat
open Go.Can Go.aP
theorem uZ (n:Nat):∀ (l:List Nat) (i:Nat),(∀ r∈l,r<n)→(dO n l)[i]? = if i<n then some (if i∈l then 1 else 0) else none
 | [],i,_=>by
  rw[dO,List.getElem?_replicate];simp
 | r::l,i,h=>by
  have ih:=uZ n l i (fun x hx=>h x (List.mem_cons_of_mem _ hx));rw[dO,List.getElem?_set,ih,jX];have hr:=h r List.mem_cons_self;by_cases Vo:r=i
  ·subst Vo;simp[hr]
  ·have:¬ i=r:=fun e=>Vo e.symm;simp[Vo,this]
theorem xA (n:Nat)(l:List Nat)(h:∀ r∈l,r<n):dO n l.reverse=dO n l:=by
 refine List.ext_getElem? fun i=>?_;rw[uZ n _ i (fun r hr=>h r (List.mem_reverse.1 hr)),uZ n l i h];simp
theorem J0 {u:Un}{c:Cl}{m L:Nat}:xv (j3 u c m L)=q9 u c m L:=by
 funext k d e;refine propext ⟨fun h=>?_,fun h=>?_⟩
 ·obtain⟨h1,h2,h3⟩:=(fX L c.is.length (q9 u c m L)).lt h;exact (qg h1 h2 h3).1 h
 ·obtain⟨h1,h2,h3⟩:=vM (zC.2 h);exact (qg h1 h2 h3).2 h
theorem zu {u:Un}{m L i:Nat}{x:Is}:BX u m i L x (j3 u (aj u) m L)=dh u (aj u) m L i x:=by
 unfold BX dh;rw[J0];congr 1;funext pc d e;exact propext Mw
noncomputable def hU (u:Un) (m L:Nat):List (List (List Nat)):=(List.range (aj u).is.length).map fun i=>match (aj u).is[i]? with
 | some x=>dh u (aj u) m L i x
 | none=>[]
theorem vC (u:Un)(m L:Nat):(hU u m L).length=(aj u).is.length:=by simp[hU]
theorem qC {u:Un}{m L i:Nat}{x:Is}(hx:(aj u).is[i]? = some x):(hU u m L)[i]? = some (dh u (aj u) m L i x):=by
 have hl:=(List.getElem?_eq_some_iff.1 hx).1;rw[hU,List.getElem?_map,List.getElem?_eq_getElem (by simpa using hl)];simp only[List.getElem_range,Option.map_some,hx]
theorem fV:∀ t:List (List (List Nat)),trees (t.map aF)=true
 | []=>rfl
 | r::t=>by
  have h:=cg r;have:=fV t;simp only[List.map_cons,trees,h,this,Bool.and_self]
theorem ur {t:List Nat}{p:Nat}(r:Nat)(h:p<t.length):List.take p (t.map fun n:Nat=>I n)++I r::List.drop (p+1) (t.map fun n:Nat=>I n)=(t.set p r).map fun n:Nat=>I n:=by
 rw[List.map_set,List.set_eq_take_append_cons_drop,if_pos RC]
theorem mS {l:List (List (List Nat))}{j:Nat}{r:List (List Nat)}(h:l[j]? = some r):(l.take j).map aF++[aF r]=(l.take (j+1)).map aF:=by
 rw[List.take_add_one,h];simp
def Bq (u:Un)(m:Nat)(sm:List (List Nat)):List (Nat×CV):=[(8,.bl 2 0 (aj u).is.length),(7,aF sm),(4,.ax 1 0),(3,.ax 0 0),(2,I m)]
def lR (u:Un)(E:List Nat):List (Nat×Ob):=(2,a8 E)::dY u
def J78a (u:Un)(m:Nat)(sm:List (List Nat))(k:Nat)(s:St):Prop:=∃ j:Nat,k=(aj u).roots.length-j∧j≤(aj u).roots.length∧s=⟨(9,I j)::Bq u m sm,lR u (dO (aj u).is.length ((aj u).roots.take j).reverse),3⟩
def J78b (u:Un)(m L:Nat)(sm:List (List Nat))(E:List Nat)(k:Nat)(s:St):Prop:=∃ j:Nat,k=(aj u).is.length-j∧j≤(aj u).is.length∧s=⟨(11,I j)::(10,.bl 3 0 j)::Bq u m sm,(3,⟨32,1,((hU u m L).take j).map aF⟩)::lR u E,4⟩
def kN (u:Un):List (Nat×CV):=[(10,.bl 3 0 (aj u).is.length),(8,.bl 2 0 (aj u).is.length),(4,.ax 1 0),(3,.ax 0 0)]
noncomputable def kJ (u:Un) (m L:Nat) (E:List Nat):List (Nat×Ob):=(3,⟨32,1,(hU u m L).map aF⟩)::lR u E
def J78c (u:Un)(m L:Nat)(k:Nat)(s:St):Prop:=∃ (E:List Nat) (ag:Bool),k=(9*(aj u).is.length-cT E)+(if ag=true then 1 else 0)∧B4 u (aj u) m L E∧(ag=false→E=iq u (aj u) m L)∧s=⟨(12,.bool ag)::kN u,kJ u m L E,4⟩
def J78d (u:Un)(m L:Nat)(E0:List Nat)(k:Nat)(s:St):Prop:=∃ i:Nat,k=(aj u).is.length-i∧i≤(aj u).is.length∧s=⟨(13,I i)::(12,.bool (pX u (aj u) m L E0 i).2)::kN u,kJ u m L (pX u (aj u) m L E0 i).1,4⟩
def J78e (u:Un)(m L i:Nat)(x:Is)(S:List Nat×Bool)(k:Nat)(s:St):Prop:=∃ pc:Nat,k=(au u x).length-pc∧pc≤(au u x).length∧s=⟨(14,I pc)::(13,I i)::(12,.bool (xb u (aj u) (dh u (aj u) m L i x) i x pc S).2)::kN u,kJ u m L (xb u (aj u) (dh u (aj u) m L i x) i x pc S).1,4⟩
theorem qz {L n:Nat}(h8:L≤8)(h:n<2 ^ (L+1)):n<2 ^ 63:=by
 have h2:2 ^ (L+1)≤2 ^ 9:=Nat.pow_le_pow_right yA yA;have h3:(2:Nat) ^ 9<2 ^ 63:=by decide
 exact Nat.lt_of_lt_of_le h (Nat.le_trans h2 (Nat.le_of_lt h3))
theorem AE {u:Un}(hu:iy u){m:Nat}{xm:Mx}(hm:u.ms[m]? = some xm):af Tryz.prog 78 [df u,eQ (aj u),I m] (az (iq u (aj u) m (ay xm))):=by
 obtain⟨O7,VZ⟩:=ja hu;have h8:=dD xm;have H:=tV hu h8;have Wk:=Hw hu hm;have UD:=(fX (ay xm) (aj u).is.length (q9 u (aj u) m (ay xm)));have Xg:=fun (j:Nat) (x:Is) (hx:(aj u).is[j]? = some x)=>by have:=rQ hu hx hm UD;exact this
 have Pw:=B4.start (u:=u) (m:=m) H;have Pa:=aT u;have Ph:=bJ (aj u);have Vn:=EF hu;have O3:trees [df u,eQ (aj u),I m]=true:=by simp only[trees,tree,df,eQ,aT,bJ,Bool.and_self]
 have PF:∀ (sm:List (List Nat)) (j:Nat),trees [df u,eQ (aj u),I m,aF sm,I j]=true:=fun sm j=>by simp only[trees,tree,df,eQ,aT,bJ,cg,Bool.and_self]
 refine af.aK ai Tryz.func78 rfl OV (by simp[Tryz.ntmps78]) (aD _) fun C hC O0=>?_;rw[Tryz.ntmps78] at hC;change ∀ (j:Nat) (x:Is),_→af _ _ [_,_,_,aF (j3 u (aj u) m (ay xm)),_] (aF (BX u m j (ay xm) x (j3 u (aj u) m (ay xm)))) at Xg;have QZ:∀ (j:Nat) (x:Is),(aj u).is[j]? = some x→af Tryz.prog 79 [df u,eQ (aj u),I m,aF (j3 u (aj u) m (ay xm)),I j] (aF (dh u (aj u) m (ay xm) j x)):=fun j x hx=>by
  have:=Xg j x hx;rwa [zu] at this
 clear Xg;generalize hsmd:j3 u (aj u) m (ay xm)=sm at *;have tS:=aJ sm;simp only[df,eQ,bY,cN,ints,aF] at Pa Ph PF O3 Wk QZ ⊢;have bd:8*((aj u).is.length:Int)≤281474976710656∧((aj u).is.length:Int)≤9223372036854775807:=by omega
 apply aq;simp[hC];apply aq;simp[hC];refine dz O3 Wk ?_;simp[hC];apply aq;simp[hC,bd];apply aO;simp[hC];apply T.block;refine T.aH (J78a u m sm) (n:=(aj u).roots.length) ?_ ?_
 ·refine ae.trim [9,8,7,4,3,2] [2,1,0] 3 V9 yA ⟨0,by omega,by omega,?_⟩;simp[Bq,lR,dY,bY,cN,ints,aF,a8,dO]
 ·rintro k s ⟨j,rfl,hj,rfl⟩;simp only[Bq,lR,dY,bY,cN,ints,aF,a8];have XD:=jX (aj u).is.length ((aj u).roots.take j).reverse;by_cases Pn:j<(aj u).roots.length
  ·obtain⟨r,hr⟩:∃ r,(aj u).roots[j]? = some r:=⟨_,List.getElem?_eq_getElem Pn⟩;have Tt:=cZ hr;have RK:=H.root r (List.mem_of_getElem? hr);have WV:r+1≤(aj u).is.length:=RK;have wj:=cC ((j:Int)+1) yA yA;have O2:az (aj u).roots=CV.aA ((aj u).roots.map fun n:Nat=>I n) (aj u).roots.length:=rfl;have R4:dO (aj u).is.length ((aj u).roots.take (j+1)).reverse=(dO (aj u).is.length ((aj u).roots.take j).reverse).set r 1:=by
    rw[List.take_add_one,hr];simp[dO]
   generalize dO (aj u).is.length ((aj u).roots.take j).reverse=E at *;simp only[O2] at Ph ⊢;apply aO;simp[hC,Pn];refine fB ?_;simp;apply ed;apply aV;simp[hC,Pn,Tt,RK,WV,XD];apply aV;simp[hC,wj];rw[show CV.int IntKind.i64 1=I ((1:Nat):Int) from rfl,ur _ (show r<E.length by omega)];generalize E.set r 1=E2 at *;have tE2:=aC E2;refine⟨(aj u).roots.length-(j+1),by omega,ae.trim [9,8,7,4,3,2] [2,1,0] 3 (by simp[-List.all_eq_true,ah Pa,ah Ph,ah tE2]) yA ⟨j+1,rfl,by omega,?_⟩⟩;rw[R4];simp[Bq,lR,dY,bY,cN,ints,aF,a8,O2]
  ·have Qh:j=(aj u).roots.length:=by omega
   subst Qh;have YL:=xA (aj u).is.length (aj u).roots H.root;rw[List.take_length,YL] at *;generalize dO (aj u).is.length (aj u).roots=E0 at *;have tE:=aC E0;have O2:az (aj u).roots=CV.aA ((aj u).roots.map fun n:Nat=>I n) (aj u).roots.length:=rfl;simp only[O2] at Ph ⊢;apply aO;simp[hC];refine a7 ?_;simp;apply T.exit;simp;apply aq;simp[hC];apply aO;simp[hC];apply T.block;refine T.aH (J78b u m (ay xm) sm E0) (n:=(aj u).is.length) ?_ ?_
   ·refine ae.le (Le.own 10 32 1 rfl) ?_;simp[St.own];refine ae.trim [11,10,8,7,4,3,2] [3,2,1,0] 4 (by simp[-List.all_eq_true,ah Pa,ah Ph,ah tE]) yA ⟨0,by omega,by omega,?_⟩;simp[Bq,lR,dY,bY,cN,ints,aF,a8,O2]
   ·rintro k s ⟨j,rfl,hj,rfl⟩;simp only[Bq,lR,dY,bY,cN,ints,aF,a8,O2];have Qe:=vC u m (ay xm);by_cases Rk:j<(aj u).is.length
    ·obtain⟨x,hx⟩:∃ x,(aj u).is[j]? = some x:=⟨_,List.getElem?_eq_getElem Rk⟩;have wj:=cC ((j:Int)+1) yA yA;have V7:(j+1)*24≤140737488355328:=by omega
     have P5:=mS (qC (m:=m) (L:=ay xm) hx);have Sk:=fV ((hU u m (ay xm)).take (j+1));rw[← P5] at Sk;have PK:(List.map aF (List.take j (hU u m (ay xm)))).length=j:=by simp;omega
     have Uv:=fun ρ=>av ρ _ Sk;have rU:=fun ρ=>av ρ _ Pa;have rC:=fun ρ=>av ρ _ Ph;have rS:=fun ρ=>av ρ _ tS;have rE:=fun ρ=>av ρ _ tE;have Tg:=QZ j x hx;have WO:=PF sm j;simp only[aF,O2] at Tg WO P5;simp only[aF] at Sk Uv;generalize hR:List.map aF (List.take j (hU u m (ay xm)))=R at *;apply aO;simp[hC,Rk];refine fB ?_;simp;apply ed;apply aV;simp[hC];refine dz WO Tg ?_;simp[hC,V7,PK];apply aV;simp[hC,wj];refine⟨(aj u).is.length-(j+1),by omega,?_⟩;refine ae.le (Le.norm [11,10,8,7,4,3,2] [(5,3),(2,2),(1,1),(0,0)] 0 4 Ql Qk (by simp[dr,ss,pw,tree,assoc,-List.all_eq_true,-List.all_flatMap,aE Sk,aE Pa,aE Ph,aE tE]) yA) ?_;simp[dj,cc,ca,dR,fF,assoc,Uv,rE];refine ae.here ⟨j+1,rfl,by omega,?_⟩;simp[Bq,lR,dY,bY,cN,ints,aF,a8,O2,← P5]
    ·have Xe:j=(aj u).is.length:=by omega
     subst Xe;have tI:=fV (hU u m (ay xm));apply aO;simp[hC];refine a7 ?_;simp;apply T.exit;simp;rw[show List.take (aj u).is.length (List.map aF (hU u m (ay xm)))=List.map aF (hU u m (ay xm)) from List.take_of_length_le T9];apply aO;simp[hC];apply T.block;refine T.aH (J78c u m (ay xm)) (n:=(9*(aj u).is.length-cT E0)+1) ?_ ?_
     ·refine ae.trim [12,10,8,4,3] [3,2,1,0] 4 (by simp[-List.all_eq_true,ah Pa,ah Ph,ah tI,ah tE]) yA ⟨E0,true,by simp,Pw,(fun h=>by cases h),?_⟩;simp[kN,kJ,lR,dY,bY,cN,ints,a8,O2]
     ·clear Pw YL tE;clear E0;rintro k s ⟨E0,ag,rfl,X8,P9,rfl⟩;have tE:=aC E0;have PH:=X8.len;simp only[kN,kJ,lR,dY,bY,cN,ints,a8,O2]
      cases ag with
      | false=>
       have Pq:=P9 rfl;apply aO;simp[hC];refine a7 ?_;simp;apply T.exit;simp;apply aq;simp[hC];apply T.ret;refine ae.le (Le.dp (o:=2) rfl tE) ?_;apply ae.here;have Pd:List.take (aj u).is.length (E0.map fun n:Nat=>I n)=E0.map fun n:Nat=>I n:=List.take_of_length_le T9;rw[Pq] at Pd PH;simp[Tryz.results78,az,Pq,PH,Pd]
      | true=>
       apply aO;simp[hC];refine fB ?_;simp;apply T.block;apply aq;simp[hC];apply aq;simp[hC];apply T.block;refine T.aH (J78d u m (ay xm) E0) (n:=(aj u).is.length) ?_ ?_
       ·refine ae.trim [13,12,10,8,4,3] [3,2,1,0] 4 (by simp[-List.all_eq_true,ah Pa,ah Ph,ah tI,ah tE]) yA ⟨0,by omega,by omega,?_⟩;simp[kN,kJ,lR,dY,bY,cN,ints,a8,O2,pX]
       ·rintro k s ⟨i,rfl,hi,rfl⟩;obtain⟨S7,_⟩:=zE H X8 i hi;simp only[kN,kJ,lR,dY,bY,cN,ints,a8,O2];by_cases OX:i<(aj u).is.length
        ·obtain⟨x,hx⟩:∃ x,(aj u).is[i]? = some x:=⟨_,List.getElem?_eq_getElem OX⟩;have hsn:pX u (aj u) m (ay xm) E0 (i+1)=xb u (aj u) (dh u (aj u) m (ay xm) i x) i x (au u x).length (pX u (aj u) m (ay xm) E0 i):=by simp only[pX,hx]
         generalize pX u (aj u) m (ay xm) E0 i=S at *;have tSE:=aC S.1;apply aO;simp[hC,OX];refine fB ?_;simp;apply ed;apply aq;simp[hC];apply T.block;refine T.aH (J78e u m (ay xm) i x S) (n:=(au u x).length) ?_ ?_
         ·refine ae.trim [14,13,12,10,8,4,3] [3,2,1,0] 4 (by simp[-List.all_eq_true,ah Pa,ah Ph,ah tI,ah tSE]) yA ⟨0,by omega,by omega,?_⟩;simp[kN,kJ,lR,dY,bY,cN,ints,a8,O2,xb]
         ·rintro k s ⟨pc,rfl,mV,rfl⟩;obtain⟨Tz,_⟩:=CT H hx S7 pc mV;simp only[kN,kJ,lR,dY,bY,cN,ints,a8,O2];have UT:(dh u (aj u) m (ay xm) i x).length=(au u x).length:=(fX _ _ _).len;have UW:=qC (m:=m) (L:=ay xm) hx;by_cases Ru:pc<(au u x).length
          ·obtain⟨z,hz⟩:∃ z,(au u x)[pc]? = some z:=⟨_,List.getElem?_eq_getElem Ru⟩;have hv:=s7 hu hx;obtain⟨pq,PA,OY⟩:=jO hv;have Xu:=fo hu x;have PR:=(List.getElem?_eq_some_iff.1 PA).1;have Sd:=aN (f:=cO) (n:=2) fa hx;have OZ:=bQ (f:=lF) (n:=5) eZ PA 4 yA;have PZ:=hz;rw[OY] at PZ;have hpl4:pc<pq.code.length:=by rw[← OY];exact Ru
           have Qy:=aN (f:=dt) (n:=12) eK PZ;obtain⟨xc,Qm,QB⟩:=iK z;rw[Qm] at Qy;have O8:=qu z;have Sq:=cC ((pc:Int)+1) yA yA;obtain⟨rp,Ta,TG⟩:=(fX (ay xm) (au u x).length (Rr u (aj u) m (ay xm) i)).get Ru;change (dh u (aj u) m (ay xm) i x)[pc]? = some rp at Ta;have VS:(dh u (aj u) m (ay xm) i x).getD pc []=rp:=by rw[List.getD_eq_getElem?_getD,Ta];rfl
           have Uk:=dX az Ta;have bq:∀ E:List Nat×Bool,xb u (aj u) (dh u (aj u) m (ay xm) i x) i x pc S=E→xb u (aj u) (dh u (aj u) m (ay xm) i x) i x (pc+1) S=if eF z=true then (if uF rp (E.1.getD i 0) ||| E.1.getD (dH (aj u) i pc) 0=E.1.getD (dH (aj u) i pc) 0 then E else (Go.aP.ej E.1 (dH (aj u) i pc) (uF rp (E.1.getD i 0)),true)) else E:=fun E hE=>by
            rw[xb,hz];simp only[m8,VS,hE]
           replace bq:=bq _ rfl;generalize hSS:xb u (aj u) (dh u (aj u) m (ay xm) i x) i x pc S=S2 at *;have WG:=aC S2.1;have Vx:=Tz.A.len;apply aO;simp[hC,OX,UW,UT,Ru,aF];refine fB ?_;simp;apply ed;refine T.seq (T.seq (T.rx ai follows [0,1,2,3,4,5,6,7,8,9,10,11,12,13,14,15] [] OV ?_));simp[hC,OX,Sd,cO,PR,OZ,lF,hpl4,Qy]
           cases hc:eF z with
           | false=>
            rw[hc] at O8 bq;have Te:((mU z:Int) != 2)=true:=by rw[bne,O8];rfl
            refine T.cond (b:=true) (by simp[ev,assoc,Te]) ?_;simp;apply T.exit;simp;apply aV;simp[hC,Sq];refine⟨(au u x).length-(pc+1),by omega,ae.trim [14,13,12,10,8,4,3] [3,2,1,0] 4 Z2 yA ⟨pc+1,rfl,by omega,?_⟩⟩;rw[bq];simp[kN,kJ,lR,dY,bY,cN,ints,a8,O2]
           | true=>
            obtain⟨row,PQ,Px,TR⟩:=qB hu hx hz hc;have RZ:=dX ints PQ;have Ti:=dX wE Px;have SR:=(List.getElem?_eq_some_iff.1 PQ).1;have Qj:=(List.getElem?_eq_some_iff.1 Px).1;rw[hc] at O8 bq;have Te:((mU z:Int) != 2)=false:=by rw[bne,O8];rfl
            refine T.cond (b:=false) (by simp[ev,assoc,Te]) (T.skip ?_);simp;apply aq;simp[hC,RZ,Ti,SR,Qj,ints];generalize dH (aj u) i pc=ko at *;obtain⟨ek,VV⟩:∃ ek,S2.1[ko]? = some ek:=⟨_,List.getElem?_eq_getElem yA⟩;obtain⟨ei,SK⟩:∃ ei,S2.1[i]? = some ei:=⟨_,List.getElem?_eq_getElem yA⟩;have Zr:S2.1.getD ko 0=ek:=by rw[List.getD_eq_getElem?_getD,VV];rfl
            have SU:S2.1.getD i 0=ei:=by rw[List.getD_eq_getElem?_getD,SK];rfl
            have ZW:∀ s∈S2.1,s<2 ^ 63:=fun s hs=>qz h8 (Tz.A.lt s hs);have b1:=ZW ek (List.mem_of_getElem? VV);have b2:=ZW ei (List.mem_of_getElem? SK);have b3:uF rp ei<2 ^ 63:=qz h8 (wy rp ei 0 TG.lt);have PJ:=rX rp ei (by rw[TG.len];omega) (fx h8 TG) b2;rw[Zr,SU] at bq;generalize uF rp ei=sv at *;have Rn:trees [az rp,I ei]=true:=by simp only[trees,aD,tree,Bool.and_self]
            have Tw:=CB b1 b3;have hor2:ek ||| sv=sv ||| ek:=Nat.or_comm _ _;rw[hor2] at Tw;have Zg:ko+1≤(aj u).is.length:=TR;refine T.seq (T.rx ai follows [0,1,2,3,4,5,6,7,8,9,10,11,12,13,14,15,16,17] [(3,15)] OV ?_);simp[hC,TR,VV,SK,OX,UW,UT,Ru,Uk,aF];refine RX.call rfl rfl rfl rfl rfl Rn PJ ?_;simp[Tw];apply aq;simp[hC,TR,VV];by_cases hq:sv ||| ek=ek
            ·rw[if_pos hq] at bq;refine T.cond (b:=false) (by simp[ev,assoc,hq]) (T.skip ?_);simp;apply aV;simp[hC,Sq];refine⟨(au u x).length-(pc+1),by omega,ae.trim [14,13,12,10,8,4,3] [3,2,1,0] 4 Z2 yA ⟨pc+1,rfl,by omega,?_⟩⟩;rw[bq];simp[kN,kJ,lR,dY,bY,cN,ints,a8,O2]
            ·rw[if_neg hq] at bq;have hqi:¬ ((sv ||| ek:Nat):Int)=(ek:Int):=fun h=>hq (Int.ofNat.inj h);refine T.cond (b:=true) (by simp[ev,assoc,hqi]) ?_;simp;apply aV;simp[hC,TR,Zg,Vx];apply aV;simp[hC,Sq];have hue:Go.aP.ej S2.1 ko sv=S2.1.set ko (sv ||| ek):=by rw[Go.aP.ej,Zr,Nat.or_comm]
             rw[hue] at bq;rw[ur _ (show ko<S2.1.length by omega)];generalize S2.1.set ko (sv ||| ek)=E3 at *;have tE3:=aC E3;refine⟨(au u x).length-(pc+1),by omega,ae.trim [14,13,12,10,8,4,3] [3,2,1,0] 4 (by simp[-List.all_eq_true,ah Pa,ah Ph,ah tI,ah tE3]) yA ⟨pc+1,rfl,by omega,?_⟩⟩;rw[bq];simp[kN,kJ,lR,dY,bY,cN,ints,a8,O2]
          ·have Tc:pc=(au u x).length:=by omega
           subst Tc;rw[← hsn] at Tz ⊢;have wi:=cC ((i:Int)+1) yA yA;generalize V6:pX u (aj u) m (ay xm) E0 (i+1)=S2 at *;have WG:=aC S2.1;apply aO;simp[hC,OX,UW,UT,aF];refine a7 ?_;simp;apply T.exit;simp;apply aV;simp[hC,wi];refine⟨(aj u).is.length-(i+1),by omega,ae.trim [13,12,10,8,4,3] [3,2,1,0] 4 Z2 yA ⟨i+1,rfl,by omega,?_⟩⟩;rw[V6];simp[kN,kJ,lR,dY,bY,cN,ints,a8,O2]
        ·have O6:i=(aj u).is.length:=by omega
         subst O6;have Wh:=IQ H X8;generalize pX u (aj u) m (ay xm) E0 (aj u).is.length=S at *;have WG:=aC S.1;have Vx:=S7.A.len;apply aO;simp[hC];refine a7 ?_;simp;apply T.exit;simp;have P4:=oo S.1;rw[Vx] at P4;have Wu:=S7.le;refine⟨(9*(aj u).is.length-cT S.1)+(if S.2=true then 1 else 0),?_,ae.trim [12,10,8,4,3] [3,2,1,0] 4 Z2 yA ⟨S.1,S.2,rfl,S7.A,fun h=>?_,?_⟩⟩
         ·cases h2:S.2 with
          | true=>have:=S7.lt h2;simp;omega
          | false=>simp;omega
         ·rw[S7.same h,Wh h]
         ·simp[kN,kJ,lR,dY,bY,cN,ints,a8,O2]
end Go.Proofs.YtnecpnjdonibmaaGreat
