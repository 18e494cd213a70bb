/- The program's solve. -/
import Derived.Test.YtnecpnjdonibmaaGreatZ43
namespace Go.Proofs.YtnecpnjdonibmaaGreat
open Go.Can Go.aP
def dw (T:List (List (List Nat))):CV:=.aA (T.map aF) T.length
noncomputable def Hk (u:Un) (m L:Nat):CV:=.agg [aF (j3 u (aj u) m L),dw (hU u m L),az (iq u (aj u) m L)]
theorem E4 (u:Un)(m L:Nat):tree (Hk u m L)=true:=by
 simp only[Hk,dw,tree,trees,cg,aD,Bool.and_self]
def iw (_u:Un)(m:Nat):List (Nat×CV):=[(7,.ax 3 0),(6,.ax 2 0),(4,.ax 1 0),(3,.ax 0 0),(2,I m)]
def iu (u:Un)(sm:List (List Nat))(v:CV)(E:List Nat):List (Nat×Ob):=[(4,a8 E),(3,⟨247,0,[aF sm,v,.bl 4 0 (aj u).is.length]⟩),(2,⟨247,0,[.aa,.aa,.aa]⟩),(1,⟨34,0,cN (aj u)⟩),(0,⟨30,0,bY u⟩)]
def J175a (u:Un)(m L:Nat)(sm:List (List Nat))(E:List Nat)(k:Nat)(s:St):Prop:=∃ j:Nat,k=(aj u).is.length-j∧j≤(aj u).is.length∧s=⟨(29,I j)::(28,I (aj u).is.length)::iw u m,(5,⟨32,1,((hU u m L).take j).map aF⟩)::iu u sm (.bl 5 0 j) E,6⟩
def J175b (u:Un)(m L:Nat)(sm:List (List Nat))(k:Nat)(s:St):Prop:=∃ j:Nat,k=(aj u).roots.length-j∧j≤(aj u).roots.length∧s=⟨(56,I j)::(55,I (aj u).roots.length)::(54,az (aj u).roots)::(9,.bl 5 0 (aj u).roots.length)::iw u m,(5,a8 (aj u).roots)::iu u sm (dw (hU u m L)) (dO (aj u).is.length ((aj u).roots.take j).reverse),6⟩
def J175c (u:Un)(m L:Nat)(sm:List (List Nat))(k:Nat)(s:St):Prop:=∃ (E td:List Nat),k=KE (aj u).is.length E td∧k≤30000∧Lk u (aj u) m L E td∧s=⟨(9,.bl 5 0 td.length)::iw u m,(5,a8 td)::iu u sm (dw (hU u m L)) E,6⟩
def J175d (u:Un)(m L:Nat)(sm:List (List Nat))(i:Nat)(x:Is)(E0 td0:List Nat)(k:Nat)(s:St):Prop:=∃ pc:Nat,k=(au u x).length-pc∧pc≤(au u x).length∧s=⟨(91,I pc)::(90,I (au u x).length)::(89,.aA ((au u x).flatMap dt) (au u x).length)::(12,I i)::(9,.bl 5 0 (sX u (aj u) (dh u (aj u) m L i x) i x pc (E0,td0)).2.length)::iw u m,(5,a8 (sX u (aj u) (dh u (aj u) m L i x) i x pc (E0,td0)).2)::iu u sm (dw (hU u m L)) (sX u (aj u) (dh u (aj u) m L i x) i x pc (E0,td0)).1,6⟩
set_option maxHeartbeats 4000000 in
theorem Fw {u:Un}(hu:iy u){m:Nat}{xm:Mx}(hm:u.ms[m]? = some xm):af Tryz.prog 175 [df u,eQ (aj u),I m] (Hk u m (ay xm)):=by
 obtain⟨O7,VZ⟩:=ja hu;have h8:=dD xm;have H:=tV hu h8;have Wk:=MO hu hm;have UD:=(fX (ay xm) (aj u).is.length (q9 u (aj u) m (ay xm)));have QZ:∀ (j:Nat) (x:Is),(aj u).is[j]? = some x→af Tryz.prog 232 [df u,eQ (aj u),I m,aF (j3 u (aj u) m (ay xm)),I j] (aF (dh u (aj u) m (ay xm) j x)):=fun j x hx=>by
  have:=xI hu hx hm UD;change af _ _ [_,_,_,aF (j3 u (aj u) m (ay xm)),_] (aF (BX u m j (ay xm) x (j3 u (aj u) m (ay xm)))) at this;rwa [zu] at this
 have Pa:=aT u;have Ph:=bJ (aj u);have Vn:=EF hu;have Pw:=Lk.start (u:=u) (m:=m) H;have O3:trees [df u,eQ (aj u),I m]=true:=by simp only[trees,tree,df,eQ,aT,bJ,Bool.and_self]
 have PF:∀ (sm:List (List Nat)) (j:Nat),trees [df u,eQ (aj u),I m,aF sm,I j]=true:=fun sm j=>by simp only[trees,tree,df,eQ,aT,bJ,cg,Bool.and_self]
 refine af.aK ai Tryz.func175 rfl OV (by simp[Tryz.ntmps175]) (E4 _ _ _) fun C hC O0=>?_;rw[Tryz.ntmps175] at hC;have bd:8*((aj u).is.length:Int)≤281474976710656∧((aj u).is.length:Int)≤9223372036854775807:=by omega
 simp only[Hk];generalize hsmd:j3 u (aj u) m (ay xm)=sm at *;have tS:=aJ sm;simp only[df,eQ,bY,cN,ints,aF] at Pa Ph PF O3 Wk QZ ⊢;apply aq;simp[hC];refine T.seq (T.rx ai follows [0,1,2,4,5,6,7,9,3,8,10] [(0,7),(0,9),(1,7),(1,9),(5,9),(5,3),(7,9),(7,3),(9,3)] OV ?_);simp[hC,bd];refine RX.call rfl rfl rfl rfl rfl O3 Wk ?_;simp;have O2:az (aj u).roots=CV.aA ((aj u).roots.map fun n:Nat=>I n) (aj u).roots.length:=rfl;simp only[O2] at Ph PF O3 QZ ⊢;have rT:=fun ρ=>av ρ _ tS;have rU:=fun ρ=>av ρ _ Pa;have rC:=fun ρ=>av ρ _ Ph;have tZ:trees (List.replicate (aj u).is.length (CV.int IntKind.i64 0))=true:=fU _;have rZ:=fun ρ=>av ρ _ tZ;refine T.le (Le.norm [7,6,4,3,2] [(10,4),(12,3),(2,2),(1,1),(0,0)] 0 5 Ql Qk (by simp[dr,ss,pw,tree,assoc,-List.all_eq_true,-List.all_flatMap,aE Pa,aE Ph,aE tZ]) yA) ?_;simp[dj,cc,ca,dR,fF,assoc,rZ];have X8:List.replicate (aj u).is.length (CV.int IntKind.i64 0)=(dO (aj u).is.length []).map fun n:Nat=>I n:=by simp[dO]
 rw[X8] at tZ ⊢;generalize hEE:dO (aj u).is.length []=E00 at *;have Qe:=vC u m (ay xm);apply aO;simp[hC];apply T.block;refine T.aH (J175a u m (ay xm) sm E00) (n:=(aj u).is.length) ?_ ?_
 ·refine ae.le (Le.pO 3 1 32 1 rfl rfl) ?_;simp;refine ae.trim [29,28,7,6,4,3,2] [5,4,3,2,1,0] 6 yCk yA ⟨0,by omega,by omega,?_⟩;simp[iw,iu,bY,cN,ints,aF,a8,O2]
 ·rintro k s ⟨j,rfl,hj,rfl⟩;simp only[iw,iu,bY,cN,ints,aF,a8,O2];by_cases Pn:j<(aj u).is.length
  ·obtain⟨x,hx⟩:∃ x,(aj u).is[j]? = some x:=⟨_,List.getElem?_eq_getElem Pn⟩;have wj:=cC ((j:Int)+1) yA yA;have V7:(j+1)*24≤140737488355328:=by omega
   have P5:=mS (qC (m:=m) (L:=ay xm) hx);have Sk:=fV ((hU u m (ay xm)).take (j+1));rw[← P5] at Sk;have PK:(List.map aF (List.take j (hU u m (ay xm)))).length=j:=by simp;omega
   have Uv:=fun ρ=>av ρ _ Sk;have rE:=fun ρ=>av ρ _ tZ;have Tg:=QZ j x hx;have WO:=PF sm j;simp only[aF] at Tg WO P5;simp only[aF] at Sk Uv;generalize hR:List.map aF (List.take j (hU u m (ay xm)))=R at *;apply aq;simp[hC,Pn];refine T.seq (T.cond (b:=true) rfl (T.skip ?_));simp;apply ed;apply aq;simp[hC];refine T.rx ai follows [0,1,2,3,4,5,6,7,8,9,10,11,12] [(1,8),(1,9)] OV ?_;simp[hC];refine RX.call rfl rfl rfl rfl rfl WO Tg ?_;simp[V7,PK];apply aV;simp[hC,wj];refine⟨(aj u).is.length-(j+1),by omega,?_⟩;refine ae.le (Le.norm [29,28,7,6,4,3,2] [(19,5),(4,4),(3,3),(2,2),(1,1),(0,0)] 0 6 Ql Qk (by simp[dr,ss,pw,tree,assoc,-List.all_eq_true,-List.all_flatMap,aE Sk,aE Pa,aE Ph,aE tZ]) yA) ?_;simp[dj,cc,ca,dR,fF,assoc,Uv,rE];refine ae.here ⟨j+1,rfl,by omega,?_⟩;simp[iw,iu,bY,cN,ints,aF,a8,O2,← P5]
  ·have Qh:j=(aj u).is.length:=by omega
   subst Qh;have tI:=fV (hU u m (ay xm));rw[show List.take (aj u).is.length (hU u m (ay xm))=hU u m (ay xm) from List.take_of_length_le yA];apply aq;simp[hC];refine T.seq (T.cond (b:=false) rfl (T.exit ?_));simp;refine T.le (Le.dp (o:=5) rfl tI) ?_;have Pd:List.take (aj u).is.length (List.map aF (hU u m (ay xm)))=List.map aF (hU u m (ay xm)):=List.take_of_length_le T9;simp[cI tZ,Pd];refine T.le (Le.trim [7,6,4,3,2] [4,3,2,1,0] 5 yCk yA) ?_;simp;have bd4:8*((aj u).roots.length:Int)≤281474976710656∧((aj u).roots.length:Int)≤9223372036854775807:=by omega
   have Ta:0<(aj u).roots.length:=List.length_pos_of_mem (((zM hu).root 0).2 (.inl rfl));have QU:List.take (aj u).roots.length (List.map (fun n:Nat=>I n) (aj u).roots)=List.map (fun n:Nat=>I n) (aj u).roots:=List.take_of_length_le XJ;have WH:=aC (aj u).roots;apply aq;simp[hC,bd4];apply aq;simp[hC,Ta];rw[QU];apply aO;simp[hC];apply T.block;refine T.aH (J175b u m (ay xm) sm) (n:=(aj u).roots.length) ?_ ?_
   ·refine ae.trim [56,55,54,9,7,6,4,3,2] [5,4,3,2,1,0] 6 (by simp[-List.all_eq_true,ah Pa,ah Ph,ah WH,ah tZ]) yA ⟨0,by omega,by omega,?_⟩;rw[← hEE];simp[iw,iu,bY,cN,ints,aF,a8,O2,dw,Qe,dO]
   ·clear X8 tZ rZ;rintro k s ⟨j,rfl,hj,rfl⟩;simp only[iw,iu,bY,cN,ints,aF,a8,O2,dw,Qe];have XD:=jX (aj u).is.length ((aj u).roots.take j).reverse;by_cases Rk:j<(aj u).roots.length
    ·obtain⟨r,hr⟩:∃ r,(aj u).roots[j]? = some r:=⟨_,List.getElem?_eq_getElem Rk⟩;have Tt:=cZ hr;have RK:=H.root r (List.mem_of_getElem? hr);have WV:r+1≤(aj u).is.length:=RK;have wj:=cC ((j:Int)+1) yA yA;have R4:dO (aj u).is.length ((aj u).roots.take (j+1)).reverse=(dO (aj u).is.length ((aj u).roots.take j).reverse).set r 1:=by
      rw[List.take_add_one,hr];simp[dO]
     generalize dO (aj u).is.length ((aj u).roots.take j).reverse=E at *;apply aq;simp[hC,Rk];refine T.seq (T.cond (b:=true) rfl (T.skip ?_));simp;apply ed;apply aq;simp[hC,Rk,Tt];apply aV;simp[hC,RK,WV,XD];apply aV;simp[hC,wj];rw[show CV.int IntKind.i64 1=I ((1:Nat):Int) from rfl,ur _ (show r<E.length by omega)];generalize E.set r 1=E2 at *;have tE2:=aC E2;refine⟨(aj u).roots.length-(j+1),by omega,ae.trim [56,55,54,9,7,6,4,3,2] [5,4,3,2,1,0] 6 (by simp[-List.all_eq_true,ah Pa,ah Ph,ah WH,ah tE2]) yA ⟨j+1,rfl,by omega,?_⟩⟩;rw[R4];simp[iw,iu,bY,cN,ints,aF,a8,O2,dw,Qe]
    ·have Xe:j=(aj u).roots.length:=by omega
     subst Xe;have YL:=xA (aj u).is.length (aj u).roots H.root;rw[List.take_length,YL] at *;generalize dO (aj u).is.length (aj u).roots=E0 at *;have tE:=aC E0;apply aq;simp[hC];refine T.seq (T.cond (b:=false) rfl (T.exit ?_));simp;have TU:KE (aj u).is.length E0 (aj u).roots≤30000:=by unfold KE;omega
     apply ed;refine T.aH (J175c u m (ay xm) sm) (n:=KE (aj u).is.length E0 (aj u).roots) ?_ ?_
     ·refine ae.trim [9,7,6,4,3,2] [5,4,3,2,1,0] 6 (by simp[-List.all_eq_true,ah Pa,ah Ph,ah tE,ah WH]) yA ⟨E0,(aj u).roots,rfl,TU,Pw,?_⟩;simp[iw,iu,bY,cN,ints,aF,a8,O2,dw,Qe]
     ·clear Pw YL TU tE XD hEE;clear E0;rintro k s ⟨E0,td,rfl,SG,hI,rfl⟩;simp only[iw,iu,bY,cN,ints,aF,a8,O2,dw,Qe];have tE:=aC E0;have tD:=aC td;have PH:=hI.A.len;rcases List.eq_nil_or_concat td with rfl | ⟨td0,i,rfl⟩
      ·have Pq:=hI.fin H;apply aO;simp[hC];refine T.cond (b:=false) RD (T.exit ?_);simp;refine T.le (Le.dp (o:=4) rfl tE) ?_;have Sx:List.take (aj u).is.length (E0.map fun n:Nat=>I n)=E0.map fun n:Nat=>I n:=List.take_of_length_le T9;simp[Sx];apply aq;simp[hC];apply T.ret;apply ae.here;rw[← Pq];simp[Tryz.results175,az,PH]
      ·rw[List.concat_eq_append] at *;have OX:=hI.val i OU;obtain⟨x,hx⟩:∃ x,(aj u).is[i]? = some x:=⟨_,List.getElem?_eq_getElem OX⟩;obtain⟨TO,R4⟩:=hI.step H hx;have hlen:(td0++[i]).length=td0.length+1:=by simp
       rw[hlen];have bt:td0.length≤30000:=by unfold KE at SG;rw[hlen] at SG;omega
       have wl:=cC ((td0.length:Int)+1-1) yA yA;have Yh:=cC (td0.length:Int) yA yA;have bI:(td0.length:Int)<(td0.length:Int)+1:=by omega
       have bI2:(td0.length:Int)≤(td0.length:Int)+1:=by omega
       have tD0:=aC td0;apply aO;simp[hC];refine fB ?_;simp;apply T.block;apply aq;simp[hC,Yh,bI];apply aq;simp[hC,Yh];refine T.le (Le.cut (o:=5) td0.length rfl) ?_;simp[St.cut];have hv:=s7 hu hx;obtain⟨pq,PA,OY⟩:=jO hv;have Xu:=fo hu x;have V2:(au u x).length=pq.code.length:=by rw[OY]
       have PR:=(List.getElem?_eq_some_iff.1 PA).1;have Sd:=aN (f:=cO) (n:=2) fa hx;have OZ:=bQ (f:=lF) (n:=5) eZ PA 4 yA;have Z7:trees (pq.code.flatMap dt)=true:=aQ fW _;refine T.seq (T.rx ai follows [0,1,2,3,4,5,6,7,8,9,10,11,12] [] OV ?_);simp[hC,OX,Sd,cO,PR,OZ,lF];apply T.block;have T6:B4 u (aj u) m (ay xm) E0:=hI.A;refine T.aH (J175d u m (ay xm) sm i x E0 td0) (n:=(au u x).length) ?_ ?_
       ·refine ae.trim [91,90,89,12,9,7,6,4,3,2] [5,4,3,2,1,0] 6 (by simp[-List.all_eq_true,ah Pa,ah Ph,ah tE,ah tD0]) yA ⟨0,by omega,by omega,?_⟩;simp[iw,iu,bY,cN,ints,aF,a8,O2,dw,Qe,sX,OY]
       ·rintro k s ⟨pc,rfl,mV,rfl⟩;have Tz:=CU H hx (td0:=td0) T6 pc mV;simp only[iw,iu,bY,cN,ints,aF,a8,O2,dw,Qe];have UT:(dh u (aj u) m (ay xm) i x).length=(au u x).length:=(fX _ _ _).len;have UW:=qC (m:=m) (L:=ay xm) hx;rw[OY] at mV;by_cases Ru:pc<pq.code.length
        ·obtain⟨z,PZ⟩:∃ z,pq.code[pc]? = some z:=⟨_,List.getElem?_eq_getElem Ru⟩;have hz:(au u x)[pc]? = some z:=by rw[OY];exact PZ
         have Qy:=aN (f:=dt) (n:=12) eK PZ;have QO:=lQ z;have SP:=fW z;obtain⟨xc,Qm,QB⟩:=iK z;obtain⟨c1,c2,c3,c4,c5,c6,c7,c8,c9,Wz,Wy,rfl⟩:=xY QB;rw[Qm] at Qy QO SP;simp only[List.all_cons,List.all_nil,Bool.and_true,Bool.and_eq_true] at QO;obtain⟨_,o1,o2,o3,o4,o5,o6,o7,o8,o9,Ym,Yl⟩:=QO;have O8:=qu z;have Sq:=cC ((pc:Int)+1) yA yA;obtain⟨rp,Ta,TG⟩:=(fX (ay xm) (au u x).length (Rr u (aj u) m (ay xm) i)).get (p:=pc) (by rw[OY];exact Ru);change (dh u (aj u) m (ay xm) i x)[pc]? = some rp at Ta;have VS:(dh u (aj u) m (ay xm) i x).getD pc []=rp:=by rw[List.getD_eq_getElem?_getD,Ta];rfl
         have Uk:=dX az Ta;have VX:=dX aF UW;have bq:∀ E:List Nat×List Nat,sX u (aj u) (dh u (aj u) m (ay xm) i x) i x pc (E0,td0)=E→sX u (aj u) (dh u (aj u) m (ay xm) i x) i x (pc+1) (E0,td0)=if eF z=true then (if uF rp (E.1.getD i 0) ||| E.1.getD (dH (aj u) i pc) 0=E.1.getD (dH (aj u) i pc) 0 then E else (Go.aP.ej E.1 (dH (aj u) i pc) (uF rp (E.1.getD i 0)),E.2++[dH (aj u) i pc])) else E:=fun E hE=>by
          rw[sX,hz];simp only[m8,VS,hE]
         replace bq:=bq _ rfl;generalize hSS:sX u (aj u) (dh u (aj u) m (ay xm) i x) i x pc (E0,td0)=S2 at *;have WG:=aC S2.1;have tD2:=aC S2.2;have Vx:=Tz.A.len;have Qx:=Tz.ms;have P4:=oo S2.1;rw[Vx] at P4;rw[OY];apply aq;simp[hC,Ru];refine T.seq (T.cond (b:=true) rfl (T.skip ?_));simp;apply ed;apply aq;simp[hC,Ru,Qy];apply aO;simp[hC]
         cases hc:eF z with
         | false=>
          rw[hc] at O8 bq;have Te:((mU z:Int) != 2)=true:=by rw[bne,O8];rfl
          refine T.cond (b:=true) (by simp[ev,assoc,Te]) ?_;simp;apply T.exit;simp;apply aV;simp[hC,Sq];refine⟨(au u x).length-(pc+1),by omega,ae.trim [91,90,89,12,9,7,6,4,3,2] [5,4,3,2,1,0] 6 yCj yA ⟨pc+1,by rw[OY],by omega,?_⟩⟩;rw[bq];simp[iw,iu,bY,cN,ints,aF,a8,O2,dw,Qe,OY]
         | true=>
          obtain⟨row,PQ,Px,TR⟩:=qB hu hx hz hc;have RZ:=dX ints PQ;have Ti:=dX wE Px;have SR:=(List.getElem?_eq_some_iff.1 PQ).1;have Qj:=(List.getElem?_eq_some_iff.1 Px).1;rw[hc] at O8 bq;have Te:((mU z:Int) != 2)=false:=by rw[bne,O8];rfl
          refine T.cond (b:=false) (by simp[ev,assoc,Te]) (T.skip ?_);simp;generalize dH (aj u) i pc=ko at *;obtain⟨ek,VV⟩:∃ ek,S2.1[ko]? = some ek:=⟨_,List.getElem?_eq_getElem yA⟩;obtain⟨ei,SK⟩:∃ ei,S2.1[i]? = some ei:=⟨_,List.getElem?_eq_getElem yA⟩;have Zr:S2.1.getD ko 0=ek:=by rw[List.getD_eq_getElem?_getD,VV];rfl
          have SU:S2.1.getD i 0=ei:=by rw[List.getD_eq_getElem?_getD,SK];rfl
          have ZW:∀ s∈S2.1,s<2 ^ 63:=fun s hs=>qz h8 (Tz.A.lt s hs);have b1:=ZW ek (List.mem_of_getElem? VV);have b2:=ZW ei (List.mem_of_getElem? SK);have b3:uF rp ei<2 ^ 63:=qz h8 (wy rp ei 0 TG.lt);have PJ:=r9 rp ei (by rw[TG.len];omega) (fx h8 TG) b2;rw[Zr,SU] at bq;generalize uF rp ei=sv at *;have Rn:trees [az rp,I ei]=true:=by simp only[trees,aD,tree,Bool.and_self]
          have Tw:=CB b1 b3;have T2:=qY b3 b1;have hdf:(((xd sv ek:Nat):Int) != 0)=!decide (sv ||| ek=ek):=I0;have Zg:ko+1≤(aj u).is.length:=TR;refine T.seq (T.rx ai follows [0,1,2,3,4,5,6,7,8,9,10,11,12,13,14,15,16,17,18,19,20,21,22,23] [(1,21),(4,21),(7,21)] OV ?_);simp[hC,RZ,Ti,SR,Qj,ints,OX,VX,aF,UT,V2,Ru,Uk,SK];refine RX.call rfl rfl rfl rfl rfl Rn PJ ?_;simp;apply aq;simp[hC,TR,VV,T2];by_cases hq:sv ||| ek=ek
          ·have VW:(((xd sv ek:Nat):Int) != 0)=false:=by rw[hdf];simp[hq]
           rw[if_pos hq] at bq;refine T.cond (b:=false) (by simp[ev,assoc,VW]) (T.skip ?_);simp;apply aV;simp[hC,Sq];refine⟨(au u x).length-(pc+1),by omega,ae.trim [91,90,89,12,9,7,6,4,3,2] [5,4,3,2,1,0] 6 yCj yA ⟨pc+1,by rw[OY],by omega,?_⟩⟩;rw[bq];simp[iw,iu,bY,cN,ints,aF,a8,O2,dw,Qe,OY]
          ·have VW:(((xd sv ek:Nat):Int) != 0)=true:=by rw[hdf];simp[hq]
           rw[if_neg hq] at bq;have hue:Go.aP.ej S2.1 ko sv=S2.1.set ko (ek ||| sv):=by rw[Go.aP.ej,Zr]
           rw[hue] at bq;have bdd:(S2.2.length+1)*8≤140737488355328:=by omega
           refine T.cond (b:=true) (by simp[ev,assoc,VW]) ?_;simp;have hko3:ko+1≤S2.1.length:=by omega
           apply aq;simp[hC,TR,VV,Tw,hko3];rw[ur _ (show ko<S2.1.length by omega)];generalize S2.1.set ko (ek ||| sv)=E3 at *;have tE3:=aC E3;have hD5:(S2.2.map fun n:Nat=>I n)++[I ko]=(S2.2++[ko]).map fun n:Nat=>I n:=by simp
           have WI:=aC (S2.2++[ko]);rw[← hD5] at WI;apply aV;simp[hC,bdd];apply aV;simp[hC,Sq];have rE3:=fun ρ=>av ρ _ tE3;have rD5:=fun ρ=>av ρ _ WI;have rI:=fun ρ=>av ρ _ tI;have rK:=fun ρ=>av ρ _ Z7;refine⟨(au u x).length-(pc+1),by omega,?_⟩;refine ae.le (Le.norm [91,90,89,12,9,7,6,4,3,2] [(32,5),(4,4),(3,3),(2,2),(1,1),(0,0)] 0 6 Ql Qk (by simp[dr,ss,pw,tree,assoc,-List.all_eq_true,-List.all_flatMap,aE tE3,aE WI,aE Pa,aE Ph]) yA) ?_;simp[dj,cc,ca,dR,fF,assoc,rE3,rD5];refine ae.here ⟨pc+1,by rw[OY],by omega,?_⟩;rw[bq];simp[iw,iu,bY,cN,ints,aF,a8,O2,dw,Qe,OY]
        ·have Tc:pc=pq.code.length:=by omega
         subst Tc;rw[← V2] at Tz ⊢;generalize V6:sX u (aj u) (dh u (aj u) m (ay xm) i x) i x (au u x).length (E0,td0)=S2 at *;have WG:=aC S2.1;have tD2:=aC S2.2;have PO:¬ (au u x).length<(au u x).length:=by omega
         apply aq;simp[hC];refine T.seq (T.cond (b:=false) RD (T.exit ?_));simp;refine⟨KE (aj u).is.length S2.1 S2.2,R4,ae.trim [9,7,6,4,3,2] [5,4,3,2,1,0] 6 yCj yA ⟨S2.1,S2.2,rfl,by omega,TO,?_⟩⟩;simp[iw,iu,bY,cN,ints,aF,a8,O2,dw,Qe]
theorem oq (u:Un)(c:Cl)(m L:Nat):(wa u c m L).length=c.is.length:=by simp[wa]
theorem ou (u:Un)(c:Cl)(m L i:Nat)(x:Is):(wg u c m L i x).length=(au u x).length:=by simp[wg]
theorem wM {l:List Nat}{j:Nat}{r:Nat}(h:l[j]? = some r):((l.take j).map fun n:Nat=>I n)++[I r]=(l.take (j+1)).map fun n:Nat=>I n:=by
 rw[List.take_add_one,h];simp
def Br (_u:Un)(m:Nat)(sm:List (List Nat))(E:List Nat):List (Nat×CV):=[(8,az E),(7,aF sm),(4,.ax 1 0),(3,.ax 0 0),(2,I m)]
def J21a (u:Un)(m:Nat)(sm:List (List Nat))(E:List Nat)(t:List (List Nat))(k:Nat)(s:St):Prop:=∃ i:Nat,k=(aj u).is.length-i∧i≤(aj u).is.length∧s=⟨(10,I i)::(9,.bl 2 0 i)::Br u m sm E,(2,⟨22,1,(t.take i).map az⟩)::dY u,3⟩
def J21b (u:Un)(m:Nat)(sm:List (List Nat))(E:List Nat)(t:List (List Nat))(i:Nat)(Qf:List (List Nat))(r:List Nat)(k:Nat)(s:St):Prop:=∃ pc:Nat,k=Qf.length-pc∧pc≤Qf.length∧s=⟨(13,I pc)::(12,.bl 3 0 pc)::(11,aF Qf)::(10,I i)::(9,.bl 2 0 i)::Br u m sm E,(3,a8 (r.take pc))::(2,⟨22,1,(t.take i).map az⟩)::dY u,4⟩
set_option maxHeartbeats 1000000 in
theorem Ct {u:Un}(hu:iy u){m:Nat}{xm:Mx}(hm:u.ms[m]? = some xm):af Tryz.prog 21 [df u,eQ (aj u),I m] (aF (wa u (aj u) m (ay xm))):=by
 obtain⟨O7,VZ⟩:=ja hu;have h8:=dD xm;have H:=tV hu h8;have Wk:=Hw hu hm;have Ws:=AE hu hm;have UD:=(fX (ay xm) (aj u).is.length (q9 u (aj u) m (ay xm)));have QZ:∀ (j:Nat) (x:Is),(aj u).is[j]? = some x→af Tryz.prog 79 [df u,eQ (aj u),I m,aF (j3 u (aj u) m (ay xm)),I j] (aF (dh u (aj u) m (ay xm) j x)):=fun j x hx=>by
  have:=rQ hu hx hm UD;change af _ _ [_,_,_,aF (j3 u (aj u) m (ay xm)),_] (aF (BX u m j (ay xm) x (j3 u (aj u) m (ay xm)))) at this;rwa [zu] at this
 have Pa:=aT u;have Ph:=bJ (aj u);have O3:trees [df u,eQ (aj u),I m]=true:=by simp only[trees,tree,df,eQ,aT,bJ,Bool.and_self]
 have PF:∀ (sm:List (List Nat)) (j:Nat),trees [df u,eQ (aj u),I m,aF sm,I j]=true:=fun sm j=>by simp only[trees,tree,df,eQ,aT,bJ,cg,Bool.and_self]
 have P4:=oq u (aj u) m (ay xm);have V4:=fun (i:Nat) (x:Is) (hx:(aj u).is[i]? = some x)=>qS (u:=u) (m:=m) (L:=ay xm) hx;have Wu:=fun (i pc:Nat) (x:Is) (h:pc<(au u x).length)=>LY (i:=i) (m:=m) H h;have Xo:∀ s∈iq u (aj u) m (ay xm),s<2 ^ (ay xm+1):=fun s hs=>by
  simp only[iq,List.mem_map] at hs;obtain⟨i,_,rfl⟩:=hs;exact jk _ _
 have hell:(iq u (aj u) m (ay xm)).length=(aj u).is.length:=by simp[iq]
 refine af.aK ai Tryz.func21 rfl OV (by simp[Tryz.ntmps21]) (cg _) fun C hC O0=>?_;rw[Tryz.ntmps21] at hC;generalize wa u (aj u) m (ay xm)=t at *;generalize j3 u (aj u) m (ay xm)=sm at *;generalize iq u (aj u) m (ay xm)=E at *;have tS:=aJ sm;have tE:=aC E;simp only[df,eQ,bY,cN,ints,aF] at Pa Ph PF O3 Wk Ws QZ ⊢;apply aq;simp[hC];refine T.seq (T.rx ai follows [0,1,2,4,5,6,3,7,8,9] [(4,3),(5,3)] OV ?_);simp[hC];refine RX.call rfl rfl rfl rfl rfl O3 Wk ?_;simp;refine RX.call rfl rfl rfl rfl rfl O3 Ws ?_;simp;refine T.le (Le.trim [8,7,4,3,2] [1,0] 2 XL yA) ?_;simp;apply aq;simp[hC];apply aO;simp[hC];apply T.block;refine T.aH (J21a u m sm E t) (n:=(aj u).is.length) ?_ ?_
 ·refine ae.le (Le.own 9 22 1 rfl) ?_;simp[St.own];refine ae.trim [10,9,8,7,4,3,2] [2,1,0] 3 XL yA ⟨0,by omega,by omega,?_⟩;simp[Br,dY,bY,cN,ints,aF]
 ·rintro k s ⟨i,rfl,hi,rfl⟩;simp only[Br,dY,bY,cN,ints,aF];by_cases OX:i<(aj u).is.length
  ·obtain⟨x,hx⟩:∃ x,(aj u).is[i]? = some x:=⟨_,List.getElem?_eq_getElem OX⟩;have Xu:=fo hu x;have wi:=cC ((i:Int)+1) yA yA;have P5:=kT (V4 i x hx);have Sk:=aJ (t.take (i+1));rw[← P5] at Sk;have TJ:=aJ (t.take i);have PK:(List.map az (List.take i t)).length=i:=by simp;omega
   have Tg:=QZ i x hx;have WO:=PF sm i;have TC:=ou u (aj u) m (ay xm) i x;have RA:=fun (pc:Nat) (h:pc<(au u x).length)=>qT (u:=u) (c:=aj u) (m:=m) (L:=ay xm) (i:=i) h;have Xy:=fun (pc:Nat) (h:pc<(au u x).length)=>Wu i pc x h;have WL:=fX (ay xm) (au u x).length (Rr u (aj u) m (ay xm) i);change qb _ _ (dh u (aj u) m (ay xm) i x) at WL;generalize wg u (aj u) m (ay xm) i x=br at *;generalize dh u (aj u) m (ay xm) i x=Qf at *;have tN:=aJ Qf;have Vh:=WL.len;generalize hR:List.map az (List.take i t)=R at *;obtain⟨ei,SK⟩:∃ ei,E[i]? = some ei:=⟨_,List.getElem?_eq_getElem yA⟩;have hdE:=cZ SK;have SU:E.getD i 0=ei:=by rw[List.getD_eq_getElem?_getD,SK];rfl
   have b2:ei<2 ^ 63:=qz h8 (Xo ei (List.mem_of_getElem? SK));apply aO;simp[hC,OX];refine fB ?_;simp;apply ed;apply aq;simp[hC];refine dz WO Tg ?_;simp[hC];apply aq;simp[hC];apply aO;simp[hC];apply T.block;refine T.aH (J21b u m sm E t i Qf br) (n:=Qf.length) ?_ ?_
   ·refine ae.le (Le.own 12 3 1 rfl) ?_;simp[St.own];refine ae.trim [13,12,11,10,9,8,7,4,3,2] [3,2,1,0] 4 (by simp[-List.all_eq_true,ah Pa,ah Ph,ah TJ,aW _ _ (aD _)]) yA ⟨0,by omega,by omega,?_⟩;simp[Br,dY,bY,cN,ints,aF,a8,← hR]
   ·rintro k s ⟨pc,rfl,mV,rfl⟩;simp only[Br,dY,bY,cN,ints,aF,a8,hR];by_cases PR:pc<Qf.length
    ·obtain⟨rp,Ta,TG⟩:=WL.get (p:=pc) yA;have VS:Qf.getD pc []=rp:=by rw[List.getD_eq_getElem?_getD,Ta];rfl
     have Uk:=dX az Ta;have PJ:=rX rp ei (by rw[TG.len];omega) (fx h8 TG) b2;have Xv:=Xy pc yA;rw[VS,SU] at Xv;have Tv:=wM (RA pc yA);rw[Xv] at PJ;generalize jE (ay xm) (Be u (aj u) m (ay xm) i pc)=v at *;have Rn:trees [az rp,I ei]=true:=by simp only[trees,aD,tree,Bool.and_self]
     have Sq:=cC ((pc:Int)+1) yA yA;have bdp:(pc+1)*8≤140737488355328:=by omega
     have WJ:=aC (br.take (pc+1));rw[← Tv] at WJ;have hbtl:(List.map (fun n:Nat=>I n) (List.take pc br)).length=pc:=by simp;omega
     generalize hB:List.map (fun n:Nat=>I n) (List.take pc br)=B at *;have Qq:i<E.length:=by omega
     have Wl:az E=CV.aA (E.map fun n:Nat=>I n) E.length:=rfl;simp only[Wl];apply aO;simp[hC,PR];refine fB ?_;simp;apply ed;refine T.rx ai follows [0,1,2,3,4,5,6,7,8,9,10,11,12] [] OV ?_;simp[hC,PR,Uk,Qq,hdE];refine RX.call rfl rfl rfl rfl rfl Rn PJ ?_;simp[bdp,hbtl];apply aV;simp[hC,Sq];have rB1:=fun ρ=>av ρ _ WJ;have rU:=fun ρ=>av ρ _ Pa;have rC:=fun ρ=>av ρ _ Ph;have rS:=fun ρ=>av ρ _ tS;have rE:=fun ρ=>av ρ _ tE;have rN:=fun ρ=>av ρ _ tN;have rR:=fun ρ=>av ρ _ TJ;refine⟨Qf.length-(pc+1),by omega,?_⟩;refine ae.le (Le.norm [13,12,11,10,9,8,7,4,3,2] [(17,3),(2,2),(1,1),(0,0)] 0 4 Ql Qk (by simp[dr,ss,pw,tree,assoc,-List.all_eq_true,-List.all_flatMap,aE WJ,aE Pa,aE Ph,aE TJ]) yA) ?_;simp[dj,cc,ca,dR,fF,assoc,rB1,g8,rR];refine ae.here ⟨pc+1,rfl,by omega,?_⟩;simp[Br,dY,bY,cN,ints,aF,a8,Wl,← Tv,hR]
    ·have Tc:pc=Qf.length:=by omega
     subst Tc;have WJ:=aC br;have V3:List.take Qf.length br=br:=List.take_of_length_le yA;rw[V3];have Xx:CV.aA (List.map (fun n:Nat=>I n) br) Qf.length=az br:=by simp only[az];rw[TC,Vh]
     apply aO;simp[hC];refine a7 ?_;simp;apply T.exit;simp;refine T.le (Le.dp (o:=3) rfl WJ) ?_;have Pd:List.take Qf.length (List.map (fun n:Nat=>I n) br)=List.map (fun n:Nat=>I n) br:=List.take_of_length_le T9;simp[dB,Pd,Xx,cI TJ];have V7:(i+1)*24≤140737488355328:=by omega
     apply aV;simp[hC,V7,PK,e9,fc];apply aV;simp[hC,wi];have Uv:=fun ρ=>av ρ _ Sk;have rU:=fun ρ=>av ρ _ Pa;have rC:=fun ρ=>av ρ _ Ph;have rS:=fun ρ=>av ρ _ tS;refine⟨(aj u).is.length-(i+1),by omega,?_⟩;have rE:=fun ρ=>av ρ _ tE;have Wl:az E=CV.aA (E.map fun n:Nat=>I n) E.length:=rfl;simp only[Wl];refine ae.le (Le.norm [10,9,8,7,4,3,2] [(5,2),(1,1),(0,0)] 0 3 Ql Qk yCi yA) ?_;simp[dj,cc,ca,dR,fF,assoc,Uv,g8];refine ae.here ⟨i+1,rfl,by omega,?_⟩;simp[Br,dY,bY,cN,ints,aF,Wl,← P5]
  ·have O6:i=(aj u).is.length:=by omega
   subst O6;have Sx:List.take (aj u).is.length t=t:=List.take_of_length_le yA;rw[Sx];apply aO;simp[hC];refine a7 ?_;simp;apply T.exit;simp;apply aq;simp[hC];apply T.ret;refine ae.le (Le.dp (o:=2) rfl (aJ t)) ?_;apply ae.here;have Pd:List.take (aj u).is.length (t.map az)=t.map az:=List.take_of_length_le T9;simp[Tryz.results21,Pd,P4]
def sY (u:Un):List (Nat×CV):=[(8,.bl 3 0 (aj u).is.length),(7,.ax 2 0)]
noncomputable def sV (u:Un) (m L:Nat) (T:List CV):List (Nat×Ob):=[(3,⟨22,1,T⟩),(2,⟨247,0,[aF (j3 u (aj u) m L),dw (hU u m L),az (iq u (aj u) m L)]⟩)]
def J107a (u:Un)(m L:Nat)(t:List (List Nat))(k:Nat)(s:St):Prop:=∃ i:Nat,k=(aj u).is.length-i∧i≤(aj u).is.length∧s=⟨(24,I i)::(23,I (aj u).is.length)::(22,dw (hU u m L))::sY u,sV u m L ((t.take i).map az++List.replicate ((aj u).is.length-i) .aa),4⟩
def J107b (u:Un)(m L:Nat)(t:List (List Nat))(i:Nat)(Qf:List (List Nat))(br:List Nat)(k:Nat)(s:St):Prop:=∃ pc:Nat,k=Qf.length-pc∧pc≤Qf.length∧s=⟨(37,I pc)::(36,I Qf.length)::(35,aF Qf)::(9,I i)::(24,I i)::(23,I (aj u).is.length)::(22,dw (hU u m L))::sY u,(4,⟨3,1,gq br pc⟩)::sV u m L ((t.take i).map az++.bl 4 0 Qf.length::List.replicate ((aj u).is.length-(i+1)) .aa),5⟩
set_option maxHeartbeats 1000000 in
theorem vf {u:Un}(hu:iy u){m:Nat}{xm:Mx}(hm:u.ms[m]? = some xm):af Tryz.prog 107 [df u,eQ (aj u),I m] (aF (wa u (aj u) m (ay xm))):=by
 obtain⟨O7,VZ⟩:=ja hu;have h8:=dD xm;have H:=tV hu h8;have Ub:=Fw hu hm;have Pa:=aT u;have Ph:=bJ (aj u);have O3:trees [df u,eQ (aj u),I m]=true:=by simp only[trees,tree,df,eQ,aT,bJ,Bool.and_self]
 have P4:=oq u (aj u) m (ay xm);have V4:=fun (i:Nat) (x:Is) (hx:(aj u).is[i]? = some x)=>qS (u:=u) (m:=m) (L:=ay xm) hx;have Wu:=fun (i pc:Nat) (x:Is) (h:pc<(au u x).length)=>LY (i:=i) (m:=m) H h;have Xo:∀ s∈iq u (aj u) m (ay xm),s<2 ^ (ay xm+1):=fun s hs=>by
  simp only[iq,List.mem_map] at hs;obtain⟨i,_,rfl⟩:=hs;exact jk _ _
 have hell:(iq u (aj u) m (ay xm)).length=(aj u).is.length:=by simp[iq]
 have Qe:=vC u m (ay xm);have bd:24*((aj u).is.length:Int)≤281474976710656∧((aj u).is.length:Int)≤9223372036854775807:=by omega
 have tI:=fV (hU u m (ay xm));have tS:=aJ (j3 u (aj u) m (ay xm));have tE:=aC (iq u (aj u) m (ay xm));have R1:=fun j=>dV (c:=CV.aa) rfl j;refine af.aK ai Tryz.func107 rfl OV (by simp[Tryz.ntmps107]) (cg _) fun C hC O0=>?_;rw[Tryz.ntmps107] at hC;generalize wa u (aj u) m (ay xm)=t at *;simp only[df,eQ,bY,cN,ints,aF] at Pa Ph O3 Ub ⊢;simp only[Hk] at Ub;apply aq;simp[hC];apply aq;simp[hC];refine dz O3 Ub ?_;simp[hC,aF,dw,az];apply aq;simp[hC,Qe,bd];apply aO;simp[hC];apply T.block;refine T.aH (J107a u m (ay xm) t) (n:=(aj u).is.length) ?_ ?_
 ·refine ae.trim [24,23,22,8,7] [3,2] 4 QJ yA ⟨0,by omega,by omega,?_⟩;simp[sY,sV,aF,dw,az,Qe]
 ·rintro k s ⟨i,rfl,hi,rfl⟩;simp only[sY,sV,aF,dw,Qe];have TJ:=aJ (t.take i);have PK:(List.map az (List.take i t)).length=i:=by simp;omega
  by_cases OX:i<(aj u).is.length
  ·obtain⟨x,hx⟩:∃ x,(aj u).is[i]? = some x:=⟨_,List.getElem?_eq_getElem OX⟩;have Xu:=fo hu x;have wi:=cC ((i:Int)+1) yA yA;have P5:=kT (V4 i x hx);have VX:=dX aF (qC (m:=m) (L:=ay xm) hx);have TC:=ou u (aj u) m (ay xm) i x;have RA:=fun (pc:Nat) (h:pc<(au u x).length)=>qT (u:=u) (c:=aj u) (m:=m) (L:=ay xm) (i:=i) h;have Xy:=fun (pc:Nat) (h:pc<(au u x).length)=>Wu i pc x h;have WL:=fX (ay xm) (au u x).length (Rr u (aj u) m (ay xm) i);change qb _ _ (dh u (aj u) m (ay xm) i x) at WL;generalize wg u (aj u) m (ay xm) i x=br at *;generalize dh u (aj u) m (ay xm) i x=Qf at *;have tN:=aJ Qf;have Vh:=WL.len;generalize hR:List.map az (List.take i t)=R at *;obtain⟨ei,SK⟩:∃ ei,(iq u (aj u) m (ay xm))[i]? = some ei:=⟨_,List.getElem?_eq_getElem yA⟩;have hdE:=cZ SK;have SU:(iq u (aj u) m (ay xm)).getD i 0=ei:=by rw[List.getD_eq_getElem?_getD,SK];rfl
   have b2:ei<2 ^ 63:=qz h8 (Xo ei (List.mem_of_getElem? SK));have bdn:8*(Qf.length:Int)≤281474976710656∧(Qf.length:Int)≤9223372036854775807:=by omega
   have PI:R.length+1≤R.length+((aj u).is.length-i):=by omega
   have Qs:i+1≤R.length+((aj u).is.length-i):=by omega
   have SH:i+1≤i+((aj u).is.length-i):=by omega
   apply aq;simp[hC,OX];refine T.seq (T.cond (b:=true) rfl (T.skip ?_));simp;apply ed;apply aq;simp[hC,OX,VX,aF];apply aq;simp[hC,bdn,OX,PK,SH];have hdrp:List.drop (i+1) (R++List.replicate ((aj u).is.length-i) CV.aa)=List.replicate ((aj u).is.length-(i+1)) CV.aa:=by
    rw[List.drop_append,List.drop_eq_nil_of_le yA,List.drop_replicate,PK];have e:(aj u).is.length-i-(i+1-i)=(aj u).is.length-(i+1):=by omega
    rw[e];rfl
   rw[hdrp];have tRN:=R1 ((aj u).is.length-(i+1));apply aq;simp[hC];apply T.block;refine T.aH (J107b u m (ay xm) t i Qf br) (n:=Qf.length) ?_ ?_
   ·have tZ:trees (List.replicate Qf.length (CV.int IntKind.i64 0))=true:=fU _;refine ae.trim [37,36,35,9,24,23,22,8,7] [4,3,2] 5 (by simp[-List.all_eq_true,ah TJ,ah tRN,ah tZ,aW _ _ (aD _)]) yA ⟨0,by omega,by omega,?_⟩;simp[sY,sV,aF,dw,Qe,hR,gV,TC,Vh]
   ·rintro k s ⟨pc,rfl,mV,rfl⟩;simp only[sY,sV,aF,dw,Qe,hR];have trB:=fb br pc;have trB2:=fb br (pc+1);have PO:(gq br pc).length=Qf.length:=by rw[jo yA];omega
    by_cases PR:pc<Qf.length
    ·obtain⟨rp,Ta,TG⟩:=WL.get (p:=pc) yA;have VS:Qf.getD pc []=rp:=by rw[List.getD_eq_getElem?_getD,Ta];rfl
     have Uk:=dX az Ta;have PJ:=r9 rp ei (by rw[TG.len];omega) (fx h8 TG) b2;have Xv:=Xy pc yA;rw[VS,SU] at Xv;have Tv:=RA pc yA;rw[Xv] at PJ;generalize jE (ay xm) (Be u (aj u) m (ay xm) i pc)=v at *;have Rn:trees [az rp,I ei]=true:=by simp only[trees,aD,tree,Bool.and_self]
     have Sq:=cC ((pc:Int)+1) yA yA;have Qq:i<(iq u (aj u) m (ay xm)).length:=by omega
     have Rv:pc+1≤Qf.length:=PR;have hrow:(R++CV.bl 4 0 Qf.length::List.replicate ((aj u).is.length-(i+1)) CV.aa)[i]? = some (CV.bl 4 0 Qf.length):=by
      rw[List.getElem?_append_right yA,PK];simp
     have Wl:az (iq u (aj u) m (ay xm))=CV.aA ((iq u (aj u) m (ay xm)).map fun n:Nat=>I n) (iq u (aj u) m (ay xm)).length:=rfl;simp only[Wl];generalize hTT:R++CV.bl 4 0 Qf.length::List.replicate ((aj u).is.length-(i+1)) CV.aa=TT at *;apply aq;simp[hC,PR];refine T.seq (T.cond (b:=true) rfl (T.skip ?_));simp;apply ed;apply aq;simp[hC,PR,Uk];refine T.rx ai follows [0,1,2,3,4,5,6,7,8,9,10,11,12,13] [(3,11)] OV ?_;simp[hC,OX,hrow,Qq,hdE];refine RX.call rfl rfl rfl rfl rfl Rn PJ ?_;simp[PR,Rv,PO];apply aV;simp[hC,Sq];rw[jn Tv,← hTT];refine⟨Qf.length-(pc+1),by omega,ae.trim [37,36,35,9,24,23,22,8,7] [4,3,2] 5 (by simp[-List.all_eq_true,ah TJ,ah tRN,ah trB2]) yA ⟨pc+1,rfl,by omega,?_⟩⟩;simp[sY,sV,aF,dw,Qe,hR,Wl]
    ·have Tc:pc=Qf.length:=by omega
     subst Tc;have Q2:=jq br;rw[TC,← Vh] at Q2;have WJ:=aC br;rw[Q2] at PO ⊢;have Xx:CV.aA (List.map (fun n:Nat=>I n) br) Qf.length=az br:=by simp only[az];rw[TC,Vh]
     apply aq;simp[hC];refine T.seq (T.cond (b:=false) rfl (T.exit ?_));simp;refine T.le (Le.dp (o:=4) rfl WJ) ?_;have Pd:List.take Qf.length (List.map (fun n:Nat=>I n) br)=List.map (fun n:Nat=>I n) br:=List.take_of_length_le T9;simp[dB,Pd,Xx,cI TJ,cI tRN];apply aV;simp[hC,wi];have hap2:R++az br::List.replicate ((aj u).is.length-(i+1)) CV.aa=(t.take (i+1)).map az++List.replicate ((aj u).is.length-(i+1)) CV.aa:=by
      rw[← P5,List.append_assoc];rfl
     rw[hap2];have tR1:=aJ (t.take (i+1));rw[List.map_take] at tR1;refine⟨(aj u).is.length-(i+1),by omega,ae.trim [24,23,22,8,7] [3,2] 4 (by simp[-List.all_eq_true,ah tR1,ah tRN,aW _ _ (aD _)]) yA ⟨i+1,rfl,by omega,?_⟩⟩;simp[sY,sV,aF,dw,Qe]
  ·have O6:i=(aj u).is.length:=by omega
   subst O6;have Sx:List.take (aj u).is.length t=t:=List.take_of_length_le yA;rw[Sx];apply aq;simp[hC];refine T.seq (T.cond (b:=false) rfl (T.exit ?_));simp;apply aq;simp[hC];apply T.ret;refine ae.le (Le.dp (o:=3) rfl (aJ t)) ?_;apply ae.here;have Pd:List.take (aj u).is.length (t.map az)=t.map az:=List.take_of_length_le T9;simp[Tryz.results107,Pd,P4]
theorem Kk {u:Un}(hu:iy u){m:Nat}{xm:Mx}(hm:u.ms[m]? = some xm){i pc:Nat}{x:Is}(hx:(aj u).is[i]? = some x)(mV:pc<(au u x).length):af Tryz.prog 39 [df u,eQ (aj u),I m,I i,I pc] (.bool (decide (1<jE (ay xm) (Be u (aj u) m (ay xm) i pc)))):=by
 have hb:=vf hu hm;have h8:=dD xm;have P4:=oq u (aj u) m (ay xm);have V4:=qS (u:=u) (m:=m) (L:=ay xm) hx;have TC:=ou u (aj u) m (ay xm) i x;have RA:=qT (u:=u) (c:=aj u) (m:=m) (L:=ay xm) (i:=i) mV;have OX:=(List.getElem?_eq_some_iff.1 hx).1;have O1:jE (ay xm) (Be u (aj u) m (ay xm) i pc)<2 ^ 63:=qz h8 (jk _ _);have O3:trees [df u,eQ (aj u),I m]=true:=by simp only[trees,tree,df,eQ,aT,bJ,Bool.and_self]
 refine af.aK ai Tryz.func39 rfl OV (by simp[Tryz.ntmps39]) rfl fun C hC O0=>?_;rw[Tryz.ntmps39] at hC;generalize wa u (aj u) m (ay xm)=t at *;generalize wg u (aj u) m (ay xm) i x=br at *;generalize jE (ay xm) (Be u (aj u) m (ay xm) i pc)=v at *;have VX:=dX az V4;have Zz:=cZ RA;have T2:=qY O1 (show 1<2 ^ 63 by decide);have UJ:pc<br.length:=by omega
 have PK:i<t.length:=by omega
 have Pq:(((xd v 1:Nat):Int) != 0)=decide (1<v):=by
  have h1:=Ev v;by_cases h2:v≤1
  ·rw[h1.2 h2];simp;omega
  ·have h3:xd v 1≠0:=fun h=>h2 (h1.1 h);have h4:1<v:=by omega
   simp[h3,h4]
 simp only[df,eQ,bY,cN,ints,aF] at O3 hb ⊢;apply aq;simp[hC];apply aq;simp[hC];refine dz O3 hb ?_;simp[hC,PK,VX,az,Zz,UJ,T2,Pq];apply T.ret;apply ae.here;simp[Tryz.results39]
end Go.Proofs.YtnecpnjdonibmaaGreat
