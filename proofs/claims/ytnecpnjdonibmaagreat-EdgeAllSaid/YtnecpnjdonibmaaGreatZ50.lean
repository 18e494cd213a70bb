/- Edges of the reference. -/
import Derived.Test.YtnecpnjdonibmaaGreatZ49
import Derived.Test.YtnecpnjdonibmaaGreatZ48
namespace Go.Proofs.YtnecpnjdonibmaaGreat
open Go.Can Go.aP
def OH (T:List (List (List Nat)))(n:Nat):List (Nat×CV):=[(6,.bj 2 0 n),(5,bW T),(3,.av 1 0),(2,.av 0 0)]
def JRa (u:Un)(T:List (List (List Nat)))(k:Nat)(s:St):Prop:=∃ h:Nat,k=u.ms.length-h∧h≤u.ms.length∧s=⟨(7,I h)::OH T (vN u h).length,J6 u (vN u h),3⟩
def JRb (u:Un)(T:List (List (List Nat)))(h:Nat)(A:List E4)(k:Nat)(s:St):Prop:=∃ m:Nat,k=u.ms.length-m∧m≤u.ms.length∧s=⟨(8,I m)::(7,I h)::OH T (A++IM u h m).length,J6 u (A++IM u h m),3⟩
def JRc (u:Un)(T:List (List (List Nat)))(h m:Nat)(A:List E4)(k:Nat)(s:St):Prop:=∃ i:Nat,k=(ak u).is.length-i∧i≤(ak u).is.length∧s=⟨(9,I i)::(8,I m)::(7,I h)::OH T (A++KR u h m i).length,J6 u (A++KR u h m i),3⟩
def JRd (u:Un)(T:List (List (List Nat)))(h m i:Nat)(x:Is)(co:List In)(A:List E4)(k:Nat)(s:St):Prop:=∃ pc:Nat,k=co.length-pc∧pc≤co.length∧s=⟨(11,I pc)::(10,.az (co.flatMap dd) co.length)::(9,I i)::(8,I m)::(7,I h)::OH T (A++Jt u h m i x pc).length,J6 u (A++Jt u h m i x pc),3⟩
set_option maxRecDepth 10000 in
set_option maxHeartbeats 2000000 in
theorem O9 {u:Un}(hu:ik u):ae Tryz.prog 34 [ef u,jj (ak u)] (HY u):=by
 have hbs:=Ps hu;have Qf:=Az u;have Ud:=fun (m:Nat) (xm:Mx) (hm:u.ms[m]? = some xm)=>yz hm;have hLl:=GH hu;have hMl:=GD hu;have hIl:=GI hu;have QH:=hu.nm;obtain⟨PX,U1⟩:=j0 hu;have PO:=bO u;have PW:=cO (ak u);have t2:trees [ef u,jj (ak u)]=true:=by simp only[trees,tree,ef,jj,bO,cO,Bool.and_self]
 have tt:tree (HY u)=true:=by simp only[HY,tree]
 refine ae.aM ah Tryz.func34 rfl PH (by simp[Tryz.ntmps34]) tt fun C hC PN=>?_;rw[Tryz.ntmps34] at hC;generalize rG u=TT at *;have tT:=ej TT;simp only[ef,jj,dh,fp,ints] at PO PW t2 hbs ⊢;apply aj;simp[hC];apply aj;simp[hC];refine dQ t2 hbs ?_;simp[hC];apply aj;simp[hC];apply aU;simp[hC];apply T.block;refine T.aJ (JRa u TT) (n:=u.ms.length) ?_ ?_
 ·refine aa.le (Le.own 6 76 4 rfl) ?_;simp[St.own];refine aa.trim [7,6,5,3,2] [2,1,0] 3 (by simp[-List.all_eq_true,-List.all_flatMap,bW,af PO,af PW]) yA ⟨0,by omega,by omega,?_⟩;simp[OH,J6,ir,dh,fp,ints,vN]
 ·rintro k s ⟨h,rfl,hh,rfl⟩;simp only[OH,J6,ir,dh,fp,ints,bW];by_cases Xc:h<u.ms.length
  ·obtain⟨xh,Ti⟩:∃ xh,u.ms[h]? = some xh:=⟨_,List.getElem?_eq_getElem Xc⟩;have Tp:=GF u h;have hA1:=hLl h;have wh:=cE ((h:Int)+1) yA yA;have hhT:h<TT.length:=by omega
   have Y9:=aO (f:=eL) (n:=3) qn Ti;generalize vN u h=A at *;have tA:=aF js A;apply aU;simp[hC,Qf,Xc];refine gQ ?_;simp;apply dZ;apply aj;simp[hC];apply T.block;refine T.aJ (JRb u TT h A) (n:=u.ms.length) ?_ ?_
   ·refine aa.trim [8,7,6,5,3,2] [2,1,0] 3 (by simp[-List.all_eq_true,-List.all_flatMap,af PO,af PW,af tA]) yA ⟨0,by omega,by omega,?_⟩;simp[OH,J6,ir,dh,fp,ints,IM,bW,Qf]
   ·rintro k s ⟨m,rfl,hm,rfl⟩;simp only[OH,J6,ir,dh,fp,ints,bW];by_cases QK:m<u.ms.length
    ·obtain⟨xm,R6⟩:∃ xm,u.ms[m]? = some xm:=⟨_,List.getElem?_eq_getElem QK⟩;have Rx:=GC u h m;have hB1:=hMl h m;have wm:=cE ((m:Int)+1) yA yA;have hmT:m<TT.length:=by omega
     have Xt:=aO (f:=eL) (n:=3) qn R6;have SN:Pv u h m=(decide (h=m) && decide (xh.size=0)):=by simp only[Pv,Ti]
     have YE:IN u h m=if Pv u h m=true then [] else KR u h m (ak u).is.length:=rfl
     generalize hB:A++IM u h m=B at *;have hBl:B.length=A.length+(IM u h m).length:=by rw[← hB,List.length_append]
     have tB:=aF js B;apply aU;simp[hC,Qf,QK];refine gQ ?_;simp;apply dZ
     cases hs:Pv u h m with
     | true=>
      rw[hs] at SN YE;rw[if_pos rfl] at YE;have Zr:=SN.symm;simp only[Bool.and_eq_true,decide_eq_true_eq] at Zr;obtain⟨e1,e2⟩:=Zr;subst e1;rw[YE,List.append_nil] at Rx;apply aU;simp[hC,Xc,Y9,eL,e2];refine fx ?_;simp;apply T.exit;simp;apply aW;simp[hC,wm];refine⟨u.ms.length-(h+1),by omega,aa.trim [8,7,6,5,3,2] [2,1,0] 3 (by simp[-List.all_eq_true,-List.all_flatMap,af PO,af PW,af tB]) yA ⟨h+1,rfl,by omega,?_⟩⟩;rw[Rx,hB];simp[OH,J6,ir,dh,fp,ints,bW,Qf]
     | false=>
      rw[hs] at SN YE;rw[if_neg zX] at YE;refine T.cut (fun s=>s=⟨(8,I m)::(7,I h)::OH TT B.length,J6 u B,3⟩) ?_ ?_
      ·by_cases e:h=m
       ·subst e;have e2:((xh.size:Int) == 0)=false:=by
         simp at SN;simp;omega
        apply aj;simp[hC,Xc,Y9,eL,e2];refine T.cond (b:=false) RN (T.skip ?_);simp;refine aa.trim [8,7,6,5,3,2] [2,1,0] 3 (by simp[-List.all_eq_true,-List.all_flatMap,af PO,af PW,af tB]) yA ?_;simp[OH,J6,ir,dh,fp,ints,bW,Qf]
       ·have e2:((h:Int) == (m:Int))=false:=by rw[beq_eq_false_iff_ne];omega
        apply aj;simp[hC,e2];refine T.cond (b:=false) RN (T.skip ?_);simp;refine aa.trim [8,7,6,5,3,2] [2,1,0] 3 (by simp[-List.all_eq_true,-List.all_flatMap,af PO,af PW,af tB]) yA ?_;simp[OH,J6,ir,dh,fp,ints,bW,Qf]
      ·rintro s rfl;simp only[OH,J6,ir,dh,fp,ints,bW];apply aj;simp[hC];apply T.block;refine T.aJ (JRc u TT h m B) (n:=(ak u).is.length) ?_ ?_
       ·refine aa.trim [9,8,7,6,5,3,2] [2,1,0] 3 (by simp[-List.all_eq_true,-List.all_flatMap,af PO,af PW,af tB]) yA ⟨0,by omega,by omega,?_⟩;simp[OH,J6,ir,dh,fp,ints,KR,bW,Qf]
       ·rintro k s ⟨i,rfl,hi,rfl⟩;simp only[OH,J6,ir,dh,fp,ints,bW];by_cases PJ:i<(ak u).is.length
        ·obtain⟨x,hx⟩:∃ x,(ak u).is[i]? = some x:=⟨_,List.getElem?_eq_getElem PJ⟩;have Zm:=Pj (h:=h) (m:=m) hx;have hD1:=hIl h m i;have wi:=cE ((i:Int)+1) yA yA;have hv:=uE hu hx;obtain⟨pq,Qe,PK⟩:=jZ hv;have VO:=eZ hu x;have Ub:(aq u x).length=pq.code.length:=by rw[PK]
         have Qy:=(List.getElem?_eq_some_iff.1 Qe).1;have R8:=aO (f:=df) (n:=2) fk hx;have PL:=bS (f:=nD) (n:=5) gD Qe 4 yA;have WY:trees (pq.code.flatMap dd)=true:=aF eE _;generalize hD:B++KR u h m i=D at *;have hDl:D.length=B.length+(KR u h m i).length:=by rw[← hD,List.length_append]
         have tD:=aF js D;apply aU;simp[hC,PJ];refine gQ ?_;simp;apply dZ;refine T.seq (T.rx ah follows [0,1,2,3,4,5,6,7,8,9,10,11] [] PH ?_);simp[hC,PJ,R8,df,Qy,PL,nD];apply aj;simp[hC];apply T.block;refine T.aJ (JRd u TT h m i x pq.code D) (n:=pq.code.length) ?_ ?_
         ·refine aa.trim [11,10,9,8,7,6,5,3,2] [2,1,0] 3 (by simp[-List.all_eq_true,-List.all_flatMap,af PO,af PW,af tD]) yA ⟨0,by omega,by omega,?_⟩;simp[OH,J6,ir,dh,fp,ints,Jt,bW,Qf]
         ·rintro k s ⟨pc,rfl,jN,rfl⟩;simp only[OH,J6,ir,dh,fp,ints,bW];have Tq:=GB u h m i x pc;rw[PK] at Zm;by_cases Qx:pc<pq.code.length
          ·obtain⟨z,Qt⟩:∃ z,pq.code[pc]? = some z:=⟨_,List.getElem?_eq_getElem Qx⟩;have hz:(aq u x)[pc]? = some z:=by rw[PK];exact Qt
           have R2:=GA u h m i x pc;have Rb:Mc u h m i x pc=if Pu u h m i x pc z=true then [(h,m,i,pc)] else []:=by simp only[Mc,hz]
           have QD:Pu u h m i x pc z=(decide (qp x z=some m) && decide (1<vE u i pc h) && ((!xm.re) || decide (vE u i pc m % 2=1))):=by simp only[Pu,R6]
           have QL:=aO (f:=dd) (n:=12) fo Qt;have Q4:=kS z;have R9:=eE z;obtain⟨xc,QJ,QF⟩:=ku z;obtain⟨c1,c2,c3,c4,c5,c6,c7,c8,c9,VY,VX,rfl⟩:=wy QF;rw[QJ] at QL Q4 R9;simp only[List.all_cons,List.all_nil,Bool.and_true,Bool.and_eq_true] at Q4;obtain⟨_,o1,o2,o3,o4,o5,o6,o7,o8,o9,W2,W1⟩:=Q4;have RU:=cE ((pc:Int)+1) yA yA;obtain⟨_,_,_,Sc,UH⟩:=lh hu hv hz;have Xw:=FZ (i:=i) (pc:=pc) Ti;have V3:=FZ (i:=i) (pc:=pc) R6;have b2:vE u i pc m<2 ^ 63:=by rw[V3];exact wx (fq xm) (jA _ _)
           have WT:=Lm b2 (show 1<2 ^ 63 by decide);have hdh:=fA aY (Ud h xh Ti);have hdm:=fA aY (Ud m xm R6);have hg1:=fA aA (sF (u:=u) (m:=h) (L:=aI xh) hx);have hg3:=fA aA (sF (u:=u) (m:=m) (L:=aI xm) hx);have hg2:=dk (sG (u:=u) (c:=ak u) (m:=h) (L:=aI xh) (i:=i) (by rw[Ub];exact Qx:pc<(aq u x).length));have hg4:=dk (sG (u:=u) (c:=ak u) (m:=m) (L:=aI xm) (i:=i) (by rw[Ub];exact Qx:pc<(aq u x).length));rw[← Xw] at hg2;rw[← V3] at hg4;have QW:i<(qB u (ak u) h (aI xh)).length:=by rw[pJ];exact PJ
           have Z0:i<(qB u (ak u) m (aI xm)).length:=by rw[pJ];exact PJ
           have Vt:pc<(rH u (ak u) h (aI xh) i x).length:=by rw[pK,Ub];exact Qx
           have ZC:pc<(rH u (ak u) m (aI xm) i x).length:=by rw[pK,Ub];exact Qx
           generalize hF:D++Jt u h m i x pc=F at *;have hFl:F.length=D.length+(Jt u h m i x pc).length:=by rw[← hF,List.length_append]
           have tF:=aF js F;apply aU;simp[hC,Qx];refine gQ ?_;simp;apply dZ;refine T.cut (fun s=>Pu u h m i x pc z=true∧s=⟨(11,I pc)::(10,.az (pq.code.flatMap dd) pq.code.length)::(9,I i)::(8,I m)::(7,I h)::OH TT F.length,J6 u F,3⟩) ?_ ?_
           ·refine T.seq (T.rx ah follows [0,1,2,3,4,5,6,7,8,9,10,11,12,13,14,15,16,18,17,19,20,21,22,23,24,25,26,27,28,29,30,31,32,33,34,35,36,37,38,39,40,41,42,43,44,45,46,47,48,49,50,51,52,53,54,55,56] [] PH ?_);by_cases UG:∃ p,z=.lock false p
            ·obtain⟨p,rfl⟩:=UG;simp[hC,Qx,QL,show qj (.lock false p)=4 from rfl,PJ,R8,df];have hp:l9 p=[c7,c8,c9]:=by
              have h:=congrArg (fun l=>(l.drop 7).take 3) QJ
              simpa [dd,bK,l9] using h
             have hq:p.param=true→p.index<x.bx.length:=fun h=>by
              rw[Sc];rcases (UH:Fl _ _ _ _ p) with h6 | h6
              ·exact h6.2.1
              ·rw[h] at h6;cases h6.1
             have QY:=vJ x p hq;rw[hp] at QY;have h2:trees [c7,c8,c9]=true:=by rw[← hp];exact gW p
             have tp:trees [.agg (df x),.agg [c7,c8,c9]]=true:=by
              rw[show trees [.agg (df x),.agg [c7,c8,c9]]=(trees (df x) && (trees [c7,c8,c9] && true)) from rfl,bV,h2];rfl
             simp only[df] at QY tp;have Ty:qp x (.lock false p)=some (ma x p):=rfl;rw[Ty] at QD;refine RX.call rfl zX rfl rfl rfl tp QY ?_;by_cases RS:ma x p=m
             ·rw[RS] at QD ⊢;simp only[decide_true,Bool.true_and] at QD;have hmay:=PA (vE u i pc h);have tm:trees [I (vE u i pc h)]=true:=rfl;simp[hhT,hdh,aY,aA,hg1,hg2,QW,Vt];refine RX.call rfl zX rfl rfl rfl tm hmay ?_;by_cases h1:1<vE u i pc h
              ·simp only[h1,decide_true,Bool.true_and] at QD ⊢
               cases h4:xm.re with
               | false=>
                rw[h4] at QD;simp only[Bool.not_false,Bool.true_or] at QD;simp[QK,Xt,eL,h4];refine T.cond (b:=false) RN (T.skip ?_);simp;refine aa.trim [11,10,9,8,7,6,5,3,2] [2,1,0] 3 (by simp[-List.all_eq_true,-List.all_flatMap,af PO,af tF]) yA ⟨QD,?_⟩;simp[OH,J6,ir,dh,fp,ints,bW,aA,Qf]
               | true=>
                rw[h4] at QD;simp only[Bool.not_true,Bool.false_or] at QD;by_cases h5:vE u i pc m % 2=1
                ·have h6:¬ ((vE u i pc m:Int) % 2=0):=by omega
                 rw[h5] at QD;simp only[decide_true] at QD;simp[QK,Xt,eL,h4,hmT,hdm,aY,aA,hg3,hg4,Z0,ZC,WT];refine T.cond (b:=false) (by simp[ev,assoc,h6]) (T.skip ?_);simp;refine aa.trim [11,10,9,8,7,6,5,3,2] [2,1,0] 3 (by simp[-List.all_eq_true,-List.all_flatMap,af PO,af tF]) yA ⟨QD,?_⟩;simp[OH,J6,ir,dh,fp,ints,bW,aA,Qf]
                ·have h6:(vE u i pc m:Int) % 2=0:=by omega
                 simp only[h5,decide_false] at QD;rw[QD,if_neg zX] at Rb;rw[Rb,List.append_nil] at R2;simp[QK,Xt,eL,h4,hmT,hdm,aY,aA,hg3,hg4,Z0,ZC,WT,h6];refine T.cond (b:=true) RN ?_;simp;apply T.exit;simp;apply aW;simp[hC,RU];refine⟨pq.code.length-(pc+1),by omega,aa.trim [11,10,9,8,7,6,5,3,2] [2,1,0] 3 (by simp[-List.all_eq_true,-List.all_flatMap,af PO,af tF]) yA ⟨pc+1,rfl,by omega,?_⟩⟩;rw[R2,hF];simp[OH,J6,ir,dh,fp,ints,bW,Qf,aA]
              ·simp only[h1,decide_false,Bool.false_and] at QD ⊢;rw[QD,if_neg zX] at Rb;rw[Rb,List.append_nil] at R2;simp;refine T.cond (b:=true) RN ?_;simp;apply T.exit;simp;apply aW;simp[hC,RU];refine⟨pq.code.length-(pc+1),by omega,aa.trim [11,10,9,8,7,6,5,3,2] [2,1,0] 3 (by simp[-List.all_eq_true,-List.all_flatMap,af PO,af tF]) yA ⟨pc+1,rfl,by omega,?_⟩⟩;rw[R2,hF];simp[OH,J6,ir,dh,fp,ints,bW,aA,Qf]
             ·have WB:((ma x p:Int) != (m:Int))=true:=by rw[bne_iff_ne];omega
              have hmi2:¬ some (ma x p)=some m:=fun e=>RS (Option.some.inj e);simp only[hmi2,decide_false,Bool.false_and] at QD;rw[QD,if_neg zX] at Rb;rw[Rb,List.append_nil] at R2;simp[WB];refine T.cond (b:=true) RN ?_;simp;apply T.exit;simp;apply aW;simp[hC,RU];refine⟨pq.code.length-(pc+1),by omega,aa.trim [11,10,9,8,7,6,5,3,2] [2,1,0] 3 (by simp[-List.all_eq_true,-List.all_flatMap,af PO,af PW,af tF]) yA ⟨pc+1,rfl,by omega,?_⟩⟩;rw[R2,hF];simp[OH,J6,ir,dh,fp,ints,bW,aA,Qf]
            ·have Ty:qp x z=none:=by
              unfold qp;split
              ·exact (UG ⟨_,rfl⟩).elim
              ·rfl
             have P0:((qj z:Int) != 4)=true:=by
              cases z with
              | lock un p=>
               cases un with
               | false=>exact (UG ⟨p,rfl⟩).elim
               | true=>rfl
              | call g t l ps=>cases g<;>rfl
              | _=>rfl
             rw[QD,Ty] at Rb;simp at Rb;rw[Rb,List.append_nil] at R2;simp[hC,Qx,QL,P0];refine T.cond (b:=true) RN ?_;simp;apply T.exit;simp;apply aW;simp[hC,RU];refine⟨pq.code.length-(pc+1),by omega,aa.trim [11,10,9,8,7,6,5,3,2] [2,1,0] 3 (by simp[-List.all_eq_true,-List.all_flatMap,af PO,af PW,af tF]) yA ⟨pc+1,rfl,by omega,?_⟩⟩;rw[R2,hF];simp[OH,J6,ir,dh,fp,ints,bW,aA,Qf]
           ·rintro s ⟨hrt,rfl⟩;simp only[OH,J6,ir,dh,fp,ints,bW];rw[hrt,if_pos rfl] at Rb;have bB:(F.length+1)*32≤140737488355328:=by omega
            have hB5:F.flatMap yj++[I h,I m,I i,I pc]=(F++[(h,m,i,pc)]).flatMap yj:=by simp[yj]
            have Ve:=aF js (F++[(h,m,i,pc)]);rw[← hB5] at Ve;have Xm:(F.flatMap yj).length=F.length*4:=bk yi F;have hBt:List.take (F.length*4) (F.flatMap yj)=F.flatMap yj:=List.take_of_length_le (Nat.le_of_eq Xm);have rB:=fun ρ=>ay ρ _ tF;have Y1:=fun ρ=>ay ρ _ Ve;have rU:=fun ρ=>ay ρ _ PO;have rC:=fun ρ=>ay ρ _ PW;have rO:=fun ρ=>ay ρ _ WY;have rT:=fun ρ=>ay ρ _ tT;generalize hRB:F.flatMap yj=RB at *;apply aW;simp[hC,bB,Xm,aX];apply aW;simp[hC,RU];refine⟨pq.code.length-(pc+1),by omega,?_⟩;refine aa.le (Le.norm [11,10,9,8,7,6,5,3,2] [(4,2),(1,1),(0,0)] 0 3 Rm Rl (by simp[dD,um,p4,tree,assoc,-List.all_eq_true,-List.all_flatMap,aH Ve,aH PO,aH PW]) yA) ?_;simp[dC,ct,cq,dR,gf,assoc,Y1,tj];refine aa.here ⟨pc+1,rfl,by omega,?_⟩;rw[R2,Rb,← List.append_assoc,hF];simp[OH,J6,ir,dh,fp,ints,hRB,yj,bW,Qf]
          ·have RY:pc=pq.code.length:=by omega
           subst RY;have tF:=aF js (D++Jt u h m i x pq.code.length);apply aU;simp[hC];refine bh ?_;simp;apply T.exit;simp;apply aW;simp[hC,wi];refine⟨(ak u).is.length-(i+1),by omega,aa.trim [9,8,7,6,5,3,2] [2,1,0] 3 (by simp only[List.flatMap_append] at tF ⊢;simp[-List.all_eq_true,-List.all_flatMap,af PO,af PW,af tF]) yA ⟨i+1,rfl,by omega,?_⟩⟩;rw[Zm,← List.append_assoc,hD];simp[OH,J6,ir,dh,fp,ints,bW,Qf]
        ·have PS:i=(ak u).is.length:=by omega
         subst PS;have tD:=aF js (B++KR u h m (ak u).is.length);apply aU;simp[hC];refine bh ?_;simp;apply T.exit;simp;apply aW;simp[hC,wm];refine⟨u.ms.length-(m+1),by omega,aa.trim [8,7,6,5,3,2] [2,1,0] 3 (by simp only[List.flatMap_append] at tD ⊢;simp[-List.all_eq_true,-List.all_flatMap,af PO,af PW,af tD]) yA ⟨m+1,rfl,by omega,?_⟩⟩;rw[Rx,YE,← List.append_assoc,hB];simp[OH,J6,ir,dh,fp,ints,bW,Qf]
    ·have ZP:m=u.ms.length:=by omega
     subst ZP;have tB:=aF js (A++IM u h u.ms.length);apply aU;simp[hC,Qf];refine bh ?_;simp;apply T.exit;simp;apply aW;simp[hC,wh];refine⟨u.ms.length-(h+1),by omega,aa.trim [7,6,5,3,2] [2,1,0] 3 (by simp only[List.flatMap_append] at tB ⊢;simp[-List.all_eq_true,-List.all_flatMap,af PO,af PW,af tB]) yA ⟨h+1,rfl,by omega,?_⟩⟩;rw[Tp];simp[OH,J6,ir,dh,fp,ints,bW,Qf]
  ·have hhe:h=u.ms.length:=by omega
   subst hhe;have tR:=aF js (vN u u.ms.length);generalize YM:vN u u.ms.length=R at *;apply aU;simp[hC,Qf];refine bh ?_;simp;apply T.exit;simp;apply aj;simp[hC];apply T.ret;refine aa.le (Le.dz (o:=2) rfl tR) ?_;apply aa.here;have PY:List.take (R.length*4) (R.flatMap yj)=R.flatMap yj:=List.take_of_length_le (by rw[bk yi];exact Nat.le_refl _);simp[Tryz.results34,HY,YM,PY]
end Go.Proofs.YtnecpnjdonibmaaGreat
namespace Go.Can
open Go.RowKit
variable {P:Program}{s:St}{W:List q9}
theorem XV.neq {t:TypeId}{kb:Value→Bool}(hT:PG P t kb){o:Oper}{x y:Operand}{q:TypeId}{cx cy:CV}{vx vy:Value}(ho:o.op=.binOp .neq t x y q)(hx:ev s x=some cx)(hy:ev s y=some cy)(h4:nX cx=some vx)(h5:nX cy=some vy)(k1:kb vx=true)(k2:kb vy=true):XV P W o s (.bool (!(Fq vx vy))):=fun C σ s1 a w he _ hr=>by
 obtain⟨e1,_⟩:=mF h4 (bL hr ((he x (by simp[ho,Op.operands])).trans hx));obtain⟨e2,_⟩:=mF h5 (bL hr ((he y (by simp[ho,Op.operands])).trans hy));obtain⟨xs,rfl⟩:=hT.agg vx k1;obtain⟨ys,rfl⟩:=hT.agg vy k2;refine⟨_,?_,dv _⟩;simp only[execOp,ho,e1,e2,Sem.run_bind,run_eqGuard_agg w _ t x y xs ys hT.guard,Result.andThen_ok,run_neq_struct,hT.eq w _ _ k1 k2,Sem.run_pure]
end Go.Can
namespace Go.Proofs.YtnecpnjdonibmaaGreat
open Go.Can Go.aP
theorem PD:O1 Tryz.prog 3 4 76=true:=by kernel_rfl
theorem edEq:PG Tryz.prog 76 (OX 4):=Po yA PD PH
def PC (e:E4):Value:=.agg #[.int .i64 e.1,.int .i64 e.2.1,.int .i64 e.2.2.1,.int .i64 e.2.2.2]
theorem Pp {e:E4}(hb:b4 e):OX 4 (PC e)=true∧Fq (PC e) (PC e)=true:=by
 obtain⟨h1,h2,h3,h4⟩:=hb;constructor
 ·simp[OX,PC,wI,PB];omega
 ·simp[PC,Fq,xq,AY]
theorem edNeq {e:E4}(hb:b4 e){W:List q9}{s:St}{o:Oper}{x y:Operand}{q:TypeId}(ho:o.op=.binOp .neq 76 x y q)(hx:ev s x=some (.agg (yj e)))(hy:ev s y=some (.agg (yj e))):XV Tryz.prog W o s (.bool false):=by
 have h:=XV.neq (W:=W) edEq ho hx hy (vx:=PC e) (vy:=PC e) rfl rfl (Pp hb).1 (Pp hb).1;rwa [(Pp hb).2] at h
def J32 (l:List E4)(k:Nat)(s:St):Prop:=∃ i:Nat,k=l.length-i∧i≤l.length∧s=⟨[(5,I i),(0,.az (l.flatMap yj) l.length),(1,.az (l.flatMap yj) l.length)],[],0⟩
theorem OR (l:List E4)(hl:l.length<1000000)(hb:∀ e∈l,b4 e):ae Tryz.prog 32 [.az (l.flatMap yj) l.length,.az (l.flatMap yj) l.length] (.bool true):=by
 have tL:=aF js l;refine ae.aM ah Tryz.func32 rfl PH (by simp[Tryz.ntmps32]) rfl fun C hC PN=>?_;rw[Tryz.ntmps32] at hC;apply aj;simp[hC];apply aU;simp[hC];refine gO ?_;simp;apply aU;simp[hC];apply T.block;refine T.aJ (J32 l) (n:=l.length) ?_ ?_
 ·refine aa.trim [5,0,1] [] 0 SK yA ⟨0,by omega,by omega,?_⟩;simp
 ·rintro k s ⟨i,rfl,hi,rfl⟩;by_cases PJ:i<l.length
  ·obtain⟨e,he⟩:∃ e,l[i]? = some e:=⟨_,List.getElem?_eq_getElem PJ⟩;have hd:=aO (f:=yj) (n:=4) yi he;have wi:=cE ((i:Int)+1) yA yA;apply aU;simp[hC,PJ];refine gQ ?_;simp;apply dZ;refine T.seq (T.rx ah follows [0,1,2,3,4,5,6,7,8] [] PH ?_);simp[hC,PJ,hd,yj];refine RX.quiet (.bool false) rfl zX rfl (edNeq (hb e (List.mem_of_getElem? he)) rfl rfl rfl) ?_;simp;refine gO ?_;simp;apply aW;simp[hC,wi];refine⟨l.length-(i+1),by omega,aa.trim [5,0,1] [] 0 SK yA ⟨i+1,rfl,by omega,?_⟩⟩;simp
  ·have PS:i=l.length:=by omega
   subst PS;apply aU;simp[hC];refine bh ?_;simp;apply T.exit;simp;apply aj;simp[hC];apply T.ret;apply aa.here;simp[Tryz.results32]
set_option maxRecDepth 100000 in
set_option maxHeartbeats 4000000 in
theorem Pa (aw:ae Tryz.prog 35 [] (.bool true))(l:List Int)(hl:l.length≤9223372036854775807):ae Tryz.prog 6 [ints l] (.bool true):=by
 have TZ:=I8 l hl;have TY:=zD l;generalize kJ (C2 l)=u at TZ TY;have RY:=El TY;have QD:=O9 TY;have hbR:∀ e∈vN u u.ms.length,b4 e:=fun e he=>HX TY (sj.1 he);have hRl:=GH TY u.ms.length;have QH:=TY.nm;have R7:=OR (vN u u.ms.length) yA hbR;have PO:=bO u;have PW:=cO (ak u);have tE:trees [HY u,HY u]=true:=by simp only[HY,trees,tree,Bool.and_self]
 have t1:trees [ints l]=true:=by simp only[ints,trees,tree,Bool.and_self]
 have t2:trees [ef u,jj (ak u)]=true:=by simp only[trees,tree,ef,jj,bO,cO,Bool.and_self]
 change ae _ _ [HY u,HY u] _ at R7;refine ae.aM ah Tryz.func6 rfl PH (by simp[Tryz.ntmps6]) rfl fun C hC PN=>?_;rw[Tryz.ntmps6] at hC;generalize HY u=E at *;simp only[ef,jj,dh,fp] at RY QD t2 PO PW;apply aj;simp[hC];apply aj;simp[hC];refine dQ t1 TZ ?_;simp[hC,vS,dU,ef,dh,jj,fp];refine T.seq (T.rx ah follows [0,1,3,4,2,5,6,7,8,9,10] [(3,2),(4,2)] PH ?_);simp[hC];refine RX.call rfl zX rfl rfl rfl t2 RY ?_;simp;refine RX.call rfl zX rfl rfl rfl t2 QD ?_;simp;refine RX.call rfl zX rfl rfl rfl tE R7 ?_;simp;refine RX.call rfl zX rfl rfl rfl rfl aw ?_;simp;apply T.ret;apply aa.here;simp[Tryz.results6]
theorem PF (l:List Int)(hl:l.length≤9223372036854775807):ae Tryz.prog 6 [ints l] (.bool true):=Pa LB l hl
end Go.Proofs.YtnecpnjdonibmaaGreat
