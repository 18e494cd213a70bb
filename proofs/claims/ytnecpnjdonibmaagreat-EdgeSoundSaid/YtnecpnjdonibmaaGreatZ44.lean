/- Before of the reference. -/
import Derived.Test.YtnecpnjdonibmaaGreatZ43
import Derived.Shelf.SlSortCmp.WholeK
import Derived.Shelf.SlSortCmp.NoneTotal
namespace Go.Proofs.YtnecpnjdonibmaaGreat
open Go.Can Go.aP
theorem pJ (u:Un)(c:Cl)(m L:Nat):(qB u c m L).length=c.is.length:=by simp[qB]
theorem pK (u:Un)(c:Cl)(m L i:Nat)(x:Is):(rH u c m L i x).length=(aq u x).length:=by simp[rH]
theorem ON {l:List Nat}{j:Nat}{r:Nat}(h:l[j]? = some r):((l.take j).map fun n:Nat=>I n)++[I r]=(l.take (j+1)).map fun n:Nat=>I n:=by
 rw[List.take_add_one,h];simp
def OZ (_u:Un)(m:Nat)(sm:List (List Nat))(E:List Nat):List (Nat×CV):=[(8,aA E),(7,aY sm),(4,.av 1 0),(3,.av 0 0),(2,I m)]
def J21a (u:Un)(m:Nat)(sm:List (List Nat))(E:List Nat)(t:List (List Nat))(k:Nat)(s:St):Prop:=∃ i:Nat,k=(ak u).is.length-i∧i≤(ak u).is.length∧s=⟨(10,I i)::(9,.bj 2 0 i)::OZ u m sm E,(2,⟨22,1,(t.take i).map aA⟩)::ir u,3⟩
def J21b (u:Un)(m:Nat)(sm:List (List Nat))(E:List Nat)(t:List (List Nat))(i:Nat)(QX:List (List Nat))(r:List Nat)(k:Nat)(s:St):Prop:=∃ pc:Nat,k=QX.length-pc∧pc≤QX.length∧s=⟨(13,I pc)::(12,.bj 3 0 pc)::(11,aY QX)::(10,I i)::(9,.bj 2 0 i)::OZ u m sm E,(3,cK (r.take pc))::(2,⟨22,1,(t.take i).map aA⟩)::ir u,4⟩
set_option maxHeartbeats 1000000 in
theorem O4 {u:Un}(hu:ik u){m:Nat}{xm:Mx}(hm:u.ms[m]? = some xm):ae Tryz.prog 21 [ef u,jj (ak u),I m] (aY (qB u (ak u) m (aI xm))):=by
 obtain⟨PX,U1⟩:=j0 hu;have h8:=fq xm;have H:=Ct hu h8;have W7:=Pd hu hm;have Wf:=OW hu hm;have Vp:=(jQ (aI xm) (ak u).is.length (rM u (ak u) m (aI xm)));have RJ:∀ (j:Nat) (x:Is),(ak u).is[j]? = some x→ae Tryz.prog 79 [ef u,jj (ak u),I m,aY (qa u (ak u) m (aI xm)),I j] (aY (eM u (ak u) m (aI xm) j x)):=fun j x hx=>by
  have:=OI hu hx hm Vp;change ae _ _ [_,_,_,aY (qa u (ak u) m (aI xm)),_] (aY (IU u m j (aI xm) x (qa u (ak u) m (aI xm)))) at this;rwa [J4] at this
 have PO:=bO u;have PW:=cO (ak u);have PU:trees [ef u,jj (ak u),I m]=true:=by simp only[trees,tree,ef,jj,bO,cO,Bool.and_self]
 have Qn:∀ (sm:List (List Nat)) (j:Nat),trees [ef u,jj (ak u),I m,aY sm,I j]=true:=fun sm j=>by simp only[trees,tree,ef,jj,bO,cO,en,Bool.and_self]
 have Qf:=pJ u (ak u) m (aI xm);have Ud:=fun (i:Nat) (x:Is) (hx:(ak u).is[i]? = some x)=>sF (u:=u) (m:=m) (L:=aI xm) hx;have Xi:=fun (i pc:Nat) (x:Is) (h:pc<(aq u x).length)=>Py (i:=i) (m:=m) H h;have Yd:∀ s∈kZ u (ak u) m (aI xm),s<2 ^ (aI xm+1):=fun s hs=>by
  simp only[kZ,List.mem_map] at hs;obtain⟨i,_,rfl⟩:=hs;exact jA _ _
 have hell:(kZ u (ak u) m (aI xm)).length=(ak u).is.length:=by simp[kZ]
 refine ae.aM ah Tryz.func21 rfl PH (by simp[Tryz.ntmps21]) (en _) fun C hC PN=>?_;rw[Tryz.ntmps21] at hC;generalize qB u (ak u) m (aI xm)=t at *;generalize qa u (ak u) m (aI xm)=sm at *;generalize kZ u (ak u) m (aI xm)=E at *;have tS:=bX sm;have tE:=aC E;simp only[ef,jj,dh,fp,ints,aY] at PO PW Qn PU W7 Wf RJ ⊢;apply aj;simp[hC];refine T.seq (T.rx ah follows [0,1,2,4,5,6,3,7,8,9] [(4,3),(5,3)] PH ?_);simp[hC];refine RX.call rfl rfl rfl rfl rfl PU W7 ?_;simp;refine RX.call rfl rfl rfl rfl rfl PU Wf ?_;simp;refine T.le (Le.trim [8,7,4,3,2] [1,0] 2 (by simp[-List.all_eq_true,af PO,af PW,a6 _ _ (aD _)]) yA) ?_;simp;apply aj;simp[hC];apply aU;simp[hC];apply T.block;refine T.aJ (J21a u m sm E t) (n:=(ak u).is.length) ?_ ?_
 ·refine aa.le (Le.own 9 22 1 rfl) ?_;simp[St.own];refine aa.trim [10,9,8,7,4,3,2] [2,1,0] 3 (by simp[-List.all_eq_true,af PO,af PW,a6 _ _ (aD _)]) yA ⟨0,by omega,by omega,?_⟩;simp[OZ,ir,dh,fp,ints,aY]
 ·rintro k s ⟨i,rfl,hi,rfl⟩;simp only[OZ,ir,dh,fp,ints,aY];by_cases PJ:i<(ak u).is.length
  ·obtain⟨x,hx⟩:∃ x,(ak u).is[i]? = some x:=⟨_,List.getElem?_eq_getElem PJ⟩;have VO:=eZ hu x;have wi:=cE ((i:Int)+1) yA yA;have Qi:=u0 (Ud i x hx);have RO:=bX (t.take (i+1));rw[← Qi] at RO;have Ux:=bX (t.take i);have QA:(List.map aA (List.take i t)).length=i:=by simp;omega
   have T9:=RJ i x hx;have Xy:=Qn sm i;have U3:=pK u (ak u) m (aI xm) i x;have VS:=fun (pc:Nat) (h:pc<(aq u x).length)=>sG (u:=u) (c:=ak u) (m:=m) (L:=aI xm) (i:=i) h;have Yl:=fun (pc:Nat) (h:pc<(aq u x).length)=>Xi i pc x h;have Xu:=jQ (aI xm) (aq u x).length (Rr u (ak u) m (aI xm) i);change uS _ _ (eM u (ak u) m (aI xm) i x) at Xu;generalize rH u (ak u) m (aI xm) i x=br at *;generalize eM u (ak u) m (aI xm) i x=QX at *;have tN:=bX QX;have V1:=Xu.len;generalize hR:List.map aA (List.take i t)=R at *;obtain⟨ei,TC⟩:∃ ei,E[i]? = some ei:=⟨_,List.getElem?_eq_getElem yA⟩;have hdE:=dk TC;have TN:E.getD i 0=ei:=by rw[List.getD_eq_getElem?_getD,TC];rfl
   have b2:ei<2 ^ 63:=wx h8 (Yd ei (List.mem_of_getElem? TC));apply aU;simp[hC,PJ];refine gQ ?_;simp;apply dZ;apply aj;simp[hC];refine dQ Xy T9 ?_;simp[hC];apply aj;simp[hC];apply aU;simp[hC];apply T.block;refine T.aJ (J21b u m sm E t i QX br) (n:=QX.length) ?_ ?_
   ·refine aa.le (Le.own 12 3 1 rfl) ?_;simp[St.own];refine aa.trim [13,12,11,10,9,8,7,4,3,2] [3,2,1,0] 4 (by simp[-List.all_eq_true,af PO,af PW,af Ux,a6 _ _ (aD _)]) yA ⟨0,by omega,by omega,?_⟩;simp[OZ,ir,dh,fp,ints,aY,cK,← hR]
   ·rintro k s ⟨pc,rfl,jN,rfl⟩;simp only[OZ,ir,dh,fp,ints,aY,cK,hR];by_cases Qy:pc<QX.length
    ·obtain⟨rp,TJ,Uw⟩:=Xu.get (p:=pc) yA;have WE:QX.getD pc []=rp:=by rw[List.getD_eq_getElem?_getD,TJ];rfl
     have Ur:=fA aA TJ;have RA:=Eb rp ei (by rw[Uw.len];omega) (j5 h8 Uw) b2;have Yi:=Yl pc yA;rw[WE,TN] at Yi;have Ul:=ON (VS pc yA);rw[Yi] at RA;generalize jB (aI xm) (Be u (ak u) m (aI xm) i pc)=v at *;have Sa:trees [aA rp,I ei]=true:=by simp only[trees,aD,tree,Bool.and_self]
     have RU:=cE ((pc:Int)+1) yA yA;have bdp:(pc+1)*8≤140737488355328:=by omega
     have Xs:=aC (br.take (pc+1));rw[← Ul] at Xs;have hbtl:(List.map (fun n:Nat=>I n) (List.take pc br)).length=pc:=by simp;omega
     generalize hB:List.map (fun n:Nat=>I n) (List.take pc br)=B at *;have QW:i<E.length:=by omega
     have W9:aA E=CV.az (E.map fun n:Nat=>I n) E.length:=rfl;simp only[W9];apply aU;simp[hC,Qy];refine gQ ?_;simp;apply dZ;refine T.rx ah follows [0,1,2,3,4,5,6,7,8,9,10,11,12] [] PH ?_;simp[hC,Qy,Ur,QW,hdE];refine RX.call rfl rfl rfl rfl rfl Sa RA ?_;simp[bdp,hbtl];apply aW;simp[hC,RU];have rB1:=fun ρ=>ay ρ _ Xs;have rU:=fun ρ=>ay ρ _ PO;have rC:=fun ρ=>ay ρ _ PW;have rS:=fun ρ=>ay ρ _ tS;have rE:=fun ρ=>ay ρ _ tE;have rN:=fun ρ=>ay ρ _ tN;have rR:=fun ρ=>ay ρ _ Ux;refine⟨QX.length-(pc+1),by omega,?_⟩;refine aa.le (Le.norm [13,12,11,10,9,8,7,4,3,2] [(17,3),(2,2),(1,1),(0,0)] 0 4 Rm Rl (by simp[dD,um,p4,tree,assoc,-List.all_eq_true,-List.all_flatMap,aH Xs,aH PO,aH PW,aH Ux]) yA) ?_;simp[dC,ct,cq,dR,gf,assoc,rB1,tj,rR];refine aa.here ⟨pc+1,rfl,by omega,?_⟩;simp[OZ,ir,dh,fp,ints,aY,cK,W9,← Ul,hR]
    ·have RY:pc=QX.length:=by omega
     subst RY;have Xs:=aC br;have WR:List.take QX.length br=br:=List.take_of_length_le yA;rw[WR];have Yk:CV.az (List.map (fun n:Nat=>I n) br) QX.length=aA br:=by simp only[aA];rw[U3,V1]
     apply aU;simp[hC];refine bh ?_;simp;apply T.exit;simp;refine T.le (Le.dz (o:=3) rfl Xs) ?_;have PY:List.take QX.length (List.map (fun n:Nat=>I n) br)=List.map (fun n:Nat=>I n) br:=List.take_of_length_le Uf;simp[eG,PY,Yk,cW Ux];have UP:(i+1)*24≤140737488355328:=by omega
     apply aW;simp[hC,UP,QA,lz,lH];apply aW;simp[hC,wi];have TU:=fun ρ=>ay ρ _ RO;have rU:=fun ρ=>ay ρ _ PO;have rC:=fun ρ=>ay ρ _ PW;have rS:=fun ρ=>ay ρ _ tS;refine⟨(ak u).is.length-(i+1),by omega,?_⟩;have rE:=fun ρ=>ay ρ _ tE;have W9:aA E=CV.az (E.map fun n:Nat=>I n) E.length:=rfl;simp only[W9];refine aa.le (Le.norm [10,9,8,7,4,3,2] [(5,2),(1,1),(0,0)] 0 3 Rm Rl (by simp[dD,um,p4,tree,assoc,-List.all_eq_true,-List.all_flatMap,aH RO,aH PO,aH PW]) yA) ?_;simp[dC,ct,cq,dR,gf,assoc,TU,tj];refine aa.here ⟨i+1,rfl,by omega,?_⟩;simp[OZ,ir,dh,fp,ints,aY,W9,← Qi]
  ·have PS:i=(ak u).is.length:=by omega
   subst PS;have Tn:List.take (ak u).is.length t=t:=List.take_of_length_le yA;rw[Tn];apply aU;simp[hC];refine bh ?_;simp;apply T.exit;simp;apply aj;simp[hC];apply T.ret;refine aa.le (Le.dz (o:=2) rfl (bX t)) ?_;apply aa.here;have PY:List.take (ak u).is.length (t.map aA)=t.map aA:=List.take_of_length_le Uf;simp[Tryz.results21,PY,Qf]
def qT (u:Un):List (Nat×CV):=[(8,.bj 3 0 (ak u).is.length),(7,.av 2 0)]
noncomputable def qR (u:Un) (m L:Nat) (T:List CV):List (Nat×Ob):=[(3,⟨22,1,T⟩),(2,⟨247,0,[aY (qa u (ak u) m L),bW (kq u m L),aA (kZ u (ak u) m L)]⟩)]
def J107a (u:Un)(m L:Nat)(t:List (List Nat))(k:Nat)(s:St):Prop:=∃ i:Nat,k=(ak u).is.length-i∧i≤(ak u).is.length∧s=⟨(24,I i)::(23,I (ak u).is.length)::(22,bW (kq u m L))::qT u,qR u m L ((t.take i).map aA++List.replicate ((ak u).is.length-i) .ai),4⟩
def J107b (u:Un)(m L:Nat)(t:List (List Nat))(i:Nat)(QX:List (List Nat))(br:List Nat)(k:Nat)(s:St):Prop:=∃ pc:Nat,k=QX.length-pc∧pc≤QX.length∧s=⟨(37,I pc)::(36,I QX.length)::(35,aY QX)::(9,I i)::(24,I i)::(23,I (ak u).is.length)::(22,bW (kq u m L))::qT u,(4,⟨3,1,fD br pc⟩)::qR u m L ((t.take i).map aA++.bj 4 0 QX.length::List.replicate ((ak u).is.length-(i+1)) .ai),5⟩
set_option maxHeartbeats 1000000 in
theorem tM {u:Un}(hu:ik u){m:Nat}{xm:Mx}(hm:u.ms[m]? = some xm):ae Tryz.prog 107 [ef u,jj (ak u),I m] (aY (qB u (ak u) m (aI xm))):=by
 obtain⟨PX,U1⟩:=j0 hu;have h8:=fq xm;have H:=Ct hu h8;have Rb:=Ee hu hm;have PO:=bO u;have PW:=cO (ak u);have PU:trees [ef u,jj (ak u),I m]=true:=by simp only[trees,tree,ef,jj,bO,cO,Bool.and_self]
 have Qf:=pJ u (ak u) m (aI xm);have Ud:=fun (i:Nat) (x:Is) (hx:(ak u).is[i]? = some x)=>sF (u:=u) (m:=m) (L:=aI xm) hx;have Xi:=fun (i pc:Nat) (x:Is) (h:pc<(aq u x).length)=>Py (i:=i) (m:=m) H h;have Yd:∀ s∈kZ u (ak u) m (aI xm),s<2 ^ (aI xm+1):=fun s hs=>by
  simp only[kZ,List.mem_map] at hs;obtain⟨i,_,rfl⟩:=hs;exact jA _ _
 have hell:(kZ u (ak u) m (aI xm)).length=(ak u).is.length:=by simp[kZ]
 have QU:=zT u m (aI xm);have bd:24*((ak u).is.length:Int)≤281474976710656∧((ak u).is.length:Int)≤9223372036854775807:=by omega
 have tI:=ej (kq u m (aI xm));have tS:=bX (qa u (ak u) m (aI xm));have tE:=aC (kZ u (ak u) m (aI xm));have SL:=fun j=>fU (c:=CV.ai) rfl j;refine ae.aM ah Tryz.func107 rfl PH (by simp[Tryz.ntmps107]) (en _) fun C hC PN=>?_;rw[Tryz.ntmps107] at hC;generalize qB u (ak u) m (aI xm)=t at *;simp only[ef,jj,dh,fp,ints,aY] at PO PW PU Rb ⊢;simp only[Gj] at Rb;apply aj;simp[hC];apply aj;simp[hC];refine dQ PU Rb ?_;simp[hC,aY,bW,aA];apply aj;simp[hC,QU,bd];apply aU;simp[hC];apply T.block;refine T.aJ (J107a u m (aI xm) t) (n:=(ak u).is.length) ?_ ?_
 ·refine aa.trim [24,23,22,8,7] [3,2] 4 Rt yA ⟨0,by omega,by omega,?_⟩;simp[qT,qR,aY,bW,aA,QU]
 ·rintro k s ⟨i,rfl,hi,rfl⟩;simp only[qT,qR,aY,bW,QU];have Ux:=bX (t.take i);have QA:(List.map aA (List.take i t)).length=i:=by simp;omega
  by_cases PJ:i<(ak u).is.length
  ·obtain⟨x,hx⟩:∃ x,(ak u).is[i]? = some x:=⟨_,List.getElem?_eq_getElem PJ⟩;have VO:=eZ hu x;have wi:=cE ((i:Int)+1) yA yA;have Qi:=u0 (Ud i x hx);have hda:=fA aY (x6 (m:=m) (L:=aI xm) hx);have U3:=pK u (ak u) m (aI xm) i x;have VS:=fun (pc:Nat) (h:pc<(aq u x).length)=>sG (u:=u) (c:=ak u) (m:=m) (L:=aI xm) (i:=i) h;have Yl:=fun (pc:Nat) (h:pc<(aq u x).length)=>Xi i pc x h;have Xu:=jQ (aI xm) (aq u x).length (Rr u (ak u) m (aI xm) i);change uS _ _ (eM u (ak u) m (aI xm) i x) at Xu;generalize rH u (ak u) m (aI xm) i x=br at *;generalize eM u (ak u) m (aI xm) i x=QX at *;have tN:=bX QX;have V1:=Xu.len;generalize hR:List.map aA (List.take i t)=R at *;obtain⟨ei,TC⟩:∃ ei,(kZ u (ak u) m (aI xm))[i]? = some ei:=⟨_,List.getElem?_eq_getElem yA⟩;have hdE:=dk TC;have TN:(kZ u (ak u) m (aI xm)).getD i 0=ei:=by rw[List.getD_eq_getElem?_getD,TC];rfl
   have b2:ei<2 ^ 63:=wx h8 (Yd ei (List.mem_of_getElem? TC));have bdn:8*(QX.length:Int)≤281474976710656∧(QX.length:Int)≤9223372036854775807:=by omega
   have Qm:R.length+1≤R.length+((ak u).is.length-i):=by omega
   have Q6:i+1≤R.length+((ak u).is.length-i):=by omega
   have TA:i+1≤i+((ak u).is.length-i):=by omega
   apply aj;simp[hC,PJ];refine T.seq (T.cond (b:=true) rfl (T.skip ?_));simp;apply dZ;apply aj;simp[hC,PJ,hda,aY];apply aj;simp[hC,bdn,PJ,QA,TA];have hdrp:List.drop (i+1) (R++List.replicate ((ak u).is.length-i) CV.ai)=List.replicate ((ak u).is.length-(i+1)) CV.ai:=by
    rw[List.drop_append,List.drop_eq_nil_of_le yA,List.drop_replicate,QA];have e:(ak u).is.length-i-(i+1-i)=(ak u).is.length-(i+1):=by omega
    rw[e];rfl
   rw[hdrp];have tRN:=SL ((ak u).is.length-(i+1));apply aj;simp[hC];apply T.block;refine T.aJ (J107b u m (aI xm) t i QX br) (n:=QX.length) ?_ ?_
   ·have tZ:trees (List.replicate QX.length (CV.int IntKind.i64 0))=true:=jr _;refine aa.trim [37,36,35,9,24,23,22,8,7] [4,3,2] 5 (by simp[-List.all_eq_true,af Ux,af tRN,af tZ,a6 _ _ (aD _)]) yA ⟨0,by omega,by omega,?_⟩;simp[qT,qR,aY,bW,QU,hR,gq,U3,V1]
   ·rintro k s ⟨pc,rfl,jN,rfl⟩;simp only[qT,qR,aY,bW,QU,hR];have trB:=ey br pc;have trB2:=ey br (pc+1);have Qv:(fD br pc).length=QX.length:=by rw[iM yA];omega
    by_cases Qy:pc<QX.length
    ·obtain⟨rp,TJ,Uw⟩:=Xu.get (p:=pc) yA;have WE:QX.getD pc []=rp:=by rw[List.getD_eq_getElem?_getD,TJ];rfl
     have Ur:=fA aA TJ;have RA:=qh rp ei (by rw[Uw.len];omega) (j5 h8 Uw) b2;have Yi:=Yl pc yA;rw[WE,TN] at Yi;have Ul:=VS pc yA;rw[Yi] at RA;generalize jB (aI xm) (Be u (ak u) m (aI xm) i pc)=v at *;have Sa:trees [aA rp,I ei]=true:=by simp only[trees,aD,tree,Bool.and_self]
     have RU:=cE ((pc:Int)+1) yA yA;have QW:i<(kZ u (ak u) m (aI xm)).length:=by omega
     have RR:pc+1≤QX.length:=Qy;have Wu:(R++CV.bj 4 0 QX.length::List.replicate ((ak u).is.length-(i+1)) CV.ai)[i]? = some (CV.bj 4 0 QX.length):=by
      rw[List.getElem?_append_right yA,QA];simp
     have W9:aA (kZ u (ak u) m (aI xm))=CV.az ((kZ u (ak u) m (aI xm)).map fun n:Nat=>I n) (kZ u (ak u) m (aI xm)).length:=rfl;simp only[W9];generalize hTT:R++CV.bj 4 0 QX.length::List.replicate ((ak u).is.length-(i+1)) CV.ai=TT at *;apply aj;simp[hC,Qy];refine T.seq (T.cond (b:=true) rfl (T.skip ?_));simp;apply dZ;apply aj;simp[hC,Qy,Ur];refine T.rx ah follows [0,1,2,3,4,5,6,7,8,9,10,11,12,13] [(3,11)] PH ?_;simp[hC,PJ,Wu,QW,hdE];refine RX.call rfl rfl rfl rfl rfl Sa RA ?_;simp[Qy,RR,Qv];apply aW;simp[hC,RU];rw[iL Ul,← hTT];refine⟨QX.length-(pc+1),by omega,aa.trim [37,36,35,9,24,23,22,8,7] [4,3,2] 5 (by simp[-List.all_eq_true,af Ux,af tRN,af trB2]) yA ⟨pc+1,rfl,by omega,?_⟩⟩;simp[qT,qR,aY,bW,QU,hR,W9]
    ·have RY:pc=QX.length:=by omega
     subst RY;have RC:=iN br;rw[U3,← V1] at RC;have Xs:=aC br;rw[RC] at Qv ⊢;have Yk:CV.az (List.map (fun n:Nat=>I n) br) QX.length=aA br:=by simp only[aA];rw[U3,V1]
     apply aj;simp[hC];refine T.seq (T.cond (b:=false) rfl (T.exit ?_));simp;refine T.le (Le.dz (o:=4) rfl Xs) ?_;have PY:List.take QX.length (List.map (fun n:Nat=>I n) br)=List.map (fun n:Nat=>I n) br:=List.take_of_length_le Uf;simp[eG,PY,Yk,cW Ux,cW tRN];apply aW;simp[hC,wi];have hap2:R++aA br::List.replicate ((ak u).is.length-(i+1)) CV.ai=(t.take (i+1)).map aA++List.replicate ((ak u).is.length-(i+1)) CV.ai:=by
      rw[← Qi,List.append_assoc];rfl
     rw[hap2];have tR1:=bX (t.take (i+1));rw[List.map_take] at tR1;refine⟨(ak u).is.length-(i+1),by omega,aa.trim [24,23,22,8,7] [3,2] 4 (by simp[-List.all_eq_true,af tR1,af tRN,a6 _ _ (aD _)]) yA ⟨i+1,rfl,by omega,?_⟩⟩;simp[qT,qR,aY,bW,QU]
  ·have PS:i=(ak u).is.length:=by omega
   subst PS;have Tn:List.take (ak u).is.length t=t:=List.take_of_length_le yA;rw[Tn];apply aj;simp[hC];refine T.seq (T.cond (b:=false) rfl (T.exit ?_));simp;apply aj;simp[hC];apply T.ret;refine aa.le (Le.dz (o:=3) rfl (bX t)) ?_;apply aa.here;have PY:List.take (ak u).is.length (t.map aA)=t.map aA:=List.take_of_length_le Uf;simp[Tryz.results107,PY,Qf]
theorem JA {u:Un}(hu:ik u){m:Nat}{xm:Mx}(hm:u.ms[m]? = some xm){i pc:Nat}{x:Is}(hx:(ak u).is[i]? = some x)(jN:pc<(aq u x).length):ae Tryz.prog 39 [ef u,jj (ak u),I m,I i,I pc] (.bool (decide (1<jB (aI xm) (Be u (ak u) m (aI xm) i pc)))):=by
 have hb:=tM hu hm;have h8:=fq xm;have Qf:=pJ u (ak u) m (aI xm);have Ud:=sF (u:=u) (m:=m) (L:=aI xm) hx;have U3:=pK u (ak u) m (aI xm) i x;have VS:=sG (u:=u) (c:=ak u) (m:=m) (L:=aI xm) (i:=i) jN;have PJ:=(List.getElem?_eq_some_iff.1 hx).1;have PQ:jB (aI xm) (Be u (ak u) m (aI xm) i pc)<2 ^ 63:=wx h8 (jA _ _);have PU:trees [ef u,jj (ak u),I m]=true:=by simp only[trees,tree,ef,jj,bO,cO,Bool.and_self]
 refine ae.aM ah Tryz.func39 rfl PH (by simp[Tryz.ntmps39]) rfl fun C hC PN=>?_;rw[Tryz.ntmps39] at hC;generalize qB u (ak u) m (aI xm)=t at *;generalize rH u (ak u) m (aI xm) i x=br at *;generalize jB (aI xm) (Be u (ak u) m (aI xm) i pc)=v at *;have hda:=fA aA Ud;have hdb:=dk VS;have TP:=pQ PQ (show 1<2 ^ 63 by decide);have Vt:pc<br.length:=by omega
 have QA:i<t.length:=by omega
 have P8:(((vm v 1:Nat):Int) != 0)=decide (1<v):=by
  have h1:=Dp v;by_cases h2:v≤1
  ·rw[h1.2 h2];simp;omega
  ·have h3:vm v 1≠0:=fun h=>h2 (h1.1 h);have h4:1<v:=by omega
   simp[h3,h4]
 simp only[ef,jj,dh,fp,ints,aY] at PU hb ⊢;apply aj;simp[hC];apply aj;simp[hC];refine dQ PU hb ?_;simp[hC,QA,hda,aA,hdb,Vt,TP,P8];apply T.ret;apply aa.here;simp[Tryz.results39]
open Classical in
/-- The depths before an instruction. -/
noncomputable def vE (u:Un) (i pc m:Nat):Nat:=match u.ms[m]? with
 | some xm=>jB (aI xm) (Be u (ak u) m (aI xm) i pc)
 | none=>0
theorem FZ {u:Un}{i pc m:Nat}{xm:Mx}(hm:u.ms[m]? = some xm):vE u i pc m=jB (aI xm) (Be u (ak u) m (aI xm) i pc):=by simp only[vE,hm]
theorem Px (a b:Nat):decide ((a:Int)<(b:Int))=decide (a<b):=by
 by_cases h:a<b
 ·simp[h]
 ·simp[h]
theorem PA (v:Nat):ae Tryz.prog 104 [I v] (.bool (decide (1<v))):=by
 refine ae.aM ah Tryz.func104 rfl PH (by simp[Tryz.ntmps104]) rfl fun C hC PN=>?_;rw[Tryz.ntmps104] at hC;have h:=Px 1 v;apply aj;simp[hC];apply aj;simp[hC];apply T.ret;apply aa.here;simp[Tryz.results104];omega
noncomputable def rG (u:Un):List (List (List Nat)):=(List.range u.ms.length).map fun m=>match u.ms[m]? with
 | some xm=>qB u (ak u) m (aI xm)
 | none=>[]
theorem Az (u:Un):(rG u).length=u.ms.length:=by simp[rG]
theorem yz {u:Un}{m:Nat}{xm:Mx}(hm:u.ms[m]? = some xm):(rG u)[m]? = some (qB u (ak u) m (aI xm)):=by
 have hl:=(List.getElem?_eq_some_iff.1 hm).1;rw[rG,List.getElem?_map,List.getElem?_eq_getElem (by simpa using hl)];simp only[List.getElem_range,Option.map_some,hm]
def J97 (u:Un)(n:Nat)(T:List (List (List Nat)))(k:Nat)(s:St):Prop:=∃ j:Nat,k=n-j∧j≤n∧s=⟨[(10,I j),(9,I n),(5,.bj 2 0 j),(3,.av 1 0),(2,.av 0 0)],(2,⟨32,1,(T.take j).map aY⟩)::ir u,3⟩
def J103 (u:Un)(n:Nat)(T:List (List (List Nat)))(k:Nat)(s:St):Prop:=∃ j:Nat,k=n-j∧j≤n∧s=⟨[(6,I j),(5,.bj 2 0 j),(3,.av 1 0),(2,.av 0 0)],(2,⟨32,1,(T.take j).map aY⟩)::ir u,3⟩
theorem B3 {u:Un}(hu:ik u):ae Tryz.prog 97 [ef u,jj (ak u)] (bW (rG u)):=by
 have VU:=fun (m:Nat) (xm:Mx) (hm:u.ms[m]? = some xm)=>tM hu hm;have QH:=hu.nm;have Qf:=Az u;have Ud:=fun (m:Nat) (xm:Mx) (hm:u.ms[m]? = some xm)=>yz hm;have PO:=bO u;have PW:=cO (ak u);have Qn:∀ m:Nat,trees [ef u,jj (ak u),I m]=true:=fun m=>by simp only[trees,tree,ef,jj,bO,cO,Bool.and_self]
 have tt:tree (bW (rG u))=true:=by simp only[bW,tree]
 refine ae.aM ah Tryz.func97 rfl PH (by simp[Tryz.ntmps97]) tt fun C hC PN=>?_;rw[Tryz.ntmps97] at hC;generalize rG u=TT at *;simp only[ef,jj,dh,fp,ints] at PO PW Qn VU ⊢;apply aj;simp[hC];apply aj;simp[hC];apply aU;simp[hC];apply T.block;refine T.aJ (J97 u u.ms.length TT) (n:=u.ms.length) ?_ ?_
 ·refine aa.le (Le.own 5 32 1 rfl) ?_;simp[St.own];refine aa.trim [10,9,5,3,2] [2,1,0] 3 Wi yA ⟨0,by omega,by omega,?_⟩;simp[ir,dh,fp,ints]
 ·rintro k s ⟨j,rfl,hj,rfl⟩;simp only[ir,dh,fp,ints];by_cases P7:j<u.ms.length
  ·obtain⟨xm,R6⟩:∃ xm,u.ms[j]? = some xm:=⟨_,List.getElem?_eq_getElem P7⟩;have wj:=cE ((j:Int)+1) yA yA;have UP:(j+1)*24≤140737488355328:=by omega
   have Qi:=lR (Ud j xm R6);have RO:=ej (TT.take (j+1));rw[← Qi] at RO;have QA:(List.map aY (List.take j TT)).length=j:=by simp;omega
   have TU:=fun ρ=>ay ρ _ RO;have rU:=fun ρ=>ay ρ _ PO;have rC:=fun ρ=>ay ρ _ PW;have hb:=VU j xm R6;generalize hR:List.map aY (List.take j TT)=R at *;apply aj;simp[hC,P7];refine T.seq (T.cond (b:=true) rfl (T.skip ?_));simp;apply dZ;apply aj;simp[hC];apply aW;simp[hC];refine dQ (Qn j) hb ?_;simp[hC,UP,zR,Av,QA];apply aW;simp[hC,wj];refine⟨u.ms.length-(j+1),by omega,?_⟩;refine aa.le (Le.norm [10,9,5,3,2] [(4,2),(1,1),(0,0)] 0 3 Rm Rl (by simp[dD,um,p4,tree,assoc,-List.all_eq_true,-List.all_flatMap,aH RO,aH PO,aH PW]) yA) ?_;simp[dC,ct,cq,dR,gf,assoc,TU,tj];refine aa.here ⟨j+1,rfl,by omega,?_⟩;simp[ir,dh,fp,ints,← Qi]
  ·have QV:j=u.ms.length:=by omega
   subst QV;apply aj;simp[hC];refine T.seq (T.cond (b:=false) rfl (T.exit ?_));simp;apply aj;simp[hC];apply T.ret;have PY:List.take u.ms.length (TT.map aY)=TT.map aY:=List.take_of_length_le Uf;rw[PY];refine aa.le (Le.dz (o:=2) rfl (ej TT)) ?_;apply aa.here;simp[Tryz.results97,bW,PY,Qf]
theorem Ps {u:Un}(hu:ik u):ae Tryz.prog 103 [ef u,jj (ak u)] (bW (rG u)):=by
 have VU:=fun (m:Nat) (xm:Mx) (hm:u.ms[m]? = some xm)=>O4 hu hm;have QH:=hu.nm;have Qf:=Az u;have Ud:=fun (m:Nat) (xm:Mx) (hm:u.ms[m]? = some xm)=>yz hm;have PO:=bO u;have PW:=cO (ak u);have Qn:∀ m:Nat,trees [ef u,jj (ak u),I m]=true:=fun m=>by simp only[trees,tree,ef,jj,bO,cO,Bool.and_self]
 have tt:tree (bW (rG u))=true:=by simp only[bW,tree]
 refine ae.aM ah Tryz.func103 rfl PH (by simp[Tryz.ntmps103]) tt fun C hC PN=>?_;rw[Tryz.ntmps103] at hC;generalize rG u=TT at *;simp only[ef,jj,dh,fp,ints] at PO PW Qn VU ⊢;apply aj;simp[hC];apply aj;simp[hC];apply aU;simp[hC];apply T.block;refine T.aJ (J103 u u.ms.length TT) (n:=u.ms.length) ?_ ?_
 ·refine aa.le (Le.own 5 32 1 rfl) ?_;simp[St.own];refine aa.trim [6,5,3,2] [2,1,0] 3 Wi yA ⟨0,by omega,by omega,?_⟩;simp[ir,dh,fp,ints]
 ·rintro k s ⟨j,rfl,hj,rfl⟩;simp only[ir,dh,fp,ints];by_cases P7:j<u.ms.length
  ·obtain⟨xm,R6⟩:∃ xm,u.ms[j]? = some xm:=⟨_,List.getElem?_eq_getElem P7⟩;have wj:=cE ((j:Int)+1) yA yA;have UP:(j+1)*24≤140737488355328:=by omega
   have Qi:=lR (Ud j xm R6);have RO:=ej (TT.take (j+1));rw[← Qi] at RO;have QA:(List.map aY (List.take j TT)).length=j:=by simp;omega
   have TU:=fun ρ=>ay ρ _ RO;have rU:=fun ρ=>ay ρ _ PO;have rC:=fun ρ=>ay ρ _ PW;have hb:=VU j xm R6;generalize hR:List.map aY (List.take j TT)=R at *;apply aU;simp[hC,P7];refine gQ ?_;simp;apply dZ;apply aW;simp[hC];refine dQ (Qn j) hb ?_;simp[hC,UP,zR,Av,QA];apply aW;simp[hC,wj];refine⟨u.ms.length-(j+1),by omega,?_⟩;refine aa.le (Le.norm [6,5,3,2] [(4,2),(1,1),(0,0)] 0 3 Rm Rl (by simp[dD,um,p4,tree,assoc,-List.all_eq_true,-List.all_flatMap,aH RO,aH PO,aH PW]) yA) ?_;simp[dC,ct,cq,dR,gf,assoc,TU,tj];refine aa.here ⟨j+1,rfl,by omega,?_⟩;simp[ir,dh,fp,ints,← Qi]
  ·have QV:j=u.ms.length:=by omega
   subst QV;apply aU;simp[hC];refine bh ?_;simp;apply T.exit;simp;apply aj;simp[hC];apply T.ret;have PY:List.take u.ms.length (TT.map aY)=TT.map aY:=List.take_of_length_le Uf;rw[PY];refine aa.le (Le.dz (o:=2) rfl (ej TT)) ?_;apply aa.here;simp[Tryz.results103,bW,PY,Qf]
def qp (x:Is):In→Option Nat
 | .lock false p=>some (ma x p)
 | _=>none
abbrev S3:=Nat×Nat×Nat
def pY (s:S3):List CV:=[I s.1,I s.2.1,I s.2.2]
theorem xC (s:S3):(pY s).length=3:=rfl
theorem jq (s:S3):trees (pY s)=true:=rfl
def Fs (u:Un)(i:Nat)(x:Is)(pc:Nat):List S3:=match (aq u x)[pc]? with
 | some z=>match qp x z with
  | some m=>[(i,pc,m)]
  | none=>[]
 | none=>[]
def AO (u:Un)(i:Nat)(x:Is)(n:Nat):List S3:=(List.range n).flatMap (Fs u i x)
def KL (u:Un)(i:Nat):List S3:=match (ak u).is[i]? with
 | some x=>AO u i x (aq u x).length
 | none=>[]
def od (u:Un)(n:Nat):List S3:=(List.range n).flatMap (KL u)
theorem za (u:Un)(i:Nat)(x:Is)(n:Nat):AO u i x (n+1)=AO u i x n++Fs u i x n:=by
 simp[AO,List.range_succ]
theorem Gq {u:Un}{i:Nat}{x:Is}(hx:(ak u).is[i]? = some x):od u (i+1)=od u i++AO u i x (aq u x).length:=by
 simp[od,List.range_succ,KL,hx]
theorem LP (u:Un)(i:Nat)(x:Is)(n:Nat):(Fs u i x n).length≤1:=by
 unfold Fs;split
 ·split<;>simp
 ·simp
theorem Bi (u:Un)(i:Nat)(x:Is):∀ n,(AO u i x n).length≤n
 | 0=>by simp[AO]
 | n+1=>by
  have:=Bi u i x n;have:=LP u i x n;rw[za,List.length_append];omega
theorem Bj {u:Un}(hu:ik u):∀ n,(od u n).length≤n*145
 | 0=>by simp[od]
 | n+1=>by
  have h:=Bj hu n;simp only[od,List.range_succ,List.flatMap_append,List.length_append];have:(KL u n).length≤145:=by
   unfold KL;split
   ·rename_i x hx;have:=Bi u n x (aq u x).length;have:=eZ hu x;omega
   ·simp
  simp[od] at h ⊢;omega
def yg (u:Un)(i n:Nat):List (Nat×CV):=[(13,I i),(12,I (ak u).is.length),(11,.az ((ak u).is.flatMap df) (ak u).is.length),(5,.bj 2 0 n),(3,.av 1 0),(2,.av 0 0)]
def x7 (u:Un)(A:List S3):List (Nat×Ob):=(2,⟨157,3,A.flatMap pY⟩)::ir u
def J98 (u:Un)(k:Nat)(s:St):Prop:=∃ i:Nat,k=(ak u).is.length-i∧i≤(ak u).is.length∧s=⟨yg u i (od u i).length,x7 u (od u i),3⟩
def J98b (u:Un)(i:Nat)(x:Is)(co:List In)(A:List S3)(k:Nat)(s:St):Prop:=∃ pc:Nat,k=co.length-pc∧pc≤co.length∧s=⟨(26,I pc)::(25,I co.length)::(24,.az (co.flatMap dd) co.length)::(7,.av 3 0)::(6,I i)::yg u i (A++AO u i x pc).length,(3,⟨90,0,df x⟩)::x7 u (A++AO u i x pc),4⟩
set_option maxHeartbeats 1000000 in
theorem Eg {u:Un}(hu:ik u):ae Tryz.prog 98 [ef u,jj (ak u)] (.az ((od u (ak u).is.length).flatMap pY) (od u (ak u).is.length).length):=by
 have PO:=bO u;have PW:=cO (ak u);obtain⟨PX,U1⟩:=j0 hu;have RC:=Bj hu;have Yx:=aF bV (ak u).is;have tt:tree (.az ((od u (ak u).is.length).flatMap pY) (od u (ak u).is.length).length)=true:=by simp only[tree]
 refine ae.aM ah Tryz.func98 rfl PH (by simp[Tryz.ntmps98]) tt fun C hC PN=>?_;rw[Tryz.ntmps98] at hC;simp only[ef,jj,dh,fp,ints] at PO PW ⊢;apply aj;simp[hC];apply aj;simp[hC];apply aU;simp[hC];apply T.block;refine T.aJ (J98 u) (n:=(ak u).is.length) ?_ ?_
 ·refine aa.le (Le.own 5 157 3 rfl) ?_;simp[St.own];refine aa.trim [13,12,11,5,3,2] [2,1,0] 3 Wi yA ⟨0,by omega,by omega,?_⟩;simp[yg,x7,ir,dh,fp,ints,od]
 ·rintro k s ⟨i,rfl,hi,rfl⟩;simp only[yg,x7,ir,dh,fp,ints];by_cases PJ:i<(ak u).is.length
  ·obtain⟨x,hx⟩:∃ x,(ak u).is[i]? = some x:=⟨_,List.getElem?_eq_getElem PJ⟩;have Qa:=Gq hx;have hali:=RC i;have hv:=uE hu hx;obtain⟨pq,Qe,PK⟩:=jZ hv;have VO:=eZ hu x;have Ub:(aq u x).length=pq.code.length:=by rw[PK]
   have Qy:=(List.getElem?_eq_some_iff.1 Qe).1;have R8:=aO (f:=df) (n:=2) fk hx;have PL:=bS (f:=nD) (n:=5) gD Qe 4 yA;have WY:trees (pq.code.flatMap dd)=true:=aF eE _;have wi:=cE ((i:Int)+1) yA yA;generalize od u i=A at *;have tA:=aF jq A;apply aj;simp[hC,PJ];refine T.seq (T.cond (b:=true) rfl (T.skip ?_));simp;apply dZ;apply aj;simp[hC,PJ,R8,df];apply aj;simp[hC,Qy,PL,nD];apply T.block;refine T.aJ (J98b u i x pq.code A) (n:=pq.code.length) ?_ ?_
   ·refine aa.trim [26,25,24,7,6,13,12,11,5,3,2] [3,2,1,0] 4 (by simp[-List.all_eq_true,-List.all_flatMap,af PO,af PW,af tA,a6 4 _ (aD _)]) yA ⟨0,by omega,by omega,?_⟩;simp[yg,x7,ir,dh,fp,ints,AO,df]
   ·rintro k s ⟨pc,rfl,jN,rfl⟩;simp only[yg,x7,ir,dh,fp,ints,df];have Tq:=Bi u i x pc;rw[PK] at Qa;by_cases Qx:pc<pq.code.length
    ·obtain⟨z,Qt⟩:∃ z,pq.code[pc]? = some z:=⟨_,List.getElem?_eq_getElem Qx⟩;have hz:(aq u x)[pc]? = some z:=by rw[PK];exact Qt
     have XB:=za u i x pc;have Rb:Fs u i x pc=match qp x z with | some m=>[(i,pc,m)] | none=>[]:=by simp only[Fs,hz]
     have QL:=aO (f:=dd) (n:=12) fo Qt;have Q4:=kS z;have R9:=eE z;obtain⟨xc,QJ,QF⟩:=ku z;obtain⟨c1,c2,c3,c4,c5,c6,c7,c8,c9,VY,VX,rfl⟩:=wy QF;rw[QJ] at QL Q4 R9;simp only[List.all_cons,List.all_nil,Bool.and_true,Bool.and_eq_true] at Q4;obtain⟨_,o1,o2,o3,o4,o5,o6,o7,o8,o9,W2,W1⟩:=Q4;have RU:=cE ((pc:Int)+1) yA yA;obtain⟨_,_,_,Sc,UH⟩:=lh hu hv hz;generalize hB:A++AO u i x pc=B at *;have hBl:B.length=A.length+(AO u i x pc).length:=by rw[← hB,List.length_append]
     have tB:=aF jq B;apply aj;simp[hC,Qx];refine T.seq (T.cond (b:=true) rfl (T.skip ?_));simp;apply dZ;apply aj;simp[hC,Qx,QL];by_cases UG:∃ p,z=.lock false p
     ·obtain⟨p,rfl⟩:=UG;have hp:l9 p=[c7,c8,c9]:=by
       have h:=congrArg (fun l=>(l.drop 7).take 3) QJ
       simpa [dd,bK,l9] using h
      have hq:p.param=true→p.index<x.bx.length:=fun h=>by
       rw[Sc];rcases (UH:Fl _ _ _ _ p) with h6 | h6
       ·exact h6.2.1
       ·rw[h] at h6;cases h6.1
      have QY:=zC x p hq;rw[hp] at QY;have h2:trees [c7,c8,c9]=true:=by rw[← hp];exact gW p
      have tp:trees [.agg (df x),.agg [c7,c8,c9]]=true:=by
       rw[show trees [.agg (df x),.agg [c7,c8,c9]]=(trees (df x) && (trees [c7,c8,c9] && true)) from rfl,bV,h2];rfl
      simp only[df] at QY tp;simp only[qp] at Rb;have P0:qj (.lock false p)=4:=rfl;rw[P0];have bB:(B.length+1)*24≤140737488355328:=by omega
      have hB5:B.flatMap pY++[I i,I pc,I (ma x p)]=(B++[(i,pc,ma x p)]).flatMap pY:=by simp[pY]
      have Ve:=aF jq (B++[(i,pc,ma x p)]);rw[← hB5] at Ve;have Xm:(B.flatMap pY).length=B.length*3:=bk xC B;have hBt:List.take (B.length*3) (B.flatMap pY)=B.flatMap pY:=List.take_of_length_le (Nat.le_of_eq Xm);have tL:=aC x.bx;have rL:=fun ρ=>ay ρ _ tL;have Y1:=fun ρ=>ay ρ _ Ve;have rU:=fun ρ=>ay ρ _ PO;have rC:=fun ρ=>ay ρ _ PW;have rI:=fun ρ=>ay ρ _ Yx;have rO:=fun ρ=>ay ρ _ WY;generalize hRB:B.flatMap pY=RB at *;apply aj;simp[hC];refine fx ?_;simp;apply aW;simp[hC];refine dQ tp QY ?_;simp[hC,bB,Xm,aX];apply aW;simp[hC,RU];refine⟨pq.code.length-(pc+1),by omega,?_⟩;refine aa.le (Le.norm [26,25,24,7,6,13,12,11,5,3,2] [(3,3),(6,2),(1,1),(0,0)] 0 4 Rm Rl (by simp[dD,um,p4,tree,assoc,-List.all_eq_true,-List.all_flatMap,aH Ve,aH PO,aA]) yA) ?_;simp[dC,ct,cq,dR,gf,assoc,Y1,aA];refine aa.here ⟨pc+1,rfl,by omega,?_⟩;rw[XB,Rb,← List.append_assoc,hB];simp[yg,x7,ir,dh,fp,ints,df,hRB,pY,aA]
     ·have Ty:qp x z=none:=by
       unfold qp;split
       ·exact (UG ⟨_,rfl⟩).elim
       ·rfl
      have P0:((qj z:Int) == 4)=false:=by
       cases z with
       | lock un p=>
        cases un with
        | false=>exact (UG ⟨p,rfl⟩).elim
        | true=>rfl
       | call g t l ps=>cases g<;>rfl
       | _=>rfl
      rw[Ty] at Rb;rw[Rb,List.append_nil] at XB;apply aj;simp[hC,P0];refine gO ?_;simp;apply aW;simp[hC,RU];refine⟨pq.code.length-(pc+1),by omega,aa.trim [26,25,24,7,6,13,12,11,5,3,2] [3,2,1,0] 4 (by simp[-List.all_eq_true,-List.all_flatMap,af PO,af PW,af tB,a6 4 _ (aD _)]) yA ⟨pc+1,rfl,by omega,?_⟩⟩;rw[XB,hB];simp[yg,x7,ir,dh,fp,ints,df]
    ·have RY:pc=pq.code.length:=by omega
     subst RY;apply aj;simp[hC];refine T.seq (T.cond (b:=false) rfl (T.exit ?_));simp;have tB:=aF jq (A++AO u i x pq.code.length);apply aW;simp[hC,wi];refine⟨(ak u).is.length-(i+1),by omega,aa.trim [13,12,11,5,3,2] [2,1,0] 3 (by simp only[List.flatMap_append] at tB ⊢;simp[-List.all_eq_true,-List.all_flatMap,af PO,af PW,af tB]) yA ⟨i+1,rfl,by omega,?_⟩⟩;rw[Qa];simp[yg,x7,ir,dh,fp,ints]
  ·have PS:i=(ak u).is.length:=by omega
   subst PS;generalize od u (ak u).is.length=A at *;have tA:=aF jq A;apply aj;simp[hC];refine T.seq (T.cond (b:=false) rfl (T.exit ?_));simp;apply aj;simp[hC];apply T.ret;refine aa.le (Le.dz (o:=2) rfl tA) ?_;apply aa.here;have PY:List.take (A.length*3) (A.flatMap pY)=A.flatMap pY:=List.take_of_length_le (by rw[bk xC];exact Nat.le_refl _);simp[Tryz.results98,PY]
theorem Kf (v:Nat):(((vm v 1:Nat):Int) != 0)=decide (1<v):=by
 have h1:=Dp v;by_cases h2:v≤1
 ·rw[h1.2 h2];simp;omega
 ·have h3:vm v 1≠0:=fun h=>h2 (h1.1 h);have h4:1<v:=by omega
  simp[h3,h4]
noncomputable def Ft (u:Un) (i pc m h:Nat):Bool:=match u.ms[h]?,u.ms[m]? with
 | some xh,some xm=>decide (1<vE u i pc h) && ((!decide (h=m)) || decide (0<xh.size)) && ((!xm.re) || decide (vE u i pc m % 2=1))
 | _,_=>false
set_option maxHeartbeats 1000000 in
theorem zm {u:Un}(_hu:ik u){i pc m h:Nat}{x:Is}(hx:(ak u).is[i]? = some x)(jN:pc<(aq u x).length){xm xh:Mx}(hm:u.ms[m]? = some xm)(hh:u.ms[h]? = some xh):ae Tryz.prog 99 [ef u,bW (rG u),I h,.agg (pY (i,pc,m))] (.bool (Ft u i pc m h)):=by
 have UT:Ft u i pc m h=(decide (1<vE u i pc h) && ((!decide (h=m)) || decide (0<xh.size)) && ((!xm.re) || decide (vE u i pc m % 2=1))):=by simp only[Ft,hm,hh]
 have QK:=(List.getElem?_eq_some_iff.1 hm).1;have Xc:=(List.getElem?_eq_some_iff.1 hh).1;have PJ:=(List.getElem?_eq_some_iff.1 hx).1;have Qf:=Az u;have Xh:=yz hm;have hbh:=yz hh;have hdm:=fA aY Xh;have hdh:=fA aY hbh;have Ud:=sF (u:=u) (m:=m) (L:=aI xm) hx;have Sp:=sF (u:=u) (m:=h) (L:=aI xh) hx;have Tb:=pJ u (ak u) m (aI xm);have Q0:=pJ u (ak u) h (aI xh);have QG:=pK u (ak u) m (aI xm) i x;have Qg:=pK u (ak u) h (aI xh) i x;have Zx:=sG (u:=u) (c:=ak u) (m:=m) (L:=aI xm) (i:=i) jN;have hrb:=sG (u:=u) (c:=ak u) (m:=h) (L:=aI xh) (i:=i) jN;have Xw:=FZ (i:=i) (pc:=pc) hm;have V3:=FZ (i:=i) (pc:=pc) hh;have b1:vE u i pc m<2 ^ 63:=by rw[Xw];exact wx (fq xm) (jA _ _)
 have b2:vE u i pc h<2 ^ 63:=by rw[V3];exact wx (fq xh) (jA _ _)
 rw[← Xw] at Zx;rw[← V3] at hrb;have e1:=fA aA Ud;have e2:=fA aA Sp;have f1:=dk Zx;have f2:=dk hrb;have Wx:pc<(rH u (ak u) m (aI xm) i x).length:=by omega
 have Vt:pc<(rH u (ak u) h (aI xh) i x).length:=by omega
 have htl1:i<(qB u (ak u) m (aI xm)).length:=by omega
 have htl2:i<(qB u (ak u) h (aI xh)).length:=by omega
 have R6:=aO (f:=eL) (n:=3) qn hm;have Ti:=aO (f:=eL) (n:=3) qn hh;have hmT:m<(rG u).length:=by omega
 have hhT:h<(rG u).length:=by omega
 rw[UT];clear UT Xw V3 Xh hbh Ud Sp Tb Q0 QG Qg Zx hrb Qf;generalize vE u i pc m=v at *;generalize vE u i pc h=w at *;generalize rH u (ak u) m (aI xm) i x=ra at *;generalize rH u (ak u) h (aI xh) i x=rb at *;generalize qB u (ak u) m (aI xm)=ta at *;generalize qB u (ak u) h (aI xh)=tb at *;generalize rG u=TT at *;have TP:=pQ b2 (show 1<2 ^ 63 by decide);have P8:=Kf w;have WT:=Lm b1 (show 1<2 ^ 63 by decide);refine ae.aM ah Tryz.func99 rfl PH (by simp[Tryz.ntmps99]) rfl fun C hC PN=>?_;rw[Tryz.ntmps99] at hC;simp only[ef,dh,bW,pY];apply aj;simp[hC];refine T.seq (T.rx ah follows [0,1,2,3,4,5,6,7,8,9,10,11,12,13,14,15,16,17,18,19,20,21,22,23,24,25,26] [] PH ?_);simp[hC,hmT,hhT,hdm,hdh,aY,aA,e1,e2,f1,f2,Wx,Vt,htl1,htl2];have hz:((v:Int) % 2 == 1)=decide (v % 2=1):=by
  by_cases h:v % 2=1
  ·have:(v:Int) % 2=1:=by omega
   simp[h,this]
  ·have:¬ (v:Int) % 2=1:=by omega
   simp[h,this]
 by_cases h1:1<w
 ·have PZ:decide (0<(xh.size:Int))=decide (0<xh.size):=Px 0 xh.size;by_cases h2:h=m
  ·subst h2;have U0:xh=xm:=by rw[hm] at hh;exact (Option.some.inj hh).symm
   subst U0;by_cases h3:0<xh.size
   ·cases h4:xh.re with
    | false=>
     apply aj;simp[hC,TP,P8,h1,QK,R6,eL,h3,h4];apply T.ret;apply aa.here;simp[Tryz.results99, *]
    | true=>
     apply aj;simp[hC,TP,P8,h1,QK,R6,eL,h3,h4,WT,hz];apply T.ret;apply aa.here;simp[Tryz.results99, *]
   ·apply aj;simp[hC,TP,P8,h1,QK,R6,eL,h3];apply T.ret;apply aa.here;simp[Tryz.results99, *]
  ·have h2i:((h:Int) != (m:Int))=true:=by rw[bne_iff_ne];omega
   cases h4:xm.re with
   | false=>
    apply aj;simp[hC,TP,P8,h1,QK,R6,eL,h4,h2i];apply T.ret;apply aa.here;simp[Tryz.results99, *]
   | true=>
    apply aj;simp[hC,TP,P8,h1,QK,R6,eL,h4,WT,hz,h2i];apply T.ret;apply aa.here;simp[Tryz.results99, *]
 ·apply aj;simp[hC,TP,P8,h1];apply T.ret;apply aa.here;simp[Tryz.results99]
end Go.Proofs.YtnecpnjdonibmaaGreat
namespace Go.Proofs.YtnecpnjdonibmaaGreat
open Go.Proofs Go.Shelf
def Gg:Go.Shelf.Ren:=⟨fun | 6=>100 | 15=>172 | 14=>171 | 28=>229 | 29=>230 | 20=>221 | 21=>222 | 22=>223 | 23=>224 | 24=>225 | 25=>226 | 26=>227 | 27=>228 | 46=>281 | 47=>282 | 48=>283 | 49=>284 | 50=>285 | 57=>319 | n=>n,fun | 22=>67 | 24=>76 | 25=>161 | 3=>3 | 39=>241 | 0=>0 | 53=>300 | 55=>302 | 4=>4 | 46=>293 | 45=>292 | 50=>297 | 5=>5 | 9=>9 | 66=>343 | 70=>347 | 76=>378 | 77=>44 | n=>n,fun | n=>n⟩
theorem srtE:Go.Proofs.SlLaysF0.n6 Tryz.prog Gg where
 mixed:=by kernel_rfl
 f6 := ⟨"slices.SortFunc[[]lockorder/api.Edge,lockorder/api.Edge]", by decide, Tryz.func100.trans (congrArg some (by kernel_rfl))⟩
 f14 := ⟨"slices.pdqsortCmpFunc[lockorder/api.Edge]", by decide, Tryz.func171.trans (congrArg some (by kernel_rfl))⟩
 f15:=Tryz.func172.trans (congrArg some (by kernel_rfl))
 f20 := ⟨"slices.insertionSortCmpFunc[lockorder/api.Edge]", by decide, Tryz.func221.trans (congrArg some (by kernel_rfl))⟩
 f21 := ⟨"slices.heapSortCmpFunc[lockorder/api.Edge]", by decide, Tryz.func222.trans (congrArg some (by kernel_rfl))⟩
 f22 := ⟨"slices.breakPatternsCmpFunc[lockorder/api.Edge]", by decide, Tryz.func223.trans (congrArg some (by kernel_rfl))⟩
 f23 := ⟨"slices.choosePivotCmpFunc[lockorder/api.Edge]", by decide, Tryz.func224.trans (congrArg some (by kernel_rfl))⟩
 f24 := ⟨"slices.reverseRangeCmpFunc[lockorder/api.Edge]", by decide, Tryz.func225.trans (congrArg some (by kernel_rfl))⟩
 f25 := ⟨"slices.partialInsertionSortCmpFunc[lockorder/api.Edge]", by decide, Tryz.func226.trans (congrArg some (by kernel_rfl))⟩
 f26 := ⟨"slices.partitionEqualCmpFunc[lockorder/api.Edge]", by decide, Tryz.func227.trans (congrArg some (by kernel_rfl))⟩
 f27 := ⟨"slices.partitionCmpFunc[lockorder/api.Edge]", by decide, Tryz.func228.trans (congrArg some (by kernel_rfl))⟩
 f28:=Tryz.func229.trans (congrArg some (by kernel_rfl))
 f29:=Tryz.func230.trans (congrArg some (by kernel_rfl))
 f46 := ⟨"slices.siftDownCmpFunc[lockorder/api.Edge]", by decide, Tryz.func281.trans (congrArg some (by kernel_rfl))⟩
 f47:=Tryz.func282.trans (congrArg some (by kernel_rfl))
 f48:=Tryz.func283.trans (congrArg some (by kernel_rfl))
 f49 := ⟨"slices.medianAdjacentCmpFunc[lockorder/api.Edge]", by decide, Tryz.func284.trans (congrArg some (by kernel_rfl))⟩
 f50 := ⟨"slices.medianCmpFunc[lockorder/api.Edge]", by decide, Tryz.func285.trans (congrArg some (by kernel_rfl))⟩
 f57 := ⟨"slices.order2CmpFunc[lockorder/api.Edge]", by decide, Tryz.func319.trans (congrArg some (by kernel_rfl))⟩
 t0:=Tryz.underlying0
 a0:=Tryz.isAgg0
 z0:=Tryz.sizeOf0
 v0:=Tryz.zeroValue0
 t3:=Tryz.underlying3
 a3:=Tryz.isAgg3
 z3:=Tryz.sizeOf3
 v3:=Tryz.zeroValue3
 t4:=Tryz.underlying4
 a4:=Tryz.isAgg4
 z4:=Tryz.sizeOf4
 v4:=Tryz.zeroValue4
 t5:=Tryz.underlying5
 a5:=Tryz.isAgg5
 z5:=Tryz.sizeOf5
 v5:=Tryz.zeroValue5
 t9:=Tryz.underlying9
 a9:=Tryz.isAgg9
 z9:=Tryz.sizeOf9
 v9:=Tryz.zeroValue9
 t22:=Tryz.underlying67
 a22:=Tryz.isAgg67
 z22:=Tryz.sizeOf67
 v22:=Tryz.zeroValue67
 t25:=Tryz.underlying161
 a25:=Tryz.isAgg161
 z25:=Tryz.sizeOf161
 v25:=Tryz.zeroValue161
 t39:=Tryz.underlying241
 a39:=Tryz.isAgg241
 z39:=Tryz.sizeOf241
 v39:=Tryz.zeroValue241
 t45:=Tryz.underlying292
 a45:=Tryz.isAgg292
 z45:=Tryz.sizeOf292
 v45:=Tryz.zeroValue292
 t46:=Tryz.underlying293
 a46:=Tryz.isAgg293
 z46:=Tryz.sizeOf293
 v46:=Tryz.zeroValue293
 t50:=Tryz.underlying297
 a50:=Tryz.isAgg297
 z50:=Tryz.sizeOf297
 v50:=Tryz.zeroValue297
 t53:=Tryz.underlying300
 a53:=Tryz.isAgg300
 z53:=Tryz.sizeOf300
 v53:=Tryz.zeroValue300
 t55:=Tryz.underlying302
 a55:=Tryz.isAgg302
 z55:=Tryz.sizeOf302
 v55:=Tryz.zeroValue302
 t66:=Tryz.underlying343
 a66:=Tryz.isAgg343
 z66:=Tryz.sizeOf343
 v66:=Tryz.zeroValue343
 t70:=Tryz.underlying347
 a70:=Tryz.isAgg347
 z70:=Tryz.sizeOf347
 v70:=Tryz.zeroValue347
 t76:=Tryz.underlying378
 a76:=Tryz.isAgg378
 z76:=Tryz.sizeOf378
 v76:=Tryz.zeroValue378
 t77:=Tryz.underlying44
 a77:=Tryz.isAgg44
 z77:=Tryz.sizeOf44
 v77:=Tryz.zeroValue44
end Go.Proofs.YtnecpnjdonibmaaGreat
