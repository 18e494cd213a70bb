/- Entries of the reference. -/
import Derived.Test.YtnecpnjdonibmaaGreatZ42
namespace Go.Proofs.YtnecpnjdonibmaaGreat
open Go.Can Go.aP
theorem tf (n:Nat):∀ (l:List Nat) (i:Nat),(∀ r∈l,r<n)→(eB n l)[i]? = if i<n then some (if i∈l then 1 else 0) else none
 | [],i,_=>by
  rw[eB,List.getElem?_replicate];simp
 | r::l,i,h=>by
  have ih:=tf n l i (fun x hx=>h x (List.mem_cons_of_mem _ hx));rw[eB,List.getElem?_set,ih,kN];have hr:=h r List.mem_cons_self;by_cases V4:r=i
  ·subst V4;simp[hr]
  ·have:¬ i=r:=fun e=>V4 e.symm;simp[V4,this]
theorem D2 (n:Nat)(l:List Nat)(h:∀ r∈l,r<n):eB n l.reverse=eB n l:=by
 refine List.ext_getElem? fun i=>?_;rw[tf n _ i (fun r hr=>h r (List.mem_reverse.1 hr)),tf n l i h];simp
theorem Jf {u:Un}{c:Cl}{m L:Nat}:yJ (qa u c m L)=rM u c m L:=by
 funext k d e;refine propext ⟨fun h=>?_,fun h=>?_⟩
 ·obtain⟨h1,h2,h3⟩:=(jQ L c.is.length (rM u c m L)).lt h;exact (oQ h1 h2 h3).1 h
 ·obtain⟨h1,h2,h3⟩:=ux (Dl.2 h);exact (oQ h1 h2 h3).2 h
theorem J4 {u:Un}{m L i:Nat}{x:Is}:IU u m i L x (qa u (ak u) m L)=eM u (ak u) m L i x:=by
 unfold IU eM;rw[Jf];congr 1;funext pc d e;exact propext LY
noncomputable def kq (u:Un) (m L:Nat):List (List (List Nat)):=(List.range (ak u).is.length).map fun i=>match (ak u).is[i]? with
 | some x=>eM u (ak u) m L i x
 | none=>[]
theorem zT (u:Un)(m L:Nat):(kq u m L).length=(ak u).is.length:=by simp[kq]
theorem x6 {u:Un}{m L i:Nat}{x:Is}(hx:(ak u).is[i]? = some x):(kq u m L)[i]? = some (eM u (ak u) m L i x):=by
 have hl:=(List.getElem?_eq_some_iff.1 hx).1;rw[kq,List.getElem?_map,List.getElem?_eq_getElem (by simpa using hl)];simp only[List.getElem_range,Option.map_some,hx]
theorem ej:∀ t:List (List (List Nat)),trees (t.map aY)=true
 | []=>rfl
 | r::t=>by
  have h:=en r;have:=ej t;simp only[List.map_cons,trees,h,this,Bool.and_self]
theorem C0 {t:List Nat}{p:Nat}(r:Nat)(h:p<t.length):List.take p (t.map fun n:Nat=>I n)++I r::List.drop (p+1) (t.map fun n:Nat=>I n)=(t.set p r).map fun n:Nat=>I n:=by
 rw[List.map_set,List.set_eq_take_append_cons_drop,if_pos Sr]
theorem lR {l:List (List (List Nat))}{j:Nat}{r:List (List Nat)}(h:l[j]? = some r):(l.take j).map aY++[aY r]=(l.take (j+1)).map aY:=by
 rw[List.take_add_one,h];simp
theorem zR (l:List (List Nat)):dx (aY l)=false:=rfl
theorem Av (l:List (List Nat)):(aY l).cells=[aY l]:=rfl
def OY (u:Un)(m:Nat)(sm:List (List Nat)):List (Nat×CV):=[(8,.bj 2 0 (ak u).is.length),(7,aY sm),(4,.av 1 0),(3,.av 0 0),(2,I m)]
def OE (u:Un)(E:List Nat):List (Nat×Ob):=(2,cK E)::ir u
def J78a (u:Un)(m:Nat)(sm:List (List Nat))(k:Nat)(s:St):Prop:=∃ j:Nat,k=(ak u).roots.length-j∧j≤(ak u).roots.length∧s=⟨(9,I j)::OY u m sm,OE u (eB (ak u).is.length ((ak u).roots.take j).reverse),3⟩
def J78b (u:Un)(m L:Nat)(sm:List (List Nat))(E:List Nat)(k:Nat)(s:St):Prop:=∃ j:Nat,k=(ak u).is.length-j∧j≤(ak u).is.length∧s=⟨(11,I j)::(10,.bj 3 0 j)::OY u m sm,(3,⟨32,1,((kq u m L).take j).map aY⟩)::OE u E,4⟩
def OA (u:Un):List (Nat×CV):=[(10,.bj 3 0 (ak u).is.length),(8,.bj 2 0 (ak u).is.length),(4,.av 1 0),(3,.av 0 0)]
noncomputable def Oz (u:Un) (m L:Nat) (E:List Nat):List (Nat×Ob):=(3,⟨32,1,(kq u m L).map aY⟩)::OE u E
def J78c (u:Un)(m L:Nat)(k:Nat)(s:St):Prop:=∃ (E:List Nat) (ag:Bool),k=(9*(ak u).is.length-dF E)+(if ag=true then 1 else 0)∧IK u (ak u) m L E∧(ag=false→E=kZ u (ak u) m L)∧s=⟨(12,.bool ag)::OA u,Oz u m L E,4⟩
def J78d (u:Un)(m L:Nat)(E0:List Nat)(k:Nat)(s:St):Prop:=∃ i:Nat,k=(ak u).is.length-i∧i≤(ak u).is.length∧s=⟨(13,I i)::(12,.bool (OF u (ak u) m L E0 i).2)::OA u,Oz u m L (OF u (ak u) m L E0 i).1,4⟩
def J78e (u:Un)(m L i:Nat)(x:Is)(S:List Nat×Bool)(k:Nat)(s:St):Prop:=∃ pc:Nat,k=(aq u x).length-pc∧pc≤(aq u x).length∧s=⟨(14,I pc)::(13,I i)::(12,.bool (OO u (ak u) (eM u (ak u) m L i x) i x pc S).2)::OA u,Oz u m L (OO u (ak u) (eM u (ak u) m L i x) i x pc S).1,4⟩
theorem wx {L n:Nat}(h8:L≤8)(h:n<2 ^ (L+1)):n<2 ^ 63:=by
 have h2:2 ^ (L+1)≤2 ^ 9:=Nat.pow_le_pow_right yA yA;have h3:(2:Nat) ^ 9<2 ^ 63:=by decide
 exact Nat.lt_of_lt_of_le h (Nat.le_trans h2 (Nat.le_of_lt h3))
theorem OW {u:Un}(hu:ik u){m:Nat}{xm:Mx}(hm:u.ms[m]? = some xm):ae Tryz.prog 78 [ef u,jj (ak u),I m] (aA (kZ u (ak u) m (aI xm))):=by
 obtain⟨PX,U1⟩:=j0 hu;have h8:=fq xm;have H:=Ct hu h8;have W7:=Pd hu hm;have Vp:=(jQ (aI xm) (ak u).is.length (rM u (ak u) m (aI xm)));have X5:=fun (j:Nat) (x:Is) (hx:(ak u).is[j]? = some x)=>by have:=OI hu hx hm Vp;exact this
 have Qa:=IK.start (u:=u) (m:=m) H;have PO:=bO u;have PW:=cO (ak u);have Uj:=Kl hu;have PU:trees [ef u,jj (ak u),I m]=true:=by simp only[trees,tree,ef,jj,bO,cO,Bool.and_self]
 have Qn:∀ (sm:List (List Nat)) (j:Nat),trees [ef u,jj (ak u),I m,aY sm,I j]=true:=fun sm j=>by simp only[trees,tree,ef,jj,bO,cO,en,Bool.and_self]
 refine ae.aM ah Tryz.func78 rfl PH (by simp[Tryz.ntmps78]) (aD _) fun C hC PN=>?_;rw[Tryz.ntmps78] at hC;change ∀ (j:Nat) (x:Is),_→ae _ _ [_,_,_,aY (qa u (ak u) m (aI xm)),_] (aY (IU u m j (aI xm) x (qa u (ak u) m (aI xm)))) at X5;have RJ:∀ (j:Nat) (x:Is),(ak u).is[j]? = some x→ae Tryz.prog 79 [ef u,jj (ak u),I m,aY (qa u (ak u) m (aI xm)),I j] (aY (eM u (ak u) m (aI xm) j x)):=fun j x hx=>by
  have:=X5 j x hx;rwa [J4] at this
 clear X5;generalize hsmd:qa u (ak u) m (aI xm)=sm at *;have tS:=bX sm;simp only[ef,jj,dh,fp,ints,aY] at PO PW Qn PU W7 RJ ⊢;have bd:8*((ak u).is.length:Int)≤281474976710656∧((ak u).is.length:Int)≤9223372036854775807:=by omega
 apply aj;simp[hC];apply aj;simp[hC];refine dQ PU W7 ?_;simp[hC];apply aj;simp[hC,bd];apply aU;simp[hC];apply T.block;refine T.aJ (J78a u m sm) (n:=(ak u).roots.length) ?_ ?_
 ·refine aa.trim [9,8,7,4,3,2] [2,1,0] 3 Wi yA ⟨0,by omega,by omega,?_⟩;simp[OY,OE,ir,dh,fp,ints,aY,cK,eB]
 ·rintro k s ⟨j,rfl,hj,rfl⟩;simp only[OY,OE,ir,dh,fp,ints,aY,cK];have Yo:=kN (ak u).is.length ((ak u).roots.take j).reverse;by_cases P7:j<(ak u).roots.length
  ·obtain⟨r,hr⟩:∃ r,(ak u).roots[j]? = some r:=⟨_,List.getElem?_eq_getElem P7⟩;have V5:=dk hr;have Sx:=H.root r (List.mem_of_getElem? hr);have XI:r+1≤(ak u).is.length:=Sx;have wj:=cE ((j:Int)+1) yA yA;have PR:aA (ak u).roots=CV.az ((ak u).roots.map fun n:Nat=>I n) (ak u).roots.length:=rfl;have Rx:eB (ak u).is.length ((ak u).roots.take (j+1)).reverse=(eB (ak u).is.length ((ak u).roots.take j).reverse).set r 1:=by
    rw[List.take_add_one,hr];simp[eB]
   generalize eB (ak u).is.length ((ak u).roots.take j).reverse=E at *;simp only[PR] at PW ⊢;apply aU;simp[hC,P7];refine gQ ?_;simp;apply dZ;apply aW;simp[hC,P7,V5,Sx,XI,Yo];apply aW;simp[hC,wj];rw[show CV.int IntKind.i64 1=I ((1:Nat):Int) from rfl,C0 _ (show r<E.length by omega)];generalize E.set r 1=E2 at *;have tE2:=aC E2;refine⟨(ak u).roots.length-(j+1),by omega,aa.trim [9,8,7,4,3,2] [2,1,0] 3 (by simp[-List.all_eq_true,af PO,af PW,af tE2]) yA ⟨j+1,rfl,by omega,?_⟩⟩;rw[Rx];simp[OY,OE,ir,dh,fp,ints,aY,cK,PR]
  ·have QV:j=(ak u).roots.length:=by omega
   subst QV;have Zs:=D2 (ak u).is.length (ak u).roots H.root;rw[List.take_length,Zs] at *;generalize eB (ak u).is.length (ak u).roots=E0 at *;have tE:=aC E0;have PR:aA (ak u).roots=CV.az ((ak u).roots.map fun n:Nat=>I n) (ak u).roots.length:=rfl;simp only[PR] at PW ⊢;apply aU;simp[hC];refine bh ?_;simp;apply T.exit;simp;apply aj;simp[hC];apply aU;simp[hC];apply T.block;refine T.aJ (J78b u m (aI xm) sm E0) (n:=(ak u).is.length) ?_ ?_
   ·refine aa.le (Le.own 10 32 1 rfl) ?_;simp[St.own];refine aa.trim [11,10,8,7,4,3,2] [3,2,1,0] 4 (by simp[-List.all_eq_true,af PO,af PW,af tE]) yA ⟨0,by omega,by omega,?_⟩;simp[OY,OE,ir,dh,fp,ints,aY,cK,PR]
   ·rintro k s ⟨j,rfl,hj,rfl⟩;simp only[OY,OE,ir,dh,fp,ints,aY,cK,PR];have QU:=zT u m (aI xm);by_cases R3:j<(ak u).is.length
    ·obtain⟨x,hx⟩:∃ x,(ak u).is[j]? = some x:=⟨_,List.getElem?_eq_getElem R3⟩;have wj:=cE ((j:Int)+1) yA yA;have UP:(j+1)*24≤140737488355328:=by omega
     have Qi:=lR (x6 (m:=m) (L:=aI xm) hx);have RO:=ej ((kq u m (aI xm)).take (j+1));rw[← Qi] at RO;have QA:(List.map aY (List.take j (kq u m (aI xm)))).length=j:=by simp;omega
     have TU:=fun ρ=>ay ρ _ RO;have rU:=fun ρ=>ay ρ _ PO;have rC:=fun ρ=>ay ρ _ PW;have rS:=fun ρ=>ay ρ _ tS;have rE:=fun ρ=>ay ρ _ tE;have T9:=RJ j x hx;have Xy:=Qn sm j;simp only[aY,PR] at T9 Xy Qi;simp only[aY] at RO TU;generalize hR:List.map aY (List.take j (kq u m (aI xm)))=R at *;apply aU;simp[hC,R3];refine gQ ?_;simp;apply dZ;apply aW;simp[hC];refine dQ Xy T9 ?_;simp[hC,UP,QA];apply aW;simp[hC,wj];refine⟨(ak u).is.length-(j+1),by omega,?_⟩;refine aa.le (Le.norm [11,10,8,7,4,3,2] [(5,3),(2,2),(1,1),(0,0)] 0 4 Rm Rl (by simp[dD,um,p4,tree,assoc,-List.all_eq_true,-List.all_flatMap,aH RO,aH PO,aH PW,aH tE]) yA) ?_;simp[dC,ct,cq,dR,gf,assoc,TU,rE];refine aa.here ⟨j+1,rfl,by omega,?_⟩;simp[OY,OE,ir,dh,fp,ints,aY,cK,PR,← Qi]
    ·have X3:j=(ak u).is.length:=by omega
     subst X3;have tI:=ej (kq u m (aI xm));apply aU;simp[hC];refine bh ?_;simp;apply T.exit;simp;rw[show List.take (ak u).is.length (List.map aY (kq u m (aI xm)))=List.map aY (kq u m (aI xm)) from List.take_of_length_le Uf];apply aU;simp[hC];apply T.block;refine T.aJ (J78c u m (aI xm)) (n:=(9*(ak u).is.length-dF E0)+1) ?_ ?_
     ·refine aa.trim [12,10,8,4,3] [3,2,1,0] 4 (by simp[-List.all_eq_true,af PO,af PW,af tI,af tE]) yA ⟨E0,true,by simp,Qa,(fun h=>by cases h),?_⟩;simp[OA,Oz,OE,ir,dh,fp,ints,cK,PR]
     ·clear Qa Zs tE;clear E0;rintro k s ⟨E0,ag,rfl,YO,Rq,rfl⟩;have tE:=aC E0;have Qq:=YO.len;simp only[OA,Oz,OE,ir,dh,fp,ints,cK,PR]
      cases ag with
      | false=>
       have P8:=Rq rfl;apply aU;simp[hC];refine bh ?_;simp;apply T.exit;simp;apply aj;simp[hC];apply T.ret;refine aa.le (Le.dz (o:=2) rfl tE) ?_;apply aa.here;have PY:List.take (ak u).is.length (E0.map fun n:Nat=>I n)=E0.map fun n:Nat=>I n:=List.take_of_length_le Uf;rw[P8] at PY Qq;simp[Tryz.results78,aA,P8,Qq,PY]
      | true=>
       apply aU;simp[hC];refine gQ ?_;simp;apply T.block;apply aj;simp[hC];apply aj;simp[hC];apply T.block;refine T.aJ (J78d u m (aI xm) E0) (n:=(ak u).is.length) ?_ ?_
       ·refine aa.trim [13,12,10,8,4,3] [3,2,1,0] 4 (by simp[-List.all_eq_true,af PO,af PW,af tI,af tE]) yA ⟨0,by omega,by omega,?_⟩;simp[OA,Oz,OE,ir,dh,fp,ints,cK,PR,OF]
       ·rintro k s ⟨i,rfl,hi,rfl⟩;obtain⟨T0,_⟩:=OT H YO i hi;simp only[OA,Oz,OE,ir,dh,fp,ints,cK,PR];by_cases PJ:i<(ak u).is.length
        ·obtain⟨x,hx⟩:∃ x,(ak u).is[i]? = some x:=⟨_,List.getElem?_eq_getElem PJ⟩;have Zp:OF u (ak u) m (aI xm) E0 (i+1)=OO u (ak u) (eM u (ak u) m (aI xm) i x) i x (aq u x).length (OF u (ak u) m (aI xm) E0 i):=by simp only[OF,hx]
         generalize OF u (ak u) m (aI xm) E0 i=S at *;have tSE:=aC S.1;apply aU;simp[hC,PJ];refine gQ ?_;simp;apply dZ;apply aj;simp[hC];apply T.block;refine T.aJ (J78e u m (aI xm) i x S) (n:=(aq u x).length) ?_ ?_
         ·refine aa.trim [14,13,12,10,8,4,3] [3,2,1,0] 4 (by simp[-List.all_eq_true,af PO,af PW,af tI,af tSE]) yA ⟨0,by omega,by omega,?_⟩;simp[OA,Oz,OE,ir,dh,fp,ints,cK,PR,OO]
         ·rintro k s ⟨pc,rfl,jN,rfl⟩;obtain⟨U0,_⟩:=O5 H hx T0 pc jN;simp only[OA,Oz,OE,ir,dh,fp,ints,cK,PR];have VD:(eM u (ak u) m (aI xm) i x).length=(aq u x).length:=(jQ _ _ _).len;have VF:=x6 (m:=m) (L:=aI xm) hx;by_cases Qx:pc<(aq u x).length
          ·obtain⟨z,hz⟩:∃ z,(aq u x)[pc]? = some z:=⟨_,List.getElem?_eq_getElem Qx⟩;have hv:=uE hu hx;obtain⟨pq,Qe,PK⟩:=jZ hv;have VO:=eZ hu x;have Qy:=(List.getElem?_eq_some_iff.1 Qe).1;have R8:=aO (f:=df) (n:=2) fk hx;have PL:=bS (f:=nD) (n:=5) gD Qe 4 yA;have Qt:=hz;rw[PK] at Qt;have hpl4:pc<pq.code.length:=by rw[← PK];exact Qx
           have QL:=aO (f:=dd) (n:=12) fo Qt;obtain⟨xc,QJ,QF⟩:=ku z;rw[QJ] at QL;have P0:=zr z;have RU:=cE ((pc:Int)+1) yA yA;obtain⟨rp,TJ,Uw⟩:=(jQ (aI xm) (aq u x).length (Rr u (ak u) m (aI xm) i)).get Qx;change (eM u (ak u) m (aI xm) i x)[pc]? = some rp at TJ;have WE:(eM u (ak u) m (aI xm) i x).getD pc []=rp:=by rw[List.getD_eq_getElem?_getD,TJ];rfl
           have Ur:=fA aA TJ;have cS:∀ E:List Nat×Bool,OO u (ak u) (eM u (ak u) m (aI xm) i x) i x pc S=E→OO u (ak u) (eM u (ak u) m (aI xm) i x) i x (pc+1) S=if fy z=true then (if wT rp (E.1.getD i 0) ||| E.1.getD (eQ (ak u) i pc) 0=E.1.getD (eQ (ak u) i pc) 0 then E else (Go.aP.iT E.1 (eQ (ak u) i pc) (wT rp (E.1.getD i 0)),true)) else E:=fun E hE=>by
            rw[OO,hz];simp only[sZ,WE,hE]
           replace cS:=cS _ rfl;generalize hSS:OO u (ak u) (eM u (ak u) m (aI xm) i x) i x pc S=S2 at *;have V0:=aC S2.1;have Wg:=U0.A.len;apply aU;simp[hC,PJ,VF,VD,Qx,aY];refine gQ ?_;simp;apply dZ;refine T.seq (T.seq (T.rx ah follows [0,1,2,3,4,5,6,7,8,9,10,11,12,13,14,15] [] PH ?_));simp[hC,PJ,R8,df,Qy,PL,nD,hpl4,QL]
           cases hc:fy z with
           | false=>
            rw[hc] at P0 cS;have T6:((qj z:Int) != 2)=true:=by rw[bne,P0];rfl
            refine T.cond (b:=true) (by simp[ev,assoc,T6]) ?_;simp;apply T.exit;simp;apply aW;simp[hC,RU];refine⟨(aq u x).length-(pc+1),by omega,aa.trim [14,13,12,10,8,4,3] [3,2,1,0] 4 (by simp[-List.all_eq_true,af PO,af PW,af tI,af V0]) yA ⟨pc+1,rfl,by omega,?_⟩⟩;rw[cS];simp[OA,Oz,OE,ir,dh,fp,ints,cK,PR]
           | true=>
            obtain⟨row,QG,Qg,UB⟩:=zP hu hx hz hc;have SH:=fA ints QG;have Ua:=fA vq Qg;have Tb:=(List.getElem?_eq_some_iff.1 QG).1;have Q0:=(List.getElem?_eq_some_iff.1 Qg).1;rw[hc] at P0 cS;have T6:((qj z:Int) != 2)=false:=by rw[bne,P0];rfl
            refine T.cond (b:=false) (by simp[ev,assoc,T6]) (T.skip ?_);simp;apply aj;simp[hC,SH,Ua,Tb,Q0,ints];generalize eQ (ak u) i pc=ko at *;obtain⟨ek,WJ⟩:∃ ek,S2.1[ko]? = some ek:=⟨_,List.getElem?_eq_getElem yA⟩;obtain⟨ei,TC⟩:∃ ei,S2.1[i]? = some ei:=⟨_,List.getElem?_eq_getElem yA⟩;have Z6:S2.1.getD ko 0=ek:=by rw[List.getD_eq_getElem?_getD,WJ];rfl
            have TN:S2.1.getD i 0=ei:=by rw[List.getD_eq_getElem?_getD,TC];rfl
            have b63:∀ s∈S2.1,s<2 ^ 63:=fun s hs=>wx h8 (U0.A.lt s hs);have b1:=b63 ek (List.mem_of_getElem? WJ);have b2:=b63 ei (List.mem_of_getElem? TC);have b3:wT rp ei<2 ^ 63:=wx h8 (yF rp ei 0 Uw.lt);have RA:=Eb rp ei (by rw[Uw.len];omega) (j5 h8 Uw) b2;rw[Z6,TN] at cS;generalize wT rp ei=sv at *;have Sa:trees [aA rp,I ei]=true:=by simp only[trees,aD,tree,Bool.and_self]
            have Um:=Ep b1 b3;have hor2:ek ||| sv=sv ||| ek:=Nat.or_comm _ _;rw[hor2] at Um;have ZX:ko+1≤(ak u).is.length:=UB;refine T.seq (T.rx ah follows [0,1,2,3,4,5,6,7,8,9,10,11,12,13,14,15,16,17] [(3,15)] PH ?_);simp[hC,UB,WJ,TC,PJ,VF,VD,Qx,Ur,aY];refine RX.call rfl rfl rfl rfl rfl Sa RA ?_;simp[Um];apply aj;simp[hC,UB,WJ];by_cases hq:sv ||| ek=ek
            ·rw[if_pos hq] at cS;refine T.cond (b:=false) (by simp[ev,assoc,hq]) (T.skip ?_);simp;apply aW;simp[hC,RU];refine⟨(aq u x).length-(pc+1),by omega,aa.trim [14,13,12,10,8,4,3] [3,2,1,0] 4 (by simp[-List.all_eq_true,af PO,af PW,af tI,af V0]) yA ⟨pc+1,rfl,by omega,?_⟩⟩;rw[cS];simp[OA,Oz,OE,ir,dh,fp,ints,cK,PR]
            ·rw[if_neg hq] at cS;have hqi:¬ ((sv ||| ek:Nat):Int)=(ek:Int):=fun h=>hq (Int.ofNat.inj h);refine T.cond (b:=true) (by simp[ev,assoc,hqi]) ?_;simp;apply aW;simp[hC,UB,ZX,Wg];apply aW;simp[hC,RU];have hue:Go.aP.iT S2.1 ko sv=S2.1.set ko (sv ||| ek):=by rw[Go.aP.iT,Z6,Nat.or_comm]
             rw[hue] at cS;rw[C0 _ (show ko<S2.1.length by omega)];generalize S2.1.set ko (sv ||| ek)=E3 at *;have tE3:=aC E3;refine⟨(aq u x).length-(pc+1),by omega,aa.trim [14,13,12,10,8,4,3] [3,2,1,0] 4 (by simp[-List.all_eq_true,af PO,af PW,af tI,af tE3]) yA ⟨pc+1,rfl,by omega,?_⟩⟩;rw[cS];simp[OA,Oz,OE,ir,dh,fp,ints,cK,PR]
          ·have RY:pc=(aq u x).length:=by omega
           subst RY;rw[← Zp] at U0 ⊢;have wi:=cE ((i:Int)+1) yA yA;generalize WU:OF u (ak u) m (aI xm) E0 (i+1)=S2 at *;have V0:=aC S2.1;apply aU;simp[hC,PJ,VF,VD,aY];refine bh ?_;simp;apply T.exit;simp;apply aW;simp[hC,wi];refine⟨(ak u).is.length-(i+1),by omega,aa.trim [13,12,10,8,4,3] [3,2,1,0] 4 (by simp[-List.all_eq_true,af PO,af PW,af tI,af V0]) yA ⟨i+1,rfl,by omega,?_⟩⟩;rw[WU];simp[OA,Oz,OE,ir,dh,fp,ints,cK,PR]
        ·have PS:i=(ak u).is.length:=by omega
         subst PS;have YC:=Pn H YO;generalize OF u (ak u) m (aI xm) E0 (ak u).is.length=S at *;have V0:=aC S.1;have Wg:=T0.A.len;apply aU;simp[hC];refine bh ?_;simp;apply T.exit;simp;have Qf:=pH S.1;rw[Wg] at Qf;have Xi:=T0.le;refine⟨(9*(ak u).is.length-dF S.1)+(if S.2=true then 1 else 0),?_,aa.trim [12,10,8,4,3] [3,2,1,0] 4 (by simp[-List.all_eq_true,af PO,af PW,af tI,af V0]) yA ⟨S.1,S.2,rfl,T0.A,fun h=>?_,?_⟩⟩
         ·cases h2:S.2 with
          | true=>have:=T0.lt h2;simp;omega
          | false=>simp;omega
         ·rw[T0.same h,YC h]
         ·simp[OA,Oz,OE,ir,dh,fp,ints,cK,PR]
def bW (T:List (List (List Nat))):CV:=.az (T.map aY) T.length
noncomputable def Gj (u:Un) (m L:Nat):CV:=.agg [aY (qa u (ak u) m L),bW (kq u m L),aA (kZ u (ak u) m L)]
theorem DP (u:Un)(m L:Nat):tree (Gj u m L)=true:=by
 simp only[Gj,bW,tree,trees,en,aD,Bool.and_self]
def gU (_u:Un)(m:Nat):List (Nat×CV):=[(7,.av 3 0),(6,.av 2 0),(4,.av 1 0),(3,.av 0 0),(2,I m)]
def gS (u:Un)(sm:List (List Nat))(v:CV)(E:List Nat):List (Nat×Ob):=[(4,cK E),(3,⟨247,0,[aY sm,v,.bj 4 0 (ak u).is.length]⟩),(2,⟨247,0,[.ai,.ai,.ai]⟩),(1,⟨34,0,fp (ak u)⟩),(0,⟨30,0,dh u⟩)]
def J175a (u:Un)(m L:Nat)(sm:List (List Nat))(E:List Nat)(k:Nat)(s:St):Prop:=∃ j:Nat,k=(ak u).is.length-j∧j≤(ak u).is.length∧s=⟨(29,I j)::(28,I (ak u).is.length)::gU u m,(5,⟨32,1,((kq u m L).take j).map aY⟩)::gS u sm (.bj 5 0 j) E,6⟩
def J175b (u:Un)(m L:Nat)(sm:List (List Nat))(k:Nat)(s:St):Prop:=∃ j:Nat,k=(ak u).roots.length-j∧j≤(ak u).roots.length∧s=⟨(56,I j)::(55,I (ak u).roots.length)::(54,aA (ak u).roots)::(9,.bj 5 0 (ak u).roots.length)::gU u m,(5,cK (ak u).roots)::gS u sm (bW (kq u m L)) (eB (ak u).is.length ((ak u).roots.take j).reverse),6⟩
def J175c (u:Un)(m L:Nat)(sm:List (List Nat))(k:Nat)(s:St):Prop:=∃ (E td:List Nat),k=JU (ak u).is.length E td∧k≤30000∧KH u (ak u) m L E td∧s=⟨(9,.bj 5 0 td.length)::gU u m,(5,cK td)::gS u sm (bW (kq u m L)) E,6⟩
def J175d (u:Un)(m L:Nat)(sm:List (List Nat))(i:Nat)(x:Is)(E0 td0:List Nat)(k:Nat)(s:St):Prop:=∃ pc:Nat,k=(aq u x).length-pc∧pc≤(aq u x).length∧s=⟨(91,I pc)::(90,I (aq u x).length)::(89,.az ((aq u x).flatMap dd) (aq u x).length)::(12,I i)::(9,.bj 5 0 (qS u (ak u) (eM u (ak u) m L i x) i x pc (E0,td0)).2.length)::gU u m,(5,cK (qS u (ak u) (eM u (ak u) m L i x) i x pc (E0,td0)).2)::gS u sm (bW (kq u m L)) (qS u (ak u) (eM u (ak u) m L i x) i x pc (E0,td0)).1,6⟩
set_option maxHeartbeats 4000000 in
theorem Ee {u:Un}(hu:ik u){m:Nat}{xm:Mx}(hm:u.ms[m]? = some xm):ae Tryz.prog 175 [ef u,jj (ak u),I m] (Gj u m (aI xm)):=by
 obtain⟨PX,U1⟩:=j0 hu;have h8:=fq xm;have H:=Ct hu h8;have W7:=Mg hu hm;have Vp:=(jQ (aI xm) (ak u).is.length (rM u (ak u) m (aI xm)));have RJ:∀ (j:Nat) (x:Is),(ak u).is[j]? = some x→ae Tryz.prog 232 [ef u,jj (ak u),I m,aY (qa u (ak u) m (aI xm)),I j] (aY (eM u (ak u) m (aI xm) j x)):=fun j x hx=>by
  have:=vQ hu hx hm Vp;change ae _ _ [_,_,_,aY (qa u (ak u) m (aI xm)),_] (aY (IU u m j (aI xm) x (qa u (ak u) m (aI xm)))) at this;rwa [J4] at this
 have PO:=bO u;have PW:=cO (ak u);have Uj:=Kl hu;have Qa:=KH.start (u:=u) (m:=m) H;have PU:trees [ef u,jj (ak u),I m]=true:=by simp only[trees,tree,ef,jj,bO,cO,Bool.and_self]
 have Qn:∀ (sm:List (List Nat)) (j:Nat),trees [ef u,jj (ak u),I m,aY sm,I j]=true:=fun sm j=>by simp only[trees,tree,ef,jj,bO,cO,en,Bool.and_self]
 refine ae.aM ah Tryz.func175 rfl PH (by simp[Tryz.ntmps175]) (DP _ _ _) fun C hC PN=>?_;rw[Tryz.ntmps175] at hC;have bd:8*((ak u).is.length:Int)≤281474976710656∧((ak u).is.length:Int)≤9223372036854775807:=by omega
 simp only[Gj];generalize hsmd:qa u (ak u) m (aI xm)=sm at *;have tS:=bX sm;simp only[ef,jj,dh,fp,ints,aY] at PO PW Qn PU W7 RJ ⊢;apply aj;simp[hC];refine T.seq (T.rx ah follows [0,1,2,4,5,6,7,9,3,8,10] [(0,7),(0,9),(1,7),(1,9),(5,9),(5,3),(7,9),(7,3),(9,3)] PH ?_);simp[hC,bd];refine RX.call rfl rfl rfl rfl rfl PU W7 ?_;simp;have PR:aA (ak u).roots=CV.az ((ak u).roots.map fun n:Nat=>I n) (ak u).roots.length:=rfl;simp only[PR] at PW Qn PU RJ ⊢;have rT:=fun ρ=>ay ρ _ tS;have rU:=fun ρ=>ay ρ _ PO;have rC:=fun ρ=>ay ρ _ PW;have tZ:trees (List.replicate (ak u).is.length (CV.int IntKind.i64 0))=true:=jr _;have rZ:=fun ρ=>ay ρ _ tZ;refine T.le (Le.norm [7,6,4,3,2] [(10,4),(12,3),(2,2),(1,1),(0,0)] 0 5 Rm Rl (by simp[dD,um,p4,tree,assoc,-List.all_eq_true,-List.all_flatMap,aH PO,aH PW,aH tZ]) yA) ?_;simp[dC,ct,cq,dR,gf,assoc,rZ];have YO:List.replicate (ak u).is.length (CV.int IntKind.i64 0)=(eB (ak u).is.length []).map fun n:Nat=>I n:=by simp[eB]
 rw[YO] at tZ ⊢;generalize hEE:eB (ak u).is.length []=E00 at *;have QU:=zT u m (aI xm);apply aU;simp[hC];apply T.block;refine T.aJ (J175a u m (aI xm) sm E00) (n:=(ak u).is.length) ?_ ?_
 ·refine aa.le (Le.oo 3 1 32 1 rfl rfl) ?_;simp;refine aa.trim [29,28,7,6,4,3,2] [5,4,3,2,1,0] 6 yCd yA ⟨0,by omega,by omega,?_⟩;simp[gU,gS,dh,fp,ints,aY,cK,PR]
 ·rintro k s ⟨j,rfl,hj,rfl⟩;simp only[gU,gS,dh,fp,ints,aY,cK,PR];by_cases P7:j<(ak u).is.length
  ·obtain⟨x,hx⟩:∃ x,(ak u).is[j]? = some x:=⟨_,List.getElem?_eq_getElem P7⟩;have wj:=cE ((j:Int)+1) yA yA;have UP:(j+1)*24≤140737488355328:=by omega
   have Qi:=lR (x6 (m:=m) (L:=aI xm) hx);have RO:=ej ((kq u m (aI xm)).take (j+1));rw[← Qi] at RO;have QA:(List.map aY (List.take j (kq u m (aI xm)))).length=j:=by simp;omega
   have TU:=fun ρ=>ay ρ _ RO;have rE:=fun ρ=>ay ρ _ tZ;have T9:=RJ j x hx;have Xy:=Qn sm j;simp only[aY] at T9 Xy Qi;simp only[aY] at RO TU;generalize hR:List.map aY (List.take j (kq u m (aI xm)))=R at *;apply aj;simp[hC,P7];refine T.seq (T.cond (b:=true) rfl (T.skip ?_));simp;apply dZ;apply aj;simp[hC];refine T.rx ah follows [0,1,2,3,4,5,6,7,8,9,10,11,12] [(1,8),(1,9)] PH ?_;simp[hC];refine RX.call rfl rfl rfl rfl rfl Xy T9 ?_;simp[UP,QA];apply aW;simp[hC,wj];refine⟨(ak u).is.length-(j+1),by omega,?_⟩;refine aa.le (Le.norm [29,28,7,6,4,3,2] [(19,5),(4,4),(3,3),(2,2),(1,1),(0,0)] 0 6 Rm Rl (by simp[dD,um,p4,tree,assoc,-List.all_eq_true,-List.all_flatMap,aH RO,aH PO,aH PW,aH tZ]) yA) ?_;simp[dC,ct,cq,dR,gf,assoc,TU,rE];refine aa.here ⟨j+1,rfl,by omega,?_⟩;simp[gU,gS,dh,fp,ints,aY,cK,PR,← Qi]
  ·have QV:j=(ak u).is.length:=by omega
   subst QV;have tI:=ej (kq u m (aI xm));rw[show List.take (ak u).is.length (kq u m (aI xm))=kq u m (aI xm) from List.take_of_length_le yA];apply aj;simp[hC];refine T.seq (T.cond (b:=false) rfl (T.exit ?_));simp;refine T.le (Le.dz (o:=5) rfl tI) ?_;have PY:List.take (ak u).is.length (List.map aY (kq u m (aI xm)))=List.map aY (kq u m (aI xm)):=List.take_of_length_le Uf;simp[cW tZ,PY];refine T.le (Le.trim [7,6,4,3,2] [4,3,2,1,0] 5 yCd yA) ?_;simp;have bd4:8*((ak u).roots.length:Int)≤281474976710656∧((ak u).roots.length:Int)≤9223372036854775807:=by omega
   have TJ:0<(ak u).roots.length:=List.length_pos_of_mem (((sC hu).root 0).2 (.inl rfl));have RQ:List.take (ak u).roots.length (List.map (fun n:Nat=>I n) (ak u).roots)=List.map (fun n:Nat=>I n) (ak u).roots:=List.take_of_length_le (by rw[List.length_map];exact Nat.le_refl _);have tRo:=aC (ak u).roots;apply aj;simp[hC,bd4];apply aj;simp[hC,TJ];rw[RQ];apply aU;simp[hC];apply T.block;refine T.aJ (J175b u m (aI xm) sm) (n:=(ak u).roots.length) ?_ ?_
   ·refine aa.trim [56,55,54,9,7,6,4,3,2] [5,4,3,2,1,0] 6 (by simp[-List.all_eq_true,af PO,af PW,af tRo,af tZ]) yA ⟨0,by omega,by omega,?_⟩;rw[← hEE];simp[gU,gS,dh,fp,ints,aY,cK,PR,bW,QU,eB]
   ·clear YO tZ rZ;rintro k s ⟨j,rfl,hj,rfl⟩;simp only[gU,gS,dh,fp,ints,aY,cK,PR,bW,QU];have Yo:=kN (ak u).is.length ((ak u).roots.take j).reverse;by_cases R3:j<(ak u).roots.length
    ·obtain⟨r,hr⟩:∃ r,(ak u).roots[j]? = some r:=⟨_,List.getElem?_eq_getElem R3⟩;have V5:=dk hr;have Sx:=H.root r (List.mem_of_getElem? hr);have XI:r+1≤(ak u).is.length:=Sx;have wj:=cE ((j:Int)+1) yA yA;have Rx:eB (ak u).is.length ((ak u).roots.take (j+1)).reverse=(eB (ak u).is.length ((ak u).roots.take j).reverse).set r 1:=by
      rw[List.take_add_one,hr];simp[eB]
     generalize eB (ak u).is.length ((ak u).roots.take j).reverse=E at *;apply aj;simp[hC,R3];refine T.seq (T.cond (b:=true) rfl (T.skip ?_));simp;apply dZ;apply aj;simp[hC,R3,V5];apply aW;simp[hC,Sx,XI,Yo];apply aW;simp[hC,wj];rw[show CV.int IntKind.i64 1=I ((1:Nat):Int) from rfl,C0 _ (show r<E.length by omega)];generalize E.set r 1=E2 at *;have tE2:=aC E2;refine⟨(ak u).roots.length-(j+1),by omega,aa.trim [56,55,54,9,7,6,4,3,2] [5,4,3,2,1,0] 6 (by simp[-List.all_eq_true,af PO,af PW,af tRo,af tE2]) yA ⟨j+1,rfl,by omega,?_⟩⟩;rw[Rx];simp[gU,gS,dh,fp,ints,aY,cK,PR,bW,QU]
    ·have X3:j=(ak u).roots.length:=by omega
     subst X3;have Zs:=D2 (ak u).is.length (ak u).roots H.root;rw[List.take_length,Zs] at *;generalize eB (ak u).is.length (ak u).roots=E0 at *;have tE:=aC E0;apply aj;simp[hC];refine T.seq (T.cond (b:=false) rfl (T.exit ?_));simp;have UE:JU (ak u).is.length E0 (ak u).roots≤30000:=by unfold JU;omega
     apply dZ;refine T.aJ (J175c u m (aI xm) sm) (n:=JU (ak u).is.length E0 (ak u).roots) ?_ ?_
     ·refine aa.trim [9,7,6,4,3,2] [5,4,3,2,1,0] 6 (by simp[-List.all_eq_true,af PO,af PW,af tE,af tRo]) yA ⟨E0,(ak u).roots,rfl,UE,Qa,?_⟩;simp[gU,gS,dh,fp,ints,aY,cK,PR,bW,QU]
     ·clear Qa Zs UE tE Yo hEE;clear E0;rintro k s ⟨E0,td,rfl,Tz,hI,rfl⟩;simp only[gU,gS,dh,fp,ints,aY,cK,PR,bW,QU];have tE:=aC E0;have tD:=aC td;have Qq:=hI.A.len;rcases List.eq_nil_or_concat td with rfl | ⟨td0,i,rfl⟩
      ·have P8:=hI.fin H;apply aU;simp[hC];refine T.cond (b:=false) RN (T.exit ?_);simp;refine T.le (Le.dz (o:=4) rfl tE) ?_;have Tn:List.take (ak u).is.length (E0.map fun n:Nat=>I n)=E0.map fun n:Nat=>I n:=List.take_of_length_le Uf;simp[Tn];apply aj;simp[hC];apply T.ret;apply aa.here;rw[← P8];simp[Tryz.results175,aA,Qq]
      ·rw[List.concat_eq_append] at *;have PJ:=hI.val i zX;obtain⟨x,hx⟩:∃ x,(ak u).is[i]? = some x:=⟨_,List.getElem?_eq_getElem PJ⟩;obtain⟨Tp,Rx⟩:=hI.step H hx;have hlen:(td0++[i]).length=td0.length+1:=by simp
       rw[hlen];have bt:td0.length≤30000:=by unfold JU at Tz;rw[hlen] at Tz;omega
       have wl:=cE ((td0.length:Int)+1-1) yA yA;have YX:=cE (td0.length:Int) yA yA;have bI:(td0.length:Int)<(td0.length:Int)+1:=by omega
       have bI2:(td0.length:Int)≤(td0.length:Int)+1:=by omega
       have tD0:=aC td0;apply aU;simp[hC];refine gQ ?_;simp;apply T.block;apply aj;simp[hC,YX,bI];apply aj;simp[hC,YX];refine T.le (Le.cut (o:=5) td0.length rfl) ?_;simp[St.cut];have hv:=uE hu hx;obtain⟨pq,Qe,PK⟩:=jZ hv;have VO:=eZ hu x;have Ub:(aq u x).length=pq.code.length:=by rw[PK]
       have Qy:=(List.getElem?_eq_some_iff.1 Qe).1;have R8:=aO (f:=df) (n:=2) fk hx;have PL:=bS (f:=nD) (n:=5) gD Qe 4 yA;have WY:trees (pq.code.flatMap dd)=true:=aF eE _;refine T.seq (T.rx ah follows [0,1,2,3,4,5,6,7,8,9,10,11,12] [] PH ?_);simp[hC,PJ,R8,df,Qy,PL,nD];apply T.block;have UO:IK u (ak u) m (aI xm) E0:=hI.A;refine T.aJ (J175d u m (aI xm) sm i x E0 td0) (n:=(aq u x).length) ?_ ?_
       ·refine aa.trim [91,90,89,12,9,7,6,4,3,2] [5,4,3,2,1,0] 6 (by simp[-List.all_eq_true,af PO,af PW,af tE,af tD0]) yA ⟨0,by omega,by omega,?_⟩;simp[gU,gS,dh,fp,ints,aY,cK,PR,bW,QU,qS,PK]
       ·rintro k s ⟨pc,rfl,jN,rfl⟩;have U0:=BN H hx (td0:=td0) UO pc jN;simp only[gU,gS,dh,fp,ints,aY,cK,PR,bW,QU];have VD:(eM u (ak u) m (aI xm) i x).length=(aq u x).length:=(jQ _ _ _).len;have VF:=x6 (m:=m) (L:=aI xm) hx;rw[PK] at jN;by_cases Qx:pc<pq.code.length
        ·obtain⟨z,Qt⟩:∃ z,pq.code[pc]? = some z:=⟨_,List.getElem?_eq_getElem Qx⟩;have hz:(aq u x)[pc]? = some z:=by rw[PK];exact Qt
         have QL:=aO (f:=dd) (n:=12) fo Qt;have Q4:=kS z;have R9:=eE z;obtain⟨xc,QJ,QF⟩:=ku z;obtain⟨c1,c2,c3,c4,c5,c6,c7,c8,c9,VY,VX,rfl⟩:=wy QF;rw[QJ] at QL Q4 R9;simp only[List.all_cons,List.all_nil,Bool.and_true,Bool.and_eq_true] at Q4;obtain⟨_,o1,o2,o3,o4,o5,o6,o7,o8,o9,W2,W1⟩:=Q4;have P0:=zr z;have RU:=cE ((pc:Int)+1) yA yA;obtain⟨rp,TJ,Uw⟩:=(jQ (aI xm) (aq u x).length (Rr u (ak u) m (aI xm) i)).get (p:=pc) (by rw[PK];exact Qx);change (eM u (ak u) m (aI xm) i x)[pc]? = some rp at TJ;have WE:(eM u (ak u) m (aI xm) i x).getD pc []=rp:=by rw[List.getD_eq_getElem?_getD,TJ];rfl
         have Ur:=fA aA TJ;have hda:=fA aY VF;have cS:∀ E:List Nat×List Nat,qS u (ak u) (eM u (ak u) m (aI xm) i x) i x pc (E0,td0)=E→qS u (ak u) (eM u (ak u) m (aI xm) i x) i x (pc+1) (E0,td0)=if fy z=true then (if wT rp (E.1.getD i 0) ||| E.1.getD (eQ (ak u) i pc) 0=E.1.getD (eQ (ak u) i pc) 0 then E else (Go.aP.iT E.1 (eQ (ak u) i pc) (wT rp (E.1.getD i 0)),E.2++[eQ (ak u) i pc])) else E:=fun E hE=>by
          rw[qS,hz];simp only[sZ,WE,hE]
         replace cS:=cS _ rfl;generalize hSS:qS u (ak u) (eM u (ak u) m (aI xm) i x) i x pc (E0,td0)=S2 at *;have V0:=aC S2.1;have tD2:=aC S2.2;have Wg:=U0.A.len;have QZ:=U0.ms;have Qf:=pH S2.1;rw[Wg] at Qf;rw[PK];apply aj;simp[hC,Qx];refine T.seq (T.cond (b:=true) rfl (T.skip ?_));simp;apply dZ;apply aj;simp[hC,Qx,QL];apply aU;simp[hC]
         cases hc:fy z with
         | false=>
          rw[hc] at P0 cS;have T6:((qj z:Int) != 2)=true:=by rw[bne,P0];rfl
          refine T.cond (b:=true) (by simp[ev,assoc,T6]) ?_;simp;apply T.exit;simp;apply aW;simp[hC,RU];refine⟨(aq u x).length-(pc+1),by omega,aa.trim [91,90,89,12,9,7,6,4,3,2] [5,4,3,2,1,0] 6 yCb yA ⟨pc+1,by rw[PK],by omega,?_⟩⟩;rw[cS];simp[gU,gS,dh,fp,ints,aY,cK,PR,bW,QU,PK]
         | true=>
          obtain⟨row,QG,Qg,UB⟩:=zP hu hx hz hc;have SH:=fA ints QG;have Ua:=fA vq Qg;have Tb:=(List.getElem?_eq_some_iff.1 QG).1;have Q0:=(List.getElem?_eq_some_iff.1 Qg).1;rw[hc] at P0 cS;have T6:((qj z:Int) != 2)=false:=by rw[bne,P0];rfl
          refine T.cond (b:=false) (by simp[ev,assoc,T6]) (T.skip ?_);simp;generalize eQ (ak u) i pc=ko at *;obtain⟨ek,WJ⟩:∃ ek,S2.1[ko]? = some ek:=⟨_,List.getElem?_eq_getElem yA⟩;obtain⟨ei,TC⟩:∃ ei,S2.1[i]? = some ei:=⟨_,List.getElem?_eq_getElem yA⟩;have Z6:S2.1.getD ko 0=ek:=by rw[List.getD_eq_getElem?_getD,WJ];rfl
          have TN:S2.1.getD i 0=ei:=by rw[List.getD_eq_getElem?_getD,TC];rfl
          have b63:∀ s∈S2.1,s<2 ^ 63:=fun s hs=>wx h8 (U0.A.lt s hs);have b1:=b63 ek (List.mem_of_getElem? WJ);have b2:=b63 ei (List.mem_of_getElem? TC);have b3:wT rp ei<2 ^ 63:=wx h8 (yF rp ei 0 Uw.lt);have RA:=qh rp ei (by rw[Uw.len];omega) (j5 h8 Uw) b2;rw[Z6,TN] at cS;generalize wT rp ei=sv at *;have Sa:trees [aA rp,I ei]=true:=by simp only[trees,aD,tree,Bool.and_self]
          have Um:=Ep b1 b3;have TP:=pQ b3 b1;have hdf:(((vm sv ek:Nat):Int) != 0)=!decide (sv ||| ek=ek):=H0;have ZX:ko+1≤(ak u).is.length:=UB;refine T.seq (T.rx ah follows [0,1,2,3,4,5,6,7,8,9,10,11,12,13,14,15,16,17,18,19,20,21,22,23] [(1,21),(4,21),(7,21)] PH ?_);simp[hC,SH,Ua,Tb,Q0,ints,PJ,hda,aY,VD,Ub,Qx,Ur,TC];refine RX.call rfl rfl rfl rfl rfl Sa RA ?_;simp;apply aj;simp[hC,UB,WJ,TP];by_cases hq:sv ||| ek=ek
          ·have WK:(((vm sv ek:Nat):Int) != 0)=false:=by rw[hdf];simp[hq]
           rw[if_pos hq] at cS;refine T.cond (b:=false) (by simp[ev,assoc,WK]) (T.skip ?_);simp;apply aW;simp[hC,RU];refine⟨(aq u x).length-(pc+1),by omega,aa.trim [91,90,89,12,9,7,6,4,3,2] [5,4,3,2,1,0] 6 yCb yA ⟨pc+1,by rw[PK],by omega,?_⟩⟩;rw[cS];simp[gU,gS,dh,fp,ints,aY,cK,PR,bW,QU,PK]
          ·have WK:(((vm sv ek:Nat):Int) != 0)=true:=by rw[hdf];simp[hq]
           rw[if_neg hq] at cS;have hue:Go.aP.iT S2.1 ko sv=S2.1.set ko (ek ||| sv):=by rw[Go.aP.iT,Z6]
           rw[hue] at cS;have bdd:(S2.2.length+1)*8≤140737488355328:=by omega
           refine T.cond (b:=true) (by simp[ev,assoc,WK]) ?_;simp;have hko3:ko+1≤S2.1.length:=by omega
           apply aj;simp[hC,UB,WJ,Um,hko3];rw[C0 _ (show ko<S2.1.length by omega)];generalize S2.1.set ko (ek ||| sv)=E3 at *;have tE3:=aC E3;have hD5:(S2.2.map fun n:Nat=>I n)++[I ko]=(S2.2++[ko]).map fun n:Nat=>I n:=by simp
           have Xr:=aC (S2.2++[ko]);rw[← hD5] at Xr;apply aW;simp[hC,bdd];apply aW;simp[hC,RU];have rE3:=fun ρ=>ay ρ _ tE3;have rD5:=fun ρ=>ay ρ _ Xr;have rI:=fun ρ=>ay ρ _ tI;have rK:=fun ρ=>ay ρ _ WY;refine⟨(aq u x).length-(pc+1),by omega,?_⟩;refine aa.le (Le.norm [91,90,89,12,9,7,6,4,3,2] [(32,5),(4,4),(3,3),(2,2),(1,1),(0,0)] 0 6 Rm Rl (by simp[dD,um,p4,tree,assoc,-List.all_eq_true,-List.all_flatMap,aH tE3,aH Xr,aH PO,aH PW]) yA) ?_;simp[dC,ct,cq,dR,gf,assoc,rE3,rD5];refine aa.here ⟨pc+1,by rw[PK],by omega,?_⟩;rw[cS];simp[gU,gS,dh,fp,ints,aY,cK,PR,bW,QU,PK]
        ·have RY:pc=pq.code.length:=by omega
         subst RY;rw[← Ub] at U0 ⊢;generalize WU:qS u (ak u) (eM u (ak u) m (aI xm) i x) i x (aq u x).length (E0,td0)=S2 at *;have V0:=aC S2.1;have tD2:=aC S2.2;have Qv:¬ (aq u x).length<(aq u x).length:=by omega
         apply aj;simp[hC];refine T.seq (T.cond (b:=false) RN (T.exit ?_));simp;refine⟨JU (ak u).is.length S2.1 S2.2,Rx,aa.trim [9,7,6,4,3,2] [5,4,3,2,1,0] 6 yCb yA ⟨S2.1,S2.2,rfl,by omega,Tp,?_⟩⟩;simp[gU,gS,dh,fp,ints,aY,cK,PR,bW,QU]
end Go.Proofs.YtnecpnjdonibmaaGreat
