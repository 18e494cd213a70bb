/- Entries of the reference. -/
import Derived.Test.YtlkmbdfhdknlgaaGreatDoorZ36
namespace Go.Proofs.YtlkmbdfhdknlgaaGreatDoor
open Go.Can Go.aN
theorem uE (n:Nat):∀ (l:List Nat) (i:Nat),(∀ r∈l,r<n)→(gm n l)[i]? = if i<n then some (if i∈l then 1 else 0) else none
 | [],i,_=>by
  rw[gm,List.getElem?_replicate];simp
 | r::l,i,h=>by
  have ih:=uE n l i (fun x hx=>h x (List.mem_cons_of_mem _ hx));rw[gm,List.getElem?_set,ih,lF];have hr:=h r List.mem_cons_self;by_cases Tn:r=i
  ·subst Tn;simp[hr]
  ·have:¬ i=r:=fun e=>Tn e.symm;simp[Tn,this]
theorem EF (n:Nat)(l:List Nat)(h:∀ r∈l,r<n):gm n l.reverse=gm n l:=by
 refine List.ext_getElem? fun i=>?_;rw[uE n _ i (fun r hr=>h r (List.mem_reverse.1 hr)),uE n l i h];simp
theorem I8 {u:Un}{c:Cl}{m L:Nat}:wP (oH u c m L)=lX u c m L:=by
 funext k d e;refine propext ⟨fun h=>?_,fun h=>?_⟩
 ·obtain⟨h1,h2,h3⟩:=(iG L c.is.length (lX u c m L)).lt h;exact (qb h1 h2 h3).1 h
 ·obtain⟨h1,h2,h3⟩:=vl (yO.2 h);exact (qb h1 h2 h3).2 h
theorem DD {u:Un}{m L i:Nat}{x:Is}:JT u m i L x (oH u (ak u) m L)=dX u (ak u) m L i x:=by
 unfold JT dX;rw[I8];congr 1;funext pc d e;exact propext LC
noncomputable def s7 (u:Un) (m L:Nat):List (List (List Nat)):=(List.range (ak u).is.length).map fun i=>match (ak u).is[i]? with
 | some x=>dX u (ak u) m L i x
 | none=>[]
theorem Hx (u:Un)(m L:Nat):(s7 u m L).length=(ak u).is.length:=by simp[s7]
theorem DB {u:Un}{m L i:Nat}{x:Is}(hx:(ak u).is[i]? = some x):(s7 u m L)[i]? = some (dX u (ak u) m L i x):=by
 have hl:=(List.getElem?_eq_some_iff.1 hx).1;rw[s7,List.getElem?_map,List.getElem?_eq_getElem (by simpa using hl)];simp only[List.getElem_range,Option.map_some,hx]
theorem l6:∀ t:List (List (List Nat)),trees (t.map aQ)=true
 | []=>rfl
 | r::t=>by
  have h:=dB r;have:=l6 t;simp only[List.map_cons,trees,h,this,Bool.and_self]
theorem Dr {t:List Nat}{p:Nat}(r:Nat)(h:p<t.length):List.take p (t.map fun n:Nat=>I n)++I r::List.drop (p+1) (t.map fun n:Nat=>I n)=(t.set p r).map fun n:Nat=>I n:=by
 rw[List.map_set,List.set_eq_take_append_cons_drop,if_pos QW]
theorem sU {l:List (List (List Nat))}{j:Nat}{r:List (List Nat)}(h:l[j]? = some r):(l.take j).map aQ++[aQ r]=(l.take (j+1)).map aQ:=by
 rw[List.take_add_one,h];simp
def AM (u:Un)(m:Nat)(sm:List (List Nat)):List (Nat×CV):=[(8,.bp 2 0 (ak u).is.length),(7,aQ sm),(4,.aq 1 0),(3,.aq 0 0),(2,I m)]
def lM (u:Un)(E:List Nat):List (Nat×Ob):=(2,eI E)::eY u
def J78a (u:Un)(m:Nat)(sm:List (List Nat))(k:Nat)(s:St):Prop:=∃ j:Nat,k=(ak u).roots.length-j∧j≤(ak u).roots.length∧s=⟨(9,I j)::AM u m sm,lM u (gm (ak u).is.length ((ak u).roots.take j).reverse),3⟩
def J78b (u:Un)(m L:Nat)(sm:List (List Nat))(E:List Nat)(k:Nat)(s:St):Prop:=∃ j:Nat,k=(ak u).is.length-j∧j≤(ak u).is.length∧s=⟨(11,I j)::(10,.bp 3 0 j)::AM u m sm,(3,⟨32,1,((s7 u m L).take j).map aQ⟩)::lM u E,4⟩
def kC (u:Un):List (Nat×CV):=[(10,.bp 3 0 (ak u).is.length),(8,.bp 2 0 (ak u).is.length),(4,.aq 1 0),(3,.aq 0 0)]
noncomputable def ku (u:Un) (m L:Nat) (E:List Nat):List (Nat×Ob):=(3,⟨32,1,(s7 u m L).map aQ⟩)::lM u E
def J78c (u:Un)(m L:Nat)(k:Nat)(s:St):Prop:=∃ (E:List Nat) (ag:Bool),k=(9*(ak u).is.length-cO E)+(if ag=true then 1 else 0)∧Eg u (ak u) m L E∧(ag=false→E=pJ u (ak u) m L)∧s=⟨(12,.bool ag)::kC u,ku u m L E,4⟩
def J78d (u:Un)(m L:Nat)(E0:List Nat)(k:Nat)(s:St):Prop:=∃ i:Nat,k=(ak u).is.length-i∧i≤(ak u).is.length∧s=⟨(13,I i)::(12,.bool (pH u (ak u) m L E0 i).2)::kC u,ku u m L (pH u (ak u) m L E0 i).1,4⟩
def J78e (u:Un)(m L i:Nat)(x:Is)(S:List Nat×Bool)(k:Nat)(s:St):Prop:=∃ pc:Nat,k=(au u x).length-pc∧pc≤(au u x).length∧s=⟨(14,I pc)::(13,I i)::(12,.bool (wv u (ak u) (dX u (ak u) m L i x) i x pc S).2)::kC u,ku u m L (wv u (ak u) (dX u (ak u) m L i x) i x pc S).1,4⟩
theorem Hg {L n:Nat}(h8:L≤8)(h:n<2 ^ (L+1)):n<2 ^ 63:=by
 have h2:2 ^ (L+1)≤2 ^ 9:=Nat.pow_le_pow_right yA yA;have h3:(2:Nat) ^ 9<2 ^ 63:=by decide
 exact Nat.lt_of_lt_of_le h (Nat.le_trans h2 (Nat.le_of_lt h3))
theorem zR {u:Un}(hu:im u){m:Nat}{xm:Mx}(hm:u.ms[m]? = some xm):ae Tryz.prog 42 [cK u,eP (ak u),I m] (aB (pJ u (ak u) m (aG xm))):=by
 obtain⟨Og,XL⟩:=ju hu;have h8:=jy xm;have H:=tt hu h8;have SE:=B5 hu hm;have Wm:=(iG (aG xm) (ak u).is.length (lX u (ak u) m (aG xm)));have WO:=fun (j:Nat) (x:Is) (hx:(ak u).is[j]? = some x)=>by have:=rG hu hx hm Wm;exact this
 have OH:=Eg.start (u:=u) (m:=m) H;have Oj:=aP u;have Ox:=bL (ak u);have O5:=yZ hu;have Oz:trees [cK u,eP (ak u),I m]=true:=by simp only[trees,tree,cK,eP,aP,bL,Bool.and_self]
 have Qn:∀ (sm:List (List Nat)) (j:Nat),trees [cK u,eP (ak u),I m,aQ sm,I j]=true:=fun sm j=>by simp only[trees,tree,cK,eP,aP,bL,dB,Bool.and_self]
 refine ae.aH af Tryz.func42 rfl N4 (by simp[Tryz.ntmps42]) (aE _) fun C hC N8=>?_;rw[Tryz.ntmps42] at hC;change ∀ (j:Nat) (x:Is),_→ae _ _ [_,_,_,aQ (oH u (ak u) m (aG xm)),_] (aQ (JT u m j (aG xm) x (oH u (ak u) m (aG xm)))) at WO;have R9:∀ (j:Nat) (x:Is),(ak u).is[j]? = some x→ae Tryz.prog 43 [cK u,eP (ak u),I m,aQ (oH u (ak u) m (aG xm)),I j] (aQ (dX u (ak u) m (aG xm) j x)):=fun j x hx=>by
  have:=WO j x hx;rwa [DD] at this
 clear WO;generalize hsmd:oH u (ak u) m (aG xm)=sm at *;have tS:=bq sm;simp only[cK,eP,bX,cD,ints,aQ] at Oj Ox Qn Oz SE R9 ⊢;have bd:8*((ak u).is.length:Int)≤281474976710656∧((ak u).is.length:Int)≤9223372036854775807:=by omega
 apply ai;simp[hC];apply ai;simp[hC];refine dc Oz SE ?_;simp[hC];apply ai;simp[hC,bd];apply aL;simp[hC];apply T.block;refine T.aI (J78a u m sm) (n:=(ak u).roots.length) ?_ ?_
 ·refine aa.trim [9,8,7,4,3,2] [2,1,0] 3 Xn yA ⟨0,by omega,by omega,?_⟩;simp[AM,lM,eY,bX,cD,ints,aQ,eI,gm]
 ·rintro k s ⟨j,rfl,hj,rfl⟩;simp only[AM,lM,eY,bX,cD,ints,aQ,eI];have Xd:=lF (ak u).is.length ((ak u).roots.take j).reverse;by_cases OD:j<(ak u).roots.length
  ·obtain⟨r,hr⟩:∃ r,(ak u).roots[j]? = some r:=⟨_,List.getElem?_eq_getElem OD⟩;have VQ:=fA hr;have Qi:=H.root r (List.mem_of_getElem? hr);have hrn2:r+1≤(ak u).is.length:=Qi;have wj:=cf ((j:Int)+1) yA yA;have Ow:aB (ak u).roots=CV.az ((ak u).roots.map fun n:Nat=>I n) (ak u).roots.length:=rfl;have hst2:gm (ak u).is.length ((ak u).roots.take (j+1)).reverse=(gm (ak u).is.length ((ak u).roots.take j).reverse).set r 1:=by
    rw[List.take_add_one,hr];simp[gm]
   generalize gm (ak u).is.length ((ak u).roots.take j).reverse=E at *;simp only[Ow] at Ox ⊢;apply aL;simp[hC,OD];refine fh ?_;simp;apply eG;apply aY;simp[hC,OD,VQ,Qi,hrn2,Xd];apply aY;simp[hC,wj];rw[show CV.int IntKind.i64 1=I ((1:Nat):Int) from rfl,Dr _ (show r<E.length by omega)];generalize E.set r 1=E2 at *;have tE2:=bj E2;refine⟨(ak u).roots.length-(j+1),by omega,aa.trim [9,8,7,4,3,2] [2,1,0] 3 (by simp[-List.all_eq_true,ah Oj,ah Ox,ah tE2]) yA ⟨j+1,rfl,by omega,?_⟩⟩;rw[hst2];simp[AM,lM,eY,bX,cD,ints,aQ,eI,Ow]
  ·have QG:j=(ak u).roots.length:=by omega
   subst QG;have hrv:=EF (ak u).is.length (ak u).roots H.root;rw[List.take_length,hrv] at *;generalize gm (ak u).is.length (ak u).roots=E0 at *;have tE:=bj E0;have Ow:aB (ak u).roots=CV.az ((ak u).roots.map fun n:Nat=>I n) (ak u).roots.length:=rfl;simp only[Ow] at Ox ⊢;apply aL;simp[hC];refine aX ?_;simp;apply T.exit;simp;apply ai;simp[hC];apply aL;simp[hC];apply T.block;refine T.aI (J78b u m (aG xm) sm E0) (n:=(ak u).is.length) ?_ ?_
   ·refine aa.le (Le.own 10 32 1 rfl) ?_;simp[St.own];refine aa.trim [11,10,8,7,4,3,2] [3,2,1,0] 4 (by simp[-List.all_eq_true,ah Oj,ah Ox,ah tE]) yA ⟨0,by omega,by omega,?_⟩;simp[AM,lM,eY,bX,cD,ints,aQ,eI,Ow]
   ·rintro k s ⟨j,rfl,hj,rfl⟩;simp only[AM,lM,eY,bX,cD,ints,aQ,eI,Ow];have Rb:=Hx u m (aG xm);by_cases R8:j<(ak u).is.length
    ·obtain⟨x,hx⟩:∃ x,(ak u).is[j]? = some x:=⟨_,List.getElem?_eq_getElem R8⟩;have wj:=cf ((j:Int)+1) yA yA;have RI:(j+1)*24≤140737488355328:=by omega
     have Pa:=sU (DB (m:=m) (L:=aG xm) hx);have Tk:=l6 ((s7 u m (aG xm)).take (j+1));rw[← Pa] at Tk;have Qv:(List.map aQ (List.take j (s7 u m (aG xm)))).length=j:=by simp;omega
     have VG:=fun ρ=>ay ρ _ Tk;have rU:=fun ρ=>ay ρ _ Oj;have rC:=fun ρ=>ay ρ _ Ox;have rS:=fun ρ=>ay ρ _ tS;have rE:=fun ρ=>ay ρ _ tE;have Vm:=R9 j x hx;have Wk:=Qn sm j;simp only[aQ,Ow] at Vm Wk Pa;simp only[aQ] at Tk VG;generalize hR:List.map aQ (List.take j (s7 u m (aG xm)))=R at *;apply aL;simp[hC,R8];refine fh ?_;simp;apply eG;apply aY;simp[hC];refine dc Wk Vm ?_;simp[hC,RI,Qv];apply aY;simp[hC,wj];refine⟨(ak u).is.length-(j+1),by omega,?_⟩;refine aa.le (Le.norm [11,10,8,7,4,3,2] [(5,3),(2,2),(1,1),(0,0)] 0 4 Pn Pk (by simp[cX,qx,ox,tree,assoc,-List.all_eq_true,-List.all_flatMap,aC Tk,aC Oj,aC Ox,aC tE]) yA) ?_;simp[cT,cc,bV,dT,fc,assoc,VG,rE];refine aa.here ⟨j+1,rfl,by omega,?_⟩;simp[AM,lM,eY,bX,cD,ints,aQ,eI,Ow,← Pa]
    ·have hje2:j=(ak u).is.length:=by omega
     subst hje2;have tI:=l6 (s7 u m (aG xm));apply aL;simp[hC];refine aX ?_;simp;apply T.exit;simp;rw[show List.take (ak u).is.length (List.map aQ (s7 u m (aG xm)))=List.map aQ (s7 u m (aG xm)) from List.take_of_length_le XU];apply aL;simp[hC];apply T.block;refine T.aI (J78c u m (aG xm)) (n:=(9*(ak u).is.length-cO E0)+1) ?_ ?_
     ·refine aa.trim [12,10,8,4,3] [3,2,1,0] 4 (by simp[-List.all_eq_true,ah Oj,ah Ox,ah tI,ah tE]) yA ⟨E0,true,by simp,OH,(fun h=>by cases h),?_⟩;simp[kC,ku,lM,eY,bX,cD,ints,eI,Ow]
     ·clear OH hrv tE;clear E0;rintro k s ⟨E0,ag,rfl,hE0,P1,rfl⟩;have tE:=bj E0;have Ou:=hE0.len;simp only[kC,ku,lM,eY,bX,cD,ints,eI,Ow]
      cases ag with
      | false=>
       have Ph:=P1 rfl;apply aL;simp[hC];refine aX ?_;simp;apply T.exit;simp;apply ai;simp[hC];apply T.ret;refine aa.le (Le.cV (o:=2) rfl tE) ?_;apply aa.here;have On:List.take (ak u).is.length (E0.map fun n:Nat=>I n)=E0.map fun n:Nat=>I n:=List.take_of_length_le XU;rw[Ph] at On Ou;simp[Tryz.results42,aB,Ph,Ou,On]
      | true=>
       apply aL;simp[hC];refine fh ?_;simp;apply T.block;apply ai;simp[hC];apply ai;simp[hC];apply T.block;refine T.aI (J78d u m (aG xm) E0) (n:=(ak u).is.length) ?_ ?_
       ·refine aa.trim [13,12,10,8,4,3] [3,2,1,0] 4 (by simp[-List.all_eq_true,ah Oj,ah Ox,ah tI,ah tE]) yA ⟨0,by omega,by omega,?_⟩;simp[kC,ku,lM,eY,bX,cD,ints,eI,Ow,pH]
       ·rintro k s ⟨i,rfl,hi,rfl⟩;obtain⟨Sz,_⟩:=yR H hE0 i hi;simp only[kC,ku,lM,eY,bX,cD,ints,eI,Ow];by_cases N6:i<(ak u).is.length
        ·obtain⟨x,hx⟩:∃ x,(ak u).is[i]? = some x:=⟨_,List.getElem?_eq_getElem N6⟩;have YE:pH u (ak u) m (aG xm) E0 (i+1)=wv u (ak u) (dX u (ak u) m (aG xm) i x) i x (au u x).length (pH u (ak u) m (aG xm) E0 i):=by simp only[pH,hx]
         generalize pH u (ak u) m (aG xm) E0 i=S at *;have tSE:=bj S.1;apply aL;simp[hC,N6];refine fh ?_;simp;apply eG;apply ai;simp[hC];apply T.block;refine T.aI (J78e u m (aG xm) i x S) (n:=(au u x).length) ?_ ?_
         ·refine aa.trim [14,13,12,10,8,4,3] [3,2,1,0] 4 (by simp[-List.all_eq_true,ah Oj,ah Ox,ah tI,ah tSE]) yA ⟨0,by omega,by omega,?_⟩;simp[kC,ku,lM,eY,bX,cD,ints,eI,Ow,wv]
         ·rintro k s ⟨pc,rfl,ji,rfl⟩;obtain⟨Ts,_⟩:=Cy H hx Sz pc ji;simp only[kC,ku,lM,eY,bX,cD,ints,eI,Ow];have WQ:(dX u (ak u) m (aG xm) i x).length=(au u x).length:=(iG _ _ _).len;have WR:=DB (m:=m) (L:=aG xm) hx;by_cases Ug:pc<(au u x).length
          ·obtain⟨z,hz⟩:∃ z,(au u x)[pc]? = some z:=⟨_,List.getElem?_eq_getElem Ug⟩;have hv:=kH hu hx;obtain⟨pq,OT,N9⟩:=kG hv;have hcdl:=eK hu x;have Po:=(List.getElem?_eq_some_iff.1 OT).1;have Qz:=aD (f:=cC) (n:=2) dM hx;have N7:=a8 (f:=jS) (n:=5) fQ OT 4 yA;have Ps:=hz;rw[N9] at Ps;have hpl4:pc<pq.code.length:=by rw[← N9];exact Ug
           have OQ:=aD (f:=cU) (n:=12) eg Ps;obtain⟨xc,Pt,PH⟩:=gT z;rw[Pt] at OQ;have Ol:=qp z;have TW:=cf ((pc:Int)+1) yA yA;obtain⟨rp,XD,Xr⟩:=(iG (aG xm) (au u x).length (Rr u (ak u) m (aG xm) i)).get Ug;change (dX u (ak u) m (aG xm) i x)[pc]? = some rp at XD;have Zl:(dX u (ak u) m (aG xm) i x).getD pc []=rp:=by rw[List.getD_eq_getElem?_getD,XD];rfl
           have Uz:=fe aB XD;have dt:∀ E:List Nat×Bool,wv u (ak u) (dX u (ak u) m (aG xm) i x) i x pc S=E→wv u (ak u) (dX u (ak u) m (aG xm) i x) i x (pc+1) S=if cN z=true then (if BD rp (E.1.getD i 0) ||| E.1.getD (dn (ak u) i pc) 0=E.1.getD (dn (ak u) i pc) 0 then E else (Go.aN.iq E.1 (dn (ak u) i pc) (BD rp (E.1.getD i 0)),true)) else E:=fun E hE=>by
            rw[wv,hz];simp only[m9,Zl,hE]
           replace dt:=dt _ rfl;generalize hSS:wv u (ak u) (dX u (ak u) m (aG xm) i x) i x pc S=S2 at *;have tS2:=bj S2.1;have hSl:=Ts.A.len;apply aL;simp[hC,N6,WR,WQ,Ug,aQ];refine fh ?_;simp;apply eG;refine T.seq (T.seq (T.rx af follows [0,1,2,3,4,5,6,7,8,9,10,11,12,13,14,15] [] N4 ?_));simp[hC,N6,Qz,cC,Po,N7,jS,hpl4,OQ]
           cases hc:cN z with
           | false=>
            rw[hc] at Ol dt;have Qj:((mN z:Int) != 2)=true:=by rw[bne,Ol];rfl
            refine T.cond (b:=true) (by simp[ev,assoc,Qj]) ?_;simp;apply T.exit;simp;apply aY;simp[hC,TW];refine⟨(au u x).length-(pc+1),by omega,aa.trim [14,13,12,10,8,4,3] [3,2,1,0] 4 ZY yA ⟨pc+1,rfl,by omega,?_⟩⟩;rw[dt];simp[kC,ku,lM,eY,bX,cD,ints,eI,Ow]
           | true=>
            obtain⟨row,OX,OF,Vj⟩:=ny hu hx hz hc;have PZ:=fe ints OX;have QS:=fe vL OF;have Qe:=(List.getElem?_eq_some_iff.1 OX).1;have O7:=(List.getElem?_eq_some_iff.1 OF).1;rw[hc] at Ol dt;have Qj:((mN z:Int) != 2)=false:=by rw[bne,Ol];rfl
            refine T.cond (b:=false) (by simp[ev,assoc,Qj]) (T.skip ?_);simp;apply ai;simp[hC,PZ,QS,Qe,O7,ints];generalize dn (ak u) i pc=ko at *;obtain⟨ek,hek⟩:∃ ek,S2.1[ko]? = some ek:=⟨_,List.getElem?_eq_getElem yA⟩;obtain⟨ei,Vp⟩:∃ ei,S2.1[i]? = some ei:=⟨_,List.getElem?_eq_getElem yA⟩;have hgk:S2.1.getD ko 0=ek:=by rw[List.getD_eq_getElem?_getD,hek];rfl
            have UU:S2.1.getD i 0=ei:=by rw[List.getD_eq_getElem?_getD,Vp];rfl
            have b63:∀ s∈S2.1,s<2 ^ 63:=fun s hs=>Hg h8 (Ts.A.lt s hs);have b1:=b63 ek (List.mem_of_getElem? hek);have b2:=b63 ei (List.mem_of_getElem? Vp);have b3:BD rp ei<2 ^ 63:=Hg h8 (ze rp ei 0 Xr.lt);have RN:=rK rp ei (by rw[Xr.len];omega) (mU h8 Xr) b2;rw[hgk,UU] at dt;generalize BD rp ei=sv at *;have T1:trees [aB rp,I ei]=true:=by simp only[trees,aE,tree,Bool.and_self]
            have XF:=LW b1 b3;have hor2:ek ||| sv=sv ||| ek:=Nat.or_comm _ _;rw[hor2] at XF;have hko2:ko+1≤(ak u).is.length:=Vj;refine T.seq (T.rx af follows [0,1,2,3,4,5,6,7,8,9,10,11,12,13,14,15,16,17] [(3,15)] N4 ?_);simp[hC,Vj,hek,Vp,N6,WR,WQ,Ug,Uz,aQ];refine RX.call rfl rfl rfl rfl rfl T1 RN ?_;simp[XF];apply ai;simp[hC,Vj,hek];by_cases hq:sv ||| ek=ek
            ·rw[if_pos hq] at dt;refine T.cond (b:=false) (by simp[ev,assoc,hq]) (T.skip ?_);simp;apply aY;simp[hC,TW];refine⟨(au u x).length-(pc+1),by omega,aa.trim [14,13,12,10,8,4,3] [3,2,1,0] 4 ZY yA ⟨pc+1,rfl,by omega,?_⟩⟩;rw[dt];simp[kC,ku,lM,eY,bX,cD,ints,eI,Ow]
            ·rw[if_neg hq] at dt;have Rk:¬ ((sv ||| ek:Nat):Int)=(ek:Int):=fun h=>hq (Int.ofNat.inj h);refine T.cond (b:=true) (by simp[ev,assoc,Rk]) ?_;simp;apply aY;simp[hC,Vj,hko2,hSl];apply aY;simp[hC,TW];have hue:Go.aN.iq S2.1 ko sv=S2.1.set ko (sv ||| ek):=by rw[Go.aN.iq,hgk,Nat.or_comm]
             rw[hue] at dt;rw[Dr _ (show ko<S2.1.length by omega)];generalize S2.1.set ko (sv ||| ek)=E3 at *;have tE3:=bj E3;refine⟨(au u x).length-(pc+1),by omega,aa.trim [14,13,12,10,8,4,3] [3,2,1,0] 4 (by simp[-List.all_eq_true,ah Oj,ah Ox,ah tI,ah tE3]) yA ⟨pc+1,rfl,by omega,?_⟩⟩;rw[dt];simp[kC,ku,lM,eY,bX,cD,ints,eI,Ow]
          ·have Uh:pc=(au u x).length:=by omega
           subst Uh;rw[← YE] at Ts ⊢;have wi:=cf ((i:Int)+1) yA yA;generalize V7:pH u (ak u) m (aG xm) E0 (i+1)=S2 at *;have tS2:=bj S2.1;apply aL;simp[hC,N6,WR,WQ,aQ];refine aX ?_;simp;apply T.exit;simp;apply aY;simp[hC,wi];refine⟨(ak u).is.length-(i+1),by omega,aa.trim [13,12,10,8,4,3] [3,2,1,0] 4 ZY yA ⟨i+1,rfl,by omega,?_⟩⟩;rw[V7];simp[kC,ku,lM,eY,bX,cD,ints,eI,Ow]
        ·have Oe:i=(ak u).is.length:=by omega
         subst Oe;have hsf:=HR H hE0;generalize pH u (ak u) m (aG xm) E0 (ak u).is.length=S at *;have tS2:=bj S.1;have hSl:=Sz.A.len;apply aL;simp[hC];refine aX ?_;simp;apply T.exit;simp;have Qd:=qP S.1;rw[hSl] at Qd;have ZK:=Sz.le;refine⟨(9*(ak u).is.length-cO S.1)+(if S.2=true then 1 else 0),?_,aa.trim [12,10,8,4,3] [3,2,1,0] 4 ZY yA ⟨S.1,S.2,rfl,Sz.A,fun h=>?_,?_⟩⟩
         ·cases h2:S.2 with
          | true=>have:=Sz.lt h2;simp;omega
          | false=>simp;omega
         ·rw[Sz.same h,hsf h]
         ·simp[kC,ku,lM,eY,bX,cD,ints,eI,Ow]
theorem Bm (u:Un)(c:Cl)(m L:Nat):(CO u c m L).length=c.is.length:=by simp[CO]
theorem Ix (u:Un)(c:Cl)(m L i:Nat)(x:Is):(wz u c m L i x).length=(au u x).length:=by simp[wz]
theorem vO {l:List Nat}{j:Nat}{r:Nat}(h:l[j]? = some r):((l.take j).map fun n:Nat=>I n)++[I r]=(l.take (j+1)).map fun n:Nat=>I n:=by
 rw[List.take_add_one,h];simp
def AN (_u:Un)(m:Nat)(sm:List (List Nat))(E:List Nat):List (Nat×CV):=[(8,aB E),(7,aQ sm),(4,.aq 1 0),(3,.aq 0 0),(2,I m)]
def J21a (u:Un)(m:Nat)(sm:List (List Nat))(E:List Nat)(t:List (List Nat))(k:Nat)(s:St):Prop:=∃ i:Nat,k=(ak u).is.length-i∧i≤(ak u).is.length∧s=⟨(10,I i)::(9,.bp 2 0 i)::AN u m sm E,(2,⟨22,1,(t.take i).map aB⟩)::eY u,3⟩
def J21b (u:Un)(m:Nat)(sm:List (List Nat))(E:List Nat)(t:List (List Nat))(i:Nat)(SU:List (List Nat))(r:List Nat)(k:Nat)(s:St):Prop:=∃ pc:Nat,k=SU.length-pc∧pc≤SU.length∧s=⟨(13,I pc)::(12,.bp 3 0 pc)::(11,aQ SU)::(10,I i)::(9,.bp 2 0 i)::AN u m sm E,(3,eI (r.take pc))::(2,⟨22,1,(t.take i).map aB⟩)::eY u,4⟩
set_option maxHeartbeats 1000000 in
theorem Ca {u:Un}(hu:im u){m:Nat}{xm:Mx}(hm:u.ms[m]? = some xm):ae Tryz.prog 17 [cK u,eP (ak u),I m] (aQ (CO u (ak u) m (aG xm))):=by
 obtain⟨Og,XL⟩:=ju hu;have h8:=jy xm;have H:=tt hu h8;have SE:=B5 hu hm;have UW:=zR hu hm;have Wm:=(iG (aG xm) (ak u).is.length (lX u (ak u) m (aG xm)));have R9:∀ (j:Nat) (x:Is),(ak u).is[j]? = some x→ae Tryz.prog 43 [cK u,eP (ak u),I m,aQ (oH u (ak u) m (aG xm)),I j] (aQ (dX u (ak u) m (aG xm) j x)):=fun j x hx=>by
  have:=rG hu hx hm Wm;change ae _ _ [_,_,_,aQ (oH u (ak u) m (aG xm)),_] (aQ (JT u m j (aG xm) x (oH u (ak u) m (aG xm)))) at this;rwa [DD] at this
 have Oj:=aP u;have Ox:=bL (ak u);have Oz:trees [cK u,eP (ak u),I m]=true:=by simp only[trees,tree,cK,eP,aP,bL,Bool.and_self]
 have Qn:∀ (sm:List (List Nat)) (j:Nat),trees [cK u,eP (ak u),I m,aQ sm,I j]=true:=fun sm j=>by simp only[trees,tree,cK,eP,aP,bL,dB,Bool.and_self]
 have Qd:=Bm u (ak u) m (aG xm);have hba:=fun (i:Nat) (x:Is) (hx:(ak u).is[i]? = some x)=>D7 (u:=u) (m:=m) (L:=aG xm) hx;have ZK:=fun (i pc:Nat) (x:Is) (h:pc<(au u x).length)=>ap_be (i:=i) (m:=m) H h;have helt:∀ s∈pJ u (ak u) m (aG xm),s<2 ^ (aG xm+1):=fun s hs=>by
  simp only[pJ,List.mem_map] at hs;obtain⟨i,_,rfl⟩:=hs;exact nu _ _
 have hell:(pJ u (ak u) m (aG xm)).length=(ak u).is.length:=by simp[pJ]
 refine ae.aH af Tryz.func17 rfl N4 (by simp[Tryz.ntmps17]) (dB _) fun C hC N8=>?_;rw[Tryz.ntmps17] at hC;generalize CO u (ak u) m (aG xm)=t at *;generalize oH u (ak u) m (aG xm)=sm at *;generalize pJ u (ak u) m (aG xm)=E at *;have tS:=bq sm;have tE:=bj E;simp only[cK,eP,bX,cD,ints,aQ] at Oj Ox Qn Oz SE UW R9 ⊢;apply ai;simp[hC];refine T.seq (T.rx af follows [0,1,2,4,5,6,3,7,8,9] [(4,3),(5,3)] N4 ?_);simp[hC];refine RX.call rfl rfl rfl rfl rfl Oz SE ?_;simp;refine RX.call rfl rfl rfl rfl rfl Oz UW ?_;simp;refine T.le (Le.trim [8,7,4,3,2] [1,0] 2 X4 yA) ?_;simp;apply ai;simp[hC];apply aL;simp[hC];apply T.block;refine T.aI (J21a u m sm E t) (n:=(ak u).is.length) ?_ ?_
 ·refine aa.le (Le.own 9 22 1 rfl) ?_;simp[St.own];refine aa.trim [10,9,8,7,4,3,2] [2,1,0] 3 X4 yA ⟨0,by omega,by omega,?_⟩;simp[AN,eY,bX,cD,ints,aQ]
 ·rintro k s ⟨i,rfl,hi,rfl⟩;simp only[AN,eY,bX,cD,ints,aQ];by_cases N6:i<(ak u).is.length
  ·obtain⟨x,hx⟩:∃ x,(ak u).is[i]? = some x:=⟨_,List.getElem?_eq_getElem N6⟩;have hcdl:=eK hu x;have wi:=cf ((i:Int)+1) yA yA;have Pa:=oW (hba i x hx);have Tk:=bq (t.take (i+1));rw[← Pa] at Tk;have Xw:=bq (t.take i);have Qv:(List.map aB (List.take i t)).length=i:=by simp;omega
   have Vm:=R9 i x hx;have Wk:=Qn sm i;have W9:=Ix u (ak u) m (aG xm) i x;have hbra:=fun (pc:Nat) (h:pc<(au u x).length)=>D8 (u:=u) (c:=ak u) (m:=m) (L:=aG xm) (i:=i) h;have hbe2:=fun (pc:Nat) (h:pc<(au u x).length)=>ZK i pc x h;have hwt:=iG (aG xm) (au u x).length (Rr u (ak u) m (aG xm) i);change tg _ _ (dX u (ak u) m (aG xm) i x) at hwt;generalize wz u (ak u) m (aG xm) i x=br at *;generalize dX u (ak u) m (aG xm) i x=SU at *;have tN:=bq SU;have VJ:=hwt.len;generalize hR:List.map aB (List.take i t)=R at *;obtain⟨ei,Vp⟩:∃ ei,E[i]? = some ei:=⟨_,List.getElem?_eq_getElem yA⟩;have hdE:=fA Vp;have UU:E.getD i 0=ei:=by rw[List.getD_eq_getElem?_getD,Vp];rfl
   have b2:ei<2 ^ 63:=Hg h8 (helt ei (List.mem_of_getElem? Vp));apply aL;simp[hC,N6];refine fh ?_;simp;apply eG;apply ai;simp[hC];refine dc Wk Vm ?_;simp[hC];apply ai;simp[hC];apply aL;simp[hC];apply T.block;refine T.aI (J21b u m sm E t i SU br) (n:=SU.length) ?_ ?_
   ·refine aa.le (Le.own 12 3 1 rfl) ?_;simp[St.own];refine aa.trim [13,12,11,10,9,8,7,4,3,2] [3,2,1,0] 4 (by simp[-List.all_eq_true,ah Oj,ah Ox,ah Xw,a9 _ _ (aE _)]) yA ⟨0,by omega,by omega,?_⟩;simp[AN,eY,bX,cD,ints,aQ,eI,← hR]
   ·rintro k s ⟨pc,rfl,ji,rfl⟩;simp only[AN,eY,bX,cD,ints,aQ,eI,hR];by_cases Po:pc<SU.length
    ·obtain⟨rp,XD,Xr⟩:=hwt.get (p:=pc) yA;have Zl:SU.getD pc []=rp:=by rw[List.getD_eq_getElem?_getD,XD];rfl
     have Uz:=fe aB XD;have RN:=rK rp ei (by rw[Xr.len];omega) (mU h8 Xr) b2;have hbv:=hbe2 pc yA;rw[Zl,UU] at hbv;have VS:=vO (hbra pc yA);rw[hbv] at RN;generalize lJ (aG xm) (Be u (ak u) m (aG xm) i pc)=v at *;have T1:trees [aB rp,I ei]=true:=by simp only[trees,aE,tree,Bool.and_self]
     have TW:=cf ((pc:Int)+1) yA yA;have bdp:(pc+1)*8≤140737488355328:=by omega
     have Yd:=bj (br.take (pc+1));rw[← VS] at Yd;have hbtl:(List.map (fun n:Nat=>I n) (List.take pc br)).length=pc:=by simp;omega
     generalize hB:List.map (fun n:Nat=>I n) (List.take pc br)=B at *;have QR:i<E.length:=by omega
     have Y5:aB E=CV.az (E.map fun n:Nat=>I n) E.length:=rfl;simp only[Y5];apply aL;simp[hC,Po];refine fh ?_;simp;apply eG;refine T.rx af follows [0,1,2,3,4,5,6,7,8,9,10,11,12] [] N4 ?_;simp[hC,Po,Uz,QR,hdE];refine RX.call rfl rfl rfl rfl rfl T1 RN ?_;simp[bdp,hbtl];apply aY;simp[hC,TW];have rB1:=fun ρ=>ay ρ _ Yd;have rU:=fun ρ=>ay ρ _ Oj;have rC:=fun ρ=>ay ρ _ Ox;have rS:=fun ρ=>ay ρ _ tS;have rE:=fun ρ=>ay ρ _ tE;have rN:=fun ρ=>ay ρ _ tN;have rR:=fun ρ=>ay ρ _ Xw;refine⟨SU.length-(pc+1),by omega,?_⟩;refine aa.le (Le.norm [13,12,11,10,9,8,7,4,3,2] [(17,3),(2,2),(1,1),(0,0)] 0 4 Pn Pk (by simp[cX,qx,ox,tree,assoc,-List.all_eq_true,-List.all_flatMap,aC Yd,aC Oj,aC Ox,aC Xw]) yA) ?_;simp[cT,cc,bV,dT,fc,assoc,rB1,fy,rR];refine aa.here ⟨pc+1,rfl,by omega,?_⟩;simp[AN,eY,bX,cD,ints,aQ,eI,Y5,← VS,hR]
    ·have Uh:pc=SU.length:=by omega
     subst Uh;have Yd:=bj br;have XN:List.take SU.length br=br:=List.take_of_length_le yA;rw[XN];have ZI:CV.az (List.map (fun n:Nat=>I n) br) SU.length=aB br:=by simp only[aB];rw[W9,VJ]
     apply aL;simp[hC];refine aX ?_;simp;apply T.exit;simp;refine T.le (Le.cV (o:=3) rfl Yd) ?_;have On:List.take SU.length (List.map (fun n:Nat=>I n) br)=List.map (fun n:Nat=>I n) br:=List.take_of_length_le XU;simp[jF,On,ZI,dk Xw];have RI:(i+1)*24≤140737488355328:=by omega
     apply aY;simp[hC,RI,Qv,jV,j7];apply aY;simp[hC,wi];have VG:=fun ρ=>ay ρ _ Tk;have rU:=fun ρ=>ay ρ _ Oj;have rC:=fun ρ=>ay ρ _ Ox;have rS:=fun ρ=>ay ρ _ tS;refine⟨(ak u).is.length-(i+1),by omega,?_⟩;have rE:=fun ρ=>ay ρ _ tE;have Y5:aB E=CV.az (E.map fun n:Nat=>I n) E.length:=rfl;simp only[Y5];refine aa.le (Le.norm [10,9,8,7,4,3,2] [(5,2),(1,1),(0,0)] 0 3 Pn Pk yCl yA) ?_;simp[cT,cc,bV,dT,fc,assoc,VG,fy];refine aa.here ⟨i+1,rfl,by omega,?_⟩;simp[AN,eY,bX,cD,ints,aQ,Y5,← Pa]
  ·have Oe:i=(ak u).is.length:=by omega
   subst Oe;have PK:List.take (ak u).is.length t=t:=List.take_of_length_le yA;rw[PK];apply aL;simp[hC];refine aX ?_;simp;apply T.exit;simp;apply ai;simp[hC];apply T.ret;refine aa.le (Le.cV (o:=2) rfl (bq t)) ?_;apply aa.here;have On:List.take (ak u).is.length (t.map aB)=t.map aB:=List.take_of_length_le XU;simp[Tryz.results17,On,Qd]
theorem fN (l:List It):trees (l.flatMap eX)=true:=aO (fun _=>rfl) l
theorem zx (r:Ru):trees (cj r)=true:=by simp only[cj,di,trees,tree,Bool.and_self]
theorem cQ (l:List Ru):trees (l.flatMap cj)=true:=aO zx l
theorem nR (l:List Ru):tree (df l)=true:=by simp only[df,tree]
theorem xD {α:Type}{l:List α}{i:Nat}{a:α}(h:l[i]? = some a):l.drop i=a::l.drop (i+1):=by
 obtain⟨hl,rfl⟩:=List.getElem?_eq_some_iff.1 h;rw[List.drop_eq_getElem_cons hl]
theorem Bg {c:Cl}{l:List Ru}{k i pc:Nat}{z:In}{rn:Nat}{lr:Bool}{q:Ru}{row:List Int}{n:Int}(hc:cN z=true)(h1:¬ (rn:Int)<0)(h2:¬ (k:Int)≤rn)(hq:l[rn]? = some q)(OX:c.calls[i]? = some row)(OF:row[pc]? = some n):dH c l k i z pc rn lr=(decide (q.inst=n) && (!q.ct || lr)):=by
 have h3:(c.calls.getD i []).getD pc (-1)=n:=by rw[List.getD_eq_getElem?_getD,List.getD_eq_getElem?_getD,OX,Option.getD_some,OF,Option.getD_some]
 rw[dH,if_pos hc,if_neg yA,Int.toNat_natCast,hq];simp only[h3]
def Mn (u:Un)(r:Ru):List (Nat×Ob):=(2,⟨55,0,cj r⟩)::eY u
def J202 (u:Un)(l:List Ru)(k ii:Nat)(r:Ru)(x:Is)(n:Nat)(s:St):Prop:=∃ (i:Nat) (ws:List Nat),n=r.items.length-i∧i≤r.items.length∧ws.length≤2∧lL u (ak u) l k ii r.ct x r.items [0]=lL u (ak u) l k ii r.ct x (r.items.drop i) ws∧
 s=⟨[(12,I i),(11,aB ws),(10,.az ((au u x).flatMap cU) (au u x).length),(9,.aq 2 0),(5,.aq 1 0),(4,.aq 0 0),(2,df l),(3,I k)],Mn u r,3⟩
theorem tO (z:In)(pc:Nat):(dJ z pc).length≤2:=by
 cases z with
 | branch g e=>
  simp only[dJ];split<;>simp
 | _=>simp[dJ]
set_option maxRecDepth 100000 in
set_option maxHeartbeats 4000000 in
theorem EE {u:Un}(hu:im u)(l:List Ru)(k:Nat)(r:Ru)(hr:l[k]? = some r)(_hl:l.length≤1000)(hi:r.items.length≤1000):ae Tryz.prog 25 [cK u,eP (ak u),df l,I k] (.bool (dm u (ak u) l k r)):=by
 have Ot:=(List.getElem?_eq_some_iff.1 hr).1;have UY:=aD (f:=cj) (n:=3) cI hr;have Oj:=aP u;have Ox:=bL (ak u);have Rj:=cQ l;obtain⟨SN,hc0⟩:=ju hu;refine ae.aH af Tryz.func25 rfl N4 (by simp[Tryz.ntmps25]) rfl fun C hC N8=>?_;rw[Tryz.ntmps25] at hC;simp only[cK,eP,bX,cD,ints,df];apply ai;simp[hC];apply ai;simp[hC,Ot,UY,cj,di];by_cases h0:r.inst<0
 ·have hv:dm u (ak u) l k r=false:=by simp[dm,h0]
  apply aL;simp[hC,h0];refine cB ?_;simp;apply ai;simp[hC];apply T.ret;apply aa.here;simp[Tryz.results25,hv]
 ·obtain⟨ii,O4⟩:∃ ii:Nat,r.inst=ii:=⟨r.inst.toNat,by omega⟩;have Ty:¬ (ii:Int)<0:=by omega
  by_cases h1:ii<(ak u).is.length
  ·obtain⟨x,hx⟩:∃ x,(ak u).is[ii]? = some x:=⟨_,List.getElem?_eq_getElem h1⟩;have hv:dm u (ak u) l k r=((r.ct || !r.items.isEmpty) && lL u (ak u) l k ii r.ct x r.items [0]):=by simp[dm,O4,hx]
   have O9:=kH hu hx;obtain⟨pq,OT,N9⟩:=kG O9;have Po:=(List.getElem?_eq_some_iff.1 OT).1;have Qz:=aD (f:=cC) (n:=2) dM hx;have N7:=a8 (f:=jS) (n:=5) fQ OT 4 yA;have Rc:¬ ((ak u).is.length:Int)≤ii:=by omega
   apply aL;simp[hC,O4,Ty,Rc];refine dv ?_;simp;apply T.seq;refine T.rx af follows [0,1,2,3,4,5,6,7,8,9,10,11,12] [] N4 ?_;simp[hC,h1,Qz,cC,Po,N7,jS];apply ai;simp[hC];refine T.le (Le.cV (o:=16) rfl rfl) ?_;simp[jF];apply aL;simp[hC];apply T.block;refine T.aI (J202 u l k ii r x) (n:=r.items.length) ?_ ?_
   ·refine aa.trim [12,11,10,9,5,4,2,3] [2,1,0] 3 Ti yA ⟨0,[0],by omega,by omega,by simp,by simp,?_⟩;simp[Mn,eY,bX,cD,ints,aB,N9,cj,di,df,O4]
   ·rintro n s ⟨i,ws,rfl,Oo,VJ,hD,rfl⟩;simp only[Mn,eY,bX,cD,ints,df,N9,cj,di,O4];by_cases N6:i<r.items.length
    ·obtain⟨it,Oq⟩:∃ it,r.items[i]? = some it:=⟨_,List.getElem?_eq_getElem N6⟩;have Sl:=aD (f:=eX) (n:=2) dq Oq;have wi:=cf ((i:Int)+1) yA yA;have wn:=cf ((r.items.length:Int)-1) yA yA;have Zb:((i:Int) == (r.items.length:Int)-1)=(r.items.drop (i+1)).isEmpty:=by
      rw[Bool.eq_iff_iff,beq_iff_eq,List.isEmpty_iff,List.drop_eq_nil_iff];omega
     rw[xD Oq,lL] at hD;generalize hlbe:(r.items.drop (i+1)).isEmpty=lb at Zb hD;obtain⟨p,rl⟩:=it;simp only at hD;apply aL;simp[hC,N6];refine fh ?_;simp;apply eG;apply T.seq;refine T.rx af follows [0,1,2,3,4,5,6,7,8,9,10,11,12,13] [(1,11),(4,11),(7,11),(7,12)] N4 ?_;simp[hC,N6,Sl,eX,wn,Zb];refine T.le (Le.trim [14,13,12,11,10,9,5,4,2,3] [14,2,1,0] 15 Ti yA) ?_;simp;by_cases R0:p<0
     ·have hn:fV u x p=none:=by simp[fV,R0]
      simp only[hn] at hD;rw[hD,Bool.and_false] at hv;apply aL;simp[hC,R0];refine cB ?_;simp;apply ai;simp[hC];apply T.ret;apply aa.here;simp[Tryz.results25,hv]
     obtain⟨pn,rfl⟩:∃ pn:Nat,p=pn:=⟨p.toNat,by omega⟩;have Ui:¬ (pn:Int)<0:=by omega
     by_cases QM:pn<pq.code.length
     case neg=>
      have hn:fV u x (pn:Int)=none:=by simp[fV,N9,List.getElem?_eq_none (by omega:pq.code.length≤pn)]
      have Wz:(pq.code.length:Int)≤pn:=by omega
      simp only[hn] at hD;rw[hD,Bool.and_false] at hv;apply aL;simp[hC,Ui,Wz];refine cB ?_;simp;apply ai;simp[hC];apply T.ret;apply aa.here;simp[Tryz.results25,hv]
     obtain⟨z,Ps⟩:∃ z,pq.code[pn]? = some z:=⟨_,List.getElem?_eq_getElem QM⟩;have hz:(au u x)[pn]? = some z:=by rw[N9];exact Ps
     have hn:fV u x (pn:Int)=some z:=by simp[fV,hz]
     have Wz:¬ (pq.code.length:Int)≤pn:=by omega
     have OQ:=aD (f:=cU) (n:=12) eg Ps;obtain⟨xc,Pt,PH⟩:=gT z;rw[Pt] at OQ;simp only[hn,Int.toNat_natCast] at hD;have tws:trees [aB ws,I (pn:Int)]=true:=by simp only[trees,aE,Bool.true_and];rfl
     have Sa:=GB ws (pn:Int) yA;rw[DE] at Sa;apply aL;simp[hC,Ui,Wz];refine TL.bY Oc rfl rfl rfl rfl (bH.of rfl tws Sa) (TL.go' af ?_);by_cases hw:pn∈ws
     case neg=>
      simp only[hw,decide_false,Bool.false_and] at hD;rw[hD,Bool.and_false] at hv;simp[hC,hw];refine cB ?_;simp;apply ai;simp[hC];apply T.ret;apply aa.here;simp[Tryz.results25,hv]
     simp only[hw,decide_true,Bool.true_and] at hD;simp[hC,hw];refine dv ?_;simp;have Pu:=tM z;have Qj:=qp z;apply ai;simp[hC,QM,OQ,Pu];apply T.seq;refine T.cut (fun s=>s=⟨[(93,.bool (gM z != (lb && !r.ct))),(14,.bool lb),(13,.aq 14 0),(12,I i),(11,aB ws),(10,.az (pq.code.flatMap cU) pq.code.length),(9,.aq 2 0),(5,.aq 1 0),(4,.aq 0 0),(2,.az (l.flatMap cj) l.length),(3,I k)],[(14,⟨77,0,[I pn,I rl]⟩),(2,⟨55,0,[I ii,.bool r.ct,.az (r.items.flatMap eX) r.items.length]⟩),(1,⟨34,0,[.az ((ak u).is.flatMap cC) (ak u).is.length,.az ((ak u).calls.map ints) (ak u).calls.length,aB (ak u).roots]⟩),(0,⟨30,0,[.az (u.gs.map fun n=>I n) u.gs.length,.az (u.ms.flatMap eM) u.ms.length,.az (u.ps.flatMap jS) u.ps.length,I u.main]⟩)],15⟩) ?_ ?_
     ·cases lb with
      | false=>
       apply aY;simp[hC];refine aa.trim [93,14,13,12,11,10,9,5,4,2,3] [14,2,1,0] 15 Ti yA ?_;simp
      | true=>
       apply aY;simp[hC];refine aa.trim [93,14,13,12,11,10,9,5,4,2,3] [14,2,1,0] 15 Ti yA ?_;simp;cases gM z<;>cases r.ct<;>rfl
     rintro s rfl;by_cases Vh:(gM z == (lb && !r.ct))=true
     case neg=>
      have Wv:(gM z != (lb && !r.ct))=true:=by simp only[bne];simpa using Vh
      simp only[Vh,Bool.false_and] at hD;rw[hD,Bool.and_false] at hv;refine T.cond (b:=true) (by simp[ev,assoc,Wv]) ?_;simp;apply ai;simp[hC];apply T.ret;apply aa.here;simp[Tryz.results25,hv]
     have Wv:(gM z != (lb && !r.ct))=false:=by simp only[bne,Vh];rfl
     simp only[Vh,Bool.true_and] at hD;refine T.cond (b:=false) (by simp[ev,assoc,Wv]) (T.skip ?_);simp;refine T.cut (fun s=>dH (ak u) l k ii z pn rl (lb && r.ct)=true∧s=⟨[(14,.bool lb),(13,.aq 14 0),(12,I i),(11,aB ws),(10,.az (pq.code.flatMap cU) pq.code.length),(9,.aq 2 0),(5,.aq 1 0),(4,.aq 0 0),(2,.az (l.flatMap cj) l.length),(3,I k)],[(14,⟨77,0,[I pn,I rl]⟩),(2,⟨55,0,[I ii,.bool r.ct,.az (r.items.flatMap eX) r.items.length]⟩),(1,⟨34,0,[.az ((ak u).is.flatMap cC) (ak u).is.length,.az ((ak u).calls.map ints) (ak u).calls.length,aB (ak u).roots]⟩),(0,⟨30,0,[.az (u.gs.map fun n=>I n) u.gs.length,.az (u.ms.flatMap eM) u.ms.length,.az (u.ps.flatMap jS) u.ps.length,I u.main]⟩)],15⟩) ?_ ?_
     ·cases hc:cN z with
      | true=>
       rw[hc] at Qj;apply ai;simp[hC,QM,OQ,Qj];refine cB ?_;simp;refine T.cut (fun s=>s=⟨[(144,.bool (!dH (ak u) l k ii z pn rl (lb && r.ct))),(14,.bool lb),(13,.aq 14 0),(12,I i),(11,aB ws),(10,.az (pq.code.flatMap cU) pq.code.length),(9,.aq 2 0),(5,.aq 1 0),(4,.aq 0 0),(2,.az (l.flatMap cj) l.length),(3,I k)],[(14,⟨77,0,[I pn,I rl]⟩),(2,⟨55,0,[I ii,.bool r.ct,.az (r.items.flatMap eX) r.items.length]⟩),(1,⟨34,0,[.az ((ak u).is.flatMap cC) (ak u).is.length,.az ((ak u).calls.map ints) (ak u).calls.length,aB (ak u).roots]⟩),(0,⟨30,0,[.az (u.gs.map fun n=>I n) u.gs.length,.az (u.ms.flatMap eM) u.ms.length,.az (u.ps.flatMap jS) u.ps.length,I u.main]⟩)],15⟩) ?_ ?_
       ·by_cases Rt:rl<0
        ·have Sh:dH (ak u) l k ii z pn rl (lb && r.ct)=false:=by simp[dH,hc,Rt]
         refine T.rx af follows [0,1,2,3,4,5,6,7,8,9,10,11,12,13,14,15,16,17,18,19,20,21,22,23,24,25,26,27,28,29,30,31,32,33,34,35,36,37,38,39,40,41,42,43] [] N4 ?_;simp[hC,Rt];refine aa.trim [144,14,13,12,11,10,9,5,4,2,3] [14,2,1,0] 15 Ti yA ?_;simp[Sh]
        obtain⟨rn,rfl⟩:∃ rn:Nat,rl=rn:=⟨rl.toNat,by omega⟩;by_cases Pd:(k:Int)≤rn
        ·have Sh:dH (ak u) l k ii z pn rn (lb && r.ct)=false:=by simp[dH,hc,Pd]
         refine T.rx af follows [0,1,2,3,4,5,6,7,8,9,10,11,12,13,14,15,16,17,18,19,20,21,22,23,24,25,26,27,28,29,30,31,32,33,34,35,36,37,38,39,40,41,42,43] [] N4 ?_;simp[hC,Rt,Pd];refine aa.trim [144,14,13,12,11,10,9,5,4,2,3] [14,2,1,0] 15 Ti yA ?_;simp[Sh]
        obtain⟨q,hq⟩:∃ q,l[rn]? = some q:=⟨_,List.getElem?_eq_getElem yA⟩;have O5:=(List.getElem?_eq_some_iff.1 hq).1;have RB:=aD (f:=cj) (n:=3) cI hq;have Rh:=a8 (f:=cj) (n:=3) cI hq 1 yA;obtain⟨row,OX,OF,Vj⟩:=ny hu hx hz hc;have PZ:=fe ints OX;have QS:=fe vL OF;have Qe:=(List.getElem?_eq_some_iff.1 OX).1;have O7:=(List.getElem?_eq_some_iff.1 OF).1;have PD:=Bg (lr:=lb && r.ct) hc Rt Pd hq OX OF;generalize dn (ak u) ii pn=kn at *;by_cases Rk:q.inst=kn
        case neg=>
         have QD:(q.inst != (kn:Int))=true:=by rw[bne_iff_ne];exact Rk
         refine T.rx af follows [0,1,2,3,4,5,6,7,8,9,10,11,12,13,14,15,16,17,18,19,20,21,22,23,24,25,26,27,28,29,30,31,32,33,34,35,36,37,38,39,40,41,42,43] [] N4 ?_;simp[hC,Rt,Pd,O5,RB,cj,PZ,Qe,QS,O7,ints,QD];refine aa.trim [144,14,13,12,11,10,9,5,4,2,3] [14,2,1,0] 15 Ti yA ?_;simp[PD,Rk]
        have QD:(q.inst != (kn:Int))=false:=by rw[bne_eq_false_iff_eq];exact Rk
        cases SD:q.ct with
        | false=>
         refine T.rx af follows [0,1,2,3,4,5,6,7,8,9,10,11,12,13,14,15,16,17,18,19,20,21,22,23,24,25,26,27,28,29,30,31,32,33,34,35,36,37,38,39,40,41,42,43] [] N4 ?_;simp[hC,Rt,Pd,O5,RB,cj,PZ,Qe,QS,O7,ints,QD,SD];refine aa.trim [144,14,13,12,11,10,9,5,4,2,3] [14,2,1,0] 15 Ti yA ?_;simp[PD,Rk,SD]
        | true=>
         cases lb with
         | false=>
          simp[Rk,SD] at PD;refine T.rx af follows [0,1,2,3,4,5,6,7,8,9,10,11,12,13,14,15,16,17,18,19,20,21,22,23,24,25,26,27,28,29,30,31,32,33,34,35,36,37,38,39,40,41,42,43] [] N4 ?_;simp[hC,Rt,Pd,O5,RB,cj,PZ,Qe,QS,O7,ints,QD,SD];refine aa.trim [144,14,13,12,11,10,9,5,4,2,3] [14,2,1,0] 15 Ti yA ?_;simp[PD]
         | true=>
          simp[Rk,SD] at PD;refine T.rx af follows [0,1,2,3,4,5,6,7,8,9,10,11,12,13,14,15,16,17,18,19,20,21,22,23,24,25,26,27,28,29,30,31,32,33,34,35,36,37,38,39,40,41,42,43] [] N4 ?_;simp[hC,Rt,Pd,O5,RB,cj,PZ,Qe,QS,O7,ints,QD,SD];refine aa.trim [144,14,13,12,11,10,9,5,4,2,3] [14,2,1,0] 15 Ti yA ?_;simp[PD]
       rintro s rfl;by_cases PD:dH (ak u) l k ii z pn rl (lb && r.ct)=true
       ·refine T.cond (b:=false) (by simp[ev,assoc,PD]) (T.skip ?_);simp;refine aa.trim [14,13,12,11,10,9,5,4,2,3] [14,2,1,0] 15 Ti yA ⟨PD,?_⟩;simp
       ·simp only[PD,Bool.false_and] at hD;rw[hD,Bool.and_false] at hv;refine T.cond (b:=true) (by simp[ev,assoc,PD]) ?_;simp;apply ai;simp[hC];apply T.ret;apply aa.here;simp[Tryz.results25,hv]
      | false=>
       have TO:dH (ak u) l k ii z pn rl (lb && r.ct)=decide (rl=-1):=by simp[dH,hc]
       rw[hc] at Qj;apply ai;simp[hC,QM,OQ,Qj];refine aX ?_;simp;by_cases hm1:rl=-1
       ·have hmn:(rl != -1)=false:=by simp[hm1]
        apply ai;simp[hC,hmn];refine dv ?_;simp;refine aa.trim [14,13,12,11,10,9,5,4,2,3] [14,2,1,0] 15 Ti yA ⟨by rw[TO];simp[hm1],?_⟩;simp
       ·have hmn:(rl != -1)=true:=by simp[hm1]
        rw[TO] at hD;simp only[hm1,decide_false,Bool.false_and] at hD;rw[hD,Bool.and_false] at hv;apply ai;simp[hC,hmn];refine cB ?_;simp;apply ai;simp[hC];apply T.ret;apply aa.here;simp[Tryz.results25,hv]
     rintro s ⟨So,rfl⟩;simp only[So,Bool.true_and] at hD;have TE:=eK hu x;rw[N9] at TE;have OV:=qj hu O9 hz yA;have ti:=bD x;have Ss:trees [cK u,.agg (cC x),I (pn:Int)]=true:=by simp only[trees,tree,cK,aP,ti,Bool.and_self]
     have Y8:=tO z pn;simp only[cK,bX,cC,ints] at OV Ss;refine T.rx af follows [0,1,2,3,4,5,6,7,8,9,10] [] N4 ?_;simp[hC,h1,Qz,cC];refine RX.call rfl N3 rfl rfl rfl Ss OV ?_;simp;apply aY;simp[hC,wi];refine⟨r.items.length-(i+1),by omega,aa.trim [12,11,10,9,5,4,2,3] [2,1,0] 3 Ti yA ⟨i+1,dJ z pn,rfl,by omega,Y8,hD,?_⟩⟩;simp[Mn,eY,bX,cD,ints,aB,N9,cj,di,df,O4]
    ·have Oe:i=r.items.length:=by omega
     subst Oe;rw[List.drop_length,lL] at hD;rw[hD,Bool.and_true] at hv;apply aL;simp[hC];refine aX ?_;simp;apply T.exit;simp
     cases ho:r.ct with
     | true=>
      apply ai;simp[hC];apply T.ret;apply aa.here;simp[Tryz.results25,hv,ho]
     | false=>
      have he:decide (0<r.items.length)=!r.items.isEmpty:=by
       cases r.items<;>simp
      apply ai;simp[hC,he];apply T.ret;apply aa.here;simp[Tryz.results25,hv,ho]
  ·have hv:dm u (ak u) l k r=false:=by simp[dm,O4,List.getElem?_eq_none (by omega:(ak u).is.length≤ii)]
   have Rc:((ak u).is.length:Int)≤ii:=by omega
   apply aL;simp[hC,O4,Ty,Rc];refine cB ?_;simp;apply ai;simp[hC];apply T.ret;apply aa.here;simp[Tryz.results25,hv]
end Go.Proofs.YtlkmbdfhdknlgaaGreatDoor
