/- Entries of the reference. -/
import Derived.Test.YtlkmbdfhdknlgaaGreatZ51
import Derived.Test.YtlkmbdfhdknlgaaGreatRows
import Derived.Deep.Matrix
import Derived.Deep.Fields
namespace Go.Proofs.YtlkmbdfhdknlgaaGreat
open Go.Can Go.aJ List Go.Proofs.Tryz
theorem wG (n:Nat):∀ (l:List Nat) (i:Nat),(∀ r∈l,r<n)->(gM n l)[i]? = if i<n then some (if i∈l then 1 else 0) else none
 | [],i,_=>by
  rw[gM,getElem?_replicate];simp
 | r::l,i,h=>by
  have ih:=wG n l i (λ x hx=>h x (mem_cons_of_mem _ hx));rw[gM,getElem?_set,ih,mv];have hr:=h r mem_cons_self;by_cases ZZ:r=i
  ·subst ZZ;simp[hr]
  ·have:¬ i=r:=λ e=>ZZ e.symm;simp[ZZ,this]
theorem Hj (n:Nat)(l:List Nat)(h:∀ r∈l,r<n):gM n l.reverse=gM n l:=by
 refine ext_getElem? λ i=>?_;rw[wG n _ i (λ r hr=>h r (mem_reverse.1 hr)),wG n l i h];simp
theorem Me {u:Un}{c:Cl}{m L:Nat}:BV (tw u c m L)=uJ u c m L:=by
 funext k d e;refine propext ⟨λ h=>?_,λ h=>?_⟩
 ·obtain⟨h1,h2,h3⟩:=(jN L c.is.length (uJ u c m L)).lt h;exact (rh h1 h2 h3).1 h
 ·obtain⟨h1,h2,h3⟩:=AT (Gu.2 h);exact (rh h1 h2 h3).2 h
theorem Gj {u:Un}{m L i:Nat}{x:Is}:Nd u m i L x (tw u (az u) m L)=fw u (az u) m L i x:=by
 unfold Nd fw;rw[Me];congr 1;funext pc d e;exact propext Pk
noncomputable def vr (u:Un) (m L:Nat):List (List (List Nat)):=(range (az u).is.length).map λ i=>match (az u).is[i]? with
 | some x=>fw u (az u) m L i x
 | none=>[]
theorem Kr (u:Un)(m L:Nat):(vr u m L).length=(az u).is.length:=by simp[vr]
theorem Gh {u:Un}{m L i:Nat}{x:Is}(hx:(az u).is[i]? = some x):(vr u m L)[i]? = some (fw u (az u) m L i x):=by
 have hl:=(List.getElem?_eq_some_iff.1 hx).1;rw[vr,getElem?_map,getElem?_eq_getElem ZC];simp only[getElem_range,Option.map_some,hx]
theorem m8:∀ t:List (List (List Nat)),trees (t.map aZ)=true
 | []=>rfl
 | r::t=>by
  have h:=dS r;have:=m8 t;simp only[map_cons,trees,h,this,Bool.and_self]
theorem F5 {t:List Nat}{p:Nat}(r:Nat)(h:p<t.length):take p (t.map λ n:Nat=>I n)++I r::drop (p+1) (t.map λ n:Nat=>I n)=(t.set p r).map λ n:Nat=>I n:=by
 rw[map_set,set_eq_take_append_cons_drop,if_pos TK]
theorem vj {l:List (List (List Nat))}{j:Nat}{r:List (List Nat)}(h:l[j]? = some r):(l.take j).map aZ++[aZ r]=(l.take (j+1)).map aZ:=by
 rw[take_add_one,h];simp
def Db (u:Un)(m:Nat)(sm:List (List Nat)):List (Nat×CV):=[(8,.bb 2 0 (az u).is.length),(7,aZ sm),(4,.aw 1 0),(3,.aw 0 0),(2,I m)]
def mF (u:Un)(E:List Nat):List (Nat×Ob):=(2,eE E)::iw u
def J78a (u:Un)(m:Nat)(sm:List (List Nat))(k:Nat)(s:St):Prop:=∃ j:Nat,k=(az u).roots.length-j/\j<=(az u).roots.length/\s=⟨(9,I j)::Db u m sm,mF u (gM (az u).is.length ((az u).roots.take j).reverse),3⟩
def J78b (u:Un)(m L:Nat)(sm:List (List Nat))(E:List Nat)(k:Nat)(s:St):Prop:=∃ j:Nat,k=(az u).is.length-j/\j<=(az u).is.length/\s=⟨(11,I j)::(10,.bb 3 0 j)::Db u m sm,(3,⟨32,1,((vr u m L).take j).map aZ⟩)::mF u E,4⟩
def lz (u:Un):List (Nat×CV):=[(10,.bb 3 0 (az u).is.length),(8,.bb 2 0 (az u).is.length),(4,.aw 1 0),(3,.aw 0 0)]
noncomputable def ln (u:Un) (m L:Nat) (E:List Nat):List (Nat×Ob):=(3,⟨32,1,(vr u m L).map aZ⟩)::mF u E
def J78c (u:Un)(m L:Nat)(k:Nat)(s:St):Prop:=∃ (E:List Nat) (ag:Bool),k=(9*(az u).is.length-dw E)+(if ag=true then 1 else 0)/\G1 u (az u) m L E/\(ag=false->E=qL u (az u) m L)/\s=⟨(12,.bool ag)::lz u,ln u m L E,4⟩
def J78d (u:Un)(m L:Nat)(E0:List Nat)(k:Nat)(s:St):Prop:=∃ i:Nat,k=(az u).is.length-i/\i<=(az u).is.length/\s=⟨(13,I i)::(12,.bool (qK u (az u) m L E0 i).2)::lz u,ln u m L (qK u (az u) m L E0 i).1,4⟩
def J78e (u:Un)(m L i:Nat)(x:Is)(S:List Nat×Bool)(k:Nat)(s:St):Prop:=∃ pc:Nat,k=(ay u x).length-pc/\pc<=(ay u x).length/\s=⟨(14,I pc)::(13,I i)::(12,.bool (yx u (az u) (fw u (az u) m L i x) i x pc S).2)::lz u,ln u m L (yx u (az u) (fw u (az u) m L i x) i x pc S).1,4⟩
theorem Gc {L n:Nat}(h8:L<=8)(h:n<2 ^ (L+1)):n<2 ^ 63:=by
 have h2:2 ^ (L+1)<=2 ^ 9:=Nat.pow_le_pow_right yA yA;have h3:(2:Nat) ^ 9<2 ^ 63:=by decide
 exact Nat.lt_of_lt_of_le h (Nat.le_trans h2 (Nat.le_of_lt h3))
theorem B6 {u:Un}(hu:fV u){m:Nat}{xm:Mx}(hm:u.ms[m]? = some xm):ae prog 38 [cg u,gC (az u),I m] (aB (qL u (az u) m (aF xm))):=by
 obtain⟨RY,hcp⟩:=sE hu;have h8:=lI xm;have H:=FC hu h8;have hof:=Jk hu hm;have ZT:=(jN (aF xm) (az u).is.length (uJ u (az u) m (aF xm)));have hinn:=λ (j:Nat) (x:Is) (hx:(az u).is[j]? = some x)=>by have:=tY hu hx hm ZT;exact this
 have RW:=G1.start (u:=u) (m:=m) H;have R6:=bj u;have SG:=dX (az u);have XG:=Nx hu;have RQ:trees [cg u,gC (az u),I m]=true:=by simp only[trees,tree,cg,gC,bj,dX,Bool.and_self]
 have Uc:∀ (sm:List (List Nat)) (j:Nat),trees [cg u,gC (az u),I m,aZ sm,I j]=true:=λ sm j=>by simp only[trees,tree,cg,gC,bj,dX,dS,Bool.and_self]
 refine ae.aE ah Tryz.func38 rfl Ix (by simp[Tryz.ntmps38]) (aM _) λ C hC RR=>?_;rw[Tryz.ntmps38] at hC;change ∀ (j:Nat) (x:Is),_->ae _ _ [_,_,_,aZ (tw u (az u) m (aF xm)),_] (aZ (Nd u m j (aF xm) x (tw u (az u) m (aF xm)))) at hinn;have VT:∀ (j:Nat) (x:Is),(az u).is[j]? = some x->ae prog 39 [cg u,gC (az u),I m,aZ (tw u (az u) m (aF xm)),I j] (aZ (fw u (az u) m (aF xm) j x)):=λ j x hx=>by
  have:=hinn j x hx;rwa [Gj] at this
 clear hinn;generalize hsmd:tw u (az u) m (aF xm)=sm at *;have tS:=bI sm;simp only[cg,gC,cR,eC,ints,aZ] at R6 SG Uc RQ hof VT |-;have bd:8*((az u).is.length:Int)<=281474976710656/\((az u).is.length:Int)<=9223372036854775807:=by omega
 apply aq;simp[hC];apply aq;simp[hC];refine cX RQ hof ?_;simp[hC];apply aq;simp[hC,bd];apply aW;simp[hC];apply T.block;refine T.aH (J78a u m sm) (n:=(az u).roots.length) ?_ ?_
 ·refine aa.trim [9,8,7,4,3,2] [2,1,0] 3 yCe yA ⟨0,by omega,by omega,?_⟩;simp[Db,mF,iw,cR,eC,ints,aZ,eE,gM]
 ·rintro k s ⟨j,rfl,hj,rfl⟩;simp only[Db,mF,iw,cR,eC,ints,aZ,eE];have hEl:=mv (az u).is.length ((az u).roots.take j).reverse;by_cases Sv:j<(az u).roots.length
  ·obtain⟨r,hr⟩:∃ r,(az u).roots[j]? = some r:=⟨_,getElem?_eq_getElem Sv⟩;have Zg:=gX hr;have U5:=H.root r (mem_of_getElem? hr);have hrn2:r+1<=(az u).is.length:=U5;have wj:=cF ((j:Int)+1) yA yA;have Sh:aB (az u).roots=CV.ax ((az u).roots.map λ n:Nat=>I n) (az u).roots.length:=rfl;have hst2:gM (az u).is.length ((az u).roots.take (j+1)).reverse=(gM (az u).is.length ((az u).roots.take j).reverse).set r 1:=by
    rw[take_add_one,hr];simp[gM]
   generalize gM (az u).is.length ((az u).roots.take j).reverse=E at *;simp only[Sh] at SG |-;apply aW;simp[hC,Sv];refine gw ?_;simp;apply eN;apply aN;simp[hC,Sv,Zg,U5,hrn2,hEl];apply aN;simp[hC,wj];rw[show CV.int IntKind.i64 1=I ((1:Nat):Int) from rfl,F5 _ (show r<E.length by omega)];generalize E.set r 1=E2 at *;have tE2:=aK E2;refine⟨(az u).roots.length-(j+1),by omega,aa.trim [9,8,7,4,3,2] [2,1,0] 3 (by simp[-all_eq_true,ai R6,ai SG,ai tE2]) yA ⟨j+1,rfl,by omega,?_⟩⟩;rw[hst2];simp[Db,mF,iw,cR,eC,ints,aZ,eE,Sh]
  ·have U0:j=(az u).roots.length:=by omega
   subst U0;have hrv:=Hj (az u).is.length (az u).roots H.root;rw[take_length,hrv] at *;generalize gM (az u).is.length (az u).roots=E0 at *;have tE:=aK E0;have Sh:aB (az u).roots=CV.ax ((az u).roots.map λ n:Nat=>I n) (az u).roots.length:=rfl;simp only[Sh] at SG |-;apply aW;simp[hC];refine a9 ?_;simp;apply T.exit;simp;apply aq;simp[hC];apply aW;simp[hC];apply T.block;refine T.aH (J78b u m (aF xm) sm E0) (n:=(az u).is.length) ?_ ?_
   ·refine aa.le (Le.own 10 32 1 rfl) ?_;simp[St.own];refine aa.trim [11,10,8,7,4,3,2] [3,2,1,0] 4 (by simp[-all_eq_true,ai R6,ai SG,ai tE]) yA ⟨0,by omega,by omega,?_⟩;simp[Db,mF,iw,cR,eC,ints,aZ,eE,Sh]
   ·rintro k s ⟨j,rfl,hj,rfl⟩;simp only[Db,mF,iw,cR,eC,ints,aZ,eE,Sh];have U8:=Kr u m (aF xm);by_cases YN:j<(az u).is.length
    ·obtain⟨x,hx⟩:∃ x,(az u).is[j]? = some x:=⟨_,getElem?_eq_getElem YN⟩;have wj:=cF ((j:Int)+1) yA yA;have bd3:(j+1)*24<=140737488355328:=by omega
     have TS:=vj (Gh (m:=m) (L:=aF xm) hx);have WS:=m8 ((vr u m (aF xm)).take (j+1));rw[<- TS] at WS;have Si:(map aZ (take j (vr u m (aF xm)))).length=j:=by simp;omega
     have Y9:=λ ρ=>af ρ _ WS;have rU:=λ ρ=>af ρ _ R6;have rC:=λ ρ=>af ρ _ SG;have rS:=λ ρ=>af ρ _ tS;have rE:=λ ρ=>af ρ _ tE;have YQ:=VT j x hx;have htj:=Uc sm j;simp only[aZ,Sh] at YQ htj TS;simp only[aZ] at WS Y9;generalize hR:map aZ (take j (vr u m (aF xm)))=R at *;apply aW;simp[hC,YN];refine gw ?_;simp;apply eN;apply aN;simp[hC];refine cX htj YQ ?_;simp[hC,bd3,Si];apply aN;simp[hC,wj];refine⟨(az u).is.length-(j+1),by omega,?_⟩;refine aa.le (Le.norm [11,10,8,7,4,3,2] [(5,3),(2,2),(1,1),(0,0)] 0 4 Sn Sl (by simp[cI,oe,mg,tree,assoc,-all_eq_true,-all_flatMap,au WS,au R6,au SG,au tE]) yA) ?_;simp[cm,bh,aX,cN,dZ,assoc,Y9,rE];refine aa.here ⟨j+1,rfl,by omega,?_⟩;simp[Db,mF,iw,cR,eC,ints,aZ,eE,Sh,<- TS]
    ·have hje2:j=(az u).is.length:=by omega
     subst hje2;have tI:=m8 (vr u m (aF xm));apply aW;simp[hC];refine a9 ?_;simp;apply T.exit;simp;rw[show take (az u).is.length (map aZ (vr u m (aF xm)))=map aZ (vr u m (aF xm)) from take_of_length_le yBh];apply aW;simp[hC];apply T.block;refine T.aH (J78c u m (aF xm)) (n:=(9*(az u).is.length-dw E0)+1) ?_ ?_
     ·refine aa.trim [12,10,8,4,3] [3,2,1,0] 4 (by simp[-all_eq_true,ai R6,ai SG,ai tI,ai tE]) yA ⟨E0,true,by simp,RW,(λ h=>by cases h),?_⟩;simp[lz,ln,mF,iw,cR,eC,ints,eE,Sh]
     ·clear RW hrv tE;clear E0;rintro k s ⟨E0,ag,rfl,hE0,TP,rfl⟩;have tE:=aK E0;have R7:=hE0.len;simp only[lz,ln,mF,iw,cR,eC,ints,eE,Sh]
      cases ag with
      | false=>
       have S0:=TP rfl;apply aW;simp[hC];refine a9 ?_;simp;apply T.exit;simp;apply aq;simp[hC];apply T.ret;refine aa.le (Le.dn (o:=2) rfl tE) ?_;apply aa.here;have R3:take (az u).is.length (E0.map λ n:Nat=>I n)=E0.map λ n:Nat=>I n:=take_of_length_le yBh;rw[S0] at R3 R7;simp[Tryz.results38,aB,S0,R7,R3]
      | true=>
       apply aW;simp[hC];refine gw ?_;simp;apply T.block;apply aq;simp[hC];apply aq;simp[hC];apply T.block;refine T.aH (J78d u m (aF xm) E0) (n:=(az u).is.length) ?_ ?_
       ·refine aa.trim [13,12,10,8,4,3] [3,2,1,0] 4 (by simp[-all_eq_true,ai R6,ai SG,ai tI,ai tE]) yA ⟨0,by omega,by omega,?_⟩;simp[lz,ln,mF,iw,cR,eC,ints,eE,Sh,qK]
       ·rintro k s ⟨i,rfl,hi,rfl⟩;obtain⟨WV,_⟩:=AW H hE0 i hi;simp only[lz,ln,mF,iw,cR,eC,ints,eE,Sh];by_cases Og:i<(az u).is.length
        ·obtain⟨x,hx⟩:∃ x,(az u).is[i]? = some x:=⟨_,getElem?_eq_getElem Og⟩;have hsn:qK u (az u) m (aF xm) E0 (i+1)=yx u (az u) (fw u (az u) m (aF xm) i x) i x (ay u x).length (qK u (az u) m (aF xm) E0 i):=by simp only[qK,hx]
         generalize qK u (az u) m (aF xm) E0 i=S at *;have tSE:=aK S.1;apply aW;simp[hC,Og];refine gw ?_;simp;apply eN;apply aq;simp[hC];apply T.block;refine T.aH (J78e u m (aF xm) i x S) (n:=(ay u x).length) ?_ ?_
         ·refine aa.trim [14,13,12,10,8,4,3] [3,2,1,0] 4 (by simp[-all_eq_true,ai R6,ai SG,ai tI,ai tSE]) yA ⟨0,by omega,by omega,?_⟩;simp[lz,ln,mF,iw,cR,eC,ints,eE,Sh,yx]
         ·rintro k s ⟨pc,rfl,gZ,rfl⟩;obtain⟨hee,_⟩:=EV H hx WV pc gZ;simp only[lz,ln,mF,iw,cR,eC,ints,eE,Sh];have hinl:(fw u (az u) m (aF xm) i x).length=(ay u x).length:=(jN _ _ _).len;have hina:=Gh (m:=m) (L:=aF xm) hx;by_cases XK:pc<(ay u x).length
          ·obtain⟨z,hz⟩:∃ z,(ay u x)[pc]? = some z:=⟨_,getElem?_eq_getElem XK⟩;have hv:=La hu hx;obtain⟨pq,Tw,RZ⟩:=sD hv;have hcdl:=mP hu x;have SR:=(List.getElem?_eq_some_iff.1 Tw).1;have hdi:=aI (f:=dV) (n:=2) gU hx;have Qd:=b9 (f:=mW) (n:=5) iC Tw 4 yA;have U4:=hz;rw[RZ] at U4;have hpl4:pc<pq.code.length:=by rw[<- RZ];exact XK
           have Ud:=aI (f:=cW) (n:=12) gB U4;obtain⟨xc,UT,WU⟩:=oW z;rw[UT] at Ud;have R5:=Cm z;have Xq:=cF ((pc:Int)+1) yA yA;obtain⟨rp,hrp,wrp⟩:=(jN (aF xm) (ay u x).length (Rr u (az u) m (aF xm) i)).get XK;change (fw u (az u) m (aF xm) i x)[pc]? = some rp at hrp;have hgp:(fw u (az u) m (aF xm) i x).getD pc []=rp:=by rw[getD_eq_getElem?_getD,hrp];rfl
           have UL:=kC aB hrp;have du:∀ E:List Nat×Bool,yx u (az u) (fw u (az u) m (aF xm) i x) i x pc S=E->yx u (az u) (fw u (az u) m (aF xm) i x) i x (pc+1) S=if eI z=true then (if DQ rp (E.1.getD i 0) ||| E.1.getD (er (az u) i pc) 0=E.1.getD (er (az u) i pc) 0 then E else (Go.aJ.iY E.1 (er (az u) i pc) (DQ rp (E.1.getD i 0)),true)) else E:=λ E hE=>by
            rw[yx,hz];simp only[oF,hgp,hE]
           replace du:=du _ rfl;generalize hSS:yx u (az u) (fw u (az u) m (aF xm) i x) i x pc S=S2 at *;have tS2:=aK S2.1;have hSl:=hee.A.len;apply aW;simp[hC,Og,hina,hinl,XK,aZ];refine gw ?_;simp;apply eN;refine T.seq (T.seq (T.rx ah follows [0,1,2,3,4,5,6,7,8,9,10,11,12,13,14,15] [] Ix ?_));simp[hC,Og,hdi,dV,SR,Qd,mW,hpl4,Ud]
           cases hc:eI z with
           | false=>
            rw[hc] at R5 du;have Z5:((qX z:Int) != 2)=true:=by rw[bne,R5];rfl
            refine T.cond (b:=true) (by simp[ev,assoc,Z5]) ?_;simp;apply T.exit;simp;apply aN;simp[hC,Xq];refine⟨(ay u x).length-(pc+1),by omega,aa.trim [14,13,12,10,8,4,3] [3,2,1,0] 4 yCt yA ⟨pc+1,rfl,by omega,?_⟩⟩;rw[du];simp[lz,ln,mF,iw,cR,eC,ints,eE,Sh]
           | true=>
            obtain⟨row,Tk,Sx,hr3⟩:=CO hu hx hz hc;have SU:=kC ints Tk;have Vt:=kC dc Sx;have Ts:=(List.getElem?_eq_some_iff.1 Tk).1;have S8:=(List.getElem?_eq_some_iff.1 Sx).1;rw[hc] at R5 du;have Z5:((qX z:Int) != 2)=false:=by rw[bne,R5];rfl
            refine T.cond (b:=false) (by simp[ev,assoc,Z5]) (T.skip ?_);simp;apply aq;simp[hC,SU,Vt,Ts,S8,ints];generalize er (az u) i pc=ko at *;obtain⟨ek,hek⟩:∃ ek,S2.1[ko]? = some ek:=⟨_,getElem?_eq_getElem yA⟩;obtain⟨ei,W3⟩:∃ ei,S2.1[i]? = some ei:=⟨_,getElem?_eq_getElem yA⟩;have hgk:S2.1.getD ko 0=ek:=by rw[getD_eq_getElem?_getD,hek];rfl
            have Yn:S2.1.getD i 0=ei:=by rw[getD_eq_getElem?_getD,W3];rfl
            have b63:∀ s∈S2.1,s<2 ^ 63:=λ s hs=>Gc h8 (hee.A.lt s hs);have b1:=b63 ek (mem_of_getElem? hek);have b2:=b63 ei (mem_of_getElem? W3);have b3:DQ rp ei<2 ^ 63:=Gc h8 (Bq rp ei 0 wrp.lt);have Vu:=uc rp ei (by rw[wrp.len];omega) (ox h8 wrp) b2;rw[hgk,Yn] at du;generalize DQ rp ei=sv at *;have Xt:trees [aB rp,I ei]=true:=by simp only[trees,aM,tree,Bool.and_self]
            have Zk:=PI b1 b3;have hor2:ek ||| sv=sv ||| ek:=Nat.or_comm _ _;rw[hor2] at Zk;have hko2:ko+1<=(az u).is.length:=hr3;refine T.seq (T.rx ah follows [0,1,2,3,4,5,6,7,8,9,10,11,12,13,14,15,16,17] [(3,15)] Ix ?_);simp[hC,hr3,hek,W3,Og,hina,hinl,XK,UL,aZ];refine RX.call rfl rfl rfl rfl rfl Xt Vu ?_;simp[Zk];apply aq;simp[hC,hr3,hek];by_cases hq:sv ||| ek=ek
            ·rw[if_pos hq] at du;refine T.cond (b:=false) (by simp[ev,assoc,hq]) (T.skip ?_);simp;apply aN;simp[hC,Xq];refine⟨(ay u x).length-(pc+1),by omega,aa.trim [14,13,12,10,8,4,3] [3,2,1,0] 4 yCt yA ⟨pc+1,rfl,by omega,?_⟩⟩;rw[du];simp[lz,ln,mF,iw,cR,eC,ints,eE,Sh]
            ·rw[if_neg hq] at du;have hqi:¬ ((sv ||| ek:Nat):Int)=(ek:Int):=λ h=>hq (Int.ofNat.inj h);refine T.cond (b:=true) (by simp[ev,assoc,hqi]) ?_;simp;apply aN;simp[hC,hr3,hko2,hSl];apply aN;simp[hC,Xq];have hue:Go.aJ.iY S2.1 ko sv=S2.1.set ko (sv ||| ek):=by rw[Go.aJ.iY,hgk,Nat.or_comm]
             rw[hue] at du;rw[F5 _ (show ko<S2.1.length by omega)];generalize S2.1.set ko (sv ||| ek)=E3 at *;have tE3:=aK E3;refine⟨(ay u x).length-(pc+1),by omega,aa.trim [14,13,12,10,8,4,3] [3,2,1,0] 4 (by simp[-all_eq_true,ai R6,ai SG,ai tI,ai tE3]) yA ⟨pc+1,rfl,by omega,?_⟩⟩;rw[du];simp[lz,ln,mF,iw,cR,eC,ints,eE,Sh]
          ·have Wg:pc=(ay u x).length:=by omega
           subst Wg;rw[<- hsn] at hee |-;have wi:=cF ((i:Int)+1) yA yA;generalize Zy:qK u (az u) m (aF xm) E0 (i+1)=S2 at *;have tS2:=aK S2.1;apply aW;simp[hC,Og,hina,hinl,aZ];refine a9 ?_;simp;apply T.exit;simp;apply aN;simp[hC,wi];refine⟨(az u).is.length-(i+1),by omega,aa.trim [13,12,10,8,4,3] [3,2,1,0] 4 yCt yA ⟨i+1,rfl,by omega,?_⟩⟩;rw[Zy];simp[lz,ln,mF,iw,cR,eC,ints,eE,Sh]
        ·have RU:i=(az u).is.length:=by omega
         subst RU;have hsf:=KT H hE0;generalize qK u (az u) m (aF xm) E0 (az u).is.length=S at *;have tS2:=aK S.1;have hSl:=WV.A.len;apply aW;simp[hC];refine a9 ?_;simp;apply T.exit;simp;have TO:=x5 S.1;rw[hSl] at TO;have hbe:=WV.le;refine⟨(9*(az u).is.length-dw S.1)+(if S.2=true then 1 else 0),?_,aa.trim [12,10,8,4,3] [3,2,1,0] 4 yCt yA ⟨S.1,S.2,rfl,WV.A,λ h=>?_,?_⟩⟩
         ·cases h2:S.2 with
          | true=>have:=WV.lt h2;simp;omega
          | false=>simp;omega
         ·rw[WV.same h,hsf h]
         ·simp[lz,ln,mF,iw,cR,eC,ints,eE,Sh]
theorem Dw (u:Un)(c:Cl)(m L:Nat):(Dx u c m L).length=c.is.length:=by simp[Dx]
theorem Lm (u:Un)(c:Cl)(m L i:Nat)(x:Is):(x6 u c m L i x).length=(ay u x).length:=by simp[x6]
theorem yi {l:List Nat}{j:Nat}{r:Nat}(h:l[j]? = some r):((l.take j).map λ n:Nat=>I n)++[I r]=(l.take (j+1)).map λ n:Nat=>I n:=by
 rw[take_add_one,h];simp
def Dc (_u:Un)(m:Nat)(sm:List (List Nat))(E:List Nat):List (Nat×CV):=[(8,aB E),(7,aZ sm),(4,.aw 1 0),(3,.aw 0 0),(2,I m)]
def J21a (u:Un)(m:Nat)(sm:List (List Nat))(E:List Nat)(t:List (List Nat))(k:Nat)(s:St):Prop:=∃ i:Nat,k=(az u).is.length-i/\i<=(az u).is.length/\s=⟨(10,I i)::(9,.bb 2 0 i)::Dc u m sm E,(2,⟨22,1,(t.take i).map aB⟩)::iw u,3⟩
def J21b (u:Un)(m:Nat)(sm:List (List Nat))(E:List Nat)(t:List (List Nat))(i:Nat)(Wx:List (List Nat))(r:List Nat)(k:Nat)(s:St):Prop:=∃ pc:Nat,k=Wx.length-pc/\pc<=Wx.length/\s=⟨(13,I pc)::(12,.bb 3 0 pc)::(11,aZ Wx)::(10,I i)::(9,.bb 2 0 i)::Dc u m sm E,(3,eE (r.take pc))::(2,⟨22,1,(t.take i).map aB⟩)::iw u,4⟩
set_option maxHeartbeats 1000000 in
theorem El {u:Un}(hu:fV u){m:Nat}{xm:Mx}(hm:u.ms[m]? = some xm):ae prog 13 [cg u,gC (az u),I m] (aZ (Dx u (az u) m (aF xm))):=by
 obtain⟨RY,hcp⟩:=sE hu;have h8:=lI xm;have H:=FC hu h8;have hof:=Jk hu hm;have Zs:=B6 hu hm;have ZT:=(jN (aF xm) (az u).is.length (uJ u (az u) m (aF xm)));have VT:∀ (j:Nat) (x:Is),(az u).is[j]? = some x->ae prog 39 [cg u,gC (az u),I m,aZ (tw u (az u) m (aF xm)),I j] (aZ (fw u (az u) m (aF xm) j x)):=λ j x hx=>by
  have:=tY hu hx hm ZT;change ae _ _ [_,_,_,aZ (tw u (az u) m (aF xm)),_] (aZ (Nd u m j (aF xm) x (tw u (az u) m (aF xm)))) at this;rwa [Gj] at this
 have R6:=bj u;have SG:=dX (az u);have RQ:trees [cg u,gC (az u),I m]=true:=by simp only[trees,tree,cg,gC,bj,dX,Bool.and_self]
 have Uc:∀ (sm:List (List Nat)) (j:Nat),trees [cg u,gC (az u),I m,aZ sm,I j]=true:=λ sm j=>by simp only[trees,tree,cg,gC,bj,dX,dS,Bool.and_self]
 have TO:=Dw u (az u) m (aF xm);have hba:=λ (i:Nat) (x:Is) (hx:(az u).is[i]? = some x)=>GQ (u:=u) (m:=m) (L:=aF xm) hx;have hbe:=λ (i pc:Nat) (x:Is) (h:pc<(ay u x).length)=>ap_be (i:=i) (m:=m) H h;have helt:∀ s∈qL u (az u) m (aF xm),s<2 ^ (aF xm+1):=λ s hs=>by
  simp only[qL,mem_map] at hs;obtain⟨i,_,rfl⟩:=hs;exact oT _ _
 have hell:(qL u (az u) m (aF xm)).length=(az u).is.length:=by simp[qL]
 refine ae.aE ah Tryz.func13 rfl Ix (by simp[Tryz.ntmps13]) (dS _) λ C hC RR=>?_;rw[Tryz.ntmps13] at hC;generalize Dx u (az u) m (aF xm)=t at *;generalize tw u (az u) m (aF xm)=sm at *;generalize qL u (az u) m (aF xm)=E at *;have tS:=bI sm;have tE:=aK E;simp only[cg,gC,cR,eC,ints,aZ] at R6 SG Uc RQ hof Zs VT |-;apply aq;simp[hC];refine T.seq (T.rx ah follows [0,1,2,4,5,6,3,7,8,9] [(4,3),(5,3)] Ix ?_);simp[hC];refine RX.call rfl rfl rfl rfl rfl RQ hof ?_;simp;refine RX.call rfl rfl rfl rfl rfl RQ Zs ?_;simp;refine T.le (Le.trim [8,7,4,3,2] [1,0] 2 yCk yA) ?_;simp;apply aq;simp[hC];apply aW;simp[hC];apply T.block;refine T.aH (J21a u m sm E t) (n:=(az u).is.length) ?_ ?_
 ·refine aa.le (Le.own 9 22 1 rfl) ?_;simp[St.own];refine aa.trim [10,9,8,7,4,3,2] [2,1,0] 3 yCk yA ⟨0,by omega,by omega,?_⟩;simp[Dc,iw,cR,eC,ints,aZ]
 ·rintro k s ⟨i,rfl,hi,rfl⟩;simp only[Dc,iw,cR,eC,ints,aZ];by_cases Og:i<(az u).is.length
  ·obtain⟨x,hx⟩:∃ x,(az u).is[i]? = some x:=⟨_,getElem?_eq_getElem Og⟩;have hcdl:=mP hu x;have wi:=cF ((i:Int)+1) yA yA;have TS:=qh (hba i x hx);have WS:=bI (t.take (i+1));rw[<- TS] at WS;have tR0:=bI (t.take i);have Si:(map aB (take i t)).length=i:=by simp;omega
   have YQ:=VT i x hx;have htj:=Uc sm i;have X5:=Lm u (az u) m (aF xm) i x;have hbra:=λ (pc:Nat) (h:pc<(ay u x).length)=>GR (u:=u) (c:=az u) (m:=m) (L:=aF xm) (i:=i) h;have hbe2:=λ (pc:Nat) (h:pc<(ay u x).length)=>hbe i pc x h;have hwt:=jN (aF xm) (ay u x).length (Rr u (az u) m (aF xm) i);change vz _ _ (fw u (az u) m (aF xm) i x) at hwt;generalize x6 u (az u) m (aF xm) i x=br at *;generalize fw u (az u) m (aF xm) i x=Wx at *;have tN:=bI Wx;have hwl:=hwt.len;generalize hR:map aB (take i t)=R at *;obtain⟨ei,W3⟩:∃ ei,E[i]? = some ei:=⟨_,getElem?_eq_getElem yA⟩;have hdE:=gX W3;have Yn:E.getD i 0=ei:=by rw[getD_eq_getElem?_getD,W3];rfl
   have b2:ei<2 ^ 63:=Gc h8 (helt ei (mem_of_getElem? W3));apply aW;simp[hC,Og];refine gw ?_;simp;apply eN;apply aq;simp[hC];refine cX htj YQ ?_;simp[hC];apply aq;simp[hC];apply aW;simp[hC];apply T.block;refine T.aH (J21b u m sm E t i Wx br) (n:=Wx.length) ?_ ?_
   ·refine aa.le (Le.own 12 3 1 rfl) ?_;simp[St.own];refine aa.trim [13,12,11,10,9,8,7,4,3,2] [3,2,1,0] 4 (by simp[-all_eq_true,ai R6,ai SG,ai tR0,bP _ _ (aM _)]) yA ⟨0,by omega,by omega,?_⟩;simp[Dc,iw,cR,eC,ints,aZ,eE,<- hR]
   ·rintro k s ⟨pc,rfl,gZ,rfl⟩;simp only[Dc,iw,cR,eC,ints,aZ,eE,hR];by_cases SR:pc<Wx.length
    ·obtain⟨rp,hrp,wrp⟩:=hwt.get (p:=pc) yA;have hgp:Wx.getD pc []=rp:=by rw[getD_eq_getElem?_getD,hrp];rfl
     have UL:=kC aB hrp;have Vu:=uc rp ei (by rw[wrp.len];omega) (ox h8 wrp) b2;have hbv:=hbe2 pc yA;rw[hgp,Yn] at hbv;have Zh:=yi (hbra pc yA);rw[hbv] at Vu;generalize kE (aF xm) (Be u (az u) m (aF xm) i pc)=v at *;have Xt:trees [aB rp,I ei]=true:=by simp only[trees,aM,tree,Bool.and_self]
     have Xq:=cF ((pc:Int)+1) yA yA;have bdp:(pc+1)*8<=140737488355328:=by omega
     have tB1:=aK (br.take (pc+1));rw[<- Zh] at tB1;have hbtl:(map (λ n:Nat=>I n) (take pc br)).length=pc:=by simp;omega
     generalize hB:map (λ n:Nat=>I n) (take pc br)=B at *;have UA:i<E.length:=by omega
     have hnE:aB E=CV.ax (E.map λ n:Nat=>I n) E.length:=rfl;simp only[hnE];apply aW;simp[hC,SR];refine gw ?_;simp;apply eN;refine T.rx ah follows [0,1,2,3,4,5,6,7,8,9,10,11,12] [] Ix ?_;simp[hC,SR,UL,UA,hdE];refine RX.call rfl rfl rfl rfl rfl Xt Vu ?_;simp[bdp,hbtl];apply aN;simp[hC,Xq];have rB1:=λ ρ=>af ρ _ tB1;have rU:=λ ρ=>af ρ _ R6;have rC:=λ ρ=>af ρ _ SG;have rS:=λ ρ=>af ρ _ tS;have rE:=λ ρ=>af ρ _ tE;have rN:=λ ρ=>af ρ _ tN;have rR:=λ ρ=>af ρ _ tR0;refine⟨Wx.length-(pc+1),by omega,?_⟩;refine aa.le (Le.norm [13,12,11,10,9,8,7,4,3,2] [(17,3),(2,2),(1,1),(0,0)] 0 4 Sn Sl (by simp[cI,oe,mg,tree,assoc,-all_eq_true,-all_flatMap,au tB1,au R6,au SG,au tR0]) yA) ?_;simp[cm,bh,aX,cN,dZ,assoc,rB1,rM,rR];refine aa.here ⟨pc+1,rfl,by omega,?_⟩;simp[Dc,iw,cR,eC,ints,aZ,eE,hnE,<- Zh,hR]
    ·have Wg:pc=Wx.length:=by omega
     subst Wg;have tB1:=aK br;have hbk:take Wx.length br=br:=take_of_length_le yA;rw[hbk];have hbn:CV.ax (map (λ n:Nat=>I n) br) Wx.length=aB br:=by simp only[aB];rw[X5,hwl]
     apply aW;simp[hC];refine a9 ?_;simp;apply T.exit;simp;refine T.le (Le.dn (o:=3) rfl tB1) ?_;have R3:take Wx.length (map (λ n:Nat=>I n) br)=map (λ n:Nat=>I n) br:=take_of_length_le yBh;simp[pO,R3,hbn,aS tR0];have bd3:(i+1)*24<=140737488355328:=by omega
     apply aN;simp[hC,bd3,Si,kJ,kR];apply aN;simp[hC,wi];have Y9:=λ ρ=>af ρ _ WS;have rU:=λ ρ=>af ρ _ R6;have rC:=λ ρ=>af ρ _ SG;have rS:=λ ρ=>af ρ _ tS;refine⟨(az u).is.length-(i+1),by omega,?_⟩;have rE:=λ ρ=>af ρ _ tE;have hnE:aB E=CV.ax (E.map λ n:Nat=>I n) E.length:=rfl;simp only[hnE];refine aa.le (Le.norm [10,9,8,7,4,3,2] [(5,2),(1,1),(0,0)] 0 3 Sn Sl yDb yA) ?_;simp[cm,bh,aX,cN,dZ,assoc,Y9,rM];refine aa.here ⟨i+1,rfl,by omega,?_⟩;simp[Dc,iw,cR,eC,ints,aZ,hnE,<- TS]
  ·have RU:i=(az u).is.length:=by omega
   subst RU;have YB:take (az u).is.length t=t:=take_of_length_le yA;rw[YB];apply aW;simp[hC];refine a9 ?_;simp;apply T.exit;simp;apply aq;simp[hC];apply T.ret;refine aa.le (Le.dn (o:=2) rfl (bI t)) ?_;apply aa.here;have R3:take (az u).is.length (t.map aB)=t.map aB:=take_of_length_le yBh;simp[Tryz.results13,R3,TO]
def Fe (l:List Bool):List CV:=l.map CV.bool
theorem QD {l:List Bool}{i:Nat}{b:Bool}(h:l[i]? = some b):(Fe l).drop i=.bool b::(Fe l).drop (i+1):=by
 obtain⟨hi,hb⟩:=List.getElem?_eq_some_iff.1 h;rw[drop_eq_getElem_cons (by simpa [Fe] using hi)];simp[Fe,hb]
theorem NH {l:List Bool}{i:Nat}(h:i<l.length):(Fe l).take i++.bool true::(Fe l).drop (i+1)=Fe (l.set i true):=by
 simp only[Fe,map_set];rw[set_eq_take_append_cons_drop,if_pos TK]
def HS (u:Un)(y:Sy)(met:List Bool):List (Nat×Ob):=[(4,⟨4,1,Fe met⟩),(3,⟨40,0,kX y⟩),(2,⟨34,0,eC (az u)⟩),(1,⟨30,0,cR u⟩)]
def J3 (u:Un)(P:List Int)(n:Nat)(s:St):Prop:=∃ (i:Nat) (y:Sy) (met:List Bool),n=P.length-i/\i<=P.length/\met.length=u.ms.length/\OV u met i y/\Fm y/\
 s=⟨[(11,I i),(10,.bb 4 0 u.ms.length),(9,.ax (P.map dc) P.length),(8,.aw 3 0),(7,.aw 2 0),(6,.aw 1 0)],HS u y met,5⟩
def S3 (u:Un)(P:List Int)(i:Nat)(x:Int)(y:Sy)(s:St):Prop:=∃ met:List Bool,met.length=u.ms.length/\OV u met i y/\((sw u y x).1=0\/met[(sw u y x).2]?≠some false)/\
 s=⟨[(11,I i),(10,.bb 4 0 u.ms.length),(9,.ax (P.map dc) P.length),(8,.aw 3 0),(7,.aw 2 0),(6,.aw 1 0)],HS u y met,5⟩
set_option maxRecDepth 100000 in
set_option maxHeartbeats 4000000 in
theorem QA (l pk:List Int)(hl:l.length<=9223372036854775807)(U7:pk.length<=9223372036854775807):ae prog 3 [ints l,ints pk] (.bool true):=by
 have haw:=as_ok;have WA:=LZ l hl;have V3:=Cy l;generalize mj (DL l)=u at WA V3;have SW:=V3.nm;obtain⟨q0,Z0⟩:∃ q,u.ps[u.main]? = some q:=⟨_,getElem?_eq_getElem (by have:=V3.np;rw[V3.main];omega)⟩;have hq0v:=V3.pr q0 (mem_of_getElem? Z0);have Vo:=mY V3;have Sb:=Mw u Vo (by have:=V3.ng;omega) q0 Z0 yA;have Wf:=JE pk U7 80 yA;have Zz:(dJ pk 80).length<=80:=by rw[jf];omega
 generalize dJ pk 80=P at Wf Zz;have R6:=bj u;have SG:=dX (az u);obtain⟨t1,t2,t3⟩:=iy (DL l);have tP:trees (P.map dc)=true:=aO P;have ZL:trees [ints l]=true:=by simp only[trees,da,Bool.and_self]
 have Y7:trees [cg u]=true:=by simp only[trees,tree,cg,R6,Bool.and_self]
 have Y6:trees [ints pk,I (80:Nat)]=true:=by simp only[trees,tree,da,Bool.and_self]
 have S7:∀ y:Sy,trees (kX y)=true:=λ y=>by simp only[kX,trees,tree,ints,Bool.and_self]
 have ta4:∀ (y:Sy) (t:Int),trees [cg u,gC (az u),cT y,I t]=true:=λ y t=>by
  simp only[trees,tree,cg,R6,gC,SG,cT,S7,Bool.and_self]
 have ta5:∀ (y:Sy) (t m:Int),trees [cg u,gC (az u),cT y,I t,I m]=true:=λ y t m=>by
  simp only[trees,tree,cg,R6,gC,SG,cT,S7,Bool.and_self]
 have ta7:∀ (y:Sy) (t:Int),trees [cg u,cT y,I t]=true:=λ y t=>by
  simp only[trees,tree,cg,R6,cT,S7,Bool.and_self]
 have ta8:∀ m:Int,trees [cg u,gC (az u),I m]=true:=λ m=>by
  simp only[trees,tree,cg,R6,gC,SG,Bool.and_self]
 have tb:∀ l:List Bool,trees (Fe l)=true:=λ l=>by
  induction l with
  | nil=>rfl
  | cons _ _ _=>simp [Fe,tree]
 have hmk1:(u.ms.length:Int)<=281474976710656:=by omega
 have hmk2:(u.ms.length:Int)<=9223372036854775807:=by omega
 have hc0:=Nn V3 (replicate u.ms.length false);have hr0:=PU V3;have Xa:=ak ca (az u).is;have Tp:=js (az u).calls;have Yc:=aK (az u).roots;have Yb:trees (u.gs.map dc)=true:=aO u.gs;have Ya:=dG u.ms;have cB:trees (u.ps.flatMap mW)=true:=ak gy u.ps;have tG:∀ y:Sy,trees (y.gs.map dc)=true:=λ y=>aO y.gs;have tT:∀ y:Sy,trees (y.tb.flatMap dL)=true:=λ y=>ak cj _;have tS:∀ y:Sy,trees (y.ts.flatMap en)=true:=λ y=>ak bX _;have hz0:replicate u.ms.length (CV.bool false)=Fe (replicate u.ms.length false):=by simp[Fe]
 generalize oS u=y0 at Sb hc0 hr0;generalize DL l=pg at WA t1 t2 t3;refine ae.aE ah Tryz.func3 rfl Ix (by simp[Tryz.ntmps3]) rfl λ C hC RR=>?_;rw[Tryz.ntmps3] at hC;simp only[y9,fo,cg,cR,gC,eC,cT,kX,ints,aB] at WA ZL Y7 Y6 Sb Wf |-;apply aq;simp[hC];apply aq;simp[hC];refine cX ZL WA ?_;simp[hC];apply aq;simp[hC];refine cX Y7 Sb ?_;simp[hC];apply aq;simp[hC];refine cX Y6 Wf ?_;simp[hC];apply aq;simp[hC,hmk1,hmk2,hz0];apply aW;simp[hC];apply T.block;refine T.aH (J3 u P) (n:=P.length) ?_ ?_
 ·refine aa.trim [11,10,9,8,7,6] [4,3,2,1] 5 yCm yA ⟨0,y0,replicate u.ms.length false,by omega,by omega,by simp,hc0,hr0,?_⟩;simp[HS,cR,eC,kX,ints,aB]
 ·rintro n s ⟨i,y,met,rfl,hi,Tb,hy,hyr,rfl⟩;by_cases Og:i<P.length
  ·obtain⟨x,hx⟩:∃ x,P[i]? = some x:=⟨_,getElem?_eq_getElem Og⟩;have T1:(P.map dc).drop i=I x::(P.map dc).drop (i+1):=by
    rw[drop_eq_getElem_cons (by simpa using Og)];simp[(List.getElem?_eq_some_iff.1 hx).2]
   have wi:=cF ((i:Int)+1) yA yA;have SN:=za V3 yA hy.v x;have W4:=λ h=>Ov (u:=u) (s:=y) (t:=x) h;have Yo:=λ h0 hm=>Qc hy (t:=x) h0 hm;have tb4:=ta4 y x;simp only[HS,cg,cR,gC,eC,cT,kX,ints,aB] at tb4 |-;apply aW;simp[hC,Og];refine gw ?_;simp;apply eN;generalize he:sw u y x=e at SN W4 Yo;obtain⟨k,n⟩:=e;simp only[cg,cR,gC,eC,cT,kX,ints,aB] at SN W4 Yo;apply T.seq;refine T.rx ah follows [0,1,2,3,4,5,6,7,8,9,10,11,12] [] Ix ?_;simp[hC,Og,T1];refine RX.call rfl xr rfl rfl rfl tb4 SN ?_;simp;refine T.cut (S3 u P i x y) ?_ ?_
   ·skip
    by_cases Zo:k=0
    ·subst Zo;apply aq;simp[hC];refine fX ?_;simp;refine aa.trim [11,10,9,8,7,6] [4,3,2,1] 5 yCm yA ⟨met,by simp[Tb],hy,by rw[he];exact .inl rfl,?_⟩;simp[HS,cR,eC,kX,ints,aB]
    ·have V6:((k:Int) != 0)=true:=by rw[bne_iff_ne];omega
     obtain⟨_,_,_,xm,_,_,_,Yf⟩:=W4 Zo;have U8:=(List.getElem?_eq_some_iff.1 Yf).1;have Uj:(0:Int)<=n:=by omega
     obtain⟨b,hb⟩:∃ b,met[n]? = some b:=⟨_,getElem?_eq_getElem yA⟩;have hbd:=QD hb
     cases b with
     | true=>
      apply aq;simp[hC,V6,Uj,U8,hbd];refine fX ?_;simp;refine aa.trim [11,10,9,8,7,6] [4,3,2,1] 5 yCm yA ⟨met,by simp[Tb],hy,by rw[he];exact .inr (by rw[hb];simp),?_⟩;simp[HS,cR,eC,kX,ints,aB]
     | false=>
      obtain⟨d,l0,j,pc,is,xm',hxm',UU,his,gZ,Ud,YY⟩:=Yo Zo hb;rw[Yf,Option.some.injEq] at hxm';subst hxm';have hpb:=(Jy V3 yA hy.v UU).1;have XJ:=uT V3 yA hy.v x n U8;have tb5:=ta5 y x n;have h8:=lI xm;have hbf:=El V3 Yf;have hst3:=NH (l:=met) (i:=n) yA;rw[UU] at XJ;simp only[Qw,LP,cg,cR,gC,eC,cT,kX,ints,aB] at XJ tb5;have YS:=aI (f:=y6) (n:=2) Aw (show (l0++[(j,pc)])[l0.length]? = some (j,pc) by simp);simp only[length_append,length_singleton] at hpb XJ YS;generalize (l0++[(j,pc)]).flatMap y6=Q at YS XJ;apply aq;simp[hC,V6,Uj,U8,hbd];refine dy ?_;simp;have TO:n+1<=(Fe met).length:=by simp[Fe];omega
      apply aq;simp[hC,U8,hst3,TO];apply T.seq;refine T.rx ah follows [0,1,2,3,4,5,6,7,12,8,9,10,11,13,14] [(0,12),(1,12),(2,12),(6,12),(12,8)] Ix ?_;simp[hC,Og,T1];refine RX.call rfl xr rfl rfl rfl tb5 XJ ?_;simp;have wl:=cF (l0.length:Int) yA yA;apply aq;simp[hC,wl];have RS:kE (aF xm) (Be u (az u) n (aF xm) j pc)<2 ^ 63:=Gc h8 (oT _ _);have hro:=Jm (kE (aF xm) (Be u (az u) n (aF xm) j pc)) d RS yA;have hg1:=GQ (u:=u) (c:=az u) (m:=n) (L:=aF xm) his;have Vq:=gX (GR (u:=u) (c:=az u) (m:=n) (L:=aF xm) (i:=j) gZ);have VH:=Dw u (az u) n (aF xm);have XG:(x6 u (az u) n (aF xm) j is).length=(ay u is).length:=by simp[x6]
      have hixl:=(List.getElem?_eq_some_iff.1 his).1;have SU:=kC aB hg1;have Sv:j<(Dx u (az u) n (aF xm)).length:=by omega
      have SR:pc<(x6 u (az u) n (aF xm) j is).length:=by omega
      have tb8:=ta8 n;have hlz:¬ ((l0.length:Int)<0):=by omega
      have Ts:(l0.length:Int)<(l0.length:Int)+1:=by omega
      simp only[YY,Bool.and_true,show decide (d<=8)=true from decide_eq_true yA] at hro;generalize kE (aF xm) (Be u (az u) n (aF xm) j pc)=s0 at Vq hro;generalize x6 u (az u) n (aF xm) j is=row at hg1 Vq SU SR XG;generalize Dx u (az u) n (aF xm)=TT at hbf hg1 SU Sv VH;simp only[aZ,aB,cg,cR,gC,eC,ints] at hbf SU tb8;apply T.seq;refine T.rx ah follows [0,1,2,3,4,5,6,7,8,9,11,12,13,14,15,16,19,20,21,22,23,24,27,28,10,17,18,25,26,29,30,31] [(12,10),(16,10),(20,10),(24,10),(28,10)] Ix ?_;simp[hC,hlz,YS,y6,Ts];refine RX.call rfl xr rfl rfl rfl tb8 hbf ?_;simp[Sv,SU,SR,Vq];refine RX.call rfl xr rfl rfl rfl R2 (hro) ?_;simp;refine fX ?_;simp;refine aa.trim [11,10,9,8,7,6] [4,3,2,1] 5 yCm yA ⟨met.set n true,by simp[Tb],Nm hy n,by rw[he];exact .inr (by rw[getElem?_set_self yA];simp),?_⟩;simp[HS,cR,eC,kX,ints,aB]
   ·rintro s ⟨met',hml',hy',Sw,rfl⟩;have RW:=Hw V3 yA hy'.v hyr x;have hsi:=KR V3 hy' x Sw;have hsr:=Mc V3 hy'.v hyr x;have tb7:=ta7 y x;generalize fT u y x=r at RW hsi hsr;obtain⟨z,ok⟩:=r;simp only[HS,cg,cR,eC,cT,kX,ints,aB] at RW tb7 hsi hsr |-;refine T.rx ah follows [0,1,2,3,4,5,6,7,8,9,10] [] Ix ?_;simp[hC,Og,T1];refine RX.call rfl xr rfl rfl rfl tb7 RW ?_;simp;apply aN;simp[hC,wi];refine⟨P.length-(i+1),by omega,aa.trim [11,10,9,8,7,6] [4,3,2,1] 5 yCm yA ⟨i+1,z,met',rfl,by omega,hml',hsi,hsr,?_⟩⟩;simp[HS,cR,eC,kX,ints,aB]
  ·simp only[HS,cR,eC,kX,ints,aB];apply aW;simp[hC,Og];refine T.cond (b:=false) Ta ?_;simp;apply T.exit;simp;apply aq;simp;refine cX rfl haw ?_;simp[hC];apply T.ret;apply aa.here;simp[Tryz.results3]
end Go.Proofs.YtlkmbdfhdknlgaaGreat
namespace Go.Can
open Go.ChangeShapes Go.WideShapes Go.ChangeAt Go.RowKit List
section
variable {P:Program}{H:Type}{enc:TypeId×Value->H}{w:World}
theorem J1 {F:Nat->Prop}(hF:∀ b,¬ F b):∀ (cs:List CV) (ad:Addr),cs.all one=true->(∀ i c,cs[i]? = some c->∃ u,w.cell? (ad.add i)=some u/\cr w F c u)->fF w F cs ad
 | [],_,_,_=>by simp[fF]
 | c::cs,ad,h1,h=>by
  simp only[all_cons,Bool.and_eq_true] at h1;obtain⟨u,k1,k2⟩:=h 0 c rfl;rw[add_zero] at k1;simp only[fF];refine⟨⟨u,k1,hF _,k2⟩,h1.1,J1 hF cs _ h1.2 λ i d hi=>?_⟩;obtain⟨v,m1,m2⟩:=h (i+1) d ZD;refine⟨v,?_,m2⟩;rw[add_add,Nat.add_comm];exact m1
theorem MK {α:Type}(f:α->CV)(h:∀ x,one (f x)=true)(l:List α):(l.map f).all one=true:=by
 rw[all_eq_true];intro x hx;obtain⟨y,_,rfl⟩:=mem_map.1 hx;exact h y
theorem Ly {F:Nat->Prop}(cs:List CV)(h:cs=[]):cr w F (.ax cs 0) (.slice none 0 0):=by
 subst h;simp only[cr];exact⟨none,0,rfl,Nat.le_refl _,Nat.zero_le _,.inl ⟨trivial,by simp⟩⟩
theorem qj {F:Nat->Prop}(hF:∀ b,¬ F b){t e:TypeId}{r:Reach}{b0:Nat}{v:Value}{d:DataW H}{ps:List MemPlace}(ht:P.underlying t=some (.slice e))(he:P.underlying e=some (.int .i64))(hc:P.cellsOf e=1)
  (Uh:Value.okWide P w r b0 t v) (h:DataW.Trod enc P w 0 (λ _=>true) true t v d ps):∃ l:List Int,cr w F (ints l) v/\l.length<=9223372036854775807:=by
 obtain⟨a,n,cap,rfl⟩:=okWide_slice ht Uh;obtain⟨fuel,hf⟩:=h;rcases open_ints ht he hc hf with ⟨Sw,_⟩ | ⟨a',len,cap',zs,Sw,_,hl,hm,hz,_,Ue,_⟩
 ·simp[Value.cells] at Sw;obtain⟨rfl,rfl,rfl⟩:=Sw;exact⟨[],Ly _ rfl,by simp⟩
 ·simp[Value.cells] at Sw;obtain⟨rfl,rfl,rfl⟩:=Sw;simp only[if_true] at hz;have hlen:(zs.take n).length=n:=by simp;omega
  refine⟨zs.take n,?_,by rw[hlen];simp only[maxLen] at hm;omega⟩;unfold ints;rw[hlen];simp only[cr];refine⟨_,cap,rfl,hl,hm,.inr ⟨a',rfl,J1 hF _ _ (MK _ (λ _=>rfl) _) λ i c hi=>?_⟩⟩;rw[getElem?_map] at hi;obtain⟨z,VC,rfl⟩:=Option.map_eq_some_iff.1 hi;rw[getElem?_take] at VC;split at VC
  ·rename_i R4;have RS:i<zs.length:=by omega
   refine⟨_,Ue i RS,?_⟩;have:zs.getD i 0=z:=by simp[getD,VC]
   rw[this];simp[cr]
  ·cases VC
theorem ae.calls {f:FuncId}{args:List CV}{b:Bool}(h:ae P f args (.bool b)){vs:List Value}(hv:bZ w (λ _=>False) args vs)(hg:QN w (λ _=>False):=by simp[QN,QM]):Calls P f vs.toArray w λ e w'=>e=.returned (.bool b)/\Below w.heap.size w w':=
 (h.2 (λ _=>False) vs w ⟨λ _ hb=>hb.elim,hg.mono λ _ hb=>hb.elim id id⟩ hv).mono λ e w' ⟨v,h1,h2,h3⟩=>by
  simp only[cr] at h3;subst h3;exact⟨h1,h2⟩
end
end Go.Can
/- Arguments as the contracts read them: a slice of structs of four integers. No function of the program is mentioned here. -/
