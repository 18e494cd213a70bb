/- Inner of the reference. -/
import Derived.Test.YtlkmbdfhdknlgaaGreatZ50
namespace Go.Proofs.YtlkmbdfhdknlgaaGreat
open Go.Can Go.aJ List Tryz
def aZ (t:List (List Nat)):CV:=.ax (t.map aB) t.length
theorem bI:∀ t:List (List Nat),trees (t.map aB)=true
 | []=>rfl
 | r::t=>by
  have h:tree (aB r)=true:=aM r;have:=bI t;simp only[map_cons,trees,h,this,Bool.and_self]
theorem dS (t:List (List Nat)):tree (aZ t)=true:=by simp only[aZ,tree]
theorem L5 {t:List (List Nat)}{p:Nat}(r:List Nat)(h:p<t.length):take p (t.map aB)++aB r::drop (p+1) (t.map aB)=(t.set p r).map aB:=by
 rw[map_set,set_eq_take_append_cons_drop,if_pos TK]
theorem kC {α:Type}(f:α->CV){l:List α}{i:Nat}{a:α}(h:l[i]? = some a):(l.map f).drop i=f a::(l.drop (i+1)).map f:=by
 obtain⟨hl,rfl⟩:=List.getElem?_eq_some_iff.1 h;rw[<- map_drop,drop_eq_getElem_cons hl,map_cons]
theorem CO {u:Un}(hu:fV u){i:Nat}{x:Is}(hx:(az u).is[i]? = some x){pc:Nat}{z:In}(hz:(ay u x)[pc]? = some z)(hc:eI z=true):∃ row:List Int,(az u).calls[i]? = some row/\row[pc]? = some ((er (az u) i pc:Nat):Int)/\er (az u) i pc<(az u).is.length:=by
 obtain⟨h1,h2⟩:=AO hu hx hz hc
 cases hr:(az u).calls[i]? with
 | none=>rw[getD_eq_getElem?_getD,getD_eq_getElem?_getD,hr] at h2;simp at h2
 | some row=>
  rw[getD_eq_getElem?_getD,getD_eq_getElem?_getD,hr] at h2;simp only[Option.getD_some] at h2
  cases hp:row[pc]? with
  | none=>rw[hp] at h2;simp at h2
  | some n=>
   rw[hp] at h2;exact⟨row,rfl,by rw[hp,<- h2];rfl,h1⟩
theorem Cm (z:In):((qX z:Int) == 2)=eI z:=by
 cases z with
 | call g _ _ _=>cases g<;>rfl
 | lock g _=>cases g<;>rfl
 | _=>rfl
theorem Oc (l:List Nat):aB l=ints (l.map λ n:Nat=>(n:Int)):=by
 simp only[aB,ints,map_map,length_map];rfl
theorem uP (a b:List Nat)(ha:a.length<=4611686018427387904):ae prog 88 [aB a,aB b] (.bool (decide (a=b))):=by
 have h:=oG (a.map λ n:Nat=>(n:Int)) (b.map λ n:Nat=>(n:Int)) (by rw[length_map];exact ha);rw[<- Oc,<- Oc] at h;have e:decide ((a.map λ n:Nat=>(n:Int))=b.map λ n:Nat=>(n:Int))=decide (a=b):=by
  refine decide_eq_decide.2 ⟨λ he=>?_,λ he=>by rw[he]⟩;have h2:=congrArg (map Int.toNat) he;rw[map_map,map_map] at h2;have e2:Int.toNat∘(λ n:Nat=>(n:Int))=id:=funext λ n=>by simp
  rw[e2,map_id,map_id] at h2;exact h2
 rwa [e] at h
theorem ox {L:Nat}(h8:L<=8){r:List Nat}(h:sW L r):∀ s∈r,s<2 ^ 63:=λ s hs=>by
 have h1:=h.lt s hs;have h2:2 ^ (L+1)<=2 ^ 9:=Nat.pow_le_pow_right yA yA;have h3:(2:Nat) ^ 9<2 ^ 63:=by decide
 exact Nat.lt_of_lt_of_le h1 (Nat.le_trans h2 (Nat.le_of_lt h3))
theorem dX (c:Cl):trees (eC c)=true:=by
 simp only[eC,trees,tree,aM,Bool.and_self]
theorem kj {c:CV}(h:tree c=true):∀ n:Nat,trees (replicate n c)=true
 | 0=>rfl
 | n+1=>by simp only[replicate_succ,trees,h,kj h n,Bool.and_self]
theorem La {u:Un}(hu:fV u){i:Nat}{x:Is}(hx:(az u).is[i]? = some x):sX u x:=Lb hu x (mem_of_getElem? hx)
theorem pO (o:Nat)(cs:List CV)(n:Nat)(l:List Nat):cw o cs n (aB l)=aB l:=rfl
theorem kJ (l:List Nat):eF (aB l)=false:=rfl
theorem kR (l:List Nat):(aB l).cells=[aB l]:=rfl
theorem xe (L:Nat):CV.ax (replicate (L+1) (CV.int IntKind.i64 0)) (L+1)=aB (vg L):=by simp[aB,vg]
theorem Mr {j n:Nat}(Z N:CV)(h:j<n):replicate j Z++Z::drop (j+1) (replicate j Z++replicate (n-j) N)=replicate (j+1) Z++replicate (n-(j+1)) N:=by
 have h1:drop (j+1) (replicate j Z++replicate (n-j) N)=replicate (n-(j+1)) N:=by
  rw[drop_append,length_replicate,drop_replicate,drop_replicate];have e1:j-(j+1)=0:=by omega
  have e2:n-j-(j+1-j)=n-(j+1):=by omega
  rw[e1,e2];rfl
 rw[h1,replicate_succ',append_assoc];rfl
def l6 (u:Un)(x:Is)(t:List CV):List (Nat×Ob):=[(3,⟨22,1,t⟩),(2,⟨95,0,dV x⟩),(1,⟨34,0,eC (az u)⟩),(0,⟨30,0,cR u⟩)]
def l8 (n m i:Nat)(sm:List (List Nat)):List (Nat×CV):=[(13,.bb 3 0 n),(11,.aw 2 0),(6,.aw 1 0),(5,.aw 0 0),(4,I i),(3,aZ sm),(2,I m)]
def J79a (u:Un)(x:Is)(n m i L:Nat)(sm:List (List Nat))(k:Nat)(s:St):Prop:=∃ j:Nat,k=n-j/\j<=n/\s=⟨(14,I j)::(12,I L)::l8 n m i sm,l6 u x (replicate j (aB (vg L))++replicate (n-j) .aj),4⟩
theorem sw_at {u:Un}{c:Cl}{L m i:Nat}{x:Is}{sm:List (List Nat)}(H:InH u c L i x sm){t0:List (List Nat)}(h0:GZ u c L m i x sm t0){pc:Nat}{z:In}(hz:(ay u x)[pc]? = some z) :
  vz L (ay u x).length (jE u c L m i x sm t0 pc).1/\sW L ((jE u c L m i x sm t0 pc).1.getD pc [])/\sW L (kq c L m sm i x z pc)/\sW L (xQ ((jE u c L m i x sm t0 pc).1.getD pc []) (kq c L m sm i x z pc))/\
  (∀ j,j<=(gG z pc).length->vz L (ay u x).length (uO (xQ ((jE u c L m i x sm t0 pc).1.getD pc []) (kq c L m sm i x z pc)) ((gG z pc).take j) (jE u c L m i x sm t0 pc)).1)/\
  jE u c L m i x sm t0 (pc+1)=uO (xQ ((jE u c L m i x sm t0 pc).1.getD pc []) (kq c L m sm i x z pc)) (gG z pc) (jE u c L m i x sm t0 pc):=by
 have hk:=(List.getElem?_eq_some_iff.1 hz).1;obtain⟨hI,hd⟩:=Ab H h0 pc yA;obtain⟨w,g⟩:=KG H hI.A.wf hk;have RW:=vC H (m:=m) hz;have ha:=E7 w RW;refine⟨hI.A.wf,w,RW,ha,λ j hj=>?_,by simp only[Go.aJ.jE,hz]⟩;exact (I3 H ha hI (gG z pc) (λ q hq=>⟨H.nx pc z hz q hq,λ d e hb=>by
   obtain⟨y,y1,y2⟩:=(Bf _ _ d e).1 hb;exact FE H hz hq (hI.A.sound pc d y y1) y2⟩) j hj).1.A.wf
theorem MP (z:In)(pc:Nat):(gG z pc).length<=2:=by
 cases z<;>simp[gG];split<;>simp
noncomputable def Nd (u:Un) (m i L:Nat) (x:Is) (sm:List (List Nat)):List (List Nat):=ru L (ay u x).length (Ri u (az u) m L (BV sm) i)
def J79b (u:Un)(x:Is)(n m i L:Nat)(sm:List (List Nat))(k:Nat)(s:St):Prop:=∃ (t:List (List Nat)) (ag:Bool),k=(9*(L+1)*n-e9 t)+(if ag=true then 1 else 0)/\GZ u (az u) L m i x sm t/\(ag=false->t=Nd u m i L x sm)/\s=⟨(15,.bool ag)::l8 n m i sm,l6 u x (t.map aB),4⟩
def J79c (u:Un)(x:Is)(n m i L:Nat)(sm t0:List (List Nat))(k:Nat)(s:St):Prop:=∃ pc:Nat,k=n-pc/\pc<=n/\s=⟨(16,I pc)::(15,.bool (jE u (az u) L m i x sm t0 pc).2)::l8 n m i sm,l6 u x ((jE u (az u) L m i x sm t0 pc).1.map aB),4⟩
def J79d (u:Un)(x:Is)(n m i:Nat)(sm:List (List Nat))(S:List (List Nat)×Bool)(a nx:List Nat)(pc:Nat)(k:Nat)(s:St):Prop:=∃ j:Nat,k=nx.length-j/\j<=nx.length/\s=⟨(20,I j)::(19,aB nx)::(18,aB a)::(16,I pc)::(15,.bool (uO a (nx.take j) S).2)::l8 n m i sm,l6 u x ((uO a (nx.take j) S).1.map aB),4⟩
theorem tY {u:Un}(hu:fV u){i:Nat}{x:Is}(hx:(az u).is[i]? = some x){m:Nat}{xm:Mx}(hm:u.ms[m]? = some xm){sm:List (List Nat)}(hs:vz (aF xm) (az u).is.length sm):ae prog 39 [cg u,gC (az u),I m,aZ sm,I i] (aZ (Nd u m i (aF xm) x sm)):=by
 have hv:=La hu hx;have h8:=lI xm;have H:=LY hu h8 hx hs;have Ul:=vI xm;have ZX:=yW (aF xm) 0 h8 yA yA;obtain⟨pq,Tw,RZ⟩:=sD hv;have RY:=mP hu x;have Og:=(List.getElem?_eq_some_iff.1 hx).1;have Tb:=(List.getElem?_eq_some_iff.1 hm).1;have SR:=(List.getElem?_eq_some_iff.1 Tw).1;have T1:=aI (f:=cH) (n:=3) AI hm;have hdi:=aI (f:=dV) (n:=2) gU hx;have Qd:=b9 (f:=mW) (n:=5) iC Tw 4 yA;have t1:trees [.agg (cH xm)]=true:=rfl;have bd:24*((ay u x).length:Int)<=281474976710656/\((ay u x).length:Int)<=9223372036854775807:=by omega
 have ZO:=cF ((aF xm:Int)+1) yA yA;have bd2:(0<=(aF xm:Int)+1/\8*((aF xm:Int)+1)<=281474976710656/\(aF xm:Int)+1<=9223372036854775807):=by omega
 refine ae.aE ah Tryz.func39 rfl Ix (by simp[Tryz.ntmps39]) (dS _) λ C hC RR=>?_;rw[Tryz.ntmps39] at hC;simp only[cH] at Ul t1;rw[RZ] at RY bd;simp only[cg,gC,aZ];apply aq;simp[hC];simp[cR,eC,ints];apply aq;simp[hC,Og,hdi,dV];apply aq;simp[hC,Tb,T1,cH];refine cX t1 Ul ?_;simp[hC];apply aq;simp[hC,SR,Qd,mW,bd];apply aW;simp[hC];apply T.block;have R6:=bj u;have SG:=dX (az u);have tsm:=bI sm;have Wv:=ca x;have tZ:trees (replicate (aF xm+1) (I 0))=true:=px _;have Y4:=λ j=>bg (replicate j (aB (vg (aF xm)))) (replicate (pq.code.length-j) CV.aj);simp only[cR,eC,dV,ints] at R6 SG Wv;refine T.aH (J79a u x pq.code.length m i (aF xm) sm) (n:=pq.code.length) ?_ ?_
 ·refine aa.trim [14,12,13,11,6,5,4,3,2] [3,2,1,0] 4 (by simp[-all_eq_true,ai R6,ai SG,ai Wv]) yA ⟨0,by omega,by omega,?_⟩;simp[l8,l6,cR,eC,dV,ints,aZ]
 ·rintro n s ⟨j,rfl,hj,rfl⟩;simp only[l8,l6,cR,eC,dV,ints,aZ];by_cases Sv:j<pq.code.length
  ·have YN:1<=pq.code.length-j:=by omega
   have wj:=cF ((j:Int)+1) yA yA;apply aW;simp[hC,Sv];refine gw ?_;simp;apply eN;refine T.region (TL.some ah 5 ?_);simp[hC,ZO,bd2];refine TL.le (Le.dn (o:=4) rfl tZ) ?_;simp;refine TL.go' ah ?_;simp[hC,Sv,YN];apply aN;simp[hC,wj];simp only[pO];rw[xe,Mr _ _ Sv];have tF:=Y4 (j+1);rw[kj (aM _),kj rfl] at tF;refine⟨pq.code.length-(j+1),by omega,?_⟩;refine aa.trim [14,12,13,11,6,5,4,3,2] [3,2,1,0] 4 (by simp[-all_eq_true,ai R6,ai SG,ai Wv,ai tF]) yA ⟨j+1,rfl,by omega,?_⟩;simp[l8,l6,cR,eC,dV,ints,aZ]
  ·have U0:j=pq.code.length:=by omega
   subst U0;apply aW;simp[hC];refine a9 ?_;simp;apply T.exit;simp;have U6:0<pq.code.length:=by have:=H.pos;rwa [RZ] at this
   have RQ:trees [I (aF xm),I 0]=true:=rfl;have Sc:aB (vk (aF xm) 0)::replicate (pq.code.length-1) (aB (vg (aF xm)))=((replicate pq.code.length (vg (aF xm))).set 0 (vk (aF xm) 0)).map aB:=by
    obtain⟨n,hn⟩:∃ n,pq.code.length=n+1:=⟨pq.code.length-1,by omega⟩;rw[hn];simp[replicate_succ]
   apply aq;simp[hC];refine cX RQ ZX ?_;have hpos2:1<=pq.code.length:=U6;simp[hC,U6,kJ,kR,hpos2];rw[Sc];clear Y4 tZ;have h0:GZ u (az u) (aF xm) m i x sm ((replicate pq.code.length (vg (aF xm))).set 0 (vk (aF xm) 0)):=by
    rw[<- RZ];exact GZ.start H
   generalize (replicate pq.code.length (vg (aF xm))).set 0 (vk (aF xm) 0)=t0 at h0 |-;apply aW;simp[hC];apply T.block;refine T.aH (J79b u x pq.code.length m i (aF xm) sm) (n:=(9*((aF xm)+1)*pq.code.length-e9 t0)+1) ?_ ?_
   ·have tT:=bI t0;refine aa.trim [15,13,11,6,5,4,3,2] [3,2,1,0] 4 (by simp[-all_eq_true,ai R6,ai SG,ai Wv,ai tT]) yA ⟨t0,true,by simp,h0,(λ h=>by cases h),?_⟩;simp[l8,l6,cR,eC,dV,ints,aZ]
   ·clear h0 Sc;clear t0;rintro n s ⟨t0,ag,rfl,h0,TP,rfl⟩;simp only[l8,l6,cR,eC,dV,ints,aZ];have tT:=bI t0;have hlen:t0.length=pq.code.length:=by rw[h0.wf.len,RZ]
    cases ag with
    | false=>
     have S0:=TP rfl;apply aW;simp[hC];refine a9 ?_;simp;apply T.exit;simp;apply aq;simp[hC];apply T.ret;refine aa.le (Le.dn (o:=3) rfl tT) ?_;apply aa.here;have R3:take t0.length (t0.map aB)=t0.map aB:=take_of_length_le (by rw[length_map];exact Nat.le_refl _);rw[S0] at R3 hlen;simp[Tryz.results39,S0,<- hlen,R3]
    | true=>
     apply aW;simp[hC];refine gw ?_;simp;apply T.block;apply aq;simp[hC];apply aq;simp[hC];apply T.block;refine T.aH (J79c u x pq.code.length m i (aF xm) sm t0) (n:=pq.code.length) ?_ ?_
     ·refine aa.trim [16,15,13,11,6,5,4,3,2] [3,2,1,0] 4 (by simp[-all_eq_true,ai R6,ai SG,ai Wv,ai tT]) yA ⟨0,by omega,by omega,?_⟩;simp[l8,l6,cR,eC,dV,ints,aZ,Go.aJ.jE]
     ·rintro n s ⟨pc,rfl,gZ,rfl⟩;simp only[l8,l6,cR,eC,dV,ints,aZ];by_cases XL:pc<pq.code.length
      ·obtain⟨z,hz⟩:∃ z,(ay u x)[pc]? = some z:=⟨_,getElem?_eq_getElem (by rw[RZ];exact XL)⟩;obtain⟨w1,w2,w3,w4,w5,w6⟩:=sw_at H h0 hz;have VH:=w1.len;obtain⟨rw0,hrw,_⟩:=w1.get (p:=pc) (by rw[RZ];exact XL);have hg:(Go.aJ.jE u (az u) (aF xm) m i x sm t0 pc).1.getD pc []=rw0:=by rw[getD_eq_getElem?_getD,hrw];rfl
       rw[hg] at w2 w4 w5 w6;rw[RZ] at VH;have tS:=bI (Go.aJ.jE u (az u) (aF xm) m i x sm t0 pc).1;apply aW;simp[hC,XL];refine gw ?_;simp;apply eN;have hrel:=Mn hu hv hz hm;have Ua:trees [.agg (cR u),.agg (dV x),I pc,I m]=true:=by simp only[trees,tree,bj,ca,Bool.and_self]
       have U4:=hz;rw[RZ] at U4;have Ud:=aI (f:=cW) (n:=12) gB U4;obtain⟨xc,UT,WU⟩:=oW z;rw[UT] at Ud;have R5:=Cm z;have Xr:=aM (kq (az u) (aF xm) m sm i x z pc);have hst63:=ox h8 w3;have hst0:(kq (az u) (aF xm) m sm i x z pc).length<=9:=by rw[w3.len];omega
       simp only[cg,cR,dV,ints] at hrel Ua;apply aq;simp[hC];refine cX Ua hrel ?_;simp[hC];refine T.cut (λ s=>s=⟨(17,aB (kq (az u) (aF xm) m sm i x z pc))::(16,I pc)::(15,.bool (Go.aJ.jE u (az u) (aF xm) m i x sm t0 pc).2)::l8 pq.code.length m i sm,l6 u x ((Go.aJ.jE u (az u) (aF xm) m i x sm t0 pc).1.map aB),4⟩) ?_ ?_
       ·apply aq;simp[hC,SR,Qd,mW,XL,Ud];by_cases hc:eI z=true
        ·obtain⟨row,Tk,Sx,hr3⟩:=CO hu hx hz hc;have SU:=kC ints Tk;have Vt:=kC dc Sx;have Ts:=(List.getElem?_eq_some_iff.1 Tk).1;have S8:=(List.getElem?_eq_some_iff.1 Sx).1;have hl3:er (az u) i pc<sm.length:=by rw[hs.len];exact hr3
         obtain⟨sk,hsk⟩:∃ sk,sm[er (az u) i pc]? = some sk:=⟨_,getElem?_eq_getElem hl3⟩;have hd3:=kC aB hsk;have ZU:kq (az u) (aF xm) m sm i x z pc=sk:=by rw[kq,if_pos hc,getD_eq_getElem?_getD,hsk];rfl
         rw[hc] at R5;refine T.cond (b:=true) yBs ?_;simp;apply aN;simp[hC,SU,Vt,Ts,S8,hl3,hd3,ints];rw[ZU] at Xr |-;refine aa.trim [17,16,15,13,11,6,5,4,3,2] [3,2,1,0] 4 yDv yA ?_;simp[l8,l6,cR,eC,dV,ints,aZ]
        ·have ZU:kq (az u) (aF xm) m sm i x z pc=vk (aF xm) (eT x m z):=by rw[kq,if_neg hc]
         rw[Bool.not_eq_true] at hc;rw[hc] at R5;refine T.cond (b:=false) yBs (T.skip ?_);simp;rw[ZU] at Xr |-;refine aa.trim [17,16,15,13,11,6,5,4,3,2] [3,2,1,0] 4 yDv yA ?_;simp[l8,l6,cR,eC,dV,ints,aZ]
       ·rintro s rfl;simp only[l8,l6,cR,eC,dV,ints,aZ];have hcomp:=Jw rw0 (kq (az u) (aF xm) m sm i x z pc) (by rw[w2.len];omega) hst0 (ox h8 w2) hst63;have Te:=Jl hu hv hz yA;have VB:trees [aB rw0,aB (kq (az u) (aF xm) m sm i x z pc)]=true:=by simp only[trees,aM,Bool.and_self]
        have Y5:trees [.agg (cR u),.agg (dV x),I pc]=true:=by simp only[trees,tree,bj,ca,Bool.and_self]
        simp only[cg,cR,dV,ints] at Te Y5;refine T.seq (T.rx ah follows [0,1,2,3,4,6,7,8,5,9,10,11] [(6,5),(7,5)] Ix ?_);simp[hC,XL,hrw];refine RX.call rfl rfl rfl rfl rfl VB hcomp ?_;simp;refine RX.call rfl rfl rfl rfl rfl Y5 Te ?_;simp;generalize hS:Go.aJ.jE u (az u) (aF xm) m i x sm t0 pc=S at *;generalize ha:xQ rw0 (kq (az u) (aF xm) m sm i x z pc)=a at *;have U8:(gG z pc).length<=2:=MP z pc;apply aq;simp[hC];apply T.block;refine T.aH (J79d u x pq.code.length m i sm S a (gG z pc) pc) (n:=(gG z pc).length) ?_ ?_
        ·refine aa.trim [20,19,18,16,15,13,11,6,5,4,3,2] [3,2,1,0] 4 (by simp[-all_eq_true,ai R6,ai SG,ai Wv,ai tS,bP _ _ (aM _)]) yA ⟨0,by omega,by omega,?_⟩;simp[l8,l6,cR,eC,dV,ints,aZ,uO]
        ·rintro n s ⟨j,rfl,hj,rfl⟩;simp only[l8,l6,cR,eC,dV,ints,aZ];by_cases Sv:j<(gG z pc).length
         ·obtain⟨q,hq⟩:∃ q,(gG z pc)[j]? = some q:=⟨_,getElem?_eq_getElem Sv⟩;have hqd:=gX hq;have wS:=w5 j hj;have du:uO a ((gG z pc).take (j+1)) S=(if CS a ((uO a ((gG z pc).take j) S).1.getD q [])=true then uO a ((gG z pc).take j) S else ((uO a ((gG z pc).take j) S).1.set q (oz ((uO a ((gG z pc).take j) S).1.getD q []) a),true)):=by
           rw[take_add_one,hq];exact Ac a _ q S
          have Ux:q<pq.code.length:=by rw[<- RZ];exact JR hu hv hz (mem_of_getElem? hq)
          obtain⟨rq,hrq,wq⟩:=wS.get (p:=q) (by rw[RZ];exact Ux);have hgq:(uO a ((gG z pc).take j) S).1.getD q []=rq:=by rw[getD_eq_getElem?_getD,hrq];rfl
          rw[hgq] at du;have hsl3:=wS.len;rw[RZ] at hsl3;have Y8:=bI (uO a ((gG z pc).take j) S).1;generalize uO a ((gG z pc).take j) S=S2 at *;have ZQ:=FM rq a (by rw[wq.len];omega) (by rw[wq.len,w4.len]) (ox h8 wq) (ox h8 w4);have hune:=O4 H (a:=a) (b:=rq) (by rw[wq.len,w4.len]);have Xu:trees [aB rq,aB a]=true:=by simp only[trees,aM,Bool.and_self]
          have wj:=cF ((j:Int)+1) yA yA;have Sh:aB (gG z pc)=CV.ax ((gG z pc).map λ n:Nat=>I n) (gG z pc).length:=rfl;simp only[Sh];have tnx:=aK (gG z pc);have hql2:q+1<=pq.code.length:=Ux;apply aW;simp[hC,Sv];refine gw ?_;simp;apply eN;apply aq;simp[hC,Sv,hqd,Ux,hrq];refine cX Xu ZQ ?_;simp[hC];have SJ:=uP (oz rq a) rq (by rw[(D1 wq w4).len];omega);have targ7:trees [aB (oz rq a),aB rq]=true:=by simp only[trees,aM,Bool.and_self]
          apply aq;simp[hC,Sv,hqd,Ux,hrq];refine cX targ7 SJ ?_;simp[hC];by_cases R4:CS a rq=true
          ·rw[if_pos R4] at du;have UP:=hune.2 R4;refine T.cond (b:=false) (by simp[ev,assoc,UP]) (T.skip ?_);simp;apply aN;simp[hC,wj];refine⟨(gG z pc).length-(j+1),by omega,aa.trim [20,19,18,16,15,13,11,6,5,4,3,2] [3,2,1,0] 4 (by simp[-all_eq_true,ai R6,ai SG,ai Wv,ai Y8,bP _ _ (aM _)]) yA ⟨j+1,rfl,by omega,?_⟩⟩;rw[du];simp[l8,l6,cR,eC,dV,ints,aZ,Sh]
          ·rw[if_neg R4] at du;have UP:¬ oz rq a=rq:=λ h=>R4 (hune.1 h);refine T.cond (b:=true) (by simp[ev,assoc,UP]) ?_;simp;apply aN;simp[hC,Sv,hqd,Ux,kJ,kR,hsl3,hql2];apply aN;simp[hC,wj];rw[L5 _ (show q<S2.1.length by omega)];generalize S2.1.set q (oz rq a)=t4 at *;have tS4:=bI t4;refine⟨(gG z pc).length-(j+1),by omega,aa.trim [20,19,18,16,15,13,11,6,5,4,3,2] [3,2,1,0] 4 (by simp[-all_eq_true,ai R6,ai SG,ai Wv,ai tS4,bP _ _ (aM _)]) yA ⟨j+1,rfl,by omega,?_⟩⟩;rw[du];simp[l8,l6,cR,eC,dV,ints,aZ,Sh]
         ·have U0:j=(gG z pc).length:=by omega
          subst U0;rw[take_length] at *;have Sh:aB (gG z pc)=CV.ax ((gG z pc).map λ n:Nat=>I n) (gG z pc).length:=rfl;simp only[Sh];apply aW;simp[hC];refine a9 ?_;simp;apply T.exit;simp;have Xq:=cF ((pc:Int)+1) yA yA;have Y8:=bI (uO a (gG z pc) S).1;apply aN;simp[hC,Xq];refine⟨pq.code.length-(pc+1),by omega,aa.trim [16,15,13,11,6,5,4,3,2] [3,2,1,0] 4 (by simp[-all_eq_true,ai R6,ai SG,ai Wv,ai Y8]) yA ⟨pc+1,rfl,by omega,?_⟩⟩;rw[w6];simp[l8,l6,cR,eC,dV,ints,aZ]
      ·have Wg:pc=pq.code.length:=by omega
       subst Wg;have hpce:(ay u x).length=pq.code.length:=by rw[RZ]
       obtain⟨WV,_⟩:=Ab H h0 pq.code.length yA;have hsf:=Ma H h0;rw[hpce] at hsf;have VH:=WV.A.wf.len;rw[hpce] at VH;have Y8:=bI (Go.aJ.jE u (az u) (aF xm) m i x sm t0 pq.code.length).1;generalize Go.aJ.jE u (az u) (aF xm) m i x sm t0 pq.code.length=S at *;apply aW;simp[hC];refine a9 ?_;simp;apply T.exit;simp;have TO:=xY S.1 WV.A.wf.row;rw[VH] at TO;have hbe:=WV.le;refine⟨(9*(aF xm+1)*pq.code.length-e9 S.1)+(if S.2=true then 1 else 0),?_,aa.trim [15,13,11,6,5,4,3,2] [3,2,1,0] 4 (by simp[-all_eq_true,ai R6,ai SG,ai Wv,ai Y8]) yA ⟨S.1,S.2,rfl,WV.A,λ h=>?_,?_⟩⟩
       ·cases h2:S.2 with
        | true=>have:=WV.lt h2;simp;omega
        | false=>simp;omega
       ·rw[WV.same h,hsf h,<- RZ];rfl
       ·simp[l8,l6,cR,eC,dV,ints,aZ]
theorem P4 (u:Un)(m i L:Nat)(x:Is)(sm:List (List Nat)):vz L (ay u x).length (Nd u m i L x sm):=jN _ _ _
theorem ME (z:In):((qX z:Int) == 8)=vn z:=by
 cases z with
 | call g _ _ _=>cases g<;>rfl
 | lock g _=>cases g<;>rfl
 | _=>rfl
def iw (u:Un):List (Nat×Ob):=[(1,⟨34,0,eC (az u)⟩),(0,⟨30,0,cR u⟩)]
def J207 (u:Un)(x:Is)(n i L:Nat)(t:List (List Nat))(k:Nat)(s:St):Prop:=∃ j:Nat,k=n-j/\j<=n/\s=⟨[(13,I j),(12,aB (DO u x L t j)),(11,aZ t),(6,.aw 1 0),(5,.aw 0 0),(4,I i)],iw u,2⟩
theorem Jo {u:Un}(hu:fV u){i:Nat}{x:Is}(hx:(az u).is[i]? = some x){m:Nat}{xm:Mx}(hm:u.ms[m]? = some xm){sm:List (List Nat)}(hs:vz (aF xm) (az u).is.length sm):ae prog 133 [cg u,gC (az u),I m,aZ sm,I i] (aB (exR u (az u) m (aF xm) sm i)):=by
 have R4:=tY hu hx hm hs;have hwf:=P4 u m i (aF xm) x sm;have S0:=Nl (u:=u) (m:=m) (L:=aF xm) hx sm;have hv:=La hu hx;have h8:=lI xm;have Ul:=vI xm;obtain⟨pq,Tw,RZ⟩:=sD hv;have RY:=mP hu x;have Og:=(List.getElem?_eq_some_iff.1 hx).1;have Tb:=(List.getElem?_eq_some_iff.1 hm).1;have SR:=(List.getElem?_eq_some_iff.1 Tw).1;have T1:=aI (f:=cH) (n:=3) AI hm;have hdi:=aI (f:=dV) (n:=2) gU hx;have Qd:=b9 (f:=mW) (n:=5) iC Tw 4 yA;have t1:trees [.agg (cH xm)]=true:=rfl;have ZO:=cF ((aF xm:Int)+1) yA yA;have bd2:(0<=(aF xm:Int)+1/\8*((aF xm:Int)+1)<=281474976710656/\(aF xm:Int)+1<=9223372036854775807):=by omega
 have RQ:trees [cg u,gC (az u),I m,aZ sm,I i]=true:=by simp only[trees,tree,cg,gC,bj,dX,dS,Bool.and_self]
 have R6:=bj u;have SG:=dX (az u);have tZ:trees (replicate (aF xm+1) (I 0))=true:=px _;refine ae.aE ah Tryz.func133 rfl Ix (by simp[Tryz.ntmps133]) (aM _) λ C hC RR=>?_;rw[Tryz.ntmps133] at hC;simp only[cH] at Ul t1;change DO u x (aF xm) (Nd u m i (aF xm) x sm) (ay u x).length=_ at S0;generalize Nd u m i (aF xm) x sm=t at *;rw[RZ] at RY;have Si:t.length=pq.code.length:=by rw[hwf.len,RZ]
 have tT:=bI t;simp only[cg,gC,cR,eC,ints,aZ] at RQ R6 SG R4 |-;apply aq;simp[hC];apply aq;simp[hC];refine cX RQ R4 ?_;simp[hC];apply aq;simp[hC,Tb,T1,cH];refine cX t1 Ul ?_;simp[hC,ZO,bd2];refine T.le (Le.dn (o:=2) rfl tZ) ?_;simp[pO];rw[xe];apply aW;simp[hC];apply T.block;refine T.aH (J207 u x pq.code.length i (aF xm) t) (n:=pq.code.length) ?_ ?_
 ·refine aa.trim [13,12,11,6,5,4] [1,0] 2 yCk yA ⟨0,by omega,by omega,?_⟩;simp[iw,cR,eC,ints,aZ,DO]
 ·rintro n s ⟨j,rfl,hj,rfl⟩;simp only[iw,cR,eC,ints,aZ];have hqw:=AS (u:=u) (x:=x) hwf;by_cases Sv:j<pq.code.length
  ·obtain⟨z,U4⟩:∃ z,pq.code[j]? = some z:=⟨_,getElem?_eq_getElem Sv⟩;have hz:(ay u x)[j]? = some z:=by rw[RZ];exact U4
   have Ud:=aI (f:=cW) (n:=12) gB U4;obtain⟨xc,UT,WU⟩:=oW z;rw[UT] at Ud;have R5:=ME z;obtain⟨rj,hrj,wj⟩:=hwf.get (p:=j) (by rw[RZ];exact Sv);have hdt:=kC aB hrj;have hgj:t.getD j []=rj:=by rw[getD_eq_getElem?_getD,hrj];rfl
   have hw:=hqw j (by rw[RZ];exact hj);have du:DO u x (aF xm) t (j+1)=if vn z=true then oz (DO u x (aF xm) t j) rj else DO u x (aF xm) t j:=by
    rw[DO,hz,hgj];simp
   have wij:=cF ((j:Int)+1) yA yA;generalize DO u x (aF xm) t j=q at *;have ZQ:=FM q rj (by rw[hw.len];omega) (by rw[hw.len,wj.len]) (ox h8 hw) (ox h8 wj);have Xu:trees [aB q,aB rj]=true:=by simp only[trees,aM,Bool.and_self]
   apply aW;simp[hC,Si,Sv];refine gw ?_;simp;apply eN;refine T.seq (T.rx ah follows [0,1,2,3,4,5,6,7,8,9,10,11,12,13,14,15] [] Ix ?_);simp[hC,Og,hdi,dV,SR,Qd,mW,Sv,Ud]
   cases hr:vn z with
   | true=>
    rw[hr] at R5 du;refine T.cond (b:=true) yBs ?_;simp;apply aN;simp[hC,Sv,hdt];refine cX Xu ZQ ?_;simp[hC];apply aN;simp[hC,wij];refine⟨pq.code.length-(j+1),by omega,aa.trim [13,12,11,6,5,4] [1,0] 2 yCk yA ⟨j+1,rfl,by omega,?_⟩⟩;rw[du];simp[iw,cR,eC,ints,aZ,Si]
   | false=>
    rw[hr] at R5 du;refine T.cond (b:=false) yBs (T.skip ?_);simp;apply aN;simp[hC,wij];refine⟨pq.code.length-(j+1),by omega,aa.trim [13,12,11,6,5,4] [1,0] 2 yCk yA ⟨j+1,rfl,by omega,?_⟩⟩;rw[du];simp[iw,cR,eC,ints,aZ,Si]
  ·have U0:j=pq.code.length:=by omega
   subst U0;apply aW;simp[hC,Si];refine a9 ?_;simp;apply T.exit;simp;apply aq;simp[hC];apply T.ret;apply aa.here;rw[RZ] at S0;simp[Tryz.results133,S0]
theorem sE {u:Un}(hu:fV u):(az u).is.length<=49/\0<(az u).is.length:=by
 obtain⟨hI,U6⟩:=xS hu;exact⟨jy hu hI.nd hI.v,U6⟩
theorem rM (ρ:Nat->Nat)(l:List Nat):cN ρ (aB l)=aB l:=by simp only[aB,cN]
def J145 (u:Un)(m n L:Nat)(k:Nat)(s:St):Prop:=∃ j:Nat,k=n-j/\j<=n/\s=⟨[(8,I j),(7,.bb 2 0 j),(4,.aw 1 0),(3,.aw 0 0),(2,I m)],(2,⟨22,1,replicate j (aB (vg L))⟩)::iw u,3⟩
theorem Hp {u:Un}(hu:fV u){m:Nat}{xm:Mx}(hm:u.ms[m]? = some xm):ae prog 80 [cg u,gC (az u),I m] (aZ (replicate (az u).is.length (vg (aF xm)))):=by
 have h8:=lI xm;have Ul:=vI xm;obtain⟨RY,hcp⟩:=sE hu;have Tb:=(List.getElem?_eq_some_iff.1 hm).1;have T1:=aI (f:=cH) (n:=3) AI hm;have t1:trees [.agg (cH xm)]=true:=rfl;have ZO:=cF ((aF xm:Int)+1) yA yA;have bd2:(0<=(aF xm:Int)+1/\8*((aF xm:Int)+1)<=281474976710656/\(aF xm:Int)+1<=9223372036854775807):=by omega
 have R6:=bj u;have SG:=dX (az u);have tZ:trees (replicate (aF xm+1) (I 0))=true:=px _;refine ae.aE ah Tryz.func80 rfl Ix (by simp[Tryz.ntmps80]) (dS _) λ C hC RR=>?_;rw[Tryz.ntmps80] at hC;simp only[cH] at Ul t1;generalize hn:(az u).is.length=n at *;simp only[cg,gC,cR,eC,ints,aZ] at R6 SG |-;rw[hn] at SG |-;apply aq;simp[hC];apply aq;simp[hC];apply aW;simp[hC];apply T.block;refine T.aH (J145 u m n (aF xm)) (n:=n) ?_ ?_
 ·refine aa.le (Le.own 7 22 1 rfl) ?_;simp[St.own];refine aa.trim [8,7,4,3,2] [2,1,0] 3 yCe yA ⟨0,by omega,by omega,?_⟩;simp[iw,cR,eC,ints,hn]
 ·rintro k s ⟨j,rfl,hj,rfl⟩;simp only[iw,cR,eC,ints,hn];have tR:=kj (aM (vg (aF xm))) (j+1);have WS:trees (replicate j (aB (vg (aF xm)))++[aB (vg (aF xm))])=true:=by rw[<- replicate_succ',tR]
  by_cases Sv:j<n
  ·have wj:=cF ((j:Int)+1) yA yA;have bd3:(j+1)*24<=140737488355328:=by omega
   have Y9:=λ ρ=>af ρ _ WS;have rU:=λ ρ=>af ρ _ R6;have rC:=λ ρ=>af ρ _ SG;apply aW;simp[hC,Sv];refine gw ?_;simp;apply eN;apply aN;simp[hC,Tb,T1,cH];refine TL.call RT rfl rfl (bU.of rfl t1 Ul) (TL.some ah 2 ?_);simp[hC,ZO,bd2];refine TL.le (Le.dn (o:=3) rfl tZ) ?_;simp[pO];rw[xe];refine TL.go' ah ?_;simp[hC,bd3,kJ,kR];apply aN;simp[hC,wj];refine⟨n-(j+1),by omega,?_⟩;refine aa.le (Le.norm [8,7,4,3,2] [(5,2),(1,1),(0,0)] 0 3 Sn Sl yDb yA) ?_;simp[cm,bh,aX,cN,dZ,assoc,Y9,rM];refine aa.here ⟨j+1,rfl,by omega,?_⟩;simp[iw,cR,eC,ints,hn,replicate_succ']
  ·have U0:j=n:=by omega
   subst U0;apply aW;simp[hC];refine a9 ?_;simp;apply T.exit;simp;apply aq;simp[hC];apply T.ret;have tR0:=kj (aM (vg (aF xm))) j;refine aa.le (Le.dn (o:=2) rfl tR0) ?_;apply aa.here;simp[Tryz.results80]
theorem B4 (u:Un)(c:Cl)(m L:Nat)(t:List (List Nat)):(ni u c m L t).length=c.is.length:=by simp[ni]
theorem qh {l:List (List Nat)}{j:Nat}{r:List Nat}(h:l[j]? = some r):(l.take j).map aB++[aB r]=(l.take (j+1)).map aB:=by
 rw[take_add_one,h];simp
def J146 (u:Un)(m n:Nat)(s0 t:List (List Nat))(k:Nat)(s:St):Prop:=∃ j:Nat,k=n-j/\j<=n/\s=⟨[(10,I j),(9,.bb 2 0 j),(5,.aw 1 0),(4,.aw 0 0),(3,aZ s0),(2,I m)],(2,⟨22,1,(t.take j).map aB⟩)::iw u,3⟩
theorem Hi {u:Un}(hu:fV u){m:Nat}{xm:Mx}(hm:u.ms[m]? = some xm){sm:List (List Nat)}(hs:vz (aF xm) (az u).is.length sm):ae prog 81 [cg u,gC (az u),I m,aZ sm] (aZ (ni u (az u) m (aF xm) sm)):=by
 obtain⟨RY,hcp⟩:=sE hu;have R6:=bj u;have SG:=dX (az u);have tS:=bI sm;have VH:=hs.len;have XG:=B4 u (az u) m (aF xm) sm;have hra:=λ (i:Nat) (h:i<(az u).is.length)=>An (u:=u) (c:=az u) (m:=m) (L:=aF xm) (t:=sm) h;have Uc:∀ j:Nat,trees [cg u,gC (az u),I m,aZ sm,I j]=true:=λ j=>by simp only[trees,tree,cg,gC,bj,dX,dS,Bool.and_self]
 have hex:=λ (j:Nat) (x:Is) (hx:(az u).is[j]? = some x)=>Jo hu hx hm hs;refine ae.aE ah Tryz.func81 rfl Ix (by simp[Tryz.ntmps81]) (dS _) λ C hC RR=>?_;rw[Tryz.ntmps81] at hC;generalize ni u (az u) m (aF xm) sm=t at *;simp only[cg,gC,cR,eC,ints,aZ] at R6 SG Uc hex |-;apply aq;simp[hC];apply aq;simp[hC];apply aW;simp[hC];apply T.block;refine T.aH (J146 u m sm.length sm t) (n:=sm.length) ?_ ?_
 ·refine aa.le (Le.own 9 22 1 rfl) ?_;simp[St.own];refine aa.trim [10,9,5,4,3,2] [2,1,0] 3 yCe yA ⟨0,by omega,by omega,?_⟩;simp[iw,cR,eC,ints,aZ]
 ·rintro k s ⟨j,rfl,hj,rfl⟩;simp only[iw,cR,eC,ints,aZ];by_cases Sv:j<sm.length
  ·obtain⟨x,hx⟩:∃ x,(az u).is[j]? = some x:=⟨_,getElem?_eq_getElem yA⟩;have wj:=cF ((j:Int)+1) yA yA;have bd3:(j+1)*24<=140737488355328:=by omega
   have TS:=qh (hra j yA);have WS:=bI (t.take (j+1));rw[<- TS] at WS;have Si:(map aB (take j t)).length=j:=by simp;omega
   have Y9:=λ ρ=>af ρ _ WS;have rU:=λ ρ=>af ρ _ R6;have rC:=λ ρ=>af ρ _ SG;have rS:=λ ρ=>af ρ _ tS;have hexj:=hex j x hx;generalize hR:map aB (take j t)=R at *;apply aW;simp[hC,Sv];refine gw ?_;simp;apply eN;apply aN;simp[hC];refine cX (Uc j) hexj ?_;simp[hC,bd3,kJ,kR,Si];apply aN;simp[hC,wj];refine⟨sm.length-(j+1),by omega,?_⟩;refine aa.le (Le.norm [10,9,5,4,3,2] [(4,2),(1,1),(0,0)] 0 3 Sn Sl yDb yA) ?_;simp[cm,bh,aX,cN,dZ,assoc,Y9,rM];refine aa.here ⟨j+1,rfl,by omega,?_⟩;simp[iw,cR,eC,ints,aZ,<- TS]
  ·have U0:j=sm.length:=by omega
   subst U0;apply aW;simp[hC];refine a9 ?_;simp;apply T.exit;simp;apply aq;simp[hC];apply T.ret;have R3:take sm.length (t.map aB)=t.map aB:=take_of_length_le yBh;rw[R3];refine aa.le (Le.dn (o:=2) rfl (bI t)) ?_;apply aa.here;have RS:t.length=sm.length:=by omega
   simp[Tryz.results81,R3,RS]
def J147 (a b:List (List Nat))(k:Nat)(s:St):Prop:=∃ j:Nat,k=a.length-j/\j<=a.length/\a.take j=b.take j/\s=⟨[(5,I j),(1,aZ b),(0,aZ a)],[],0⟩
theorem Eb (a b:List (List Nat))(hl:a.length=b.length)(ha:a.length<=100000)(hr:∀ r∈a,r.length<=100000):ae prog 82 [aZ a,aZ b] (.bool (decide (a=b))):=by
 refine ae.aE ah Tryz.func82 rfl Ix (by simp[Tryz.ntmps82]) rfl λ C hC RR=>?_;rw[Tryz.ntmps82] at hC;have ta:=bI a;have tb:=bI b;simp only[aZ];apply aq;simp[hC];apply aW;simp[hC];refine T.cond (b:=false) (by simp[ev,assoc,hl]) (T.skip ?_);simp;apply aW;simp[hC];apply T.block;refine T.aH (J147 a b) (n:=a.length) ?_ ?_
 ·refine aa.trim [5,1,0] [] 0 U2 yA ⟨0,by omega,by omega,by simp,?_⟩;simp[aZ]
 ·rintro k s ⟨j,rfl,hj,R3,rfl⟩;simp only[aZ];by_cases Sv:j<a.length
  ·obtain⟨x,hx⟩:∃ x,a[j]? = some x:=⟨_,getElem?_eq_getElem Sv⟩;obtain⟨y,hy⟩:∃ y,b[j]? = some y:=⟨_,getElem?_eq_getElem yA⟩;have hjb:j<b.length:=by omega
   have T1:=kC aB hx;have hdy:=kC aB hy;have SJ:=uP x y (by have:=hr x (mem_of_getElem? hx);omega);have RQ:trees [aB x,aB y]=true:=by simp only[trees,aM,Bool.and_self]
   have wj:=cF ((j:Int)+1) yA yA;apply aW;simp[hC,Sv];refine gw ?_;simp;apply eN;refine T.seq (T.rx ah follows [0,1,2,3,4,5,6,7,8,9] [] Ix ?_);simp[hC,Sv,hjb,T1,hdy];refine RX.call rfl rfl rfl rfl rfl RQ SJ ?_;simp;by_cases UN:x=y
   ·refine T.cond (b:=false) yCr (T.skip ?_);simp;apply aN;simp[hC,wj];refine⟨a.length-(j+1),by omega,aa.trim [5,1,0] [] 0 U2 yA ⟨j+1,rfl,by omega,?_,?_⟩⟩
    ·rw[take_add_one,take_add_one,hx,hy,R3,UN]
    ·simp[aZ]
   ·have Y1:¬ a=b:=λ h=>by
     subst h;rw[hx] at hy;cases hy;exact UN rfl
    refine T.cond (b:=true) yCr ?_;simp;apply aq;simp[hC];apply T.ret;apply aa.here;simp[Tryz.results82,Y1]
  ·have U0:j=a.length:=by omega
   have Y1:a=b:=by
    rw[U0,take_length,hl,take_length] at R3;exact R3
   subst U0;apply aW;simp[hC];refine a9 ?_;simp;apply T.exit;simp;apply aq;simp[hC];apply T.ret;apply aa.here;simp[Tryz.results82,Y1]
def J77 (u:Un)(m L:Nat)(k:Nat)(s:St):Prop:=∃ t:List (List Nat),k=9*(L+1)*(az u).is.length-e9 t/\LS u (az u) m L t/\s=⟨[(7,aZ t),(4,.aw 1 0),(3,.aw 0 0),(2,I m)],iw u,2⟩
theorem Jk {u:Un}(hu:fV u){m:Nat}{xm:Mx}(hm:u.ms[m]? = some xm):ae prog 37 [cg u,gC (az u),I m] (aZ (tw u (az u) m (aF xm))):=by
 obtain⟨RY,hcp⟩:=sE hu;have h8:=lI xm;have hem:=Hp hu hm;have h0:=LS.start (u:=u) (c:=az u) (m:=m) (L:=aF xm);have R6:=bj u;have SG:=dX (az u);have RQ:trees [cg u,gC (az u),I m]=true:=by simp only[trees,tree,cg,gC,bj,dX,Bool.and_self]
 have XB:∀ t,trees [cg u,gC (az u),I m,aZ t]=true:=λ t=>by simp only[trees,tree,cg,gC,bj,dX,dS,Bool.and_self]
 have hrnd:=λ t (ht:LS u (az u) m (aF xm) t)=>Hi hu hm ht.wf;refine ae.aE ah Tryz.func37 rfl Ix (by simp[Tryz.ntmps37]) (dS _) λ C hC RR=>?_;rw[Tryz.ntmps37] at hC;generalize replicate (az u).is.length (vg (aF xm))=t0 at *;simp only[cg,gC,cR,eC,ints,aZ] at R6 SG XB RQ hem hrnd |-;apply aq;simp[hC];apply aq;simp[hC];refine cX RQ hem ?_;simp[hC];have tT:=bI t0;apply T.block;refine T.aH (J77 u m (aF xm)) (n:=9*(aF xm+1)*(az u).is.length-e9 t0) ?_ ?_
 ·refine aa.trim [7,4,3,2] [1,0] 2 yCe yA ⟨t0,rfl,h0,?_⟩;simp[iw,cR,eC,ints,aZ]
 ·clear tT h0 hem;clear t0;rintro k s ⟨t,rfl,h0,rfl⟩;have tT:=bI t;obtain⟨k1,k2,k3⟩:=h0.round h8;have hr:=hrnd t h0;have XG:=B4 u (az u) m (aF xm) t;have SJ:=Eb t (ni u (az u) m (aF xm) t) (by rw[h0.wf.len,XG]) (by rw[h0.wf.len];omega) (λ r hr=>by have:=(h0.wf.row r hr).len;omega);have Ua:trees [aZ t,aZ (ni u (az u) m (aF xm) t)]=true:=by simp only[trees,dS,Bool.and_self]
  have TO:=xY _ k1.wf.row;rw[XG] at TO;generalize ni u (az u) m (aF xm) t=t2 at *;have tT2:=bI t2;simp only[iw,cR,eC,ints,aZ] at SJ Ua |-;apply T.block;apply aq;simp[hC];refine cX (XB t) hr ?_;simp[hC];apply aW;simp[hC];refine cX Ua SJ ?_;simp;by_cases he:t=t2
  ·refine T.cond (b:=true) (by simp[ev,assoc,he]) ?_;simp;apply aq;simp[hC];apply T.ret;apply aa.here;simp[Tryz.results37,k3 he]
  ·refine T.cond (b:=false) (by simp[ev,assoc,he]) (T.skip ?_);simp;apply aN;simp[hC];have:=k2 he;refine⟨9*(aF xm+1)*(az u).is.length-e9 t2,by omega,aa.trim [7,4,3,2] [1,0] 2 yCe yA ⟨t2,rfl,k1,?_⟩⟩;simp[iw,cR,eC,ints,aZ]
end Go.Proofs.YtlkmbdfhdknlgaaGreat
namespace Go.aJ
open Go.Can
theorem G2 (l:List Nat)(n:Nat):(gF l n).length<=l.length+1:=by
 unfold gF;split
 ·omega
 ·simp;omega
theorem D7 (x:Is):∀ (c:List In) (l:List Is) (r:List Nat),(iu x c l r).2.2.length<=r.length+c.length
 | [],_,_=>by simp[iu]
 | i::c,l,r=>by
  cases h:j4 x i with
  | none=>
   have:=D7 x c l r;simp only[iu,h,List.length_cons];omega
  | some y=>
   have:=D7 x c (fx l y) (if uk i=true then gF r (ez (fx l y) y) else r);have h2:(if uk i=true then gF r (ez (fx l y) y) else r).length<=r.length+1:=by
    split
    ·exact G2 _ _
    ·omega
   simp only[iu,h,List.length_cons];omega
theorem GH {u:Un}(hu:fV u):∀ (f i:Nat) (l:List Is) (cs:List (List Int)) (r:List Nat),(kQ u f i l cs r).roots.length<=r.length+145*f
 | 0,_,_,_,_=>by simp[kQ]
 | f+1,i,l,cs,r=>by
  simp only[kQ];split
  ·simp
  ·rename_i x _;have h1:=GH hu f (i+1) (iu x (ay u x) l r).1 (cs++[(iu x (ay u x) l r).2.1]) (iu x (ay u x) l r).2.2;have h2:=D7 x (ay u x) l r;have h3:=mP hu x;omega
theorem Nx {u:Un}(hu:fV u):(az u).roots.length<=14501:=GH hu 100 0 _ _ _
end Go.aJ
