/- Inner of the reference. -/
import Derived.Test.YtlkmbdfhdknlgaaGreatDoorZ35
namespace Go.Proofs.YtlkmbdfhdknlgaaGreatDoor
open Go.Can Go.aN
def aQ (t:List (List Nat)):CV:=.az (t.map aB) t.length
theorem bq:∀ t:List (List Nat),trees (t.map aB)=true
 | []=>rfl
 | r::t=>by
  have h:tree (aB r)=true:=aE r;have:=bq t;simp only[List.map_cons,trees,h,this,Bool.and_self]
theorem dB (t:List (List Nat)):tree (aQ t)=true:=by simp only[aQ,tree]
theorem I2 {t:List (List Nat)}{p:Nat}(r:List Nat)(h:p<t.length):List.take p (t.map aB)++aB r::List.drop (p+1) (t.map aB)=(t.set p r).map aB:=by
 rw[List.map_set,List.set_eq_take_append_cons_drop,if_pos QW]
theorem fe {α:Type}(f:α→CV){l:List α}{i:Nat}{a:α}(h:l[i]? = some a):(l.map f).drop i=f a::(l.drop (i+1)).map f:=by
 obtain⟨hl,rfl⟩:=List.getElem?_eq_some_iff.1 h;rw[← List.map_drop,List.drop_eq_getElem_cons hl,List.map_cons]
theorem ny {u:Un}(hu:im u){i:Nat}{x:Is}(hx:(ak u).is[i]? = some x){pc:Nat}{z:In}(hz:(au u x)[pc]? = some z)(hc:cN z=true):∃ row:List Int,(ak u).calls[i]? = some row∧row[pc]? = some ((dn (ak u) i pc:Nat):Int)∧dn (ak u) i pc<(ak u).is.length:=by
 obtain⟨h1,h2⟩:=yG hu hx hz hc
 cases hr:(ak u).calls[i]? with
 | none=>rw[List.getD_eq_getElem?_getD,List.getD_eq_getElem?_getD,hr] at h2;simp at h2
 | some row=>
  rw[List.getD_eq_getElem?_getD,List.getD_eq_getElem?_getD,hr] at h2;simp only[Option.getD_some] at h2
  cases hp:row[pc]? with
  | none=>rw[hp] at h2;simp at h2
  | some n=>
   rw[hp] at h2;exact⟨row,rfl,by rw[hp,← h2];rfl,h1⟩
theorem qp (z:In):((mN z:Int) == 2)=cN z:=by
 cases z with
 | call g _ _ _=>cases g<;>rfl
 | lock g _=>cases g<;>rfl
 | _=>rfl
theorem KE (l:List Nat):aB l=ints (l.map fun n:Nat=>(n:Int)):=by
 simp only[aB,ints,List.map_map,List.length_map];rfl
theorem sB (a b:List Nat)(ha:a.length≤4611686018427387904):ae Tryz.prog 73 [aB a,aB b] (.bool (decide (a=b))):=by
 have h:=na (a.map fun n:Nat=>(n:Int)) (b.map fun n:Nat=>(n:Int)) (by rw[List.length_map];exact ha);rw[← KE,← KE] at h;have e:decide ((a.map fun n:Nat=>(n:Int))=b.map fun n:Nat=>(n:Int))=decide (a=b):=by
  refine decide_eq_decide.2 ⟨fun he=>?_,fun he=>by rw[he]⟩;have h2:=congrArg (List.map Int.toNat) he;rw[List.map_map,List.map_map] at h2;have e2:Int.toNat∘(fun n:Nat=>(n:Int))=id:=funext fun n=>by simp
  rw[e2,List.map_id,List.map_id] at h2;exact h2
 rwa [e] at h
theorem mU {L:Nat}(h8:L≤8){r:List Nat}(h:qW L r):∀ s∈r,s<2 ^ 63:=fun s hs=>by
 have h1:=h.lt s hs;have h2:2 ^ (L+1)≤2 ^ 9:=Nat.pow_le_pow_right yA yA;have h3:(2:Nat) ^ 9<2 ^ 63:=by decide
 exact Nat.lt_of_lt_of_le h1 (Nat.le_trans h2 (Nat.le_of_lt h3))
theorem bL (c:Cl):trees (cD c)=true:=by
 simp only[cD,trees,tree,aE,Bool.and_self]
theorem jL {c:CV}(h:tree c=true):∀ n:Nat,trees (List.replicate n c)=true
 | 0=>rfl
 | n+1=>by simp only[List.replicate_succ,trees,h,jL h n,Bool.and_self]
theorem kH {u:Un}(hu:im u){i:Nat}{x:Is}(hx:(ak u).is[i]? = some x):pY u x:=Ih hu x (List.mem_of_getElem? hx)
theorem jF (o:Nat)(cs:List CV)(n:Nat)(l:List Nat):bQ o cs n (aB l)=aB l:=rfl
theorem jV (l:List Nat):dR (aB l)=false:=rfl
theorem j7 (l:List Nat):(aB l).cells=[aB l]:=rfl
theorem uV (L:Nat):CV.az (List.replicate (L+1) (CV.int IntKind.i64 0)) (L+1)=aB (sS L):=by simp[aB,sS]
theorem Jm {j n:Nat}(Z N:CV)(h:j<n):List.replicate j Z++Z::List.drop (j+1) (List.replicate j Z++List.replicate (n-j) N)=List.replicate (j+1) Z++List.replicate (n-(j+1)) N:=by
 have h1:List.drop (j+1) (List.replicate j Z++List.replicate (n-j) N)=List.replicate (n-(j+1)) N:=by
  rw[List.drop_append,List.length_replicate,List.drop_replicate,List.drop_replicate];have e1:j-(j+1)=0:=by omega
  have e2:n-j-(j+1-j)=n-(j+1):=by omega
  rw[e1,e2];rfl
 rw[h1,List.replicate_succ',List.append_assoc];rfl
def kZ (u:Un)(x:Is)(t:List CV):List (Nat×Ob):=[(3,⟨22,1,t⟩),(2,⟨75,0,cC x⟩),(1,⟨34,0,cD (ak u)⟩),(0,⟨30,0,bX u⟩)]
def ld (n m i:Nat)(sm:List (List Nat)):List (Nat×CV):=[(13,.bp 3 0 n),(11,.aq 2 0),(6,.aq 1 0),(5,.aq 0 0),(4,I i),(3,aQ sm),(2,I m)]
def J79a (u:Un)(x:Is)(n m i L:Nat)(sm:List (List Nat))(k:Nat)(s:St):Prop:=∃ j:Nat,k=n-j∧j≤n∧s=⟨(14,I j)::(12,I L)::ld n m i sm,kZ u x (List.replicate j (aB (sS L))++List.replicate (n-j) .aj),4⟩
theorem sw_at {u:Un}{c:Cl}{L m i:Nat}{x:Is}{sm:List (List Nat)}(H:InH u c L i x sm){t0:List (List Nat)}(h0:BE u c L m i x sm t0){pc:Nat}{z:In}(hz:(au u x)[pc]? = some z) :
  tg L (au u x).length (jb u c L m i x sm t0 pc).1∧qW L ((jb u c L m i x sm t0 pc).1.getD pc [])∧qW L (ig c L m sm i x z pc)∧qW L (q9 ((jb u c L m i x sm t0 pc).1.getD pc []) (ig c L m sm i x z pc))∧
  (∀ j,j≤(dJ z pc).length→tg L (au u x).length (sA (q9 ((jb u c L m i x sm t0 pc).1.getD pc []) (ig c L m sm i x z pc)) ((dJ z pc).take j) (jb u c L m i x sm t0 pc)).1)∧
  jb u c L m i x sm t0 (pc+1)=sA (q9 ((jb u c L m i x sm t0 pc).1.getD pc []) (ig c L m sm i x z pc)) (dJ z pc) (jb u c L m i x sm t0 pc):=by
 have hk:=(List.getElem?_eq_some_iff.1 hz).1;obtain⟨hI,hd⟩:=xZ H h0 pc yA;obtain⟨w,g⟩:=yL H hI.A.wf hk;have OH:=nX H (m:=m) hz;have ha:=vr w OH;refine⟨hI.A.wf,w,OH,ha,fun j hj=>?_,by simp only[Go.aN.jb,hz]⟩;exact (Gk H ha hI (dJ z pc) (fun q hq=>⟨H.nx pc z hz q hq,fun d e hb=>by
   obtain⟨y,y1,y2⟩:=(uc _ _ d e).1 hb;exact x7 H hz hq (hI.A.sound pc d y y1) y2⟩) j hj).1.A.wf
theorem JG (z:In)(pc:Nat):(dJ z pc).length≤2:=by
 cases z<;>simp[dJ];split<;>simp
noncomputable def JT (u:Un) (m i L:Nat) (x:Is) (sm:List (List Nat)):List (List Nat):=qc L (au u x).length (Ri u (ak u) m L (wP sm) i)
def J79b (u:Un)(x:Is)(n m i L:Nat)(sm:List (List Nat))(k:Nat)(s:St):Prop:=∃ (t:List (List Nat)) (ag:Bool),k=(9*(L+1)*n-dz t)+(if ag=true then 1 else 0)∧BE u (ak u) L m i x sm t∧(ag=false→t=JT u m i L x sm)∧s=⟨(15,.bool ag)::ld n m i sm,kZ u x (t.map aB),4⟩
def J79c (u:Un)(x:Is)(n m i L:Nat)(sm t0:List (List Nat))(k:Nat)(s:St):Prop:=∃ pc:Nat,k=n-pc∧pc≤n∧s=⟨(16,I pc)::(15,.bool (jb u (ak u) L m i x sm t0 pc).2)::ld n m i sm,kZ u x ((jb u (ak u) L m i x sm t0 pc).1.map aB),4⟩
def J79d (u:Un)(x:Is)(n m i:Nat)(sm:List (List Nat))(S:List (List Nat)×Bool)(a nx:List Nat)(pc:Nat)(k:Nat)(s:St):Prop:=∃ j:Nat,k=nx.length-j∧j≤nx.length∧s=⟨(20,I j)::(19,aB nx)::(18,aB a)::(16,I pc)::(15,.bool (sA a (nx.take j) S).2)::ld n m i sm,kZ u x ((sA a (nx.take j) S).1.map aB),4⟩
theorem rG {u:Un}(hu:im u){i:Nat}{x:Is}(hx:(ak u).is[i]? = some x){m:Nat}{xm:Mx}(hm:u.ms[m]? = some xm){sm:List (List Nat)}(hs:tg (aG xm) (ak u).is.length sm):ae Tryz.prog 43 [cK u,eP (ak u),I m,aQ sm,I i] (aQ (JT u m i (aG xm) x sm)):=by
 have hv:=kH hu hx;have h8:=jy xm;have H:=IY hu h8 hx hs;have Pw:=tJ xm;have Ws:=wT (aG xm) 0 h8 yA yA;obtain⟨pq,OT,N9⟩:=kG hv;have Og:=eK hu x;have N6:=(List.getElem?_eq_some_iff.1 hx).1;have Qx:=(List.getElem?_eq_some_iff.1 hm).1;have Po:=(List.getElem?_eq_some_iff.1 OT).1;have Uy:=aD (f:=eM) (n:=3) uW hm;have Qz:=aD (f:=cC) (n:=2) dM hx;have N7:=a8 (f:=jS) (n:=5) fQ OT 4 yA;have t1:trees [.agg (eM xm)]=true:=rfl;have bd:24*((au u x).length:Int)≤281474976710656∧((au u x).length:Int)≤9223372036854775807:=by omega
 have Wh:=cf ((aG xm:Int)+1) yA yA;have Xk:(0≤(aG xm:Int)+1∧8*((aG xm:Int)+1)≤281474976710656∧(aG xm:Int)+1≤9223372036854775807):=by omega
 refine ae.aH af Tryz.func43 rfl N4 (by simp[Tryz.ntmps43]) (dB _) fun C hC N8=>?_;rw[Tryz.ntmps43] at hC;simp only[eM] at Pw t1;rw[N9] at Og bd;simp only[cK,eP,aQ];apply ai;simp[hC];simp[bX,cD,ints];apply ai;simp[hC,N6,Qz,cC];apply ai;simp[hC,Qx,Uy,eM];refine dc t1 Pw ?_;simp[hC];apply ai;simp[hC,Po,N7,jS,bd];apply aL;simp[hC];apply T.block;have Oj:=aP u;have Ox:=bL (ak u);have tsm:=bq sm;have TY:=bD x;have tZ:trees (List.replicate (aG xm+1) (I 0))=true:=nQ _;have U7:=fun j=>aZ (List.replicate j (aB (sS (aG xm)))) (List.replicate (pq.code.length-j) CV.aj);simp only[bX,cD,cC,ints] at Oj Ox TY;refine T.aI (J79a u x pq.code.length m i (aG xm) sm) (n:=pq.code.length) ?_ ?_
 ·refine aa.trim [14,12,13,11,6,5,4,3,2] [3,2,1,0] 4 (by simp[-List.all_eq_true,ah Oj,ah Ox,ah TY]) yA ⟨0,by omega,by omega,?_⟩;simp[ld,kZ,bX,cD,cC,ints,aQ]
 ·rintro n s ⟨j,rfl,hj,rfl⟩;simp only[ld,kZ,bX,cD,cC,ints,aQ];by_cases OD:j<pq.code.length
  ·have R8:1≤pq.code.length-j:=by omega
   have wj:=cf ((j:Int)+1) yA yA;apply aL;simp[hC,OD];refine fh ?_;simp;apply eG;refine T.region (TL.some af 5 ?_);simp[hC,Wh,Xk];refine TL.le (Le.cV (o:=4) rfl tZ) ?_;simp;refine TL.go' af ?_;simp[hC,OD,R8];apply aY;simp[hC,wj];simp only[jF];rw[uV,Jm _ _ OD];have tF:=U7 (j+1);rw[jL (aE _),jL rfl] at tF;refine⟨pq.code.length-(j+1),by omega,?_⟩;refine aa.trim [14,12,13,11,6,5,4,3,2] [3,2,1,0] 4 (by simp[-List.all_eq_true,ah Oj,ah Ox,ah TY,ah tF]) yA ⟨j+1,rfl,by omega,?_⟩;simp[ld,kZ,bX,cD,cC,ints,aQ]
  ·have QG:j=pq.code.length:=by omega
   subst QG;apply aL;simp[hC];refine aX ?_;simp;apply T.exit;simp;have Q9:0<pq.code.length:=by have:=H.pos;rwa [N9] at this
   have Oz:trees [I (aG xm),I 0]=true:=rfl;have SA:aB (sV (aG xm) 0)::List.replicate (pq.code.length-1) (aB (sS (aG xm)))=((List.replicate pq.code.length (sS (aG xm))).set 0 (sV (aG xm) 0)).map aB:=by
    obtain⟨n,hn⟩:∃ n,pq.code.length=n+1:=⟨pq.code.length-1,by omega⟩;rw[hn];simp[List.replicate_succ]
   apply ai;simp[hC];refine dc Oz Ws ?_;have YS:1≤pq.code.length:=Q9;simp[hC,Q9,jV,j7,YS];rw[SA];clear U7 tZ;have h0:BE u (ak u) (aG xm) m i x sm ((List.replicate pq.code.length (sS (aG xm))).set 0 (sV (aG xm) 0)):=by
    rw[← N9];exact BE.start H
   generalize (List.replicate pq.code.length (sS (aG xm))).set 0 (sV (aG xm) 0)=t0 at h0 ⊢;apply aL;simp[hC];apply T.block;refine T.aI (J79b u x pq.code.length m i (aG xm) sm) (n:=(9*((aG xm)+1)*pq.code.length-dz t0)+1) ?_ ?_
   ·have tT:=bq t0;refine aa.trim [15,13,11,6,5,4,3,2] [3,2,1,0] 4 (by simp[-List.all_eq_true,ah Oj,ah Ox,ah TY,ah tT]) yA ⟨t0,true,by simp,h0,(fun h=>by cases h),?_⟩;simp[ld,kZ,bX,cD,cC,ints,aQ]
   ·clear h0 SA;clear t0;rintro n s ⟨t0,ag,rfl,h0,P1,rfl⟩;simp only[ld,kZ,bX,cD,cC,ints,aQ];have tT:=bq t0;have hlen:t0.length=pq.code.length:=by rw[h0.wf.len,N9]
    cases ag with
    | false=>
     have Ph:=P1 rfl;apply aL;simp[hC];refine aX ?_;simp;apply T.exit;simp;apply ai;simp[hC];apply T.ret;refine aa.le (Le.cV (o:=3) rfl tT) ?_;apply aa.here;have On:List.take t0.length (t0.map aB)=t0.map aB:=List.take_of_length_le (by rw[List.length_map];exact Nat.le_refl _);rw[Ph] at On hlen;simp[Tryz.results43,Ph,← hlen,On]
    | true=>
     apply aL;simp[hC];refine fh ?_;simp;apply T.block;apply ai;simp[hC];apply ai;simp[hC];apply T.block;refine T.aI (J79c u x pq.code.length m i (aG xm) sm t0) (n:=pq.code.length) ?_ ?_
     ·refine aa.trim [16,15,13,11,6,5,4,3,2] [3,2,1,0] 4 (by simp[-List.all_eq_true,ah Oj,ah Ox,ah TY,ah tT]) yA ⟨0,by omega,by omega,?_⟩;simp[ld,kZ,bX,cD,cC,ints,aQ,Go.aN.jb]
     ·rintro n s ⟨pc,rfl,ji,rfl⟩;simp only[ld,kZ,bX,cD,cC,ints,aQ];by_cases Ra:pc<pq.code.length
      ·obtain⟨z,hz⟩:∃ z,(au u x)[pc]? = some z:=⟨_,List.getElem?_eq_getElem (by rw[N9];exact Ra)⟩;obtain⟨w1,w2,w3,w4,w5,w6⟩:=sw_at H h0 hz;have RK:=w1.len;obtain⟨Z4,hrw,_⟩:=w1.get (p:=pc) (by rw[N9];exact Ra);have hg:(Go.aN.jb u (ak u) (aG xm) m i x sm t0 pc).1.getD pc []=Z4:=by rw[List.getD_eq_getElem?_getD,hrw];rfl
       rw[hg] at w2 w4 w5 w6;rw[N9] at RK;have tS:=bq (Go.aN.jb u (ak u) (aG xm) m i x sm t0 pc).1;apply aL;simp[hC,Ra];refine fh ?_;simp;apply eG;have hrel:=Jg hu hv hz hm;have RP:trees [.agg (bX u),.agg (cC x),I pc,I m]=true:=by simp only[trees,tree,aP,bD,Bool.and_self]
       have Ps:=hz;rw[N9] at Ps;have OQ:=aD (f:=cU) (n:=12) eg Ps;obtain⟨xc,Pt,PH⟩:=gT z;rw[Pt] at OQ;have Ol:=qp z;have tst:=aE (ig (ak u) (aG xm) m sm i x z pc);have Yz:=mU h8 w3;have hst0:(ig (ak u) (aG xm) m sm i x z pc).length≤9:=by rw[w3.len];omega
       simp only[cK,bX,cC,ints] at hrel RP;apply ai;simp[hC];refine dc RP hrel ?_;simp[hC];refine T.cut (fun s=>s=⟨(17,aB (ig (ak u) (aG xm) m sm i x z pc))::(16,I pc)::(15,.bool (Go.aN.jb u (ak u) (aG xm) m i x sm t0 pc).2)::ld pq.code.length m i sm,kZ u x ((Go.aN.jb u (ak u) (aG xm) m i x sm t0 pc).1.map aB),4⟩) ?_ ?_
       ·apply ai;simp[hC,Po,N7,jS,Ra,OQ];by_cases hc:cN z=true
        ·obtain⟨row,OX,OF,Vj⟩:=ny hu hx hz hc;have PZ:=fe ints OX;have QS:=fe vL OF;have Qe:=(List.getElem?_eq_some_iff.1 OX).1;have O7:=(List.getElem?_eq_some_iff.1 OF).1;have XI:dn (ak u) i pc<sm.length:=by rw[hs.len];exact Vj
         obtain⟨sk,XB⟩:∃ sk,sm[dn (ak u) i pc]? = some sk:=⟨_,List.getElem?_eq_getElem XI⟩;have hd3:=fe aB XB;have Wn:ig (ak u) (aG xm) m sm i x z pc=sk:=by rw[ig,if_pos hc,List.getD_eq_getElem?_getD,XB];rfl
         rw[hc] at Ol;refine T.cond (b:=true) (by simp[ev,assoc,Ol]) ?_;simp;apply aY;simp[hC,PZ,QS,Qe,O7,XI,hd3,ints];rw[Wn] at tst ⊢;refine aa.trim [17,16,15,13,11,6,5,4,3,2] [3,2,1,0] 4 yD yA ?_;simp[ld,kZ,bX,cD,cC,ints,aQ]
        ·have Wn:ig (ak u) (aG xm) m sm i x z pc=sV (aG xm) (dw x m z):=by rw[ig,if_neg hc]
         rw[Bool.not_eq_true] at hc;rw[hc] at Ol;refine T.cond (b:=false) (by simp[ev,assoc,Ol]) (T.skip ?_);simp;rw[Wn] at tst ⊢;refine aa.trim [17,16,15,13,11,6,5,4,3,2] [3,2,1,0] 4 yD yA ?_;simp[ld,kZ,bX,cD,cC,ints,aQ]
       ·rintro s rfl;simp only[ld,kZ,bX,cD,cC,ints,aQ];have ZA:=GL Z4 (ig (ak u) (aG xm) m sm i x z pc) (by rw[w2.len];omega) hst0 (mU h8 w2) Yz;have OV:=qj hu hv hz yA;have Yc:trees [aB Z4,aB (ig (ak u) (aG xm) m sm i x z pc)]=true:=by simp only[trees,aE,Bool.and_self]
        have VD:trees [.agg (bX u),.agg (cC x),I pc]=true:=by simp only[trees,tree,aP,bD,Bool.and_self]
        simp only[cK,bX,cC,ints] at OV VD;refine T.seq (T.rx af follows [0,1,2,3,4,6,7,8,5,9,10,11] [(6,5),(7,5)] N4 ?_);simp[hC,Ra,hrw];refine RX.call rfl rfl rfl rfl rfl Yc ZA ?_;simp;refine RX.call rfl rfl rfl rfl rfl VD OV ?_;simp;generalize hS:Go.aN.jb u (ak u) (aG xm) m i x sm t0 pc=S at *;generalize ha:q9 Z4 (ig (ak u) (aG xm) m sm i x z pc)=a at *;have Rb:(dJ z pc).length≤2:=JG z pc;apply ai;simp[hC];apply T.block;refine T.aI (J79d u x pq.code.length m i sm S a (dJ z pc) pc) (n:=(dJ z pc).length) ?_ ?_
        ·refine aa.trim [20,19,18,16,15,13,11,6,5,4,3,2] [3,2,1,0] 4 (by simp[-List.all_eq_true,ah Oj,ah Ox,ah TY,ah tS,a9 _ _ (aE _)]) yA ⟨0,by omega,by omega,?_⟩;simp[ld,kZ,bX,cD,cC,ints,aQ,sA]
        ·rintro n s ⟨j,rfl,hj,rfl⟩;simp only[ld,kZ,bX,cD,cC,ints,aQ];by_cases OD:j<(dJ z pc).length
         ·obtain⟨q,hq⟩:∃ q,(dJ z pc)[j]? = some q:=⟨_,List.getElem?_eq_getElem OD⟩;have YO:=fA hq;have wS:=w5 j hj;have dt:sA a ((dJ z pc).take (j+1)) S=(if vZ a ((sA a ((dJ z pc).take j) S).1.getD q [])=true then sA a ((dJ z pc).take j) S else ((sA a ((dJ z pc).take j) S).1.set q (mJ ((sA a ((dJ z pc).take j) S).1.getD q []) a),true)):=by
           rw[List.take_add_one,hq];exact x5 a _ q S
          have P6:q<pq.code.length:=by rw[← N9];exact rQ hu hv hz (List.mem_of_getElem? hq)
          obtain⟨rq,XC,wq⟩:=wS.get (p:=q) (by rw[N9];exact P6);have hgq:(sA a ((dJ z pc).take j) S).1.getD q []=rq:=by rw[List.getD_eq_getElem?_getD,XC];rfl
          rw[hgq] at dt;have YG:=wS.len;rw[N9] at YG;have VF:=bq (sA a ((dJ z pc).take j) S).1;generalize sA a ((dJ z pc).take j) S=S2 at *;have Wi:=C8 rq a (by rw[wq.len];omega) (by rw[wq.len,w4.len]) (mU h8 wq) (mU h8 w4);have Yr:=Ll H (a:=a) (b:=rq) (by rw[wq.len,w4.len]);have T2:trees [aB rq,aB a]=true:=by simp only[trees,aE,Bool.and_self]
          have wj:=cf ((j:Int)+1) yA yA;have Ow:aB (dJ z pc)=CV.az ((dJ z pc).map fun n:Nat=>I n) (dJ z pc).length:=rfl;simp only[Ow];have Ss:=bj (dJ z pc);have hql2:q+1≤pq.code.length:=P6;apply aL;simp[hC,OD];refine fh ?_;simp;apply eG;apply ai;simp[hC,OD,YO,P6,XC];refine dc T2 Wi ?_;simp[hC];have O1:=sB (mJ rq a) rq (by rw[(BR wq w4).len];omega);have Yb:trees [aB (mJ rq a),aB rq]=true:=by simp only[trees,aE,Bool.and_self]
          apply ai;simp[hC,OD,YO,P6,XC];refine dc Yb O1 ?_;simp[hC];by_cases Oo:vZ a rq=true
          ·rw[if_pos Oo] at dt;have QC:=Yr.2 Oo;refine T.cond (b:=false) (by simp[ev,assoc,QC]) (T.skip ?_);simp;apply aY;simp[hC,wj];refine⟨(dJ z pc).length-(j+1),by omega,aa.trim [20,19,18,16,15,13,11,6,5,4,3,2] [3,2,1,0] 4 (by simp[-List.all_eq_true,ah Oj,ah Ox,ah TY,ah VF,a9 _ _ (aE _)]) yA ⟨j+1,rfl,by omega,?_⟩⟩;rw[dt];simp[ld,kZ,bX,cD,cC,ints,aQ,Ow]
          ·rw[if_neg Oo] at dt;have QC:¬ mJ rq a=rq:=fun h=>Oo (Yr.1 h);refine T.cond (b:=true) (by simp[ev,assoc,QC]) ?_;simp;apply aY;simp[hC,OD,YO,P6,jV,j7,YG,hql2];apply aY;simp[hC,wj];rw[I2 _ (show q<S2.1.length by omega)];generalize S2.1.set q (mJ rq a)=t4 at *;have tS4:=bq t4;refine⟨(dJ z pc).length-(j+1),by omega,aa.trim [20,19,18,16,15,13,11,6,5,4,3,2] [3,2,1,0] 4 (by simp[-List.all_eq_true,ah Oj,ah Ox,ah TY,ah tS4,a9 _ _ (aE _)]) yA ⟨j+1,rfl,by omega,?_⟩⟩;rw[dt];simp[ld,kZ,bX,cD,cC,ints,aQ,Ow]
         ·have QG:j=(dJ z pc).length:=by omega
          subst QG;rw[List.take_length] at *;have Ow:aB (dJ z pc)=CV.az ((dJ z pc).map fun n:Nat=>I n) (dJ z pc).length:=rfl;simp only[Ow];apply aL;simp[hC];refine aX ?_;simp;apply T.exit;simp;have TW:=cf ((pc:Int)+1) yA yA;have VF:=bq (sA a (dJ z pc) S).1;apply aY;simp[hC,TW];refine⟨pq.code.length-(pc+1),by omega,aa.trim [16,15,13,11,6,5,4,3,2] [3,2,1,0] 4 (by simp[-List.all_eq_true,ah Oj,ah Ox,ah TY,ah VF]) yA ⟨pc+1,rfl,by omega,?_⟩⟩;rw[w6];simp[ld,kZ,bX,cD,cC,ints,aQ]
      ·have Uh:pc=pq.code.length:=by omega
       subst Uh;have YT:(au u x).length=pq.code.length:=by rw[N9]
       obtain⟨Sz,_⟩:=xZ H h0 pq.code.length yA;have hsf:=I6 H h0;rw[YT] at hsf;have RK:=Sz.A.wf.len;rw[YT] at RK;have VF:=bq (Go.aN.jb u (ak u) (aG xm) m i x sm t0 pq.code.length).1;generalize Go.aN.jb u (ak u) (aG xm) m i x sm t0 pq.code.length=S at *;apply aL;simp[hC];refine aX ?_;simp;apply T.exit;simp;have Qd:=qN S.1 Sz.A.wf.row;rw[RK] at Qd;have ZK:=Sz.le;refine⟨(9*(aG xm+1)*pq.code.length-dz S.1)+(if S.2=true then 1 else 0),?_,aa.trim [15,13,11,6,5,4,3,2] [3,2,1,0] 4 (by simp[-List.all_eq_true,ah Oj,ah Ox,ah TY,ah VF]) yA ⟨S.1,S.2,rfl,Sz.A,fun h=>?_,?_⟩⟩
       ·cases h2:S.2 with
        | true=>have:=Sz.lt h2;simp;omega
        | false=>simp;omega
       ·rw[Sz.same h,hsf h,← N9];rfl
       ·simp[ld,kZ,bX,cD,cC,ints,aQ]
def KI:List Nat→Int→Nat→Int
 | [],_,_=>-1
 | a::r,x,i=>if (a:Int)=x then i else KI r x (i+1)
def qZ (l:List Nat)(x:Int):Bool:=l.any fun a=>decide ((a:Int)=x)
theorem Hn:∀ (l:List Nat) (x:Int) (i:Nat),decide (0≤KI l x i)=qZ l x
 | [],x,i=>rfl
 | a::r,x,i=>by
  simp only[KI,qZ,List.any_cons];by_cases h:(a:Int)=x
  ·simp[h]
  ·have:=Hn r x (i+1);simp only[qZ] at this;simp[h,this]
theorem yI (l:List Nat)(x:Int):qZ l x=true↔0≤x∧x.toNat∈l:=by
 simp only[qZ,List.any_eq_true,decide_eq_true_eq];constructor
 ·rintro⟨a,ha,rfl⟩;exact⟨by omega,by simpa using ha⟩
 ·rintro⟨h,hm⟩;exact⟨_,hm,by omega⟩
theorem DE (l:List Nat)(x:Nat):qZ l x=decide (x∈l):=by
 rw[Bool.eq_iff_iff,yI];simp
def J200 (l:List Nat)(x:Int)(m:Nat)(s:St):Prop:=∃ i:Nat,m=l.length-i∧i≤l.length∧qZ l x=qZ (l.drop i) x∧s=⟨[(5,I i),(0,aB l),(1,I x)],[],0⟩
theorem DQ {l:List Nat}{i n:Nat}(h:l[i]? = some n):l.drop i=n::l.drop (i+1):=by
 obtain⟨hl,rfl⟩:=List.getElem?_eq_some_iff.1 h;rw[List.drop_eq_getElem_cons hl]
theorem GB (l:List Nat)(x:Int)(hl:l.length≤100000):ae Tryz.prog 34 [aB l,I x] (.bool (qZ l x)):=by
 refine ae.aH af Tryz.func34 rfl N4 (by simp[Tryz.ntmps34]) rfl fun C hC N8=>?_;rw[Tryz.ntmps34] at hC;simp only[aB];apply ai;simp[hC];apply aL;simp[hC];apply T.block;refine T.aI (J200 l x) (n:=l.length) ?_ ?_
 ·refine aa.trim [5,0,1] [] 0 QA yA ⟨0,by omega,by omega,by simp,?_⟩;simp[aB]
 ·rintro n s ⟨i,rfl,hi,hx,rfl⟩;simp only[aB];by_cases N6:i<l.length
  ·obtain⟨a,ha⟩:∃ a,l[i]? = some a:=⟨l[i],List.getElem?_eq_getElem N6⟩;have N7:=fA ha;have wi:=cf ((i:Int)+1) yA yA;rw[DQ ha] at hx;simp only[qZ,List.any_cons] at hx;apply aL;simp[hC,N6];refine fh ?_;simp;apply eG;by_cases Tf:(a:Int)=x
   ·have hd:qZ l x=true:=by simp only[qZ,hx,Tf,decide_true,Bool.true_or]
    subst Tf;apply ai;simp[hC,N6,N7];refine cB ?_;simp;apply ai;simp[hC];apply T.ret;apply aa.here;rw[hd];simp[Tryz.results34]
   ·have Ok:((a:Int) == x)=false:=by
     rw[beq_eq_false_iff_ne];exact Tf
    apply ai;simp[hC,N6,N7,Ok];refine dv ?_;simp;apply aY;simp[hC,wi];refine⟨l.length-(i+1),by omega,aa.trim [5,0,1] [] 0 QA yA ⟨i+1,rfl,by omega,?_,?_⟩⟩
    ·simp only[Tf,decide_false,Bool.false_or] at hx;exact hx
    ·simp[aB]
  ·have Oe:i=l.length:=by omega
   subst Oe;rw[List.drop_length] at hx;apply aL;simp[hC];refine aX ?_;simp;apply T.exit;simp;apply ai;simp[hC];apply T.ret;apply aa.here;rw[hx];simp[Tryz.results34,qZ]
def J201 (l:List Nat)(x:Int)(m:Nat)(s:St):Prop:=∃ i:Nat,m=l.length-i∧i≤l.length∧KI l x 0=KI (l.drop i) x i∧s=⟨[(8,I i),(7,I l.length),(0,aB l),(1,I x)],[],0⟩
theorem z5 (l:List Nat)(x:Int)(hl:l.length≤100000):ae Tryz.prog 59 [aB l,I x] (I (KI l x 0)):=by
 refine ae.aH af Tryz.func59 rfl N4 (by simp[Tryz.ntmps59]) rfl fun C hC N8=>?_;rw[Tryz.ntmps59] at hC;simp only[aB];apply ai;simp[hC];apply aL;simp[hC];apply T.block;refine T.aI (J201 l x) (n:=l.length) ?_ ?_
 ·refine aa.trim [8,7,0,1] [] 0 QA yA ⟨0,by omega,by omega,by simp,?_⟩;simp[aB]
 ·rintro n s ⟨i,rfl,hi,hx,rfl⟩;simp only[aB];by_cases N6:i<l.length
  ·obtain⟨a,ha⟩:∃ a,l[i]? = some a:=⟨l[i],List.getElem?_eq_getElem N6⟩;have N7:=fA ha;have wi:=cf ((i:Int)+1) yA yA;rw[DQ ha] at hx;simp only[KI] at hx;apply ai;simp[hC,N6];refine T.seq (T.cond (b:=true) rfl (T.skip ?_));simp;apply eG;apply ai;simp[hC];by_cases Tf:(a:Int)=x
   ·rw[if_pos Tf] at hx;subst Tf;apply ai;simp[hC,N6,N7];refine cB ?_;simp;apply ai;simp[hC];apply T.ret;apply aa.here;rw[hx];simp[Tryz.results59]
   ·have Ok:(x == (a:Int))=false:=by
     rw[beq_eq_false_iff_ne];exact fun h=>Tf h.symm
    rw[if_neg Tf] at hx;apply ai;simp[hC,N6,N7,Ok];refine dv ?_;simp;apply aY;simp[hC,wi];refine⟨l.length-(i+1),by omega,aa.trim [8,7,0,1] [] 0 QA yA ⟨i+1,rfl,by omega,hx,?_⟩⟩;simp[aB]
  ·have Oe:i=l.length:=by omega
   subst Oe;rw[List.drop_length] at hx;apply ai;simp[hC];refine T.seq (T.cond (b:=false) rfl ?_);simp;apply T.exit;simp;apply ai;simp[hC];apply T.ret;apply aa.here;rw[hx];simp[Tryz.results59,KI]
theorem ma (l:List Nat)(x:Int)(hl:l.length≤100000):ae Tryz.prog 30 [aB l,I x] (.bool (qZ l x)):=by
 have hi:=z5 l x hl;have t2:trees [aB l,I x]=true:=by simp only[trees,aE,Bool.true_and];rfl
 rw[← Hn l x 0];refine ae.aH af Tryz.func30 rfl N4 (by simp[Tryz.ntmps30]) rfl fun C hC N8=>?_;rw[Tryz.ntmps30] at hC;simp only[aB] at hi t2 ⊢;apply ai;simp[hC];apply ai;simp[hC];refine dc t2 hi ?_;simp[hC];apply T.ret;apply aa.here;simp[Tryz.results30]
theorem Mh (u:Un)(m i L:Nat)(x:Is)(sm:List (List Nat)):tg L (au u x).length (JT u m i L x sm):=iG _ _ _
theorem tM (z:In):((mN z:Int) == 8)=gM z:=by
 cases z with
 | call g _ _ _=>cases g<;>rfl
 | lock g _=>cases g<;>rfl
 | _=>rfl
def eY (u:Un):List (Nat×Ob):=[(1,⟨34,0,cD (ak u)⟩),(0,⟨30,0,bX u⟩)]
def J207 (u:Un)(x:Is)(n i L:Nat)(t:List (List Nat))(k:Nat)(s:St):Prop:=∃ j:Nat,k=n-j∧j≤n∧s=⟨[(13,I j),(12,aB (BA u x L t j)),(11,aQ t),(6,.aq 1 0),(5,.aq 0 0),(4,I i)],eY u,2⟩
theorem GC {u:Un}(hu:im u){i:Nat}{x:Is}(hx:(ak u).is[i]? = some x){m:Nat}{xm:Mx}(hm:u.ms[m]? = some xm){sm:List (List Nat)}(hs:tg (aG xm) (ak u).is.length sm):ae Tryz.prog 72 [cK u,eP (ak u),I m,aQ sm,I i] (aB (Cw u (ak u) m (aG xm) sm i)):=by
 have Oo:=rG hu hx hm hs;have Wg:=Mh u m i (aG xm) x sm;have Ph:=J2 (u:=u) (m:=m) (L:=aG xm) hx sm;have hv:=kH hu hx;have h8:=jy xm;have Pw:=tJ xm;obtain⟨pq,OT,N9⟩:=kG hv;have Og:=eK hu x;have N6:=(List.getElem?_eq_some_iff.1 hx).1;have Qx:=(List.getElem?_eq_some_iff.1 hm).1;have Po:=(List.getElem?_eq_some_iff.1 OT).1;have Uy:=aD (f:=eM) (n:=3) uW hm;have Qz:=aD (f:=cC) (n:=2) dM hx;have N7:=a8 (f:=jS) (n:=5) fQ OT 4 yA;have t1:trees [.agg (eM xm)]=true:=rfl;have Wh:=cf ((aG xm:Int)+1) yA yA;have Xk:(0≤(aG xm:Int)+1∧8*((aG xm:Int)+1)≤281474976710656∧(aG xm:Int)+1≤9223372036854775807):=by omega
 have Oz:trees [cK u,eP (ak u),I m,aQ sm,I i]=true:=by simp only[trees,tree,cK,eP,aP,bL,dB,Bool.and_self]
 have Oj:=aP u;have Ox:=bL (ak u);have tZ:trees (List.replicate (aG xm+1) (I 0))=true:=nQ _;refine ae.aH af Tryz.func72 rfl N4 (by simp[Tryz.ntmps72]) (aE _) fun C hC N8=>?_;rw[Tryz.ntmps72] at hC;simp only[eM] at Pw t1;change BA u x (aG xm) (JT u m i (aG xm) x sm) (au u x).length=_ at Ph;generalize JT u m i (aG xm) x sm=t at *;rw[N9] at Og;have Qv:t.length=pq.code.length:=by rw[Wg.len,N9]
 have tT:=bq t;simp only[cK,eP,bX,cD,ints,aQ] at Oz Oj Ox Oo ⊢;apply ai;simp[hC];apply ai;simp[hC];refine dc Oz Oo ?_;simp[hC];apply ai;simp[hC,Qx,Uy,eM];refine dc t1 Pw ?_;simp[hC,Wh,Xk];refine T.le (Le.cV (o:=2) rfl tZ) ?_;simp[jF];rw[uV];apply aL;simp[hC];apply T.block;refine T.aI (J207 u x pq.code.length i (aG xm) t) (n:=pq.code.length) ?_ ?_
 ·refine aa.trim [13,12,11,6,5,4] [1,0] 2 X4 yA ⟨0,by omega,by omega,?_⟩;simp[eY,bX,cD,ints,aQ,BA]
 ·rintro n s ⟨j,rfl,hj,rfl⟩;simp only[eY,bX,cD,ints,aQ];have hqw:=yN (u:=u) (x:=x) Wg;by_cases OD:j<pq.code.length
  ·obtain⟨z,Ps⟩:∃ z,pq.code[j]? = some z:=⟨_,List.getElem?_eq_getElem OD⟩;have hz:(au u x)[j]? = some z:=by rw[N9];exact Ps
   have OQ:=aD (f:=cU) (n:=12) eg Ps;obtain⟨xc,Pt,PH⟩:=gT z;rw[Pt] at OQ;have Ol:=tM z;obtain⟨rj,hrj,wj⟩:=Wg.get (p:=j) (by rw[N9];exact OD);have Sl:=fe aB hrj;have hgj:t.getD j []=rj:=by rw[List.getD_eq_getElem?_getD,hrj];rfl
   have hw:=hqw j (by rw[N9];exact hj);have dt:BA u x (aG xm) t (j+1)=if gM z=true then mJ (BA u x (aG xm) t j) rj else BA u x (aG xm) t j:=by
    rw[BA,hz,hgj];simp
   have wij:=cf ((j:Int)+1) yA yA;generalize BA u x (aG xm) t j=q at *;have Wi:=C8 q rj (by rw[hw.len];omega) (by rw[hw.len,wj.len]) (mU h8 hw) (mU h8 wj);have T2:trees [aB q,aB rj]=true:=by simp only[trees,aE,Bool.and_self]
   apply aL;simp[hC,Qv,OD];refine fh ?_;simp;apply eG;refine T.seq (T.rx af follows [0,1,2,3,4,5,6,7,8,9,10,11,12,13,14,15] [] N4 ?_);simp[hC,N6,Qz,cC,Po,N7,jS,OD,OQ]
   cases hr:gM z with
   | true=>
    rw[hr] at Ol dt;refine T.cond (b:=true) (by simp[ev,assoc,Ol]) ?_;simp;apply aY;simp[hC,OD,Sl];refine dc T2 Wi ?_;simp[hC];apply aY;simp[hC,wij];refine⟨pq.code.length-(j+1),by omega,aa.trim [13,12,11,6,5,4] [1,0] 2 X4 yA ⟨j+1,rfl,by omega,?_⟩⟩;rw[dt];simp[eY,bX,cD,ints,aQ,Qv]
   | false=>
    rw[hr] at Ol dt;refine T.cond (b:=false) (by simp[ev,assoc,Ol]) (T.skip ?_);simp;apply aY;simp[hC,wij];refine⟨pq.code.length-(j+1),by omega,aa.trim [13,12,11,6,5,4] [1,0] 2 X4 yA ⟨j+1,rfl,by omega,?_⟩⟩;rw[dt];simp[eY,bX,cD,ints,aQ,Qv]
  ·have QG:j=pq.code.length:=by omega
   subst QG;apply aL;simp[hC,Qv];refine aX ?_;simp;apply T.exit;simp;apply ai;simp[hC];apply T.ret;apply aa.here;rw[N9] at Ph;simp[Tryz.results72,Ph]
theorem x8 {u:Un}(hu:im u){x:Is}(hx:pY u x):∀ (c:List In) (l:List Is) (r:List Nat),(∀ i∈c,i∈au u x)→vK u l→vK u (gL x c l r).1
 | [],_,_,_,h=>h
 | i::c,l,r,hc,h=>by
  simp only[gL];split
  ·exact x8 hu hx c l r (fun j hj=>hc j (List.mem_cons_of_mem _ hj)) h
  ·rename_i y hy;have hyv:=CL hu hx (hc i List.mem_cons_self) hy;exact x8 hu hx c _ _ (fun j hj=>hc j (List.mem_cons_of_mem _ hj)) ⟨mB h.nd,CS h.v hyv⟩
theorem Bf {u:Un}(hu:im u):∀ (f i:Nat) (l:List Is) (cs:List (List Int)) (r:List Nat),vK u l→vK u (mo u f i l cs r).is∧l.length≤(mo u f i l cs r).is.length
 | 0,_,l,_,_,h=>⟨h,Nat.le_refl _⟩
 | f+1,i,l,cs,r,h=>by
  simp only[mo];split
  ·exact⟨h,Nat.le_refl _⟩
  ·rename_i x hx;have hs:=x8 hu (h.v x (List.mem_of_getElem? hx)) (au u x) l r (fun _ hi=>hi) h;obtain⟨h1,h2⟩:=Bf hu f (i+1) (gL x (au u x) l r).1 (cs++[(gL x (au u x) l r).2.1]) (gL x (au u x) l r).2.2 hs;obtain⟨t,ht⟩:=tw x (au u x) l r;refine⟨h1,Nat.le_trans ?_ h2⟩;rw[ht];simp
theorem Ii {u:Un}(hu:im u):vK u (ak u).is∧0<(ak u).is.length:=by
 have h0:vK u [⟨u.main,[]⟩]:=⟨by simp,fun x hx=>by
  rw[List.mem_singleton.1 hx];have hp:=hu.np.1;obtain⟨q,hq⟩:∃ q,u.ps[0]? = some q:=⟨_,List.getElem?_eq_getElem yA⟩;exact⟨⟨q,by rw[hu.main];exact hq,by rw[(hu.p0 q hq).2];rfl⟩,fun l hl=>by cases hl⟩⟩
 obtain⟨h1,h2⟩:=Bf hu 100 0 [⟨u.main,[]⟩] [] [0] h0;exact⟨h1,h2⟩
theorem ju {u:Un}(hu:im u):(ak u).is.length≤49∧0<(ak u).is.length:=by
 obtain⟨hI,Q9⟩:=Ii hu;exact⟨jW hu hI.nd hI.v,Q9⟩
theorem fy (ρ:Nat→Nat)(l:List Nat):dT ρ (aB l)=aB l:=by simp only[aB,dT]
def J145 (u:Un)(m n L:Nat)(k:Nat)(s:St):Prop:=∃ j:Nat,k=n-j∧j≤n∧s=⟨[(8,I j),(7,.bp 2 0 j),(4,.aq 1 0),(3,.aq 0 0),(2,I m)],(2,⟨22,1,List.replicate j (aB (sS L))⟩)::eY u,3⟩
theorem EM {u:Un}(hu:im u){m:Nat}{xm:Mx}(hm:u.ms[m]? = some xm):ae Tryz.prog 39 [cK u,eP (ak u),I m] (aQ (List.replicate (ak u).is.length (sS (aG xm)))):=by
 have h8:=jy xm;have Pw:=tJ xm;obtain⟨Og,XL⟩:=ju hu;have Qx:=(List.getElem?_eq_some_iff.1 hm).1;have Uy:=aD (f:=eM) (n:=3) uW hm;have t1:trees [.agg (eM xm)]=true:=rfl;have Wh:=cf ((aG xm:Int)+1) yA yA;have Xk:(0≤(aG xm:Int)+1∧8*((aG xm:Int)+1)≤281474976710656∧(aG xm:Int)+1≤9223372036854775807):=by omega
 have Oj:=aP u;have Ox:=bL (ak u);have tZ:trees (List.replicate (aG xm+1) (I 0))=true:=nQ _;refine ae.aH af Tryz.func39 rfl N4 (by simp[Tryz.ntmps39]) (dB _) fun C hC N8=>?_;rw[Tryz.ntmps39] at hC;simp only[eM] at Pw t1;generalize hn:(ak u).is.length=n at *;simp only[cK,eP,bX,cD,ints,aQ] at Oj Ox ⊢;rw[hn] at Ox ⊢;apply ai;simp[hC];apply ai;simp[hC];apply aL;simp[hC];apply T.block;refine T.aI (J145 u m n (aG xm)) (n:=n) ?_ ?_
 ·refine aa.le (Le.own 7 22 1 rfl) ?_;simp[St.own];refine aa.trim [8,7,4,3,2] [2,1,0] 3 Xn yA ⟨0,by omega,by omega,?_⟩;simp[eY,bX,cD,ints,hn]
 ·rintro k s ⟨j,rfl,hj,rfl⟩;simp only[eY,bX,cD,ints,hn];have tR:=jL (aE (sS (aG xm))) (j+1);have Tk:trees (List.replicate j (aB (sS (aG xm)))++[aB (sS (aG xm))])=true:=by rw[← List.replicate_succ',tR]
  by_cases OD:j<n
  ·have wj:=cf ((j:Int)+1) yA yA;have RI:(j+1)*24≤140737488355328:=by omega
   have VG:=fun ρ=>ay ρ _ Tk;have rU:=fun ρ=>ay ρ _ Oj;have rC:=fun ρ=>ay ρ _ Ox;apply aL;simp[hC,OD];refine fh ?_;simp;apply eG;apply aY;simp[hC,Qx,Uy,eM];refine TL.call Oc rfl rfl (bH.of rfl t1 Pw) (TL.some af 2 ?_);simp[hC,Wh,Xk];refine TL.le (Le.cV (o:=3) rfl tZ) ?_;simp[jF];rw[uV];refine TL.go' af ?_;simp[hC,RI,jV,j7];apply aY;simp[hC,wj];refine⟨n-(j+1),by omega,?_⟩;refine aa.le (Le.norm [8,7,4,3,2] [(5,2),(1,1),(0,0)] 0 3 Pn Pk yCl yA) ?_;simp[cT,cc,bV,dT,fc,assoc,VG,fy];refine aa.here ⟨j+1,rfl,by omega,?_⟩;simp[eY,bX,cD,ints,hn,List.replicate_succ']
  ·have QG:j=n:=by omega
   subst QG;apply aL;simp[hC];refine aX ?_;simp;apply T.exit;simp;apply ai;simp[hC];apply T.ret;have Xw:=jL (aE (sS (aG xm))) j;refine aa.le (Le.cV (o:=2) rfl Xw) ?_;apply aa.here;simp[Tryz.results39]
theorem zP (u:Un)(c:Cl)(m L:Nat)(t:List (List Nat)):(l9 u c m L t).length=c.is.length:=by simp[l9]
theorem oW {l:List (List Nat)}{j:Nat}{r:List Nat}(h:l[j]? = some r):(l.take j).map aB++[aB r]=(l.take (j+1)).map aB:=by
 rw[List.take_add_one,h];simp
def J146 (u:Un)(m n:Nat)(s0 t:List (List Nat))(k:Nat)(s:St):Prop:=∃ j:Nat,k=n-j∧j≤n∧s=⟨[(10,I j),(9,.bp 2 0 j),(5,.aq 1 0),(4,.aq 0 0),(3,aQ s0),(2,I m)],(2,⟨22,1,(t.take j).map aB⟩)::eY u,3⟩
theorem ED {u:Un}(hu:im u){m:Nat}{xm:Mx}(hm:u.ms[m]? = some xm){sm:List (List Nat)}(hs:tg (aG xm) (ak u).is.length sm):ae Tryz.prog 40 [cK u,eP (ak u),I m,aQ sm] (aQ (l9 u (ak u) m (aG xm) sm)):=by
 obtain⟨Og,XL⟩:=ju hu;have Oj:=aP u;have Ox:=bL (ak u);have tS:=bq sm;have RK:=hs.len;have O5:=zP u (ak u) m (aG xm) sm;have hra:=fun (i:Nat) (h:i<(ak u).is.length)=>yg (u:=u) (c:=ak u) (m:=m) (L:=aG xm) (t:=sm) h;have Qn:∀ j:Nat,trees [cK u,eP (ak u),I m,aQ sm,I j]=true:=fun j=>by simp only[trees,tree,cK,eP,aP,bL,dB,Bool.and_self]
 have hex:=fun (j:Nat) (x:Is) (hx:(ak u).is[j]? = some x)=>GC hu hx hm hs;refine ae.aH af Tryz.func40 rfl N4 (by simp[Tryz.ntmps40]) (dB _) fun C hC N8=>?_;rw[Tryz.ntmps40] at hC;generalize l9 u (ak u) m (aG xm) sm=t at *;simp only[cK,eP,bX,cD,ints,aQ] at Oj Ox Qn hex ⊢;apply ai;simp[hC];apply ai;simp[hC];apply aL;simp[hC];apply T.block;refine T.aI (J146 u m sm.length sm t) (n:=sm.length) ?_ ?_
 ·refine aa.le (Le.own 9 22 1 rfl) ?_;simp[St.own];refine aa.trim [10,9,5,4,3,2] [2,1,0] 3 Xn yA ⟨0,by omega,by omega,?_⟩;simp[eY,bX,cD,ints,aQ]
 ·rintro k s ⟨j,rfl,hj,rfl⟩;simp only[eY,bX,cD,ints,aQ];by_cases OD:j<sm.length
  ·obtain⟨x,hx⟩:∃ x,(ak u).is[j]? = some x:=⟨_,List.getElem?_eq_getElem yA⟩;have wj:=cf ((j:Int)+1) yA yA;have RI:(j+1)*24≤140737488355328:=by omega
   have Pa:=oW (hra j yA);have Tk:=bq (t.take (j+1));rw[← Pa] at Tk;have Qv:(List.map aB (List.take j t)).length=j:=by simp;omega
   have VG:=fun ρ=>ay ρ _ Tk;have rU:=fun ρ=>ay ρ _ Oj;have rC:=fun ρ=>ay ρ _ Ox;have rS:=fun ρ=>ay ρ _ tS;have hexj:=hex j x hx;generalize hR:List.map aB (List.take j t)=R at *;apply aL;simp[hC,OD];refine fh ?_;simp;apply eG;apply aY;simp[hC];refine dc (Qn j) hexj ?_;simp[hC,RI,jV,j7,Qv];apply aY;simp[hC,wj];refine⟨sm.length-(j+1),by omega,?_⟩;refine aa.le (Le.norm [10,9,5,4,3,2] [(4,2),(1,1),(0,0)] 0 3 Pn Pk yCl yA) ?_;simp[cT,cc,bV,dT,fc,assoc,VG,fy];refine aa.here ⟨j+1,rfl,by omega,?_⟩;simp[eY,bX,cD,ints,aQ,← Pa]
  ·have QG:j=sm.length:=by omega
   subst QG;apply aL;simp[hC];refine aX ?_;simp;apply T.exit;simp;apply ai;simp[hC];apply T.ret;have On:List.take sm.length (t.map aB)=t.map aB:=List.take_of_length_le XU;rw[On];refine aa.le (Le.cV (o:=2) rfl (bq t)) ?_;apply aa.here;have Oa:t.length=sm.length:=by omega
   simp[Tryz.results40,On,Oa]
def J147 (a b:List (List Nat))(k:Nat)(s:St):Prop:=∃ j:Nat,k=a.length-j∧j≤a.length∧a.take j=b.take j∧s=⟨[(5,I j),(1,aQ b),(0,aQ a)],[],0⟩
theorem B1 (a b:List (List Nat))(hl:a.length=b.length)(ha:a.length≤100000)(hr:∀ r∈a,r.length≤100000):ae Tryz.prog 41 [aQ a,aQ b] (.bool (decide (a=b))):=by
 refine ae.aH af Tryz.func41 rfl N4 (by simp[Tryz.ntmps41]) rfl fun C hC N8=>?_;rw[Tryz.ntmps41] at hC;have ta:=bq a;have tb:=bq b;simp only[aQ];apply ai;simp[hC];apply aL;simp[hC];refine T.cond (b:=false) (by simp[ev,assoc,hl]) (T.skip ?_);simp;apply aL;simp[hC];apply T.block;refine T.aI (J147 a b) (n:=a.length) ?_ ?_
 ·refine aa.trim [5,1,0] [] 0 QA yA ⟨0,by omega,by omega,by simp,?_⟩;simp[aQ]
 ·rintro k s ⟨j,rfl,hj,On,rfl⟩;simp only[aQ];by_cases OD:j<a.length
  ·obtain⟨x,hx⟩:∃ x,a[j]? = some x:=⟨_,List.getElem?_eq_getElem OD⟩;obtain⟨y,hy⟩:∃ y,b[j]? = some y:=⟨_,List.getElem?_eq_getElem yA⟩;have hjb:j<b.length:=by omega
   have Uy:=fe aB hx;have hdy:=fe aB hy;have O1:=sB x y (by have:=hr x (List.mem_of_getElem? hx);omega);have Oz:trees [aB x,aB y]=true:=by simp only[trees,aE,Bool.and_self]
   have wj:=cf ((j:Int)+1) yA yA;apply aL;simp[hC,OD];refine fh ?_;simp;apply eG;refine T.seq (T.rx af follows [0,1,2,3,4,5,6,7,8,9] [] N4 ?_);simp[hC,OD,hjb,Uy,hdy];refine RX.call rfl rfl rfl rfl rfl Oz O1 ?_;simp;by_cases Q0:x=y
   ·refine T.cond (b:=false) (by simp[ev,assoc,Q0]) (T.skip ?_);simp;apply aY;simp[hC,wj];refine⟨a.length-(j+1),by omega,aa.trim [5,1,0] [] 0 QA yA ⟨j+1,rfl,by omega,?_,?_⟩⟩
    ·rw[List.take_add_one,List.take_add_one,hx,hy,On,Q0]
    ·simp[aQ]
   ·have Tv:¬ a=b:=fun h=>by
     subst h;rw[hx] at hy;cases hy;exact Q0 rfl
    refine T.cond (b:=true) (by simp[ev,assoc,Q0]) ?_;simp;apply ai;simp[hC];apply T.ret;apply aa.here;simp[Tryz.results41,Tv]
  ·have QG:j=a.length:=by omega
   have Tv:a=b:=by
    rw[QG,List.take_length,hl,List.take_length] at On;exact On
   subst QG;apply aL;simp[hC];refine aX ?_;simp;apply T.exit;simp;apply ai;simp[hC];apply T.ret;apply aa.here;simp[Tryz.results41,Tv]
def J77 (u:Un)(m L:Nat)(k:Nat)(s:St):Prop:=∃ t:List (List Nat),k=9*(L+1)*(ak u).is.length-dz t∧FH u (ak u) m L t∧s=⟨[(7,aQ t),(4,.aq 1 0),(3,.aq 0 0),(2,I m)],eY u,2⟩
theorem B5 {u:Un}(hu:im u){m:Nat}{xm:Mx}(hm:u.ms[m]? = some xm):ae Tryz.prog 16 [cK u,eP (ak u),I m] (aQ (oH u (ak u) m (aG xm))):=by
 obtain⟨Og,XL⟩:=ju hu;have h8:=jy xm;have UX:=EM hu hm;have h0:=FH.start (u:=u) (c:=ak u) (m:=m) (L:=aG xm);have Oj:=aP u;have Ox:=bL (ak u);have Oz:trees [cK u,eP (ak u),I m]=true:=by simp only[trees,tree,cK,eP,aP,bL,Bool.and_self]
 have Ua:∀ t,trees [cK u,eP (ak u),I m,aQ t]=true:=fun t=>by simp only[trees,tree,cK,eP,aP,bL,dB,Bool.and_self]
 have YK:=fun t (ht:FH u (ak u) m (aG xm) t)=>ED hu hm ht.wf;refine ae.aH af Tryz.func16 rfl N4 (by simp[Tryz.ntmps16]) (dB _) fun C hC N8=>?_;rw[Tryz.ntmps16] at hC;generalize List.replicate (ak u).is.length (sS (aG xm))=t0 at *;simp only[cK,eP,bX,cD,ints,aQ] at Oj Ox Ua Oz UX YK ⊢;apply ai;simp[hC];apply ai;simp[hC];refine dc Oz UX ?_;simp[hC];have tT:=bq t0;apply T.block;refine T.aI (J77 u m (aG xm)) (n:=9*(aG xm+1)*(ak u).is.length-dz t0) ?_ ?_
 ·refine aa.trim [7,4,3,2] [1,0] 2 Xn yA ⟨t0,rfl,h0,?_⟩;simp[eY,bX,cD,ints,aQ]
 ·clear tT h0 UX;clear t0;rintro k s ⟨t,rfl,h0,rfl⟩;have tT:=bq t;obtain⟨k1,k2,k3⟩:=h0.round h8;have hr:=YK t h0;have O5:=zP u (ak u) m (aG xm) t;have O1:=B1 t (l9 u (ak u) m (aG xm) t) (by rw[h0.wf.len,O5]) (by rw[h0.wf.len];omega) (fun r hr=>by have:=(h0.wf.row r hr).len;omega);have RP:trees [aQ t,aQ (l9 u (ak u) m (aG xm) t)]=true:=by simp only[trees,dB,Bool.and_self]
  have Qd:=qN _ k1.wf.row;rw[O5] at Qd;generalize l9 u (ak u) m (aG xm) t=t2 at *;have tT2:=bq t2;simp only[eY,bX,cD,ints,aQ] at O1 RP ⊢;apply T.block;apply ai;simp[hC];refine dc (Ua t) hr ?_;simp[hC];apply aL;simp[hC];refine dc RP O1 ?_;simp;by_cases he:t=t2
  ·refine T.cond (b:=true) (by simp[ev,assoc,he]) ?_;simp;apply ai;simp[hC];apply T.ret;apply aa.here;simp[Tryz.results16,k3 he]
  ·refine T.cond (b:=false) (by simp[ev,assoc,he]) (T.skip ?_);simp;apply aY;simp[hC];have:=k2 he;refine⟨9*(aG xm+1)*(ak u).is.length-dz t2,by omega,aa.trim [7,4,3,2] [1,0] 2 Xn yA ⟨t2,rfl,k1,?_⟩⟩;simp[eY,bX,cD,ints,aQ]
end Go.Proofs.YtlkmbdfhdknlgaaGreatDoor
