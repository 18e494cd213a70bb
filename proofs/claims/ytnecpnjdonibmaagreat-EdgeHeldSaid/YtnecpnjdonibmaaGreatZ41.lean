/- The program's code, Change, Relation. -/
import Derived.Test.YtnecpnjdonibmaaGreatZ40
namespace Go.Proofs.YtnecpnjdonibmaaGreat
open Go.Can Go.aP
theorem AM {u:Un}(hu:iy u){x:Is}(hx:pE u x){k:Nat}{z:In}(hz:(au u x)[k]? = some z):af Tryz.prog 280 [df u,.agg (cO x),I k] (.agg (dt z)):=by
 obtain⟨pq,PA,OY,S0,Zl⟩:=oa hu hx hz;rw[OY] at hz;have PR:=(List.getElem?_eq_some_iff.1 PA).1;have PD:=(List.getElem?_eq_some_iff.1 hz).1;have OZ:=bQ (f:=lF) (n:=5) eZ PA 4 yA;have Qy:=aN (f:=dt) (n:=12) eK hz;have QO:=lQ z;have SP:=fW z;have Pa:=aT u;simp only[bY,ints] at Pa;obtain⟨xc,Qm,QB⟩:=iK z;obtain⟨c1,c2,c3,c4,c5,c6,c7,c8,c9,Wz,Wy,rfl⟩:=xY QB;rw[Qm] at Qy QO SP ⊢;simp only[List.all_cons,List.all_nil,Bool.and_true,Bool.and_eq_true] at QO;obtain⟨_,o1,o2,o3,o4,o5,o6,o7,o8,o9,Ym,Yl⟩:=QO;have QU:tree (.agg [I (mU z),c1,c2,c3,c4,c5,c6,c7,c8,c9,Wz,Wy])=true:=by simp only[tree,SP]
 refine af.aK ai Tryz.func280 rfl OV (by simp[Tryz.ntmps280]) QU fun C hC O0=>?_;rw[Tryz.ntmps280] at hC;simp only[df,bY,cO,ints];apply aq;simp[hC];apply aq;simp[hC,PR,OZ,lF,PD,Qy];apply T.ret;apply ae.here;simp[Tryz.results280]
set_option maxHeartbeats 2000000 in
theorem Cw {u:Un}(hu:iy u){x:Is}(hx:pE u x){k:Nat}{z:In}(hz:(au u x)[k]? = some z)(m:Nat):af Tryz.prog 275 [df u,.agg (cO x),I k,I m] (I (du x m z)):=by
 have SM:=AM hu hx hz;obtain⟨pq,PA,OY,S0,Zl⟩:=oa hu hx hz;have QO:=lQ z;have SP:=fW z;have Pa:=aT u;have ti:=bT x;obtain⟨xc,Qm,QB⟩:=iK z;obtain⟨c1,c2,c3,c4,c5,c6,c7,c8,c9,Wz,Wy,rfl⟩:=xY QB;rw[Qm] at QO SP SM;simp only[List.all_cons,List.all_nil,Bool.and_true,Bool.and_eq_true] at QO;obtain⟨_,o1,o2,o3,o4,o5,o6,o7,o8,o9,Ym,Yl⟩:=QO;have t2:trees [df u,.agg (cO x),I k]=true:=by simp only[trees,tree,df,Pa,ti,Bool.and_self]
 refine af.aK ai Tryz.func275 rfl OV (by simp[Tryz.ntmps275]) rfl fun C hC O0=>?_;rw[Tryz.ntmps275] at hC;simp only[df,bY,cO,ints] at SM t2 ⊢;apply aq;simp[hC];apply aq;simp[hC];refine dz t2 SM ?_;simp[hC];by_cases Zb:∃ un p,z=.lock un p
 ·obtain⟨un,p,rfl⟩:=Zb;have hp:pN p=[c7,c8,c9]:=by
   have h:=congrArg (fun l=>(l.drop 7).take 3) Qm
   simpa [dt,bR,pN] using h
  have YQ:JG u.ms u.gs.length pq.locals pq.bH p:=Zl;have hq:p.param=true→p.index<x.bH.length:=fun h=>by
   rw[S0];rcases YQ with h6 | h6
   ·exact h6.2.1
   ·rw[h] at h6;cases h6.1
  have Rj:=H4 x p hq;rw[hp] at Rj;have h2:trees [c7,c8,c9]=true:=by rw[← hp];exact jV p
  have tp:trees [.agg (cO x),.agg [c7,c8,c9]]=true:=by
   rw[show trees [.agg (cO x),.agg [c7,c8,c9]]=(trees (cO x) && (trees [c7,c8,c9] && true)) from rfl,bT,h2];rfl
  simp only[cO] at Rj tp
  cases un with
  | false=>
   have O8:mU (.lock false p)=4:=rfl;rw[O8];apply aO;simp[hC];refine TL.cm O5 rfl rfl rfl rfl (bN.of rfl tp Rj) (TL.go' ai ?_);by_cases Q8:oK x p=m
   ·have hc:du x m (.lock false p)=1:=by simp[du,Q8]
    rw[hc];simp[hC,Q8];refine gw ?_;simp;apply aO;simp[hC];refine fE ?_;simp;apply aq;simp[hC];apply T.ret;apply ae.here;simp[Tryz.results275]
   ·have hc:du x m (.lock false p)=0:=by simp[du,Q8]
    have W9:((oK x p:Int) != (m:Int))=true:=by rw[bne_iff_ne];omega
    rw[hc];simp[hC,W9];refine fE ?_;simp;apply aq;simp[hC];apply T.ret;apply ae.here;simp[Tryz.results275]
  | true=>
   have O8:mU (.lock true p)=5:=rfl;rw[O8];apply aO;simp[hC];refine TL.cm O5 rfl rfl rfl rfl (bN.of rfl tp Rj) (TL.go' ai ?_);by_cases Q8:oK x p=m
   ·have hc:du x m (.lock true p)=-1:=by simp[du,Q8]
    rw[hc];simp[hC,Q8];refine gw ?_;simp;apply aO;simp[hC];refine gw ?_;simp;apply aq;simp[hC];apply T.ret;apply ae.here;simp[Tryz.results275]
   ·have hc:du x m (.lock true p)=0:=by simp[du,Q8]
    have W9:((oK x p:Int) != (m:Int))=true:=by rw[bne_iff_ne];omega
    rw[hc];simp[hC,W9];refine fE ?_;simp;apply aq;simp[hC];apply T.ret;apply ae.here;simp[Tryz.results275]
 ·have Pt:(((mU z:Int) != 4)=true∧((mU z:Int) != 5)=true)∧du x m z=0:=by
   cases z with
   | lock un p=>exact (Zb ⟨un,p,rfl⟩).elim
   | call g t l ps=>cases g<;>exact⟨⟨rfl,rfl⟩,rfl⟩
   | _=>exact⟨⟨rfl,rfl⟩,rfl⟩
  obtain⟨⟨h4,h5⟩,hc⟩:=Pt;rw[hc];apply aO;simp[hC,h4,h5];refine fE ?_;simp;apply aq;simp[hC];apply T.ret;apply ae.here;simp[Tryz.results275]
theorem F6 (x:Is)(m:Nat)(z:In):du x m z=1∨du x m z=-1∨du x m z=0:=by
 have:=zQ x m z;omega
theorem Kj {u:Un}(hu:iy u){x:Is}(hx:pE u x){k:Nat}{z:In}(hz:(au u x)[k]? = some z){m:Nat}{xm:Mx}(hm:u.ms[m]? = some xm):af Tryz.prog 218 [df u,.agg (cO x),I k,I m] (az (kr (ay xm) (du x m z))):=by
 have RN:=Cw hu hx hz m;have PV:=uj xm;have P3:=(List.getElem?_eq_some_iff.1 hm).1;have Sc:=aN (f:=eJ) (n:=3) nU hm;have Pa:=aT u;have ti:=bT x;have t1:trees [.agg (eJ xm)]=true:=rfl;have t2:trees [df u,.agg (cO x),I k,I m]=true:=by simp only[trees,tree,df,Pa,ti,Bool.and_self]
 have t3:trees [I (ay xm)]=true:=rfl;refine af.aK ai Tryz.func218 rfl OV (by simp[Tryz.ntmps218]) (aD _) fun C hC O0=>?_;rw[Tryz.ntmps218] at hC;simp only[df,bY,cO,ints] at RN t2 ⊢;simp only[eJ] at PV t1;apply aq;simp[hC];apply aq;simp[hC,P3,Sc,eJ];refine dz t1 PV ?_;simp[hC];apply aO;simp[hC];refine dz t2 RN ?_;rcases F6 x m z with hc | hc | hc
 ·have Uy:=up_ok (ay xm) (dD xm);simp only[hc] at RN ⊢;simp;apply T.block;apply aq;simp[hC];refine fE ?_;simp;apply aq;simp[hC];refine dz t3 Uy ?_;simp[hC];apply T.ret;apply ae.here;simp[Tryz.results218]
 ·have hdn:=KW (ay xm) (dD xm);simp only[hc] at RN ⊢;simp;apply T.block;apply aq;simp[hC];refine a7 ?_;simp;apply aq;simp[hC];refine fE ?_;simp;apply aq;simp[hC];refine dz t3 hdn ?_;simp[hC];apply T.ret;apply ae.here;simp[Tryz.results218]
 ·have Zm:=Bf (ay xm) (dD xm);simp only[hc] at RN ⊢;simp;apply T.block;apply aq;simp[hC];refine a7 ?_;simp;apply aq;simp[hC];refine gw ?_;simp;apply aq;simp[hC];refine dz t3 Zm ?_;simp[hC];apply T.ret;apply ae.here;simp[Tryz.results218]
theorem GU (g p:Nat):gh [p] g=if g=p then [g] else [min g p,max g p]:=by
 unfold gh cD;by_cases h:g=p
 ·simp[h]
 ·rw[if_neg h];by_cases h2:p<g
  ·simp[h,h2];omega
  ·simp[h,h2];omega
theorem Hx {u:Un}(hu:iy u){x:Is}(hx:pE u x){k:Nat}{z:In}(hz:(au u x)[k]? = some z)(hk:k≤1000000):af Tryz.prog 131 [df u,.agg (cO x),I k] (az (eM z k)):=by
 obtain⟨pq,PA,OY,S0,Zl⟩:=oa hu hx hz;rw[OY] at hz;have PR:=(List.getElem?_eq_some_iff.1 PA).1;have PD:=(List.getElem?_eq_some_iff.1 hz).1;have OZ:=bQ (f:=lF) (n:=5) eZ PA 4 yA;have Qy:=aN (f:=dt) (n:=12) eK hz;have QO:=lQ z;have SP:=fW z;have Pa:=aT u;have wk:=cC ((k:Int)+1) yA yA;simp only[bY,ints] at Pa;obtain⟨xc,Qm,QB⟩:=iK z;obtain⟨c1,c2,c3,c4,c5,c6,c7,c8,c9,Wz,Wy,rfl⟩:=xY QB;rw[Qm] at Qy QO SP;simp only[List.all_cons,List.all_nil,Bool.and_true,Bool.and_eq_true] at QO;obtain⟨_,o1,o2,o3,o4,o5,o6,o7,o8,o9,Ym,Yl⟩:=QO;refine af.aK ai Tryz.func131 rfl OV (by simp[Tryz.ntmps131]) (aD _) fun C hC O0=>?_;rw[Tryz.ntmps131] at hC;simp only[df,bY,cO,ints];apply aq;simp[hC];apply aq;simp[hC,PR,OZ,lF,PD,Qy];apply aO;simp[hC];apply T.block
 cases z with
 | ret=>
  have O8:mU In.ret=8:=rfl;rw[O8];apply aq;simp[hC];refine fE ?_;simp;apply aq;simp[hC];apply T.ret;simp;refine ae.le (Le.trim [6] [] 0 OU yA) ?_;simp;refine ae.le (Le.nz [6] []) ?_;apply ae.here;simp[eM,az]
 | jump g=>
  have O8:mU (In.jump g)=7:=rfl;have T0:c1=I g:=by
   have h:=congrArg (fun l=>l.drop 1) Qm;simp[dt] at h;exact h.1.symm
  subst T0;rw[O8];apply aq;simp[hC];refine a7 ?_;simp;apply aq;simp[hC];refine fE ?_;simp;apply aq;simp[hC];apply T.ret;simp;refine ae.le (Le.trim [6] [3] 4 OU yA) ?_;simp;refine ae.le (Le.dp (o:=3) rfl rfl) ?_;apply ae.here;simp[eM,az]
 | branch g e=>
  have O8:mU (In.branch g e)=6:=rfl;have T0:c1=I g:=by
   have h:=congrArg (fun l=>l.drop 1) Qm;simp[dt] at h;exact h.1.symm
  subst T0;have hw:=Ax [k+1] g OU;have Qa:eM (In.branch g e) k=gh [k+1] g:=by rw[GU];rfl
  have O3:trees [az [k+1],I g]=true:=rfl;rw[Qa,O8];apply aq;simp[hC];refine a7 ?_;simp;apply aq;simp[hC];refine a7 ?_;simp;apply aq;simp[hC];refine fE ?_;simp;apply aq;simp[hC,wk];refine TL.le (Le.dp (o:=3) rfl rfl) ?_;simp;refine dz O3 hw ?_;simp[hC];apply T.ret;simp;refine ae.le (Le.trim [6] [] 0 (by simp[az]) yA) ?_;simp;apply ae.here;simp
 | set t gl e=>
  rw[show mU (In.set t gl e)=1 from rfl];apply aq;simp[hC];refine a7 ?_;simp;apply aq;simp[hC];refine a7 ?_;simp;apply aq;simp[hC];refine gw ?_;simp;apply aq;simp[hC,wk];apply T.ret;refine ae.le (Le.trim [6] [3] 4 OU yA) ?_;simp;refine ae.le (Le.dp (o:=3) rfl rfl) ?_;apply ae.here;simp[eM,az]
 | call g t l ps=>
  cases g with
  | true=>
   rw[show mU (In.call true t l ps)=3 from rfl];apply aq;simp[hC];refine a7 ?_;simp;apply aq;simp[hC];refine a7 ?_;simp;apply aq;simp[hC];refine gw ?_;simp;apply aq;simp[hC,wk];apply T.ret;refine ae.le (Le.trim [6] [3] 4 OU yA) ?_;simp;refine ae.le (Le.dp (o:=3) rfl rfl) ?_;apply ae.here;simp[eM,az]
  | false=>
   rw[show mU (In.call false t l ps)=2 from rfl];apply aq;simp[hC];refine a7 ?_;simp;apply aq;simp[hC];refine a7 ?_;simp;apply aq;simp[hC];refine gw ?_;simp;apply aq;simp[hC,wk];apply T.ret;refine ae.le (Le.trim [6] [3] 4 OU yA) ?_;simp;refine ae.le (Le.dp (o:=3) rfl rfl) ?_;apply ae.here;simp[eM,az]
 | lock un p=>
  cases un with
  | true=>
   rw[show mU (In.lock true p)=5 from rfl];apply aq;simp[hC];refine a7 ?_;simp;apply aq;simp[hC];refine a7 ?_;simp;apply aq;simp[hC];refine gw ?_;simp;apply aq;simp[hC,wk];apply T.ret;refine ae.le (Le.trim [6] [3] 4 OU yA) ?_;simp;refine ae.le (Le.dp (o:=3) rfl rfl) ?_;apply ae.here;simp[eM,az]
  | false=>
   rw[show mU (In.lock false p)=4 from rfl];apply aq;simp[hC];refine a7 ?_;simp;apply aq;simp[hC];refine a7 ?_;simp;apply aq;simp[hC];refine gw ?_;simp;apply aq;simp[hC,wk];apply T.ret;refine ae.le (Le.trim [6] [3] 4 OU yA) ?_;simp;refine ae.le (Le.dp (o:=3) rfl rfl) ?_;apply ae.here;simp[eM,az]
def aF (t:List (List Nat)):CV:=.aA (t.map az) t.length
theorem aJ:∀ t:List (List Nat),trees (t.map az)=true
 | []=>rfl
 | r::t=>by
  have h:tree (az r)=true:=aD r;have:=aJ t;simp only[List.map_cons,trees,h,this,Bool.and_self]
theorem cg (t:List (List Nat)):tree (aF t)=true:=by simp only[aF,tree]
theorem yQ {t:List (List Nat)}{p:Nat}(r:List Nat)(h:p<t.length):List.take p (t.map az)++az r::List.drop (p+1) (t.map az)=(t.set p r).map az:=by
 rw[List.map_set,List.set_eq_take_append_cons_drop,if_pos RC]
theorem dX {α:Type}(f:α→CV){l:List α}{i:Nat}{a:α}(h:l[i]? = some a):(l.map f).drop i=f a::(l.drop (i+1)).map f:=by
 obtain⟨hl,rfl⟩:=List.getElem?_eq_some_iff.1 h;rw[← List.map_drop,List.drop_eq_getElem_cons hl,List.map_cons]
theorem qB {u:Un}(hu:iy u){i:Nat}{x:Is}(hx:(aj u).is[i]? = some x){pc:Nat}{z:In}(hz:(au u x)[pc]? = some z)(hc:eF z=true):∃ row:List Int,(aj u).calls[i]? = some row∧row[pc]? = some ((dH (aj u) i pc:Nat):Int)∧dH (aj u) i pc<(aj u).is.length:=by
 obtain⟨h1,h2⟩:=zr hu hx hz hc
 cases hr:(aj u).calls[i]? with
 | none=>rw[List.getD_eq_getElem?_getD,List.getD_eq_getElem?_getD,hr] at h2;simp at h2
 | some row=>
  rw[List.getD_eq_getElem?_getD,List.getD_eq_getElem?_getD,hr] at h2;simp only[Option.getD_some] at h2
  cases hp:row[pc]? with
  | none=>rw[hp] at h2;simp at h2
  | some n=>
   rw[hp] at h2;exact⟨row,rfl,by rw[hp,← h2];rfl,h1⟩
theorem qu (z:In):((mU z:Int) == 2)=eF z:=by
 cases z with
 | call g _ _ _=>cases g<;>rfl
 | lock g _=>cases g<;>rfl
 | _=>rfl
theorem Lt (l:List Nat):az l=ints (l.map fun n:Nat=>(n:Int)):=by
 simp only[az,ints,List.map_map,List.length_map];rfl
theorem kF (a b:List Nat)(ha:a.length≤4611686018427387904):af Tryz.prog 40 [az a,az b] (.bool (decide (a=b))):=by
 have h:=nH (a.map fun n:Nat=>(n:Int)) (b.map fun n:Nat=>(n:Int)) (by rw[List.length_map];exact ha);rw[← Lt,← Lt] at h;have e:decide ((a.map fun n:Nat=>(n:Int))=b.map fun n:Nat=>(n:Int))=decide (a=b):=by
  refine decide_eq_decide.2 ⟨fun he=>?_,fun he=>by rw[he]⟩;have h2:=congrArg (List.map Int.toNat) he;rw[List.map_map,List.map_map] at h2;have e2:Int.toNat∘(fun n:Nat=>(n:Int))=id:=funext fun n=>by simp
  rw[e2,List.map_id,List.map_id] at h2;exact h2
 rwa [e] at h
theorem fx {L:Nat}(h8:L≤8){r:List Nat}(h:qc L r):∀ s∈r,s<2 ^ 63:=fun s hs=>by
 have h1:=h.lt s hs;have h2:2 ^ (L+1)≤2 ^ 9:=Nat.pow_le_pow_right yA yA;have h3:(2:Nat) ^ 9<2 ^ 63:=by decide
 exact Nat.lt_of_lt_of_le h1 (Nat.le_trans h2 (Nat.le_of_lt h3))
theorem bJ (c:Cl):trees (cN c)=true:=by
 simp only[cN,trees,tree,aD,Bool.and_self]
theorem dV {c:CV}(h:tree c=true):∀ n:Nat,trees (List.replicate n c)=true
 | 0=>rfl
 | n+1=>by simp only[List.replicate_succ,trees,h,dV h n,Bool.and_self]
theorem s7 {u:Un}(hu:iy u){i:Nat}{x:Is}(hx:(aj u).is[i]? = some x):pE u x:=Je hu x (List.mem_of_getElem? hx)
theorem dB (o:Nat)(cs:List CV)(n:Nat)(l:List Nat):cH o cs n (az l)=az l:=rfl
theorem e9 (l:List Nat):dP (az l)=false:=rfl
theorem fc (l:List Nat):(az l).cells=[az l]:=rfl
theorem nS (L:Nat):CV.aA (List.replicate (L+1) (CV.int IntKind.i64 0)) (L+1)=az (kS L):=by simp[az,kS]
theorem y8 {j n:Nat}(Z N:CV)(h:j<n):List.replicate j Z++Z::List.drop (j+1) (List.replicate j Z++List.replicate (n-j) N)=List.replicate (j+1) Z++List.replicate (n-(j+1)) N:=by
 have h1:List.drop (j+1) (List.replicate j Z++List.replicate (n-j) N)=List.replicate (n-(j+1)) N:=by
  rw[List.drop_append,List.length_replicate,List.drop_replicate,List.drop_replicate];have e1:j-(j+1)=0:=by omega
  have e2:n-j-(j+1-j)=n-(j+1):=by omega
  rw[e1,e2];rfl
 rw[h1,List.replicate_succ',List.append_assoc];rfl
def lq (u:Un)(x:Is)(t:List CV):List (Nat×Ob):=[(3,⟨22,1,t⟩),(2,⟨90,0,cO x⟩),(1,⟨34,0,cN (aj u)⟩),(0,⟨30,0,bY u⟩)]
def lx (n m i:Nat)(sm:List (List Nat)):List (Nat×CV):=[(13,.bl 3 0 n),(11,.ax 2 0),(6,.ax 1 0),(5,.ax 0 0),(4,I i),(3,aF sm),(2,I m)]
def J79a (u:Un)(x:Is)(n m i L:Nat)(sm:List (List Nat))(k:Nat)(s:St):Prop:=∃ j:Nat,k=n-j∧j≤n∧s=⟨(14,I j)::(12,I L)::lx n m i sm,lq u x (List.replicate j (az (kS L))++List.replicate (n-j) .aa),4⟩
theorem sw_at {u:Un}{c:Cl}{L m i:Nat}{x:Is}{sm:List (List Nat)}(H:InH u c L i x sm){t0:List (List Nat)}(h0:z9 u c L m i x sm t0){pc:Nat}{z:In}(hz:(au u x)[pc]? = some z) :
  qb L (au u x).length (jx u c L m i x sm t0 pc).1∧qc L ((jx u c L m i x sm t0 pc).1.getD pc [])∧qc L (fC c L m sm i x z pc)∧qc L (nr ((jx u c L m i x sm t0 pc).1.getD pc []) (fC c L m sm i x z pc))∧
  (∀ j,j≤(eM z pc).length→qb L (au u x).length (sK (nr ((jx u c L m i x sm t0 pc).1.getD pc []) (fC c L m sm i x z pc)) ((eM z pc).take j) (jx u c L m i x sm t0 pc)).1)∧
  jx u c L m i x sm t0 (pc+1)=sK (nr ((jx u c L m i x sm t0 pc).1.getD pc []) (fC c L m sm i x z pc)) (eM z pc) (jx u c L m i x sm t0 pc):=by
 have hk:=(List.getElem?_eq_some_iff.1 hz).1;obtain⟨hI,hd⟩:=yU H h0 pc yA;obtain⟨w,g⟩:=vI H hI.A.wf hk;have Pw:=kD H (m:=m) hz;have ha:=pZ w Pw;refine⟨hI.A.wf,w,Pw,ha,fun j hj=>?_,by simp only[Go.aP.jx,hz]⟩;exact (Hb H ha hI (eM z pc) (fun q hq=>⟨H.nx pc z hz q hq,fun d e hb=>by
   obtain⟨y,y1,y2⟩:=(oQ _ _ d e).1 hb;exact tY H hz hq (hI.A.sound pc d y y1) y2⟩) j hj).1.A.wf
theorem DY (z:In)(pc:Nat):(eM z pc).length≤2:=by
 cases z<;>simp[eM];split<;>simp
noncomputable def BX (u:Un) (m i L:Nat) (x:Is) (sm:List (List Nat)):List (List Nat):=qh L (au u x).length (Ri u (aj u) m L (xv sm) i)
def J79b (u:Un)(x:Is)(n m i L:Nat)(sm:List (List Nat))(k:Nat)(s:St):Prop:=∃ (t:List (List Nat)) (ag:Bool),k=(9*(L+1)*n-cL t)+(if ag=true then 1 else 0)∧z9 u (aj u) L m i x sm t∧(ag=false→t=BX u m i L x sm)∧s=⟨(15,.bool ag)::lx n m i sm,lq u x (t.map az),4⟩
def J79c (u:Un)(x:Is)(n m i L:Nat)(sm t0:List (List Nat))(k:Nat)(s:St):Prop:=∃ pc:Nat,k=n-pc∧pc≤n∧s=⟨(16,I pc)::(15,.bool (jx u (aj u) L m i x sm t0 pc).2)::lx n m i sm,lq u x ((jx u (aj u) L m i x sm t0 pc).1.map az),4⟩
def J79d (u:Un)(x:Is)(n m i:Nat)(sm:List (List Nat))(S:List (List Nat)×Bool)(a nx:List Nat)(pc:Nat)(k:Nat)(s:St):Prop:=∃ j:Nat,k=nx.length-j∧j≤nx.length∧s=⟨(20,I j)::(19,az nx)::(18,az a)::(16,I pc)::(15,.bool (sK a (nx.take j) S).2)::lx n m i sm,lq u x ((sK a (nx.take j) S).1.map az),4⟩
theorem rQ {u:Un}(hu:iy u){i:Nat}{x:Is}(hx:(aj u).is[i]? = some x){m:Nat}{xm:Mx}(hm:u.ms[m]? = some xm){sm:List (List Nat)}(hs:qb (ay xm) (aj u).is.length sm):af Tryz.prog 79 [df u,eQ (aj u),I m,aF sm,I i] (aF (BX u m i (ay xm) x sm)):=by
 have hv:=s7 hu hx;have h8:=dD xm;have H:=DC hu h8 hx hs;have PV:=uh xm;have VJ:=xz (ay xm) 0 h8 yA yA;obtain⟨pq,PA,OY⟩:=jO hv;have O7:=fo hu x;have OX:=(List.getElem?_eq_some_iff.1 hx).1;have P3:=(List.getElem?_eq_some_iff.1 hm).1;have PR:=(List.getElem?_eq_some_iff.1 PA).1;have Sc:=aN (f:=eJ) (n:=3) nU hm;have Sd:=aN (f:=cO) (n:=2) fa hx;have OZ:=bQ (f:=lF) (n:=5) eZ PA 4 yA;have t1:trees [.agg (eJ xm)]=true:=rfl;have bd:24*((au u x).length:Int)≤281474976710656∧((au u x).length:Int)≤9223372036854775807:=by omega
 have SQ:=cC ((ay xm:Int)+1) yA yA;have T7:(0≤(ay xm:Int)+1∧8*((ay xm:Int)+1)≤281474976710656∧(ay xm:Int)+1≤9223372036854775807):=by omega
 refine af.aK ai Tryz.func79 rfl OV (by simp[Tryz.ntmps79]) (cg _) fun C hC O0=>?_;rw[Tryz.ntmps79] at hC;simp only[eJ] at PV t1;rw[OY] at O7 bd;simp only[df,eQ,aF];apply aq;simp[hC];simp[bY,cN,ints];apply aq;simp[hC,OX,Sd,cO];apply aq;simp[hC,P3,Sc,eJ];refine dz t1 PV ?_;simp[hC];apply aq;simp[hC,PR,OZ,lF,bd];apply aO;simp[hC];apply T.block;have Pa:=aT u;have Ph:=bJ (aj u);have Z4:=aJ sm;have To:=bT x;have tZ:trees (List.replicate (ay xm+1) (I 0))=true:=fU _;have R1:=fun j=>bC (List.replicate j (az (kS (ay xm)))) (List.replicate (pq.code.length-j) CV.aa);simp only[bY,cN,cO,ints] at Pa Ph To;refine T.aH (J79a u x pq.code.length m i (ay xm) sm) (n:=pq.code.length) ?_ ?_
 ·refine ae.trim [14,12,13,11,6,5,4,3,2] [3,2,1,0] 4 (by simp[-List.all_eq_true,ah Pa,ah Ph,ah To]) yA ⟨0,by omega,by omega,?_⟩;simp[lx,lq,bY,cN,cO,ints,aF]
 ·rintro n s ⟨j,rfl,hj,rfl⟩;simp only[lx,lq,bY,cN,cO,ints,aF];by_cases Pn:j<pq.code.length
  ·have Rk:1≤pq.code.length-j:=by omega
   have wj:=cC ((j:Int)+1) yA yA;apply aO;simp[hC,Pn];refine fB ?_;simp;apply ed;refine T.region (TL.some ai 5 ?_);simp[hC,SQ,T7];refine TL.le (Le.dp (o:=4) rfl tZ) ?_;simp;refine TL.go' ai ?_;simp[hC,Pn,Rk];apply aV;simp[hC,wj];simp only[dB];rw[nS,y8 _ _ Pn];have tF:=R1 (j+1);rw[dV (aD _),dV rfl] at tF;refine⟨pq.code.length-(j+1),by omega,?_⟩;refine ae.trim [14,12,13,11,6,5,4,3,2] [3,2,1,0] 4 (by simp[-List.all_eq_true,ah Pa,ah Ph,ah To,ah tF]) yA ⟨j+1,rfl,by omega,?_⟩;simp[lx,lq,bY,cN,cO,ints,aF]
  ·have Qh:j=pq.code.length:=by omega
   subst Qh;apply aO;simp[hC];refine a7 ?_;simp;apply T.exit;simp;have Rh:0<pq.code.length:=by have:=H.pos;rwa [OY] at this
   have O3:trees [I (ay xm),I 0]=true:=rfl;have Q7:az (kr (ay xm) 0)::List.replicate (pq.code.length-1) (az (kS (ay xm)))=((List.replicate pq.code.length (kS (ay xm))).set 0 (kr (ay xm) 0)).map az:=by
    obtain⟨n,hn⟩:∃ n,pq.code.length=n+1:=⟨pq.code.length-1,by omega⟩;rw[hn];simp[List.replicate_succ]
   apply aq;simp[hC];refine dz O3 VJ ?_;have UI:1≤pq.code.length:=Rh;simp[hC,Rh,e9,fc,UI];rw[Q7];clear R1 tZ;have h0:z9 u (aj u) (ay xm) m i x sm ((List.replicate pq.code.length (kS (ay xm))).set 0 (kr (ay xm) 0)):=by
    rw[← OY];exact z9.start H
   generalize (List.replicate pq.code.length (kS (ay xm))).set 0 (kr (ay xm) 0)=t0 at h0 ⊢;apply aO;simp[hC];apply T.block;refine T.aH (J79b u x pq.code.length m i (ay xm) sm) (n:=(9*((ay xm)+1)*pq.code.length-cL t0)+1) ?_ ?_
   ·have tT:=aJ t0;refine ae.trim [15,13,11,6,5,4,3,2] [3,2,1,0] 4 (by simp[-List.all_eq_true,ah Pa,ah Ph,ah To,ah tT]) yA ⟨t0,true,by simp,h0,(fun h=>by cases h),?_⟩;simp[lx,lq,bY,cN,cO,ints,aF]
   ·clear h0 Q7;clear t0;rintro n s ⟨t0,ag,rfl,h0,P9,rfl⟩;simp only[lx,lq,bY,cN,cO,ints,aF];have tT:=aJ t0;have hlen:t0.length=pq.code.length:=by rw[h0.wf.len,OY]
    cases ag with
    | false=>
     have Pq:=P9 rfl;apply aO;simp[hC];refine a7 ?_;simp;apply T.exit;simp;apply aq;simp[hC];apply T.ret;refine ae.le (Le.dp (o:=3) rfl tT) ?_;apply ae.here;have Pd:List.take t0.length (t0.map az)=t0.map az:=List.take_of_length_le XJ;rw[Pq] at Pd hlen;simp[Tryz.results79,Pq,← hlen,Pd]
    | true=>
     apply aO;simp[hC];refine fB ?_;simp;apply T.block;apply aq;simp[hC];apply aq;simp[hC];apply T.block;refine T.aH (J79c u x pq.code.length m i (ay xm) sm t0) (n:=pq.code.length) ?_ ?_
     ·refine ae.trim [16,15,13,11,6,5,4,3,2] [3,2,1,0] 4 (by simp[-List.all_eq_true,ah Pa,ah Ph,ah To,ah tT]) yA ⟨0,by omega,by omega,?_⟩;simp[lx,lq,bY,cN,cO,ints,aF,Go.aP.jx]
     ·rintro n s ⟨pc,rfl,mV,rfl⟩;simp only[lx,lq,bY,cN,cO,ints,aF];by_cases Rv:pc<pq.code.length
      ·obtain⟨z,hz⟩:∃ z,(au u x)[pc]? = some z:=⟨_,List.getElem?_eq_getElem (by rw[OY];exact Rv)⟩;obtain⟨w1,w2,w3,w4,w5,w6⟩:=sw_at H h0 hz;have Ts:=w1.len;obtain⟨VF,XU,_⟩:=w1.get (p:=pc) (by rw[OY];exact Rv);have hg:(Go.aP.jx u (aj u) (ay xm) m i x sm t0 pc).1.getD pc []=VF:=by rw[List.getD_eq_getElem?_getD,XU];rfl
       rw[hg] at w2 w4 w5 w6;rw[OY] at Ts;have tS:=aJ (Go.aP.jx u (aj u) (ay xm) m i x sm t0 pc).1;apply aO;simp[hC,Rv];refine fB ?_;simp;apply ed;have UG:=Ka hu hv hz hm;have Ro:trees [.agg (bY u),.agg (cO x),I pc,I m]=true:=by simp only[trees,tree,aT,bT,Bool.and_self]
       have PZ:=hz;rw[OY] at PZ;have Qy:=aN (f:=dt) (n:=12) eK PZ;obtain⟨xc,Qm,QB⟩:=iK z;rw[Qm] at Qy;have O8:=qu z;have tst:=aD (fC (aj u) (ay xm) m sm i x z pc);have YF:=fx h8 w3;have hst0:(fC (aj u) (ay xm) m sm i x z pc).length≤9:=by rw[w3.len];omega
       simp only[df,bY,cO,ints] at UG Ro;apply aq;simp[hC];refine dz Ro UG ?_;simp[hC];refine T.cut (fun s=>s=⟨(17,az (fC (aj u) (ay xm) m sm i x z pc))::(16,I pc)::(15,.bool (Go.aP.jx u (aj u) (ay xm) m i x sm t0 pc).2)::lx pq.code.length m i sm,lq u x ((Go.aP.jx u (aj u) (ay xm) m i x sm t0 pc).1.map az),4⟩) ?_ ?_
       ·apply aq;simp[hC,PR,OZ,lF,Rv,Qy];by_cases hc:eF z=true
        ·obtain⟨row,PQ,Px,TR⟩:=qB hu hx hz hc;have RZ:=dX ints PQ;have Ti:=dX wE Px;have SR:=(List.getElem?_eq_some_iff.1 PQ).1;have Qj:=(List.getElem?_eq_some_iff.1 Px).1;have VO:dH (aj u) i pc<sm.length:=by rw[hs.len];exact TR
         obtain⟨sk,VI⟩:∃ sk,sm[dH (aj u) i pc]? = some sk:=⟨_,List.getElem?_eq_getElem VO⟩;have hd3:=dX az VI;have S8:fC (aj u) (ay xm) m sm i x z pc=sk:=by rw[fC,if_pos hc,List.getD_eq_getElem?_getD,VI];rfl
         rw[hc] at O8;refine T.cond (b:=true) V8 ?_;simp;apply aV;simp[hC,RZ,Ti,SR,Qj,VO,hd3,ints];rw[S8] at tst ⊢;refine ae.trim [17,16,15,13,11,6,5,4,3,2] [3,2,1,0] 4 yCx yA ?_;simp[lx,lq,bY,cN,cO,ints,aF]
        ·have S8:fC (aj u) (ay xm) m sm i x z pc=kr (ay xm) (du x m z):=by rw[fC,if_neg hc]
         rw[Bool.not_eq_true] at hc;rw[hc] at O8;refine T.cond (b:=false) V8 (T.skip ?_);simp;rw[S8] at tst ⊢;refine ae.trim [17,16,15,13,11,6,5,4,3,2] [3,2,1,0] 4 yCx yA ?_;simp[lx,lq,bY,cN,cO,ints,aF]
       ·rintro s rfl;simp only[lx,lq,bY,cN,cO,ints,aF];have U2:=HG VF (fC (aj u) (ay xm) m sm i x z pc) (by rw[w2.len];omega) hst0 (fx h8 w2) YF;have Qa:=Hx hu hv hz yA;have Ut:trees [az VF,az (fC (aj u) (ay xm) m sm i x z pc)]=true:=by simp only[trees,aD,Bool.and_self]
        have Su:trees [.agg (bY u),.agg (cO x),I pc]=true:=by simp only[trees,tree,aT,bT,Bool.and_self]
        simp only[df,bY,cO,ints] at Qa Su;refine T.seq (T.rx ai follows [0,1,2,3,4,6,7,8,5,9,10,11] [(6,5),(7,5)] OV ?_);simp[hC,Rv,XU];refine RX.call rfl rfl rfl rfl rfl Ut U2 ?_;simp;refine RX.call rfl rfl rfl rfl rfl Su Qa ?_;simp;generalize hS:Go.aP.jx u (aj u) (ay xm) m i x sm t0 pc=S at *;generalize ha:nr VF (fC (aj u) (ay xm) m sm i x z pc)=a at *;have Qe:(eM z pc).length≤2:=DY z pc;apply aq;simp[hC];apply T.block;refine T.aH (J79d u x pq.code.length m i sm S a (eM z pc) pc) (n:=(eM z pc).length) ?_ ?_
        ·refine ae.trim [20,19,18,16,15,13,11,6,5,4,3,2] [3,2,1,0] 4 (by simp[-List.all_eq_true,ah Pa,ah Ph,ah To,ah tS,aW _ _ (aD _)]) yA ⟨0,by omega,by omega,?_⟩;simp[lx,lq,bY,cN,cO,ints,aF,sK]
        ·rintro n s ⟨j,rfl,hj,rfl⟩;simp only[lx,lq,bY,cN,cO,ints,aF];by_cases Pn:j<(eM z pc).length
         ·obtain⟨q,hq⟩:∃ q,(eM z pc)[j]? = some q:=⟨_,List.getElem?_eq_getElem Pn⟩;have WX:=cZ hq;have wS:=w5 j hj;have bq:sK a ((eM z pc).take (j+1)) S=(if rv a ((sK a ((eM z pc).take j) S).1.getD q [])=true then sK a ((eM z pc).take j) S else ((sK a ((eM z pc).take j) S).1.set q (iU ((sK a ((eM z pc).take j) S).1.getD q []) a),true)):=by
           rw[List.take_add_one,hq];exact yV a _ q S
          have QW:q<pq.code.length:=by rw[← OY];exact CF hu hv hz (List.mem_of_getElem? hq)
          obtain⟨rq,WU,wq⟩:=wS.get (p:=q) (by rw[OY];exact QW);have hgq:(sK a ((eM z pc).take j) S).1.getD q []=rq:=by rw[List.getD_eq_getElem?_getD,WU];rfl
          rw[hgq] at bq;have TP:=wS.len;rw[OY] at TP;have Uu:=aJ (sK a ((eM z pc).take j) S).1;generalize sK a ((eM z pc).take j) S=S2 at *;have Sw:=DJ rq a (by rw[wq.len];omega) (by rw[wq.len,w4.len]) (fx h8 wq) (fx h8 w4);have Yy:=Mj H (a:=a) (b:=rq) (by rw[wq.len,w4.len]);have Ss:trees [az rq,az a]=true:=by simp only[trees,aD,Bool.and_self]
          have wj:=cC ((j:Int)+1) yA yA;have O2:az (eM z pc)=CV.aA ((eM z pc).map fun n:Nat=>I n) (eM z pc).length:=rfl;simp only[O2];have tnx:=aC (eM z pc);have WW:q+1≤pq.code.length:=QW;apply aO;simp[hC,Pn];refine fB ?_;simp;apply ed;apply aq;simp[hC,Pn,WX,QW,WU];refine dz Ss Sw ?_;simp[hC];have PT:=kF (iU rq a) rq (by rw[(B9 wq w4).len];omega);have Us:trees [az (iU rq a),az rq]=true:=by simp only[trees,aD,Bool.and_self]
          apply aq;simp[hC,Pn,WX,QW,WU];refine dz Us PT ?_;simp[hC];by_cases Pj:rv a rq=true
          ·rw[if_pos Pj] at bq;have RP:=Yy.2 Pj;refine T.cond (b:=false) (by simp[ev,assoc,RP]) (T.skip ?_);simp;apply aV;simp[hC,wj];refine⟨(eM z pc).length-(j+1),by omega,ae.trim [20,19,18,16,15,13,11,6,5,4,3,2] [3,2,1,0] 4 (by simp[-List.all_eq_true,ah Pa,ah Ph,ah To,ah Uu,aW _ _ (aD _)]) yA ⟨j+1,rfl,by omega,?_⟩⟩;rw[bq];simp[lx,lq,bY,cN,cO,ints,aF,O2]
          ·rw[if_neg Pj] at bq;have RP:¬ iU rq a=rq:=fun h=>Pj (Yy.1 h);refine T.cond (b:=true) (by simp[ev,assoc,RP]) ?_;simp;apply aV;simp[hC,Pn,WX,QW,e9,fc,TP,WW];apply aV;simp[hC,wj];rw[yQ _ (show q<S2.1.length by omega)];generalize S2.1.set q (iU rq a)=t4 at *;have tS4:=aJ t4;refine⟨(eM z pc).length-(j+1),by omega,ae.trim [20,19,18,16,15,13,11,6,5,4,3,2] [3,2,1,0] 4 (by simp[-List.all_eq_true,ah Pa,ah Ph,ah To,ah tS4,aW _ _ (aD _)]) yA ⟨j+1,rfl,by omega,?_⟩⟩;rw[bq];simp[lx,lq,bY,cN,cO,ints,aF,O2]
         ·have Qh:j=(eM z pc).length:=by omega
          subst Qh;rw[List.take_length] at *;have O2:az (eM z pc)=CV.aA ((eM z pc).map fun n:Nat=>I n) (eM z pc).length:=rfl;simp only[O2];apply aO;simp[hC];refine a7 ?_;simp;apply T.exit;simp;have Sq:=cC ((pc:Int)+1) yA yA;have Uu:=aJ (sK a (eM z pc) S).1;apply aV;simp[hC,Sq];refine⟨pq.code.length-(pc+1),by omega,ae.trim [16,15,13,11,6,5,4,3,2] [3,2,1,0] 4 (by simp[-List.all_eq_true,ah Pa,ah Ph,ah To,ah Uu]) yA ⟨pc+1,rfl,by omega,?_⟩⟩;rw[w6];simp[lx,lq,bY,cN,cO,ints,aF]
      ·have Tc:pc=pq.code.length:=by omega
       subst Tc;have YU:(au u x).length=pq.code.length:=by rw[OY]
       obtain⟨S7,_⟩:=yU H h0 pq.code.length yA;have Wh:=JY H h0;rw[YU] at Wh;have Ts:=S7.A.wf.len;rw[YU] at Ts;have Uu:=aJ (Go.aP.jx u (aj u) (ay xm) m i x sm t0 pq.code.length).1;generalize Go.aP.jx u (aj u) (ay xm) m i x sm t0 pq.code.length=S at *;apply aO;simp[hC];refine a7 ?_;simp;apply T.exit;simp;have P4:=l8 S.1 S7.A.wf.row;rw[Ts] at P4;have Wu:=S7.le;refine⟨(9*(ay xm+1)*pq.code.length-cL S.1)+(if S.2=true then 1 else 0),?_,ae.trim [15,13,11,6,5,4,3,2] [3,2,1,0] 4 (by simp[-List.all_eq_true,ah Pa,ah Ph,ah To,ah Uu]) yA ⟨S.1,S.2,rfl,S7.A,fun h=>?_,?_⟩⟩
       ·cases h2:S.2 with
        | true=>have:=S7.lt h2;simp;omega
        | false=>simp;omega
       ·rw[S7.same h,Wh h,← OY];rfl
       ·simp[lx,lq,bY,cN,cO,ints,aF]
theorem Ij (g k:Nat):af Tryz.prog 348 [.agg [I g],I k] (az [g]):=by
 refine af.aK ai Tryz.func348 rfl OV (by simp[Tryz.ntmps348]) (aD _) fun C hC O0=>?_;rw[Tryz.ntmps348] at hC;apply aq;simp[hC];apply aq;simp[hC];apply T.ret;refine ae.le (Le.trim [4] [1] 2 OU yA) ?_;simp;refine ae.le (Le.dp (o:=1) rfl rfl) ?_;apply ae.here;simp[az]
theorem Jp (g k:Nat)(hk:k≤1000000):af Tryz.prog 349 [.agg [I g],I k] (az (if g=k+1 then [g] else [min g (k+1),max g (k+1)])):=by
 have wk:=cC ((k:Int)+1) yA yA;refine af.aK ai Tryz.func349 rfl OV (by simp[Tryz.ntmps349]) (aD _) fun C hC O0=>?_;rw[Tryz.ntmps349] at hC;apply aq;simp[hC];apply aO;simp[hC,wk];by_cases h:g=k+1
 ·subst h;simp;refine fE ?_;simp;apply aq;simp[hC];apply T.ret;simp;refine ae.le (Le.trim [4] [1] 2 OU yA) ?_;simp;refine ae.le (Le.dp (o:=1) rfl rfl) ?_;apply ae.here;simp[az]
 ·have Pf:(((g:Int) == (k:Int)+1))=false:=by rw[beq_eq_false_iff_ne];omega
  refine T.cond (b:=false) (by simp only[ev,assoc,Pf];rfl) (T.skip ?_);rw[if_neg h];have TV:(if (k:Int)+1<(g:Int) then (k:Int)+1 else (g:Int))=((min g (k+1):Nat):Int):=by split<;>omega
  have Y8:(if (g:Int)<(k:Int)+1 then (k:Int)+1 else (g:Int))=((max g (k+1):Nat):Int):=by split<;>omega
  generalize min g (k+1)=A at TV ⊢;generalize max g (k+1)=B at Y8 ⊢;simp;apply aq;simp[hC,wk,TV,Y8];apply T.ret;refine ae.le (Le.trim [4] [1] 2 OU yA) ?_;simp;refine ae.le (Le.dp (o:=1) rfl rfl) ?_;apply ae.here;simp[az]
theorem IW (k:Nat):af Tryz.prog 347 [.agg [],I k] (az []):=by
 refine af.aK ai Tryz.func347 rfl OV (by simp[Tryz.ntmps347]) (aD _) fun C hC O0=>?_;rw[Tryz.ntmps347] at hC;apply aq;simp[hC];apply aq;simp[hC];apply T.ret;refine ae.le (Le.trim [4] [] 0 OU yA) ?_;simp;refine ae.le (Le.nz [4] []) ?_;apply ae.here;simp[az]
theorem G5 (k:Nat)(hk:k≤1000000):af Tryz.prog 350 [.agg [],I k] (az [k+1]):=by
 have wk:=cC ((k:Int)+1) yA yA;refine af.aK ai Tryz.func350 rfl OV (by simp[Tryz.ntmps350]) (aD _) fun C hC O0=>?_;rw[Tryz.ntmps350] at hC;apply aq;simp[hC];apply aq;simp[hC,wk];apply T.ret;refine ae.le (Le.trim [4] [1] 2 OU yA) ?_;simp;refine ae.le (Le.dp (o:=1) rfl rfl) ?_;apply ae.here;simp[az]
def vP:In→CV
 | .ret=>.iface 373 [.agg []]
 | .jump g=>.iface 375 [.agg [I g]]
 | .branch g _=>.iface 376 [.agg [I g]]
 | _=>.iface 377 [.agg []]
set_option maxRecDepth 100000 in
theorem C3 (z:In):af Tryz.prog 279 [.agg (dt z)] (vP z):=by
 have QO:=lQ z;obtain⟨xc,Qm,QB⟩:=iK z;obtain⟨c1,c2,c3,c4,c5,c6,c7,c8,c9,Wz,Wy,rfl⟩:=xY QB;rw[Qm] at QO ⊢;simp only[List.all_cons,List.all_nil,Bool.and_true,Bool.and_eq_true] at QO;obtain⟨_,o1,o2,o3,o4,o5,o6,o7,o8,o9,Ym,Yl⟩:=QO;have QU:tree (vP z)=true:=by cases z<;>rfl
 refine af.aK ai Tryz.func279 rfl OV (by simp[Tryz.ntmps279]) QU fun C hC O0=>?_;rw[Tryz.ntmps279] at hC;apply aq;simp[hC]
 cases z with
 | ret=>
  rw[show mU In.ret=8 from rfl];apply aO;simp[hC];apply T.block;apply aq;simp[hC];refine fE ?_;simp;refine T.seq (T.region (TL.some ai 1 ?_));simp[hC];refine lW rfl (hZ (d:=.bw []) (c:=.agg []) ai O5 rfl OU rfl (fun h=>by cases h)) (TL.go' ai ?_);simp[hC];apply T.ret;simp;refine ae.le (Le.trim [2] [] 0 OU yA) ?_;simp;apply ae.here;simp[vP]
 | jump g=>
  have T0:c1=I g:=by
   have h:=congrArg (fun l=>l.drop 1) Qm;simp[dt] at h;exact h.1.symm
  subst T0;rw[show mU (In.jump g)=7 from rfl];apply aO;simp[hC];apply T.block;apply aq;simp[hC];refine a7 ?_;simp;apply aq;simp[hC];refine fE ?_;simp;refine T.seq (T.region (TL.some ai 3 ?_));simp[hC];refine lW rfl (hZ (d:=.bw [(0,3)]) (c:=.agg [I g]) ai O5 rfl OU rfl (fun h=>by cases h)) (TL.go' ai ?_);simp[hC];apply T.ret;simp;refine ae.le (Le.trim [2] [] 0 OU yA) ?_;simp;apply ae.here;simp[vP]
 | branch g e=>
  have T0:c1=I g:=by
   have h:=congrArg (fun l=>l.drop 1) Qm;simp[dt] at h;exact h.1.symm
  subst T0;rw[show mU (In.branch g e)=6 from rfl];apply aO;simp[hC];apply T.block;apply aq;simp[hC];refine a7 ?_;simp;apply aq;simp[hC];refine a7 ?_;simp;apply aq;simp[hC];refine fE ?_;simp;refine T.seq (T.region (TL.some ai 3 ?_));simp[hC];refine lW rfl (hZ (d:=.bw [(0,3)]) (c:=.agg [I g]) ai O5 rfl OU rfl (fun h=>by cases h)) (TL.go' ai ?_);simp[hC];apply T.ret;simp;refine ae.le (Le.trim [2] [] 0 OU yA) ?_;simp;apply ae.here;simp[vP]
 | set t gl e=>
  rw[show mU (In.set t gl e)=1 from rfl];apply aO;simp[hC];apply T.block;apply aq;simp[hC];refine a7 ?_;simp;apply aq;simp[hC];refine a7 ?_;simp;apply aq;simp[hC];refine gw ?_;simp;refine T.seq (T.region (TL.some ai 1 ?_));simp[hC];refine lW rfl (hZ (d:=.bw []) (c:=.agg []) ai O5 rfl OU rfl (fun h=>by cases h)) (TL.go' ai ?_);simp[hC];apply T.ret;refine ae.le (Le.trim [2] [] 0 OU yA) ?_;simp;apply ae.here;simp[vP]
 | call g t l ps=>
  cases g with
  | true=>
   rw[show mU (In.call true t l ps)=3 from rfl];apply aO;simp[hC];apply T.block;apply aq;simp[hC];refine a7 ?_;simp;apply aq;simp[hC];refine a7 ?_;simp;apply aq;simp[hC];refine gw ?_;simp;refine T.seq (T.region (TL.some ai 1 ?_));simp[hC];refine lW rfl (hZ (d:=.bw []) (c:=.agg []) ai O5 rfl OU rfl (fun h=>by cases h)) (TL.go' ai ?_);simp[hC];apply T.ret;refine ae.le (Le.trim [2] [] 0 OU yA) ?_;simp;apply ae.here;simp[vP]
  | false=>
   rw[show mU (In.call false t l ps)=2 from rfl];apply aO;simp[hC];apply T.block;apply aq;simp[hC];refine a7 ?_;simp;apply aq;simp[hC];refine a7 ?_;simp;apply aq;simp[hC];refine gw ?_;simp;refine T.seq (T.region (TL.some ai 1 ?_));simp[hC];refine lW rfl (hZ (d:=.bw []) (c:=.agg []) ai O5 rfl OU rfl (fun h=>by cases h)) (TL.go' ai ?_);simp[hC];apply T.ret;refine ae.le (Le.trim [2] [] 0 OU yA) ?_;simp;apply ae.here;simp[vP]
 | lock un p=>
  cases un with
  | true=>
   rw[show mU (In.lock true p)=5 from rfl];apply aO;simp[hC];apply T.block;apply aq;simp[hC];refine a7 ?_;simp;apply aq;simp[hC];refine a7 ?_;simp;apply aq;simp[hC];refine gw ?_;simp;refine T.seq (T.region (TL.some ai 1 ?_));simp[hC];refine lW rfl (hZ (d:=.bw []) (c:=.agg []) ai O5 rfl OU rfl (fun h=>by cases h)) (TL.go' ai ?_);simp[hC];apply T.ret;refine ae.le (Le.trim [2] [] 0 OU yA) ?_;simp;apply ae.here;simp[vP]
  | false=>
   rw[show mU (In.lock false p)=4 from rfl];apply aO;simp[hC];apply T.block;apply aq;simp[hC];refine a7 ?_;simp;apply aq;simp[hC];refine a7 ?_;simp;apply aq;simp[hC];refine gw ?_;simp;refine T.seq (T.region (TL.some ai 1 ?_));simp[hC];refine lW rfl (hZ (d:=.bw []) (c:=.agg []) ai O5 rfl OU rfl (fun h=>by cases h)) (TL.go' ai ?_);simp[hC];apply T.ret;refine ae.le (Le.trim [2] [] 0 OU yA) ?_;simp;apply ae.here;simp[vP]
def ctlM : jv := [((373, "lockorder/flow.next"), 347), ((375, "lockorder/flow.next"), 348), ((376, "lockorder/flow.next"), 349), ((377, "lockorder/flow.next"), 350)]
theorem K0:mP Tryz.prog ctlM:=pQ OV
theorem I5 (z : In) {k : Nat} (hk : k ≤ 1000000) : ∃ (t : Nat) (v : CV) (g : Nat), vP z = .iface t [v] ∧ xU ctlM t "lockorder/flow.next" = some g ∧ tree v = true ∧ af Tryz.prog g [v, I k] (az (eM z k)) := by
 cases z with
 | ret=>exact⟨_,_,_,rfl,by rfl,rfl,IW k⟩
 | jump g=>exact⟨_,_,_,rfl,by rfl,rfl,Ij g k⟩
 | branch g e=>exact⟨_,_,_,rfl,by rfl,rfl,Jp g k hk⟩
 | _=>exact⟨_,_,_,rfl,by rfl,rfl,G5 k hk⟩
theorem HL {u:Un}(hu:iy u){x:Is}(hx:pE u x){k:Nat}{z:In}(hz:(au u x)[k]? = some z)(hk:k≤1000000):af Tryz.prog 219 [df u,.agg (cO x),I k] (az (eM z k)):=by
 have SM:=AM hu hx hz;have hct:=C3 z;have Pa:=aT u;have ti:=bT x;have SP:=fW z;obtain⟨t,v,g,e1,e2,e3,e4⟩:=I5 z hk;have t2:trees [df u,.agg (cO x),I k]=true:=by simp only[trees,tree,df,Pa,ti,Bool.and_self]
 have t3:trees [.agg (dt z)]=true:=by simp only[trees,tree,SP,Bool.and_self]
 have t4:trees [v,I k]=true:=by simp only[trees,e3];rfl
 rw[e1] at hct;refine af.aK ai Tryz.func219 rfl OV (by simp[Tryz.ntmps219]) (aD _) fun C hC O0=>?_;rw[Tryz.ntmps219] at hC;simp only[df,bY,cO,ints] at SM t2 ⊢;apply aq;simp[hC];apply aq;simp[hC];refine dz t2 SM ?_;simp;refine dz t3 hct ?_;simp[hC];apply aq;simp[hC];refine Ls O5 rfl (pf.to K0 rfl (by simp[iN,ev,z8,assoc,e2]) e4.1) t4 e4 (TL.go' ai ?_);simp[hC];apply T.ret;apply ae.here;simp[Tryz.results219]
def pB (u:Un)(x:Is)(m i:Nat)(sm:List (List Nat)):List CV:=[.cG (bY u),.cG (cO x),.cG [aF sm],.cG (cN (aj u)),.cG [I i],.cG [I m]]
theorem sJ (u:Un)(x:Is)(m i:Nat)(sm:List (List Nat)):trees (pB u x m i sm)=true:=by
 simp only[pB,trees,tree,Bool.and_self]
theorem HK {u:Un}(hu:iy u){i:Nat}{x:Is}(hx:(aj u).is[i]? = some x){m:Nat}{xm:Mx}(hm:u.ms[m]? = some xm){sm:List (List Nat)}(hs:qb (ay xm) (aj u).is.length sm){pc:Nat}{z:In}(hz:(au u x)[pc]? = some z) :
  af Tryz.prog 294 (I pc::pB u x m i sm) (az (fC (aj u) (ay xm) m sm i x z pc)):=by
 have hv:=s7 hu hx;have h8:=dD xm;have UG:=Kj hu hv hz hm;obtain⟨pq,PA,OY⟩:=jO hv;have O7:=fo hu x;have PR:=(List.getElem?_eq_some_iff.1 PA).1;have OZ:=bQ (f:=lF) (n:=5) eZ PA 4 yA;have PZ:=hz;rw[OY] at PZ;have Rv:=(List.getElem?_eq_some_iff.1 PZ).1;have Qy:=aN (f:=dt) (n:=12) eK PZ;obtain⟨xc,Qm,QB⟩:=iK z;rw[Qm] at Qy;have O8:=qu z;have O3:trees [df u,.agg (cO x),I pc,I m]=true:=by simp only[trees,tree,df,aT,bT,Bool.and_self]
 refine af.aK ai Tryz.func294 rfl OV (by simp[Tryz.ntmps294,pB]) (aD _) fun C hC O0=>?_;rw[Tryz.ntmps294] at hC;simp only[pB,df,bY,cN,cO,ints,aF] at UG O3 ⊢;apply aq;simp[hC];apply aO;simp[hC,PR,OZ,lF,Rv,Qy]
 cases hc:eF z with
 | true=>
  obtain⟨row,PQ,Px,TR⟩:=qB hu hx hz hc;have RZ:=dX ints PQ;have Ti:=dX wE Px;have SR:=(List.getElem?_eq_some_iff.1 PQ).1;have Qj:=(List.getElem?_eq_some_iff.1 Px).1;have VO:dH (aj u) i pc<sm.length:=by rw[hs.len];exact TR
  obtain⟨sk,VI⟩:∃ sk,sm[dH (aj u) i pc]? = some sk:=⟨_,List.getElem?_eq_getElem VO⟩;have hd3:=dX az VI;have S8:fC (aj u) (ay xm) m sm i x z pc=sk:=by rw[fC,if_pos hc,List.getD_eq_getElem?_getD,VI];rfl
  rw[hc] at O8;refine T.cond (b:=true) V8 ?_;simp;refine T.seq (T.rx ai follows [0,1,2,3,4,5,6,7,8,9,10,11] [] OV ?_);simp[hC,RZ,Ti,SR,Qj,VO,hd3,ints];apply T.ret;apply ae.here;simp[Tryz.results294,S8]
 | false=>
  have S8:fC (aj u) (ay xm) m sm i x z pc=kr (ay xm) (du x m z):=by rw[fC,if_neg (by rw[hc];simp)]
  rw[hc] at O8;refine T.cond (b:=false) V8 (T.skip ?_);simp;apply aq;simp[hC];refine dz O3 UG ?_;simp[hC];apply T.ret;apply ae.here;simp[Tryz.results294,S8]
end Go.Proofs.YtnecpnjdonibmaaGreat
