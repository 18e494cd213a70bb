/- function. -/
import Derived.Test.YtlkmbdfhdknlgaaGreatDoorZ30
namespace Go.aN
open Go.Can
def LU (i j:Nat)(q:Pm):En:=if q.mutex=true then ⟨q.name,5,j⟩ else ⟨q.name,4,i⟩
theorem uM:∀ (a:List Pm) (q:Pm) (i j:Nat),kS i j (a++[q])=kS i j a++[LU (i+pI a) (j+pL a) q]
 | [],q,i,j=>by
  simp only[List.nil_append,kS,pI,pL,Nat.add_zero,LU];split<;>rfl
 | p::r,q,i,j=>by
  simp only[List.cons_append,kS,pI,pL];split
  ·rw[uM r q,List.cons_append];congr 3;simp only[LU];congr 2<;>omega
  ·rw[uM r q,List.cons_append];congr 3;simp only[LU];congr 2<;>omega
theorem Cg:∀ (a:List Pm) (q:Pm),pI (a++[q])=pI a+if q.mutex=true then 0 else 1
 | [],q=>by simp[pI]
 | p::r,q=>by simp only[List.cons_append,pI,Cg r q];omega
theorem Cf:∀ (a:List Pm) (q:Pm),pL (a++[q])=pL a+if q.mutex=true then 1 else 0
 | [],q=>by simp[pL]
 | p::r,q=>by simp only[List.cons_append,pL,Cf r q];omega
theorem zZ:∀ (l:List Pm) (i j:Nat),(kS i j l).length=l.length
 | [],_,_=>rfl
 | p::r,i,j=>by
  simp only[kS];split<;>simp[zZ r]
def mO (p:Pg)(f:Fu)(j:Nat):List En:=da p++kS 0 0 (f.params.take j)
theorem Fg (p:Pg)(f:Fu)(j:Nat)(q:Pm)(h:f.params[j]? = some q):mO p f (j+1)=mO p f j++[LU (pI (f.params.take j)) (pL (f.params.take j)) q]:=by
 have:f.params.take (j+1)=f.params.take j++[q]:=by rw[List.take_add_one,h];rfl
 simp only[mO,this,uM,Nat.zero_add,List.append_assoc]
theorem AE (p:Pg)(f:Fu)(j:Nat)(h:j≤f.params.length):(mO p f j).length=(da p).length+j:=by
 simp only[mO,List.length_append,zZ,List.length_take];omega
theorem HJ {p:Pg}(h:km p){f:Fu}(hf:f∈p.fs){j:Nat}{q:Pm}(hq:f.params[j]? = some q):iJ (mO p f j) q.name=none:=by
 obtain⟨_,_,_,d4⟩:=h.dec;obtain⟨_,_,a3,_⟩:=gE;obtain⟨_,_,_,s4⟩:=h.sub;obtain⟨_,_,_,n4⟩:=h.nd;have hm:=s4 f hf _ (List.mem_map_of_mem (f:=(·.name)) (List.mem_of_getElem? hq));have ha:=a3 _ hm;rw[mO,dy,d4 _ (by simp only[List.mem_append,not_or];exact⟨⟨ha.1,ha.2.1⟩,ha.2.2⟩)];simp only;rw[qz,pj];obtain⟨hl,O9⟩:=List.getElem?_eq_some_iff.1 hq;have e:f.params=f.params.take j++q::f.params.drop (j+1):=by rw[← O9,← List.drop_eq_getElem_cons hl,List.take_append_drop]
 have h2:((f.params.take j++q::f.params.drop (j+1)).map (·.name)).Nodup:=by rw[← e];exact n4 f hf
 rw[List.map_append,List.map_cons,List.nodup_append] at h2;exact fun hm=>h2.2.2 _ hm _ List.mem_cons_self rfl
end Go.aN
namespace Go.Proofs.YtlkmbdfhdknlgaaGreatDoor
open Go.Can Go.aN
def w9:Ob:=⟨123,0,[.str ⟨#[]⟩,I 0,I 0,I 0,.aj]⟩
def wQ (p:Pg)(n:Nat):Ob:=⟨178,0,[.az (p.gs.flatMap o0) p.gs.length,.az (p.ms.flatMap eM) p.ms.length,.az (p.fs.flatMap eZ) p.fs.length,.bp 3 0 n,I 0,I 0,I 0,I 0,.aj,.aj]⟩
def J60 (p:Pg)(f:Fu)(m:Nat)(s:St):Prop:=∃ j:Nat,m=f.params.length-j∧j≤f.params.length∧
 s=⟨[(12,I j),(11,.aq 4 0),(10,.aq 2 0),(6,.aq 1 0),(5,.aq 0 0)],
  [(0,⟨109,0,eZ f⟩),(1,w9),(2,wQ p (mO p f j).length),(3,ij (mO p f j)),(4,⟨123,0,[.str f.name,I (pI (f.params.take j)),I (pL (f.params.take j)),I 0,.aj]⟩)],5⟩
set_option maxHeartbeats 4000000 in
theorem AD (p:Pg)(h:km p)(hB:PgB p)(Tb:(da p).length≤3000)(f:Fu)(hf:f∈p.fs)(hw:bJ f.body≤1200)(Po:f.params.length≤100) :
  ae Tryz.prog 49 [xb p,.az ((da p).flatMap ic) (da p).length,.agg (eZ f)] (.dI [.agg (jS (mS p f)),.az ((iw f.body 0++[fb f.body]).map fun n:Nat=>I n) (iw f.body 0++[fb f.body]).length,I 0,I 0]):=by
 obtain⟨t1,t2,t3⟩:=iO p;have tE:=ck (da p);have f0:=aM (f:=ic) (n:=3) kB (da p);have bd0:(da p).length*32≤140737488355328:=by omega
 refine ae.aH af Tryz.func49 rfl N4 (by simp[Tryz.ntmps49]) rfl fun C hC N8=>?_;rw[Tryz.ntmps49] at hC;simp only[xb,eC,eZ];apply ai;simp[hC];apply T.seq;refine T.rx af follows [0,1,2,3,4,5,6] [(0,1),(0,3)] N4 ?_;simp[hC,f0,bd0,aS];apply ai;simp[hC];apply aL;simp[hC];apply T.block;refine T.aI (J60 p f) (n:=f.params.length) ?_ ?_
 ·refine aa.le (Le.norm [12,11,10,6,5] [(1,0),(2,1),(8,2),(10,3),(11,4)] 0 5 Pn Pk (by simp[cX,qx,ox,tree,assoc,-List.all_eq_true,-List.all_flatMap,aC tE]) yA) ?_;simp[cT,cc,bV,dT,fc,assoc,ay _ _ tE];refine aa.here ⟨0,by omega,by omega,?_⟩;simp[eZ,w9,wQ,ij,mO,kS,pI,pL]
 ·rintro n s ⟨j,rfl,hj,rfl⟩;by_cases N6:j<f.params.length
  ·obtain⟨q,hq⟩:∃ q,f.params[j]? = some q:=⟨f.params[j],List.getElem?_eq_getElem N6⟩;have Xd:=AE p f j hj;have Rz:=AI (mO p f j) q.name yA;rw[HJ h hf hq] at Rz;have N7:=aD (f:=kT) (n:=2) (fun _=>rfl) hq;have Pj:=a8 (f:=kT) (n:=2) (fun _=>rfl) hq 1 yA;have wi:=cf ((j:Int)+1) yA yA;have XE:=pIL (f.params.take j);rw[List.length_take] at XE;have hpi2:pI (f.params.take j)+pL (f.params.take j)≤100:=by omega
   have On:f.params.take (j+1)=f.params.take j++[q]:=by rw[List.take_add_one,hq];rfl
   have OV:=Fg p f j q hq;have f1:=aM (f:=ic) (n:=3) kB (mO p f j);have RO:((mO p f j).length+1)*32≤140737488355328:=by omega
   have tEj:=ck (mO p f j);simp only[eZ,wQ,w9];apply aL;simp[hC,N6];refine fh ?_;simp;apply eG;refine T.seq (T.seq ?_);refine T.rx af follows [0,1,2,3,4,5,6,7,8,9,14,10,11,12,13,15,16] [(3,14),(5,14),(9,14),(14,10)] N4 ?_;simp[hC,N6,N7,kT];refine RX.jj 0 3 [3] [] 1 (Rz) rfl N3 rfl rfl rfl N3 yA N3 N3 rfl N3 SP rfl N3 N3 N3 rfl N3 ?_;simp[qB];apply ai;simp[hC];refine dv ?_;simp;apply ai;simp[hC,N6,Pj,kT]
   cases hm:q.mutex with
   | true=>
    have wl:=cf ((pL (f.params.take j):Int)+1) yA yA;refine T.cond (b:=true) Vz ?_;simp;apply T.seq;refine T.rx af follows [0,1,2,3,4,5,6,7,8,9,10,11,12,13,14,15,16,17,18] [(4,14)] N4 ?_;simp[hC,N6,N7,kT,ij,f1,RO,aS];apply aY;simp[hC,wl];apply aY;simp[hC,wi];refine⟨f.params.length-(j+1),by omega,?_⟩;have tN:trees ((mO p f j).flatMap ic++[.str q.name,I 5,I (pL (f.params.take j))])=true:=by rw[aZ,ck];rfl
    have Oo:=aC tN;have Qi:=fun ρ=>ay ρ _ tN;refine aa.le (Le.norm [12,11,10,6,5] [(0,0),(1,1),(2,2),(41,3),(4,4)] 0 5 Pn Pk X3 yA) ?_;simp[cT,cc,bV,dT,fc,assoc,Qi];refine aa.here ⟨j+1,rfl,by omega,?_⟩;simp[eZ,w9,wQ,ij,OV,On,LU,hm,ic,Cg,Cf]
   | false=>
    have wl:=cf ((pI (f.params.take j):Int)+1) yA yA;refine T.cond (b:=false) Vz ?_;simp;apply T.seq;refine T.rx af follows [0,1,2,3,4,5,6,7,8,9,10,11,12,13,14,15,16,17,18] [(4,14)] N4 ?_;simp[hC,N6,N7,kT,ij,f1,RO,aS];apply aY;simp[hC,wl];apply aY;simp[hC,wi];refine⟨f.params.length-(j+1),by omega,?_⟩;have tN:trees ((mO p f j).flatMap ic++[.str q.name,I 4,I (pI (f.params.take j))])=true:=by rw[aZ,ck];rfl
    have Oo:=aC tN;have Qi:=fun ρ=>ay ρ _ tN;refine aa.le (Le.norm [12,11,10,6,5] [(0,0),(1,1),(2,2),(41,3),(4,4)] 0 5 Pn Pk X3 yA) ?_;simp[cT,cc,bV,dT,fc,assoc,Qi];refine aa.here ⟨j+1,rfl,by omega,?_⟩;simp[eZ,w9,wQ,ij,OV,On,LU,hm,ic,Cg,Cf]
  ·have QG:j=f.params.length:=by omega
   subst QG;have Xd:=AE p f f.params.length (Nat.le_refl _);have V0:mO p f f.params.length=q8 p f:=by simp only[mO,q8,List.take_length]
   rw[V0] at Xd;simp only[eZ,wQ,w9,List.take_length,V0];have hEW:=h.ew hf;have Qd:=Iv hB 2 f.body _ (q8 p f) (pI f.params) 0 [] [] hEW (h.bd f hf) yA (by have:=pIL f.params;omega) PX PX yA;have tEj:=ck (q8 p f);have tk:List.take ((q8 p f).length*3) ((q8 p f).flatMap ic)=(q8 p f).flatMap ic:=List.take_of_length_le (by rw[aM (f:=ic) (n:=3) kB];omega);have N6:¬ f.params.length<f.params.length:=by omega
   apply aL;simp[hC];refine aX ?_;simp;apply T.exit;simp;apply ai;simp[hC];refine T.le (Le.cV (o:=3) rfl tEj) ?_;simp[ij,tk];refine T.le (Le.oL 2 8 136 12 rfl rfl) ?_;simp;refine T.le (Le.oL 2 9 3 1 rfl rfl) ?_;simp;refine T.le (Le.norm [11,10,6,5] [(2,0),(5,3),(6,4),(0,5),(1,6),(4,7)] 0 8 Pn Pk ZX yA) ?_;simp[cT,cc,bV,dT,fc,assoc];simp only[FV,List.length_nil,Nat.zero_add,List.nil_append] at Qd;have hlen:=tz.2 f.body (q8 p f) (pI f.params) 0 0;obtain⟨v1,v2,v3,v4⟩:=zI.2 f.body 2 _ _ _ 0 hEW (h.bd f hf);have v5:=ya.2 f.body;have YR:mS p f=⟨f.name,pI f.params,pL f.params,(bR f.body (q8 p f) (pI f.params) 0).2,(bR f.body (q8 p f) (pI f.params) 0).1++[.ret]⟩:=rfl;generalize bR f.body (q8 p f) (pI f.params) 0=S at Qd hlen v1 v2 v3 v4 YR;obtain⟨S1,S2⟩:=S;generalize hS3:iw f.body 0=S3 at Qd hlen;generalize hN:fb f.body=NN at Qd v4 v5;simp only at Qd hlen v1 v3 v4 YR;have tb:=bA f.body;apply ai;simp[hC];refine TL.hU Qd rfl rfl (cb _) (aW _) yA rfl Oc rfl rfl rfl X0 rfl (TL.go' af ?_);simp;have tS1:=cb S1;have VF:=aW S3;refine T.le (Le.norm [11,10,6,5] [(0,0),(8,3),(9,4),(5,5),(6,6),(7,7)] 0 8 Pn Pk (by simp[cX,qx,ox,tree,assoc,-List.all_eq_true,-List.all_flatMap,fO,eW,fW,aC tS1,aC VF]) yA) ?_;simp[cT,cc,bV,dT,fc,assoc,fO,eW,fW,ay _ _ tS1,ay _ _ VF];apply ai;simp[hC];refine TL.hU (LQ p (q8 p f) S2 NN S1 S3 S1.length S3.length rfl rfl [I 8,I 0,.bool false,I 0,I 0,.str eS,.aj,.bool false,I 0,.aj,.aj,.aj] rfl rfl NN yA yA) (cb _) (aW _) (wG _ rfl) (aW _) yA rfl Oc rfl rfl rfl rfl rfl (TL.go' af ?_);simp;have tS4:trees (S1.flatMap cU++[I 8,I 0,.bool false,I 0,I 0,.str eS,.aj,.bool false,I 0,.aj,.aj,.aj])=true:=by rw[aZ,tS1];rfl
   refine T.le (Le.nz [] [8]) ?_;simp[NX,qt];apply T.seq;refine T.rx af follows [0,1,2,3,4,5,6,7,8,9,10,11] [(7,9)] N4 ?_;simp[hC,fO];apply T.seq;refine T.rx af follows [0,1,2,3,4,5,6,7,8,9,10,11,12,13,14,15,16] [(4,13),(8,13),(12,13)] N4 ?_;simp[hC];apply T.ret;have hinr:cU In.ret=[I 8,I 0,.bool false,I 0,I 0,.str eS,.az [] 0,.bool false,I 0,.az [] 0,.az [] 0,.az [] 0]:=by simp[cU,bM,sF]
   have QT:S1.flatMap cU++[I 8,I 0,.bool false,I 0,I 0,.str eS,.az [] 0,.bool false,I 0,.az [] 0,.az [] 0,.az [] 0]=(S1++[In.ret]).flatMap cU:=by simp[hinr]
   have tS5:=cb (S1++[In.ret]);have Z3:=aW (S3++[NN]);have tk5:List.take ((S1.length+1)*12) ((S1++[In.ret]).flatMap cU)=(S1++[In.ret]).flatMap cU:=List.take_of_length_le (by rw[yX];simp);have tk6:List.take (S3.length+1) ((S3++[NN]).map fun n:Nat=>I n)=(S3++[NN]).map fun n:Nat=>I n:=List.take_of_length_le N3;simp only[QT];generalize hX:(S1++[In.ret]).flatMap cU=X at tS5 tk5;generalize hY:((S3++[NN]).map fun n:Nat=>I n)=Y at Z3 tk6;refine aa.le (Le.trim [6,7,8,9] [6,8,9] 10 (by simp[fW,hY,-List.all_eq_true,-List.all_flatMap,ah tS5,ah Z3]) yA) ?_;simp[fW,hY];refine aa.le (Le.cV (o:=8) rfl tS5) ?_;simp[tk5,dk Z3];refine aa.le (Le.cV (o:=9) rfl Z3) ?_;simp[tk6];apply aa.here;simp only[YR,jS];simp;exact⟨by rw[← hX];simp,by rw[← hY];simp⟩
end Go.Proofs.YtlkmbdfhdknlgaaGreatDoor
namespace Go.aN
open Go.Can
theorem km.main {p:Pg}(h:km p):∃ f r,p.fs=f::r∧f.params=[]∧iJ (da p) f.name=some ⟨f.name,3,0⟩∧nF.head? = some f.name:=by
 obtain⟨a1,a2,_,_⟩:=gE;obtain⟨s1,s2,s3,_⟩:=h.sub;obtain⟨d1,d2,d3,_⟩:=h.nd;obtain⟨k,hk,_,he⟩:=h.fn
 cases Qf:p.fs with
 | nil=>
  rw[Qf] at he;have:=congrArg List.length he;simp[nF] at this;omega
 | cons f r=>
  refine⟨f,r,rfl,h.f0 f (by rw[Qf];rfl),?_,?_⟩
  ·have hm:f.name∈nF:=s3 _ (by rw[Qf];simp);have h0:(p.fs.map (·.name))[0]? = some f.name:=by rw[Qf];rfl
   rw[da,dy,dy,ej (fun hx=>(a2 _ hm).1 (s1 _ hx)),ej (fun hx=>(a2 _ hm).2 (s2 _ hx))];simp only;rw[qA h0 d3]
  ·rw[Qf] at he;obtain⟨k,rfl⟩:∃ k',k=k' + 1:=⟨k-1,by omega⟩;simp only[nF,List.map_cons,List.take_succ_cons,List.cons.injEq] at he;rw[he.1];rfl
end Go.aN
namespace Go.Proofs.YtlkmbdfhdknlgaaGreatDoor
open Go.Can Go.aN
theorem ry (x:Pr):trees (jS x)=true:=by simp only[jS,trees,tree,Bool.and_true]
theorem fQ (x:Pr):(jS x).length=5:=rfl
def zX (l:List Pr):Ob:=⟨123,5,l.flatMap jS⟩
def Hp (l:List Int):Ob:=⟨3,1,l.map I⟩
theorem iQ (l:List Int):trees (l.map I)=true:=by
 induction l with
 | nil=>rfl
 | cons a r ih=>rw[List.map_cons,trees,ih];rfl
theorem Cp:∀ {l:List Nat} {x:Nat},x∈l→x≤l.sum
 | a::r,x,h=>by
  rw[List.sum_cons];rcases List.mem_cons.1 h with rfl | h
  ·omega
  ·have:=Cp h;omega
def oU:Ob:=⟨30,0,[.aj,.aj,.aj,I 0]⟩
def JL1 (p:Pg)(m:Nat)(s:St):Prop:=∃ i:Nat,m=p.gs.length-i∧i≤p.gs.length∧
 s=⟨[(11,I i),(10,.aq 2 0),(6,.az ((da p).flatMap ic) (da p).length),(2,.aq 1 0),(1,.aq 0 0)],
  [(0,⟨27,0,eC p⟩),(1,oU),(2,⟨30,0,[.bp 3 0 i,.az (p.ms.flatMap eM) p.ms.length,.aj,I 0]⟩),(3,Hp ((p.gs.take i).map (·.init)))],4⟩
def JL2 (p:Pg)(m:Nat)(s:St):Prop:=∃ i:Nat,m=p.fs.length-i∧i≤p.fs.length∧
 s=⟨[(12,I i),(10,.aq 2 0),(6,.az ((da p).flatMap ic) (da p).length),(2,.aq 1 0),(1,.aq 0 0)],
  [(0,⟨27,0,eC p⟩),(1,oU),(2,⟨30,0,[.az ((p.gs.map (·.init)).map I) p.gs.length,.az (p.ms.flatMap eM) p.ms.length,.bp 3 0 i,I 0]⟩),(3,zX ((p.fs.take i).map (mS p)))],4⟩
set_option maxHeartbeats 4000000 in
theorem Hi (p:Pg)(h:km p):ae Tryz.prog 19 [xb p] (.dI [cK (lA p),I 0,I 0,I 0]):=by
 obtain⟨k1,SK,e1⟩:=h.gn;obtain⟨k2,_,Ry,e2⟩:=h.mn;obtain⟨k3,_,hk3,e3⟩:=h.fn;have l1:=congrArg List.length e1;have l2:=congrArg List.length e2;have l3:=congrArg List.length e3;simp[nG] at l1;simp[nM] at l2;simp[nF] at l3;have TE:∀ f∈p.fs,f.params.length≤2:=fun f hf=>by
  obtain⟨k,hk,e⟩:=h.pn f hf;have h5:=congrArg List.length e;simp only[List.length_map,List.length_reverse,List.length_take,nP,List.length_cons,List.length_nil] at h5;omega
 have hB:PgB p:=⟨by omega,by omega,fun f hf=>by have:=TE f hf;omega⟩;have Tb:=AW p;have PI:=F8 p h;have Zy:=AV p h yA yA yA;obtain⟨fm,fr,Qf,RM,Zn,TJ⟩:=h.main;have Rz:=qD (da p) fm.name yA;rw[Zn] at Rz;have SZ:fm.name=⟨#[109,97,105,110]⟩:=by
  simp only[nF,List.head?_cons,Option.some.injEq] at TJ;rw[← TJ]
 obtain⟨t1,t2,t3⟩:=iO p;have tE:=ck (da p);have fm1:=aM (f:=eM) (n:=3) (fun _=>rfl) p.ms;have bd0:p.ms.length*32≤140737488355328:=by omega
 have hf0:p.fs[0]? = some fm:=by rw[Qf];rfl
 have N7:=a8 (f:=eZ) (n:=3) (fun _=>rfl) hf0 1 yA;have O8:0<p.fs.length:=by rw[Qf];simp
 refine ae.aH af Tryz.func19 rfl N4 (by simp[Tryz.ntmps19]) rfl fun C hC N8=>?_;rw[Tryz.ntmps19] at hC;simp only[xb,eC] at PI Zy ⊢;apply ai;simp[hC];apply aL;simp[hC];refine dc Od (PI) ?_;simp[hC];refine dv ?_;simp;apply ai;simp[hC];refine dc Od (Zy) ?_;simp[hC];apply aL;simp[hC];refine dv ?_;simp;rw[SZ] at Rz;apply ai;simp[hC];refine dc Od (Rz) ?_;simp[hC,qB,ic];apply aL;simp[hC,N7,O8,eZ,RM];refine dv ?_;simp;apply T.seq;refine T.rx af follows [0,1,2,3,4,5,6,7,8] [(1,2),(1,5),(1,7),(2,4),(2,7),(4,7),(5,7)] N4 ?_;simp[hC,fm1,bd0,aS];apply aL;simp[hC];apply T.block;refine T.aI (JL1 p) (n:=p.gs.length) ?_ ?_
 ·have tk:List.take (p.ms.length*3) (p.ms.flatMap eM)=p.ms.flatMap eM:=List.take_of_length_le (by rw[fm1];exact Nat.le_refl _);refine aa.le (Le.trim [11,10,6,2,1] [10,12,1,0] 13 (by simp[-List.all_eq_true,-List.all_flatMap,ah (gj p.ms)]) yA) ?_;simp;refine aa.le (Le.cV (o:=12) rfl (gj p.ms)) ?_;simp[tk];refine aa.le (Le.oL 10 0 3 1 rfl rfl) ?_;simp;refine aa.le (Le.norm [11,10,6,2,1] [(0,0),(1,1),(10,2),(13,3)] 0 4 Pn Pk ZX yA) ?_;simp[cT,cc,bV,dT,fc,assoc];refine aa.here ⟨0,by omega,by omega,?_⟩;simp[eC,oU,Hp]
 ·rintro n s ⟨i,rfl,hi,rfl⟩;by_cases N6:i<p.gs.length
  ·obtain⟨y,hy⟩:∃ y,p.gs[i]? = some y:=⟨p.gs[i],List.getElem?_eq_getElem N6⟩;have N7:=aD (f:=o0) (n:=2) (fun _=>rfl) hy;have Pj:=a8 (f:=o0) (n:=2) (fun _=>rfl) hy 1 yA;have wi:=cf ((i:Int)+1) yA yA;have On:p.gs.take (i+1)=p.gs.take i++[y]:=by rw[List.take_add_one,hy];rfl
   have Qx:((p.gs.take i).map (·.init)).length=i:=by simp;omega
   have RO:(i+1)*8≤140737488355328:=by omega
   have tI:=iQ ((p.gs.take i).map (·.init));generalize hG:(p.gs.take i).map (·.init)=G at Qx tI;simp only[eC,oU,Hp];apply aL;simp[hC,N6];refine fh ?_;simp;apply eG;refine T.rx af follows [0,1,2,3,4,5,6,7,8,9,10,11] [(1,8)] N4 ?_;simp[hC,N6,N7,o0,Qx,RO,aS];apply aY;simp[hC,wi];refine⟨p.gs.length-(i+1),by omega,?_⟩;have tN:trees (G.map I++[I y.init])=true:=by rw[aZ,tI];rfl
   have Oo:=aC tN;have Qi:=fun ρ=>ay ρ _ tN;refine aa.le (Le.norm [11,10,6,2,1] [(0,0),(1,1),(2,2),(16,3)] 0 4 Pn Pk X3 yA) ?_;simp[cT,cc,bV,dT,fc,assoc,Qi];refine aa.here ⟨i+1,rfl,by omega,?_⟩;simp[eC,oU,Hp,On,hG]
  ·have Oe:i=p.gs.length:=by omega
   subst Oe;apply aL;simp[hC,eC];refine aX ?_;simp;apply T.exit;simp;have tI:=iQ (p.gs.map (·.init));have Z1:List.take p.gs.length ((p.gs.map (·.init)).map I)=(p.gs.map (·.init)).map I:=List.take_of_length_le N3;have hints:ints (p.gs.map (·.init))=.az ((p.gs.map (·.init)).map I) p.gs.length:=by simp[ints]
   generalize hG:p.gs.map (·.init)=G at tI Z1 hints;simp only[oU,Hp];apply aL;simp[hC];apply T.block;refine T.aI (JL2 p) (n:=p.fs.length) ?_ ?_
   ·refine aa.le (Le.trim [12,10,6,2,1] [0,1,2,3] 4 (by simp[-List.all_eq_true,-List.all_flatMap,ah tI]) yA) ?_;simp;refine aa.le (Le.cV (o:=3) rfl tI) ?_;simp[Z1];refine aa.le (Le.oL 2 2 123 5 rfl rfl) ?_;simp;refine aa.le (Le.norm [12,10,6,2,1] [(0,0),(1,1),(2,2),(4,3)] 0 4 Pn Pk ZX yA) ?_;simp[cT,cc,bV,dT,fc,assoc];refine aa.here ⟨0,by omega,by omega,?_⟩;simp[eC,oU,zX,hG]
   ·rintro n s ⟨i,rfl,hi,rfl⟩;by_cases N6:i<p.fs.length
    ·obtain⟨f,hf⟩:∃ f,p.fs[i]? = some f:=⟨p.fs[i],List.getElem?_eq_getElem N6⟩;have Zn:=List.mem_of_getElem? hf;have hfk:bJ f.body≤1200:=by
      have h1:=Cp (List.mem_map_of_mem (f:=fun f:Fu=>bJ f.body) Zn);have h2:=h.wt;omega
     have TJ:=AD p h hB yA f Zn hfk (by have:=TE f Zn;omega);have N7:=aD (f:=eZ) (n:=3) (fun _=>rfl) hf;have wi:=cf ((i:Int)+1) yA yA;have On:p.fs.take (i+1)=p.fs.take i++[f]:=by rw[List.take_add_one,hf];rfl
     have Qx:((p.fs.take i).map (mS p)).length=i:=by simp;omega
     have tP:=aO ry ((p.fs.take i).map (mS p));have fP:=aM (f:=jS) (n:=5) fQ ((p.fs.take i).map (mS p));rw[Qx] at fP;have RO:(i+1)*64≤140737488355328:=by omega
     generalize hH:(p.fs.take i).map (mS p)=Hs at Qx tP fP;have YQ:jS (mS p f)=[.str (mS p f).name,I (mS p f).ints,I (mS p f).bI,I (mS p f).locals,.az ((mS p f).code.flatMap cU) (mS p f).code.length]:=rfl;have tpr:=ry (mS p f);rw[YQ] at TJ tpr;have tcd:=cb (mS p f).code;simp only[eC,eZ,xb] at TJ;simp only[eC,oU,zX];apply aL;simp[hC,N6];refine fh ?_;simp;apply eG;apply T.seq;refine T.rx af follows [0,1,2,3,4,5,6,13,7,8,9,10,11,12,14,15,16,17] [(0,13),(3,13),(6,13),(13,7)] N4 ?_;simp[hC,N6,N7,eZ];have Oz:trees [.agg [.az (p.gs.flatMap o0) p.gs.length,.az (p.ms.flatMap eM) p.ms.length,.az (p.fs.flatMap eZ) p.fs.length],.az ((da p).flatMap ic) (da p).length,.agg [.str f.name,.az (f.params.flatMap kT) f.params.length,.az (bx f.body) f.body.length]]=true:=by
      simp only[trees,tree];rfl
     refine RX.call rfl rfl rfl rfl rfl Oz TJ ?_;simp;apply aL;simp[hC];refine dv ?_;simp;apply aY;simp[hC,fP,RO,aS];apply aY;simp[hC,wi];refine⟨p.fs.length-(i+1),by omega,?_⟩;have tN:trees (Hs.flatMap jS++[.str (mS p f).name,I (mS p f).ints,I (mS p f).bI,I (mS p f).locals,.az ((mS p f).code.flatMap cU) (mS p f).code.length])=true:=by rw[aZ,tP,tpr];rfl
     have Oo:=aC tN;have Qi:=fun ρ=>ay ρ _ tN;have tI2:=iQ (p.gs.map (·.init));refine aa.le (Le.norm [12,10,6,2,1] [(0,0),(1,1),(2,2),(23,3)] 0 4 Pn Pk X3 yA) ?_;simp[cT,cc,bV,dT,fc,assoc,Qi];refine aa.here ⟨i+1,rfl,by omega,?_⟩;simp[eC,oU,zX,On,hH,YQ]
    ·have Oe:i=p.fs.length:=by omega
     subst Oe;have tP:=aO ry (p.fs.map (mS p));have fP:=aM (f:=jS) (n:=5) fQ (p.fs.map (mS p));have Qx:(p.fs.map (mS p)).length=p.fs.length:=by simp
     rw[Qx] at fP;have tkP:List.take (p.fs.length*5) ((p.fs.map (mS p)).flatMap jS)=(p.fs.map (mS p)).flatMap jS:=List.take_of_length_le yA;have TC:bX (lA p)=[.az ((p.gs.map (·.init)).map I) p.gs.length,.az (p.ms.flatMap eM) p.ms.length,.az ((p.fs.map (mS p)).flatMap jS) p.fs.length,I 0]:=by simp[bX,lA,ints]
     simp only[eC,oU,zX,List.take_length];generalize hH:p.fs.map (mS p)=Hs at tP fP tkP TC;apply aL;simp[hC];refine aX ?_;simp;apply T.exit;simp;apply ai;simp[hC];apply T.ret;have tI2:=iQ (p.gs.map (·.init));generalize hG:(p.gs.map (·.init)).map I=Gs at tI2 TC;refine aa.le (Le.trim [5,4,3,2] [1,3] 4 (by simp[-List.all_eq_true,-List.all_flatMap,ah tP]) yA) ?_;simp;refine aa.le (Le.cV (o:=3) rfl tP) ?_;simp[tkP];apply aa.here;simp[cK,TC];rw[← hG,List.map_map]
theorem bj (l:List Nat):trees (l.map fun n:Nat=>I n)=true:=aW l
theorem aE (l:List Nat):tree (aB l)=true:=by simp only[aB,tree]
theorem bD (x:Is):trees (cC x)=true:=by simp only[cC,trees,aE,Bool.and_true];rfl
theorem dM (x:Is):(cC x).length=2:=rfl
theorem fA {l:List Nat}{i n:Nat}(h:l[i]? = some n):(l.map fun n:Nat=>I n).drop i=I n::(l.drop (i+1)).map fun n:Nat=>I n:=by
 obtain⟨hl,rfl⟩:=List.getElem?_eq_some_iff.1 h;rw[← List.map_drop,List.drop_eq_getElem_cons hl,List.map_cons]
theorem wU (is:Is)(q:Pl)(h:q.param=true→q.index<is.bI.length):ae Tryz.prog 56 [.agg (cC is),.agg (pt q)] (I (oq is q)):=by
 refine ae.aH af Tryz.func56 rfl N4 (by simp[Tryz.ntmps56]) rfl fun C hC N8=>?_;rw[Tryz.ntmps56] at hC;simp only[cC,pt,aB,nq];apply ai;simp[hC];apply aL;simp[hC]
 cases hq:q.param with
 | true=>
  have Oa:=h hq;obtain⟨n,hn⟩:∃ n,is.bI[q.index]? = some n:=⟨_,List.getElem?_eq_getElem Oa⟩;have N7:=fA hn;have WD:oq is q=n:=by simp[oq,hq,List.getD_eq_getElem?_getD,hn]
  refine T.cond (b:=true) Vz ?_;simp;apply ai;simp[hC,Oa,N7];apply T.ret;apply aa.here;simp[Tryz.results56,WD]
 | false=>
  have WD:oq is q=q.index:=by simp[oq,hq]
  refine T.cond (b:=false) Vz (T.skip ?_);simp;apply ai;simp[hC];apply T.ret;apply aa.here;simp[Tryz.results56,WD]
theorem HA (g:Bool)(t:Nat)(l:List Ex)(ps:List Pl):cU (.call g t l ps)=[I (if g=true then 3 else 2),I t,.bool false,I 0,I 0,.str eS,.az [] 0,.bool false,I 0,.az [] 0,.az (l.flatMap bM) l.length,.az (ps.flatMap pt) ps.length]:=rfl
def eI (l:List Nat):Ob:=⟨3,1,l.map fun n:Nat=>I n⟩
def J27 (_u:Un)(is:Is)(cs:List CV)(cn:Nat)(pc:Int)(t:Nat)(ps:List Pl)(m:Nat)(s:St):Prop:=∃ i:Nat,m=ps.length-i∧i≤ps.length∧
 s=⟨[(10,I i),(9,.aq 3 0),(8,.az cs cn),(6,.aq 2 0),(4,.aq 1 0),(2,I pc)],[(1,⟨75,0,cC is⟩),(2,⟨75,0,[I 0,.aj]⟩),(3,⟨75,0,[I t,.bp 4 0 i]⟩),(4,eI ((ps.take i).map (oq is)))],5⟩
theorem aP (u:Un):trees (bX u)=true:=by
 simp only[bX,trees,ints,tree];simp
set_option maxHeartbeats 4000000 in
theorem B9 (u:Un)(hu:im u)(is:Is)(hi:pY u is)(pc:Int):ae Tryz.prog 50 [cK u,.agg (cC is),I pc] (y9 (sh u is pc)):=by
 obtain⟨⟨pq,OT,Re⟩,hlm⟩:=id hi;have N9:au u is=pq.code:=by simp only[au,OT]
 have Po:=(List.getElem?_eq_some_iff.1 OT).1;have N7:=a8 (f:=jS) (n:=5) fQ OT 4 yA;have hlen:=(hu.pr pq (List.mem_of_getElem? OT)).2.2.2.2;have Qh:tree (y9 (sh u is pc))=true:=by
  cases sh u is pc with
  | none=>rfl
  | some x=>simp only[y9,tree,trees,bD];rfl
 have Oj:=aP u;simp only[bX,ints] at Oj;refine ae.aH af Tryz.func50 rfl N4 (by simp[Tryz.ntmps50]) Qh fun C hC N8=>?_;rw[Tryz.ntmps50] at hC;simp only[cK,bX,cC,ints];apply ai;simp[hC];apply ai;simp[hC,Po,N7,jS];have VC:=cb pq.code;have VC:=cb pq.code;by_cases h1:pc<0
 ·have hn:sh u is pc=none:=by simp[sh,h1]
  apply aL;simp[hC,h1];refine cB ?_;simp;apply ai;simp[hC];apply T.ret;simp;refine aa.le (Le.trim [6,7] [2] 3 N3 yA) ?_;simp;refine aa.le (Le.nz [] [2]) ?_;apply aa.here;simp[hn,y9]
 ·obtain⟨k,rfl⟩:∃ k:Nat,pc=k:=⟨pc.toNat,by omega⟩;by_cases h2:k<pq.code.length
  ·obtain⟨x,hx⟩:∃ x,pq.code[k]? = some x:=⟨_,List.getElem?_eq_getElem h2⟩;have Qb:sh u is k=jz is x:=by simp[sh,N9,hx,h1]
   have OQ:=aD (f:=cU) (n:=12) eg hx;obtain⟨xc,Pt,_⟩:=gT x;rw[Pt] at OQ;have Rc:¬ ((pq.code.length:Int)≤(k:Int)):=by omega
   by_cases Ol:∃ g t l ps,x=.call g t l ps
   ·obtain⟨g,t,l,ps,rfl⟩:=Ol;have ZF:sh u is k=some ⟨t,ps.map (oq is)⟩:=by rw[Qb];rfl
    have hic:FT (u.ps.map fun q=>(q.ints,q.bI)) u.ms u.gs.length pq.locals pq.bI (pq.code.length-1) (.call g t l ps):=(hu.pc pq (List.mem_of_getElem? OT)).2 _ (List.mem_of_getElem? hx);have YP:=hic.2.2;have PZ:=a8 (f:=cU) (n:=12) eg hx 1 yA;have Vq:=a8 (f:=cU) (n:=12) eg hx 11 yA;rw[HA] at PZ Vq;have WC:((mN (.call g t l ps) == 2) && (mN (.call g t l ps) == 3))=false:=by cases g<;>rfl
    have W4:List.drop (k*12) (pq.code.flatMap cU)=I (if g=true then 3 else 2)::xc++(pq.code.drop (k+1)).flatMap cU:=by rw[OQ];cases g<;>rfl
    have hpsl:ps.length≤100:=by
     have h5:=hic.1;rw[List.getElem?_map,Option.map_eq_some_iff] at h5;obtain⟨q',h6,h7⟩:=h5;simp only[Prod.mk.injEq] at h7;have:=(hu.pr q' (List.mem_of_getElem? h6)).2.1;omega
    rw[ZF];simp only[y9];clear OQ;generalize WV:(if g=true then (3:Int) else 2)=op at W4;have hop3:((op != 2) && (op != 3))=false:=by subst WV;cases g<;>rfl
    have W9:(op != 2)=false∨((op != 2)=true∧(op != 3)=false):=by subst WV;cases g<;>simp
    refine T.cut (fun s=>s=⟨[(8,.az (pq.code.flatMap cU) pq.code.length),(6,.aq 2 0),(4,.aq 1 0),(2,I k)],[(2,⟨75,0,[I 0,.aj]⟩),(1,⟨75,0,cC is⟩)],3⟩) ?_ ?_
    ·rcases W9 with hb | ⟨hb,O2⟩
     ·apply ai;simp[hC,Rc,h1,h2,W4,hb];refine dv ?_;simp;refine aa.trim [8,6,4,2] [2,1] 3 (by simp[-List.all_eq_true,-List.all_flatMap,a9 3 _ (aE is.bI)]) yA ?_;simp[cC]
     ·apply ai;simp[hC,Rc,h1,h2,W4,hb,O2];refine dv ?_;simp;refine aa.trim [8,6,4,2] [2,1] 3 (by simp[-List.all_eq_true,-List.all_flatMap,a9 3 _ (aE is.bI)]) yA ?_;simp[cC]
    ·rintro s rfl;simp only[cC];apply ai;simp[hC,h2,PZ];apply aL;simp[hC];apply T.block;refine T.aI (J27 u is (pq.code.flatMap cU) pq.code.length k t ps) (n:=ps.length) ?_ ?_
     ·refine aa.le (Le.oL 3 1 3 1 rfl rfl) ?_;simp;refine aa.trim [10,9,8,6,4,2] [1,2,3,4] 5 (by simp[-List.all_eq_true,-List.all_flatMap,a9 5 _ (aE is.bI)]) yA ⟨0,by omega,by omega,?_⟩;simp[cC,eI]
     ·rintro n s ⟨i,rfl,S8,rfl⟩;by_cases N6:i<ps.length
      ·obtain⟨q,hq⟩:∃ q,ps[i]? = some q:=⟨ps[i],List.getElem?_eq_getElem N6⟩;have RB:=aD (f:=pt) (n:=3) tK hq;have hqv:q.param=true→q.index<is.bI.length:=fun hp=>by
        rcases YP q (List.mem_of_getElem? hq) with ⟨_,h8,_⟩ | ⟨h8,_⟩
        ·omega
        ·rw[hp] at h8;cases h8
       have Qw:=wU is q hqv;have wi:=cf ((i:Int)+1) yA yA;have On:ps.take (i+1)=ps.take i++[q]:=by rw[List.take_add_one,hq];rfl
       have Qx:((ps.take i).map (oq is)).length=i:=by simp;omega
       have tN:=bj ((ps.take i).map (oq is));have RO:(i+1)*8≤140737488355328:=by omega
       obtain⟨q1,q2,q3,q4,hqc,tq⟩:=GQ q;rw[hqc] at RB Qw;generalize hG:(ps.take i).map (oq is)=G at Qx tN;simp only[cC,eI] at Qw ⊢;apply aL;simp[hC,h2,Vq,N6];refine fh ?_;simp;apply eG;refine T.rx af follows [0,1,2,3,4,5,6,7,8,9,10,11,12,13,14,15] [(1,11),(1,12)] N4 ?_;simp[hC,h2,Vq,N6,RB];have Oz:trees [.agg [I is.proc,aB is.bI],.agg [.bool q1,I q2,.az q3 q4]]=true:=by
        simp only[trees,tree,aE,Bool.and_true]
       refine RX.call rfl rfl rfl rfl rfl Oz Qw ?_;simp[Qx,RO,aS];apply aY;simp[hC,wi];refine⟨ps.length-(i+1),by omega,?_⟩;have tN2:trees ((G.map fun n:Nat=>I n)++[I (oq is q)])=true:=by rw[aZ,tN];rfl
       have Oo:=aC tN2;have Qi:=fun ρ=>ay ρ _ tN2;have tnt:=aE is.bI;simp only[aB,tree] at tnt;simp only[aB];refine aa.le (Le.norm [10,9,8,6,4,2] [(1,1),(2,2),(3,3),(21,4)] 0 5 Pn Pk X3 yA) ?_;simp[cT,cc,bV,dT,fc,assoc,Qi];refine aa.here ⟨i+1,rfl,by omega,?_⟩;simp[cC,eI,On,hG,aB]
      ·have Oe:i=ps.length:=by omega
       subst Oe;rw[List.take_length];have tN:=bj (ps.map (oq is));have tkN:List.take ps.length ((ps.map (oq is)).map fun n:Nat=>I n)=(ps.map (oq is)).map fun n:Nat=>I n:=List.take_of_length_le N3;have hnt:aB (ps.map (oq is))=.az ((ps.map (oq is)).map fun n:Nat=>I n) ps.length:=by simp[aB]
       simp only[cC,eI];rw[hnt];generalize hG:((ps.map (oq is)).map fun n:Nat=>I n)=G at tN tkN;apply aL;simp[hC,h2,Vq];refine aX ?_;simp;apply T.exit;simp;apply ai;simp[hC];apply T.ret;refine aa.le (Le.trim [6,7] [2,4] 5 (by simp[-List.all_eq_true,-List.all_flatMap,ah tN]) yA) ?_;simp;refine aa.le (Le.cV (o:=4) rfl tN) ?_;simp[tkN];apply aa.here;simp
   ·have hn:sh u is k=none:=by
     rw[Qb]
     cases x with
     | call g t l ps=>exact (Ol ⟨g,t,l,ps,rfl⟩).elim
     | _=>rfl
    have WC:((mN x != 2)=true)∧((mN x != 3)=true):=by
     cases x with
     | call g t l ps=>exact (Ol ⟨g,t,l,ps,rfl⟩).elim
     | lock u _=>cases u<;>exact⟨rfl,rfl⟩
     | _=>exact⟨rfl,rfl⟩
    apply aL;simp[hC,Rc,h1,h2,OQ,WC.1,WC.2];refine cB ?_;simp;apply ai;simp[hC];apply T.ret;simp;refine aa.le (Le.trim [6,7] [2] 3 N3 yA) ?_;simp;refine aa.le (Le.nz [] [2]) ?_;apply aa.here;simp[hn,y9]
  ·have hn:sh u is k=none:=by simp[sh,N9,List.getElem?_eq_none (Nat.le_of_not_lt h2)]
   have Rc:(pq.code.length:Int)≤(k:Int):=by omega
   apply aL;simp[hC,Rc,h1];refine cB ?_;simp;apply ai;simp[hC];apply T.ret;simp;refine aa.le (Le.trim [6,7] [2] 3 N3 yA) ?_;simp;refine aa.le (Le.nz [] [2]) ?_;apply aa.here;simp[hn,y9]
def aG (m:Mx):Nat:=if m.size=0∧m.re=false then 1 else 8
theorem Jr (m:Mx):ae Tryz.prog 33 [.agg (eM m)] (I (aG m)):=by
 obtain⟨nm,re,sz⟩:=m;refine ae.aH af Tryz.func33 rfl N4 (by simp[Tryz.ntmps33]) rfl fun C hC N8=>?_;rw[Tryz.ntmps33] at hC;simp only[eM];apply ai;simp[hC];by_cases hz:sz=0
 ·subst hz
  cases re with
  | true=>
   apply aL;simp[hC];refine dv ?_;simp;apply ai;simp[hC];apply T.ret;apply aa.here;simp[Tryz.results33,aG]
  | false=>
   apply aL;simp[hC];refine cB ?_;simp;apply ai;simp[hC];apply T.ret;apply aa.here;simp[Tryz.results33,aG]
 ·apply aL;simp[hC,hz];refine dv ?_;simp;apply ai;simp[hC];apply T.ret;apply aa.here;simp[Tryz.results33,aG,hz]
theorem tJ (m:Mx):ae Tryz.prog 37 [.agg (eM m)] (I (aG m)):=by
 obtain⟨nm,re,sz⟩:=m;refine ae.aH af Tryz.func37 rfl N4 (by simp[Tryz.ntmps37]) rfl fun C hC N8=>?_;rw[Tryz.ntmps37] at hC;simp only[eM];apply ai;simp[hC];by_cases hz:sz=0
 ·subst hz
  cases re with
  | true=>
   apply aL;simp[hC];refine dv ?_;simp;apply ai;simp[hC];apply T.ret;apply aa.here;simp[Tryz.results37,aG]
  | false=>
   apply aL;simp[hC];refine cB ?_;simp;apply ai;simp[hC];apply T.ret;apply aa.here;simp[Tryz.results37,aG]
 ·apply aL;simp[hC,hz];refine dv ?_;simp;apply ai;simp[hC];apply T.ret;apply aa.here;simp[Tryz.results37,aG,hz]
theorem n9 (e:Et):ae Tryz.prog 54 [.agg (eE e)] (.bool e.ok):=by
 obtain⟨a,b,c⟩:=e;refine ae.aH af Tryz.func54 rfl N4 (by simp[Tryz.ntmps54]) rfl fun C hC N8=>?_;rw[Tryz.ntmps54] at hC;simp only[eE];apply ai;simp[hC];by_cases h1 : -8≤a
 case neg=>
  apply ai;simp[hC,h1];apply T.ret;apply aa.here;simp[Tryz.results54,Et.ok,h1]
 by_cases h2:a≤0
 case neg=>
  apply ai;simp[hC,h1,h2];apply T.ret;apply aa.here;simp[Tryz.results54,Et.ok,h1,h2]
 by_cases h3:0≤b
 case neg=>
  apply ai;simp[hC,h1,h2,h3];apply T.ret;apply aa.here;simp[Tryz.results54,Et.ok,h1,h2,h3]
 by_cases h4:b≤8
 case neg=>
  apply ai;simp[hC,h1,h2,h3,h4];apply T.ret;apply aa.here;simp[Tryz.results54,Et.ok,h1,h2,h3,h4]
 by_cases h5:a≤c
 case neg=>
  apply ai;simp[hC,h1,h2,h3,h4,h5];apply T.ret;apply aa.here;simp[Tryz.results54,Et.ok,h1,h2,h3,h4,h5]
 by_cases h6:c≤b
 case neg=>
  apply ai;simp[hC,h1,h2,h3,h4,h5,h6];apply T.ret;apply aa.here;simp[Tryz.results54,Et.ok,h1,h2,h3,h4,h5,h6]
 apply ai;simp[hC,h1,h2,h3,h4,h5,h6];apply T.ret;apply aa.here;simp[Tryz.results54,Et.ok,h1,h2,h3,h4,h5,h6]
theorem oe (e:Et):ae Tryz.prog 61 [.agg (eE e)] (.bool e.ok):=by
 obtain⟨a,b,c⟩:=e;refine ae.aH af Tryz.func61 rfl N4 (by simp[Tryz.ntmps61]) rfl fun C hC N8=>?_;rw[Tryz.ntmps61] at hC;simp only[eE];apply ai;simp[hC];by_cases h1 : -8≤a
 case neg=>
  apply ai;simp[hC,h1];apply T.ret;apply aa.here;simp[Tryz.results61,Et.ok,h1]
 by_cases h2:a≤0
 case neg=>
  apply ai;simp[hC,h1,h2];apply T.ret;apply aa.here;simp[Tryz.results61,Et.ok,h1,h2]
 by_cases h3:0≤b
 case neg=>
  apply ai;simp[hC,h1,h2,h3];apply T.ret;apply aa.here;simp[Tryz.results61,Et.ok,h1,h2,h3]
 by_cases h4:b≤8
 case neg=>
  apply ai;simp[hC,h1,h2,h3,h4];apply T.ret;apply aa.here;simp[Tryz.results61,Et.ok,h1,h2,h3,h4]
 by_cases h5:a≤c
 case neg=>
  apply ai;simp[hC,h1,h2,h3,h4,h5];apply T.ret;apply aa.here;simp[Tryz.results61,Et.ok,h1,h2,h3,h4,h5]
 by_cases h6:c≤b
 case neg=>
  apply ai;simp[hC,h1,h2,h3,h4,h5,h6];apply T.ret;apply aa.here;simp[Tryz.results61,Et.ok,h1,h2,h3,h4,h5,h6]
 apply ai;simp[hC,h1,h2,h3,h4,h5,h6];apply T.ret;apply aa.here;simp[Tryz.results61,Et.ok,h1,h2,h3,h4,h5,h6]
theorem jR:ae Tryz.prog 55 [] (.agg (eE za)):=by
 refine ae.aH af Tryz.func55 rfl N4 (by simp[Tryz.ntmps55]) rfl fun C hC N8=>?_;rw[Tryz.ntmps55] at hC;apply ai;simp[hC];apply ai;simp[hC];apply T.ret;apply aa.here;simp[Tryz.results55,eE,za]
theorem z8:ae Tryz.prog 129 [] (.agg (eE za)):=by
 refine ae.aH af Tryz.func129 rfl N4 (by simp[Tryz.ntmps129]) rfl fun C hC N8=>?_;rw[Tryz.ntmps129] at hC;apply ai;simp[hC];apply ai;simp[hC];apply T.ret;apply aa.here;simp[Tryz.results129,eE,za]
theorem pv (e:Et):ae Tryz.prog 116 [.agg (eE e)] (.agg (eE e)):=by
 obtain⟨a,b,c⟩:=e;refine ae.aH af Tryz.func116 rfl N4 (by simp[Tryz.ntmps116]) rfl fun C hC N8=>?_;rw[Tryz.ntmps116] at hC;simp only[eE];apply ai;simp[hC];apply ai;simp[hC];apply T.ret;apply aa.here;simp[Tryz.results116]
theorem jT:ae Tryz.prog 115 [] (.agg (eE za)):=by
 refine ae.aH af Tryz.func115 rfl N4 (by simp[Tryz.ntmps115]) rfl fun C hC N8=>?_;rw[Tryz.ntmps115] at hC;apply ai;simp[hC];apply ai;simp;refine dc Od (z8) ?_;simp;refine dc Od (pv za) ?_;simp[eE];apply T.ret;apply aa.here;simp[Tryz.results115,za]
theorem rof_e (n:Int):ae Tryz.prog 27 [I n] (.agg (eE (xg n))):=by
 refine ae.aH af Tryz.func27 rfl N4 (by simp[Tryz.ntmps27]) rfl fun C hC N8=>?_;rw[Tryz.ntmps27] at hC;have P8:(if (0:Int)<n then 0 else n)=min n 0:=by split<;>omega
 have Rd:(if n<0 then 0 else n)=max n 0:=by split<;>omega
 apply ai;simp[hC];by_cases h1:n < -1
 ·apply aL;simp[hC,h1];refine cB ?_;simp;apply ai;simp;refine dc Od (jR) ?_;simp;apply T.ret;apply aa.here;simp[Tryz.results27,eE,xg,h1]
 ·by_cases h2:1<n
  ·apply aL;simp[hC,h1,h2];refine cB ?_;simp;apply ai;simp;refine dc Od (jR) ?_;simp;apply T.ret;apply aa.here;simp[Tryz.results27,eE,xg,h2]
  ·apply aL;simp[hC,h1,h2];refine dv ?_;simp;apply ai;simp[hC,P8,Rd];apply T.ret;apply aa.here;simp[Tryz.results27,eE,xg,h1,h2]
theorem pof_e (n:Int):ae Tryz.prog 89 [I n] (.agg (eE (xg n))):=by
 refine ae.aH af Tryz.func89 rfl N4 (by simp[Tryz.ntmps89]) rfl fun C hC N8=>?_;rw[Tryz.ntmps89] at hC;have P8:(if (0:Int)<n then 0 else n)=min n 0:=by split<;>omega
 have Rd:(if n<0 then 0 else n)=max n 0:=by split<;>omega
 apply ai;simp[hC];by_cases h1:n < -1
 ·apply aL;simp[hC,h1];refine cB ?_;simp;apply ai;simp;refine dc Od (jT) ?_;simp;apply T.ret;apply aa.here;simp[Tryz.results89,eE,xg,h1]
 ·by_cases h2:1<n
  ·apply aL;simp[hC,h1,h2];refine cB ?_;simp;apply ai;simp;refine dc Od (jT) ?_;simp;apply T.ret;apply aa.here;simp[Tryz.results89,eE,xg,h2]
  ·apply aL;simp[hC,h1,h2];refine dv ?_;simp;apply ai;simp[hC,P8,Rd];refine dc Od (pv ⟨min n 0,max n 0,n⟩) ?_;simp[eE];apply T.ret;apply aa.here;simp[Tryz.results89,xg,h1,h2]
set_option maxHeartbeats 1000000 in
theorem zM (a b:Et):ae Tryz.prog 26 [.agg (eE a),.agg (eE b)] (.agg (eE (gk a b))):=by
 refine ae.aH af Tryz.func26 rfl N4 (by simp[Tryz.ntmps26]) rfl fun C hC N8=>?_;rw[Tryz.ntmps26] at hC;simp only[eE];apply ai;simp[hC];apply aL;simp[hC];refine dc Od (n9 a) ?_;simp[hC]
 cases ha:a.ok with
 | false=>
  simp;refine cB ?_;simp;apply ai;simp;refine dc Od (jR) ?_;simp;apply T.ret;apply aa.here;simp[Tryz.results26,eE,gk,ha]
 | true=>
  simp;refine TL.bY Oc rfl rfl rfl rfl (bH.of rfl Od (n9 b)) (TL.go' af ?_);simp[hC]
  cases hb:b.ok with
  | false=>
   simp;refine cB ?_;simp;apply ai;simp;refine dc Od (jR) ?_;simp;apply T.ret;apply aa.here;simp[Tryz.results26,eE,gk,hb]
  | true=>
   simp;refine dv ?_;simp;have sa:=(iB a).1 ha;have sb:=(iB b).1 hb;have w1:=cf (a.fo+b.lo) yA yA;have w2:=cf (a.fo+b.hi) yA yA;have w3:=cf (a.fo+b.fo) yA yA;obtain⟨e,he⟩:∃ e:Et,e=⟨min a.lo (a.fo+b.lo),max a.hi (a.fo+b.hi),a.fo+b.fo⟩:=⟨_,rfl⟩;have P8:(if a.fo+b.lo<a.lo then a.fo+b.lo else a.lo)=e.lo:=by rw[he];simp only;split<;>omega
   have Rd:(if a.hi<a.fo+b.hi then a.fo+b.hi else a.hi)=e.hi:=by rw[he];simp only;split<;>omega
   have QO:a.fo+b.fo=e.fo:=by rw[he]
   have RW:gk a b=if e.ok=true then e else za:=by rw[he,gk,if_pos ⟨ha,hb⟩]
   have w4:=cf e.fo (by rw[he];simp only;omega) (by rw[he];simp only;omega);rw[RW];apply ai;simp[hC,w1,w2,P8,Rd,QO,w4];apply aL;simp[hC];refine dc Od (n9 e) ?_;simp[hC]
   cases hE:e.ok with
   | false=>
    simp;refine cB ?_;simp;apply ai;simp;refine dc Od (jR) ?_;simp;apply T.ret;apply aa.here;simp[Tryz.results26,eE]
   | true=>
    simp;refine dv ?_;simp;apply ai;simp[hC];apply T.ret;apply aa.here;simp[Tryz.results26]
set_option maxHeartbeats 1000000 in
theorem GN (a b:Et):ae Tryz.prog 91 [.agg (eE a),.agg (eE b)] (.agg (eE (gk a b))):=by
 refine ae.aH af Tryz.func91 rfl N4 (by simp[Tryz.ntmps91]) rfl fun C hC N8=>?_;rw[Tryz.ntmps91] at hC;simp only[eE];apply ai;simp[hC];apply aL;simp[hC];refine dc Od (oe a) ?_;simp[hC]
 cases ha:a.ok with
 | false=>
  simp;refine cB ?_;simp;apply ai;simp;refine dc Od (jT) ?_;simp;apply T.ret;apply aa.here;simp[Tryz.results91,eE,gk,ha]
 | true=>
  simp;refine TL.bY Oc rfl rfl rfl rfl (bH.of rfl Od (oe b)) (TL.go' af ?_);simp[hC]
  cases hb:b.ok with
  | false=>
   simp;refine cB ?_;simp;apply ai;simp;refine dc Od (jT) ?_;simp;apply T.ret;apply aa.here;simp[Tryz.results91,eE,gk,hb]
  | true=>
   simp;refine dv ?_;simp;have sa:=(iB a).1 ha;have sb:=(iB b).1 hb;have w1:=cf (a.fo+b.lo) yA yA;have w2:=cf (a.fo+b.hi) yA yA;have w3:=cf (a.fo+b.fo) yA yA;obtain⟨e,he⟩:∃ e:Et,e=⟨min a.lo (a.fo+b.lo),max a.hi (a.fo+b.hi),a.fo+b.fo⟩:=⟨_,rfl⟩;have P8:(if a.fo+b.lo<a.lo then a.fo+b.lo else a.lo)=e.lo:=by rw[he];simp only;split<;>omega
   have Rd:(if a.hi<a.fo+b.hi then a.fo+b.hi else a.hi)=e.hi:=by rw[he];simp only;split<;>omega
   have QO:a.fo+b.fo=e.fo:=by rw[he]
   have RW:gk a b=if e.ok=true then e else za:=by rw[he,gk,if_pos ⟨ha,hb⟩]
   have w4:=cf e.fo (by rw[he];simp only;omega) (by rw[he];simp only;omega);rw[RW];apply ai;simp[hC,w1,w2,P8,Rd,QO,w4];refine dc Od (pv e) ?_;simp[hC,eE];apply aL;simp[hC];refine dc Od (oe e) ?_;simp[hC]
   cases hE:e.ok with
   | false=>
    simp;refine cB ?_;simp;apply ai;simp;refine dc Od (jT) ?_;simp;apply T.ret;apply aa.here;simp[Tryz.results91,eE]
   | true=>
    simp;refine dv ?_;simp;apply ai;simp[hC];apply T.ret;apply aa.here;simp[Tryz.results91]
theorem rfits_ok (e:Et)(L:Nat)(hL:L≤8):ae Tryz.prog 36 [.agg (eE e),I 0,I L] (.bool (qC e 0 L)):=by
 refine ae.aH af Tryz.func36 rfl N4 (by simp[Tryz.ntmps36]) rfl fun C hC N8=>?_;rw[Tryz.ntmps36] at hC;simp only[eE];apply ai;simp[hC];apply ai;simp[hC];refine dc Od (n9 e) ?_;simp[hC];have hM:(L:Int)≤8:=by omega
 cases ha:e.ok with
 | false=>
  simp;apply T.ret;apply aa.here;simp[Tryz.results36,qC,ha]
 | true=>
  have sa:=(iB e).1 ha;have w1:=cf e.lo yA yA;have w2:=cf e.hi yA yA;by_cases h1:0≤e.lo
  ·by_cases h2:e.hi≤L
   ·simp[hM,w1,w2,h1,h2];apply T.ret;apply aa.here;simp[Tryz.results36,qC,ha,hM,h1,h2]
   ·simp[hM,w1,w2,h1,h2];apply T.ret;apply aa.here;simp[Tryz.results36,qC,ha,hM,h1,h2]
  ·simp[hM,w1,h1];apply T.ret;apply aa.here;simp[Tryz.results36,qC,ha,hM,h1]
theorem GR (e:Et)(L:Nat)(hL:L≤8):ae Tryz.prog 32 [.agg (eE e),I 0,I L] (.bool (qC e 0 L)):=by
 refine ae.aH af Tryz.func32 rfl N4 (by simp[Tryz.ntmps32]) rfl fun C hC N8=>?_;rw[Tryz.ntmps32] at hC;simp only[eE];apply ai;simp[hC];apply ai;simp[hC];refine dc Od (oe e) ?_;simp[hC];have hM:(L:Int)≤8:=by omega
 cases ha:e.ok with
 | false=>
  simp;apply T.ret;apply aa.here;simp[Tryz.results32,qC,ha]
 | true=>
  have sa:=(iB e).1 ha;have w1:=cf e.lo yA yA;have w2:=cf e.hi yA yA;by_cases h1:0≤e.lo
  ·by_cases h2:e.hi≤L
   ·simp[hM,w1,w2,h1,h2];apply T.ret;apply aa.here;simp[Tryz.results32,qC,ha,hM,h1,h2]
   ·simp[hM,w1,w2,h1,h2];apply T.ret;apply aa.here;simp[Tryz.results32,qC,ha,hM,h1,h2]
  ·simp[hM,w1,h1];apply T.ret;apply aa.here;simp[Tryz.results32,qC,ha,hM,h1]
def J94 (l:List Nat)(x:Nat)(m:Nat)(s:St):Prop:=∃ i:Nat,m=l.length-i∧i≤l.length∧(x∉l.take i)∧s=⟨[(5,I i),(0,aB l),(1,I x)],[],0⟩
theorem Jk (l:List Nat)(x:Nat)(hl:l.length≤100000):ae Tryz.prog 86 [aB l,I x] (.bool (decide (x∈l))):=by
 refine ae.aH af Tryz.func86 rfl N4 (by simp[Tryz.ntmps86]) rfl fun C hC N8=>?_;rw[Tryz.ntmps86] at hC;simp only[aB];apply ai;simp[hC];apply aL;simp[hC];apply T.block;refine T.aI (J94 l x) (n:=l.length) ?_ ?_
 ·refine aa.trim [5,0,1] [] 0 QA yA ⟨0,by omega,by omega,by simp,?_⟩;simp[aB]
 ·rintro n s ⟨i,rfl,hi,hx,rfl⟩;simp only[aB];by_cases N6:i<l.length
  ·obtain⟨a,ha⟩:∃ a,l[i]? = some a:=⟨l[i],List.getElem?_eq_getElem N6⟩;have N7:=fA ha;have wi:=cf ((i:Int)+1) yA yA;have On:l.take (i+1)=l.take i++[a]:=by rw[List.take_add_one,ha];rfl
   apply aL;simp[hC,N6];refine fh ?_;simp;apply eG;by_cases Tf:a=x
   ·have hd:decide (x∈l)=true:=by simp only[decide_eq_true_eq];exact Tf ▸ List.mem_of_getElem? ha
    subst Tf;apply ai;simp[hC,N6,N7];refine cB ?_;simp;apply ai;simp[hC];apply T.ret;apply aa.here;rw[hd];simp[Tryz.results86]
   ·have Ok:((a:Int) == (x:Int))=false:=by
     rw[beq_eq_false_iff_ne];omega
    apply ai;simp[hC,N6,N7,Ok];refine dv ?_;simp;apply aY;simp[hC,wi];refine⟨l.length-(i+1),by omega,aa.trim [5,0,1] [] 0 QA yA ⟨i+1,rfl,by omega,?_,?_⟩⟩
    ·rw[On,List.mem_append,List.mem_singleton,not_or];exact⟨hx,fun h=>Tf h.symm⟩
    ·simp[aB]
  ·have Oe:i=l.length:=by omega
   subst Oe;rw[List.take_length] at hx;have hd:decide (x∈l)=false:=by simp[hx]
   apply aL;simp[hC];refine aX ?_;simp;apply T.exit;simp;apply ai;simp[hC];apply T.ret;apply aa.here;rw[hd];simp[Tryz.results86]
theorem zn:∀ (l:List Nat) (x i:Nat),i<cq l x→∃ a,l[i]? = some a∧a<x
 | [],x,i,h=>by simp[cq] at h
 | b::r,x,i,h=>by
  simp only[cq,List.takeWhile_cons] at h;split at h
  ·rename_i hb
   cases i with
   | zero=>exact⟨b,rfl,by simpa using hb⟩
   | succ i=>
    obtain⟨a,h1,h2⟩:=zn r x i (by simp only[cq];simpa using h);exact⟨a,by simpa using h1,h2⟩
  ·simp at h
theorem wB:∀ (l:List Nat) (x:Nat),cq l x≤l.length∧∀ a,l[cq l x]? = some a→¬ a<x
 | [],x=>⟨by simp[cq],fun a h=>by simp[cq] at h⟩
 | b::r,x=>by
  obtain⟨h1,h2⟩:=wB r x;simp only[cq,List.takeWhile_cons] at h1 h2 ⊢;split
  ·exact⟨by simpa using h1,fun a h=>h2 a QW⟩
  ·rename_i hb;refine⟨by simp,fun a h=>?_⟩;simp only[List.length_nil,List.getElem?_cons_zero,Option.some.injEq] at h;subst h
   simpa using hb
def J61 (l:List Nat)(x:Nat)(m:Nat)(s:St):Prop:=∃ i:Nat,m=cq l x-i∧i≤cq l x∧s=⟨[(5,I i),(0,aB l),(1,I x)],[],0⟩
theorem zL (l:List Nat)(x:Nat)(hl:l.length≤100000):ae Tryz.prog 52 [aB l,I x] (aB (fU l x)):=by
 have hhas:=Jk l x hl;have tl:=bj l;obtain⟨SK,Ry⟩:=wB l x;refine ae.aH af Tryz.func52 rfl N4 (by simp[Tryz.ntmps52]) (aE _) fun C hC N8=>?_;rw[Tryz.ntmps52] at hC;apply ai;simp[hC];apply aL;simp[hC];have Oz:trees [aB l,I x]=true:=by simp only[trees,aE,tree,Bool.and_self]
 refine dc Oz hhas ?_;simp;by_cases hm:x∈l
 ·have hw:fU l x=l:=if_pos hm;rw[hw];refine T.cond (b:=true) (by simp[ev,assoc,hm]) ?_;simp;apply ai;simp[hC];apply T.ret;apply aa.here;simp[Tryz.results52]
 ·have hw:fU l x=l.take (cq l x)++x::l.drop (cq l x):=if_neg hm;rw[hw];refine T.cond (b:=false) (by simp[ev,assoc,hm]) (T.skip ?_);simp;apply ai;simp[hC];apply eG;refine T.aI (J61 l x) (n:=cq l x) ?_ ?_
  ·refine aa.trim [5,0,1] [] 0 (by simp[-List.all_eq_true,a9 0 _ (aE l)]) yA ⟨0,by omega,by omega,?_⟩;simp
  ·rintro n s ⟨i,rfl,hi,rfl⟩;simp only[aB];by_cases N6:i<cq l x
   ·obtain⟨a,ha,Tf⟩:=zn l x i N6;have N7:=fA ha;have Re:i<l.length:=(List.getElem?_eq_some_iff.1 ha).1;have wi:=cf ((i:Int)+1) yA yA;have hax':(a:Int)<(x:Int):=by omega
    apply aL;simp[hC,Re,N7,hax'];refine fh ?_;simp;apply T.block;apply aY;simp[hC,wi];refine⟨cq l x-(i+1),by omega,aa.trim [5,0,1] [] 0 QA yA ⟨i+1,rfl,by omega,?_⟩⟩;simp[aB]
   ·have Oe:i=cq l x:=by omega
    subst Oe;apply T.seq;refine T.cut (fun s=>s=⟨[(21,.bool false),(5,I (cq l x)),(0,aB l),(1,I x)],[],0⟩) ?_ ?_
    ·cases O7:l[cq l x]? with
     | none=>
      have Re:¬ cq l x<l.length:=by
       rw[List.getElem?_eq_none_iff] at O7;omega
      apply aY;simp[hC,Re];refine aa.trim [21,5,0,1] [] 0 QA yA ?_;simp[aB]
     | some a=>
      have Re:=(List.getElem?_eq_some_iff.1 O7).1;have N7:=fA O7;have Rn:¬ (a:Int)<(x:Int):=by have:=Ry a O7;omega
      apply aY;simp[hC,Re,N7,Rn];refine aa.trim [21,5,0,1] [] 0 QA yA ?_;simp[aB]
    rintro s rfl;refine aX ?_;simp;apply T.exit;simp[aB];have Pq:cq l x*8≤140737488355328:=by omega
    have O2:(cq l x+1)*8≤140737488355328:=by omega
    have hb3:(l.length+1)*8≤140737488355328:=by omega
    have hb4:(cq l x+1+(l.length-cq l x))*8≤140737488355328:=by omega
    apply T.seq;refine T.rx af follows [0,1,2,3,4,5,6,7,8,9,10,11,12] [(0,3),(0,6),(0,10),(3,6),(4,6),(4,10),(6,10),(7,10)] N4 ?_;simp[hC,SK,Pq,O2,hb4,aS];apply T.ret;have Zc:List.take (l.length-cq l x) (List.drop (cq l x) (l.map fun n:Nat=>I n))=(l.drop (cq l x)).map fun n:Nat=>I n:=by
     rw[← List.map_drop,List.take_of_length_le N3]
    have ON:List.take (cq l x) (l.map fun n:Nat=>I n)++I x::((l.drop (cq l x)).map fun n:Nat=>I n)=(l.take (cq l x)++x::l.drop (cq l x)).map fun n:Nat=>I n:=by simp
    have hlen:cq l x+1+(l.length-cq l x)=(l.take (cq l x)++x::l.drop (cq l x)).length:=by simp;omega
    have tN:=bj (l.take (cq l x)++x::l.drop (cq l x));simp only[Zc];rw[ON];have On:List.take (l.take (cq l x)++x::l.drop (cq l x)).length ((l.take (cq l x)++x::l.drop (cq l x)).map fun n:Nat=>I n)=(l.take (cq l x)++x::l.drop (cq l x)).map fun n:Nat=>I n:=List.take_of_length_le N3;rw[hlen];generalize hL:(l.take (cq l x)++x::l.drop (cq l x))=L at tN On;refine aa.le (Le.trim [4] [15] 16 (by simp[-List.all_eq_true,ah tN]) yA) ?_;simp;refine aa.le (Le.cV (o:=15) rfl tN) ?_;simp[On];apply aa.here;simp;exact⟨by rw[← hL];simp,by rw[← hL];simp;omega⟩
end Go.Proofs.YtlkmbdfhdknlgaaGreatDoor
