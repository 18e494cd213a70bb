/- function. -/
import Derived.Test.YtnecpnjdonibmaaGreatZ36
namespace Go.aP
open Go.Can
def Mi (i j:Nat)(q:Pm):En:=if q.mutex=true then ⟨q.name,5,j⟩ else ⟨q.name,4,i⟩
theorem tC:∀ (a:List Pm) (q:Pm) (i j:Nat),kg i j (a++[q])=kg i j a++[Mi (i+pI a) (j+pL a) q]
 | [],q,i,j=>by
  simp only[List.nil_append,kg,pI,pL,Nat.add_zero,Mi];split<;>rfl
 | p::r,q,i,j=>by
  simp only[List.cons_append,kg,pI,pL];split
  ·rw[tC r q,List.cons_append];congr 3;simp only[Mi];congr 2<;>omega
  ·rw[tC r q,List.cons_append];congr 3;simp only[Mi];congr 2<;>omega
theorem Bw:∀ (a:List Pm) (q:Pm),pI (a++[q])=pI a+if q.mutex=true then 0 else 1
 | [],q=>by simp[pI]
 | p::r,q=>by simp only[List.cons_append,pI,Bw r q];omega
theorem Bv:∀ (a:List Pm) (q:Pm),pL (a++[q])=pL a+if q.mutex=true then 1 else 0
 | [],q=>by simp[pL]
 | p::r,q=>by simp only[List.cons_append,pL,Bv r q];omega
theorem zl:∀ (l:List Pm) (i j:Nat),(kg i j l).length=l.length
 | [],_,_=>rfl
 | p::r,i,j=>by
  simp only[kg];split<;>simp[zl r]
def lZ (p:Pg)(f:Fu)(j:Nat):List En:=cU p++kg 0 0 (f.params.take j)
theorem EJ (p:Pg)(f:Fu)(j:Nat)(q:Pm)(h:f.params[j]? = some q):lZ p f (j+1)=lZ p f j++[Mi (pI (f.params.take j)) (pL (f.params.take j)) q]:=by
 have:f.params.take (j+1)=f.params.take j++[q]:=by rw[List.take_add_one,h];rfl
 simp only[lZ,this,tC,Nat.zero_add,List.append_assoc]
theorem z7 (p:Pg)(f:Fu)(j:Nat)(h:j≤f.params.length):(lZ p f j).length=(cU p).length+j:=by
 simp only[lZ,List.length_append,zl,List.length_take];omega
theorem HJ {p:Pg}(h:jP p){f:Fu}(hf:f∈p.fs){j:Nat}{q:Pm}(hq:f.params[j]? = some q):iu (lZ p f j) q.name=none:=by
 obtain⟨_,_,_,d4⟩:=h.dec;obtain⟨_,_,a3,_⟩:=gg;obtain⟨_,_,_,s4⟩:=h.sub;obtain⟨_,_,_,n4⟩:=h.nd;have hm:=s4 f hf _ (List.mem_map_of_mem (f:=(·.name)) (List.mem_of_getElem? hq));have ha:=a3 _ hm;rw[lZ,dj,d4 _ (by simp only[List.mem_append,not_or];exact⟨⟨ha.1,ha.2.1⟩,ha.2.2⟩)];simp only;rw[pj,om];obtain⟨hl,RD⟩:=List.getElem?_eq_some_iff.1 hq;have e:f.params=f.params.take j++q::f.params.drop (j+1):=by rw[← RD,← List.drop_eq_getElem_cons hl,List.take_append_drop]
 have h2:((f.params.take j++q::f.params.drop (j+1)).map (·.name)).Nodup:=by rw[← e];exact n4 f hf
 rw[List.map_append,List.map_cons,List.nodup_append] at h2;exact fun hm=>h2.2.2 _ hm _ List.mem_cons_self rfl
end Go.aP
namespace Go.Proofs.YtnecpnjdonibmaaGreat
open Go.Can Go.aP
def vP:Ob:=⟨88,0,[.str ⟨#[]⟩,I 0,I 0,I 0,.ai]⟩
def vH (p:Pg)(n:Nat):Ob:=⟨273,0,[.az (p.gs.flatMap nW) p.gs.length,.az (p.ms.flatMap eL) p.ms.length,.az (p.fs.flatMap eF) p.fs.length,.bj 3 0 n,I 0,I 0,I 0,I 0,.ai,.ai]⟩
def J60 (p:Pg)(f:Fu)(m:Nat)(s:St):Prop:=∃ j:Nat,m=f.params.length-j∧j≤f.params.length∧
 s=⟨[(12,I j),(11,.av 4 0),(10,.av 2 0),(6,.av 1 0),(5,.av 0 0)],
  [(0,⟨192,0,eF f⟩),(1,vP),(2,vH p (lZ p f j).length),(3,gP (lZ p f j)),(4,⟨88,0,[.str f.name,I (pI (f.params.take j)),I (pL (f.params.take j)),I 0,.ai]⟩)],5⟩
set_option maxHeartbeats 4000000 in
theorem z6 (p:Pg)(h:jP p)(hB:PgB p)(VK:(cU p).length≤3000)(f:Fu)(hf:f∈p.fs)(hw:bH f.body≤1200)(Qy:f.params.length≤100) :
  ae Tryz.prog 136 [vS p,.az ((cU p).flatMap gN) (cU p).length,.agg (eF f)] (.dH [.agg (nD (l8 p f)),.az ((gZ f.body 0++[eK f.body]).map fun n:Nat=>I n) (gZ f.body 0++[eK f.body]).length,I 0,I 0]):=by
 obtain⟨t1,t2,t3⟩:=iA p;have tE:=cj (cU p);have f0:=bk (f:=gN) (n:=3) jW (cU p);have bd0:(cU p).length*32≤140737488355328:=by omega
 refine ae.aM ah Tryz.func136 rfl PH (by simp[Tryz.ntmps136]) rfl fun C hC PN=>?_;rw[Tryz.ntmps136] at hC;simp only[vS,dU,eF];apply aj;simp[hC];apply T.seq;refine T.rx ah follows [0,1,2,3,4,5,6] [(0,1),(0,3)] PH ?_;simp[hC,f0,bd0,aX];apply aj;simp[hC];apply aU;simp[hC];apply T.block;refine T.aJ (J60 p f) (n:=f.params.length) ?_ ?_
 ·refine aa.le (Le.norm [12,11,10,6,5] [(1,0),(2,1),(8,2),(10,3),(11,4)] 0 5 Rm Rl (by simp[dD,um,p4,tree,assoc,-List.all_eq_true,-List.all_flatMap,aH tE]) yA) ?_;simp[dC,ct,cq,dR,gf,assoc,ay _ _ tE];refine aa.here ⟨0,by omega,by omega,?_⟩;simp[eF,vP,vH,gP,lZ,kg,pI,pL]
 ·rintro n s ⟨j,rfl,hj,rfl⟩;by_cases PJ:j<f.params.length
  ·obtain⟨q,hq⟩:∃ q,f.params[j]? = some q:=⟨f.params[j],List.getElem?_eq_getElem PJ⟩;have Yo:=z7 p f j hj;have SU:=Ab (lZ p f j) q.name yA;rw[HJ h hf hq] at SU;have PL:=aO (f:=kj) (n:=2) (fun _=>rfl) hq;have Rz:=bS (f:=kj) (n:=2) (fun _=>rfl) hq 1 yA;have wi:=cE ((j:Int)+1) yA yA;have YF:=pIL (f.params.take j);rw[List.length_take] at YF;have hpi2:pI (f.params.take j)+pL (f.params.take j)≤100:=by omega
   have PY:f.params.take (j+1)=f.params.take j++[q]:=by rw[List.take_add_one,hq];rfl
   have Q2:=EJ p f j q hq;have f1:=bk (f:=gN) (n:=3) jW (lZ p f j);have TQ:((lZ p f j).length+1)*32≤140737488355328:=by omega
   have tEj:=cj (lZ p f j);simp only[eF,vH,vP];apply aU;simp[hC,PJ];refine gQ ?_;simp;apply dZ;refine T.seq (T.seq ?_);refine T.rx ah follows [0,1,2,3,4,5,6,7,8,9,14,10,11,12,13,15,16] [(3,14),(5,14),(9,14),(14,10)] PH ?_;simp[hC,PJ,PL,kj];refine RX.ja 0 3 [3] [] 1 (SU) rfl zX rfl rfl rfl zX yA zX zX rfl zX Ug rfl zX zX zX rfl zX ?_;simp[pv];apply aj;simp[hC];refine gO ?_;simp;apply aj;simp[hC,PJ,Rz,kj]
   cases hm:q.mutex with
   | true=>
    have wl:=cE ((pL (f.params.take j):Int)+1) yA yA;refine T.cond (b:=true) RN ?_;simp;apply T.seq;refine T.rx ah follows [0,1,2,3,4,5,6,7,8,9,10,11,12,13,14,15,16,17,18] [(4,14)] PH ?_;simp[hC,PJ,PL,kj,gP,f1,TQ,aX];apply aW;simp[hC,wl];apply aW;simp[hC,wi];refine⟨f.params.length-(j+1),by omega,?_⟩;have tN:trees ((lZ p f j).flatMap gN++[.str q.name,I 5,I (pL (f.params.take j))])=true:=by rw[bF,cj];rfl
    have P4:=aH tN;have Sx:=fun ρ=>ay ρ _ tN;refine aa.le (Le.norm [12,11,10,6,5] [(0,0),(1,1),(2,2),(41,3),(4,4)] 0 5 Rm Rl YW yA) ?_;simp[dC,ct,cq,dR,gf,assoc,Sx];refine aa.here ⟨j+1,rfl,by omega,?_⟩;simp[eF,vP,vH,gP,Q2,PY,Mi,hm,gN,Bw,Bv]
   | false=>
    have wl:=cE ((pI (f.params.take j):Int)+1) yA yA;refine T.cond (b:=false) RN ?_;simp;apply T.seq;refine T.rx ah follows [0,1,2,3,4,5,6,7,8,9,10,11,12,13,14,15,16,17,18] [(4,14)] PH ?_;simp[hC,PJ,PL,kj,gP,f1,TQ,aX];apply aW;simp[hC,wl];apply aW;simp[hC,wi];refine⟨f.params.length-(j+1),by omega,?_⟩;have tN:trees ((lZ p f j).flatMap gN++[.str q.name,I 4,I (pI (f.params.take j))])=true:=by rw[bF,cj];rfl
    have P4:=aH tN;have Sx:=fun ρ=>ay ρ _ tN;refine aa.le (Le.norm [12,11,10,6,5] [(0,0),(1,1),(2,2),(41,3),(4,4)] 0 5 Rm Rl YW yA) ?_;simp[dC,ct,cq,dR,gf,assoc,Sx];refine aa.here ⟨j+1,rfl,by omega,?_⟩;simp[eF,vP,vH,gP,Q2,PY,Mi,hm,gN,Bw,Bv]
  ·have QV:j=f.params.length:=by omega
   subst QV;have Yo:=z7 p f f.params.length (Nat.le_refl _);have hfe:lZ p f f.params.length=p5 p f:=by simp only[lZ,p5,List.take_length]
   rw[hfe] at Yo;simp only[eF,vH,vP,List.take_length,hfe];have hEW:=h.ew hf;have Qf:=Ix hB 2 f.body _ (p5 p f) (pI f.params) 0 [] [] hEW (h.bd f hf) yA (by have:=pIL f.params;omega) Ru Ru yA;have tEj:=cj (p5 p f);have tk:List.take ((p5 p f).length*3) ((p5 p f).flatMap gN)=(p5 p f).flatMap gN:=List.take_of_length_le (by rw[bk (f:=gN) (n:=3) jW];omega);have PJ:¬ f.params.length<f.params.length:=by omega
   apply aU;simp[hC];refine bh ?_;simp;apply T.exit;simp;apply aj;simp[hC];refine T.le (Le.dz (o:=3) rfl tEj) ?_;simp[gP,tk];refine T.le (Le.oo 2 8 85 12 rfl rfl) ?_;simp;refine T.le (Le.oo 2 9 3 1 rfl rfl) ?_;simp;refine T.le (Le.norm [11,10,6,5] [(2,0),(5,3),(6,4),(0,5),(1,6),(4,7)] 0 8 Rm Rl yBw yA) ?_;simp[dC,ct,cq,dR,gf,assoc];simp only[FE,List.length_nil,Nat.zero_add,List.nil_append] at Qf;have hlen:=rW.2 f.body (p5 p f) (pI f.params) 0 0;obtain⟨v1,v2,v3,v4⟩:=y9.2 f.body 2 _ _ _ 0 hEW (h.bd f hf);have v5:=xB.2 f.body;have ZA:l8 p f=⟨f.name,pI f.params,pL f.params,(bM f.body (p5 p f) (pI f.params) 0).2,(bM f.body (p5 p f) (pI f.params) 0).1++[.ret]⟩:=rfl;generalize bM f.body (p5 p f) (pI f.params) 0=S at Qf hlen v1 v2 v3 v4 ZA;obtain⟨S1,S2⟩:=S;generalize hS3:gZ f.body 0=S3 at Qf hlen;generalize hN:eK f.body=NN at Qf v4 v5;simp only at Qf hlen v1 v3 v4 ZA;have tb:=bC f.body;apply aj;simp[hC];refine TL.gK Qf rfl rfl (b9 _) (aQ _) yA rfl PV rfl rfl rfl YV rfl (TL.go' ah ?_);simp;have tS1:=b9 S1;have Vd:=aQ S3;refine T.le (Le.norm [11,10,6,5] [(0,0),(8,3),(9,4),(5,5),(6,6),(7,7)] 0 8 Rm Rl (by simp[dD,um,p4,tree,assoc,-List.all_eq_true,-List.all_flatMap,fj,eC,fz,aH tS1,aH Vd]) yA) ?_;simp[dC,ct,cq,dR,gf,assoc,fj,eC,fz,ay _ _ tS1,ay _ _ Vd];apply aj;simp[hC];refine TL.gK (Me p (p5 p f) S2 NN S1 S3 S1.length S3.length rfl rfl [I 8,I 0,.bool false,I 0,I 0,.str eS,.ai,.bool false,I 0,.ai,.ai,.ai] rfl rfl NN yA yA) (b9 _) (aQ _) (vB _ rfl) (aQ _) yA rfl PV rfl rfl rfl rfl rfl (TL.go' ah ?_);simp;have tS4:trees (S1.flatMap dd++[I 8,I 0,.bool false,I 0,I 0,.str eS,.ai,.bool false,I 0,.ai,.ai,.ai])=true:=by rw[bF,tS1];rfl
   refine T.le (Le.nz [] [8]) ?_;simp[Ou,pb];apply T.seq;refine T.rx ah follows [0,1,2,3,4,5,6,7,8,9,10,11] [(7,9)] PH ?_;simp[hC,fj];apply T.seq;refine T.rx ah follows [0,1,2,3,4,5,6,7,8,9,10,11,12,13,14,15,16] [(4,13),(8,13),(12,13)] PH ?_;simp[hC];apply T.ret;have hinr:dd In.ret=[I 8,I 0,.bool false,I 0,I 0,.str eS,.az [] 0,.bool false,I 0,.az [] 0,.az [] 0,.az [] 0]:=by simp[dd,bK,qL]
   have TE:S1.flatMap dd++[I 8,I 0,.bool false,I 0,I 0,.str eS,.az [] 0,.bool false,I 0,.az [] 0,.az [] 0,.az [] 0]=(S1++[In.ret]).flatMap dd:=by simp[hinr]
   have tS5:=b9 (S1++[In.ret]);have tS6:=aQ (S3++[NN]);have tk5:List.take ((S1.length+1)*12) ((S1++[In.ret]).flatMap dd)=(S1++[In.ret]).flatMap dd:=List.take_of_length_le (by rw[yn];simp);have tk6:List.take (S3.length+1) ((S3++[NN]).map fun n:Nat=>I n)=(S3++[NN]).map fun n:Nat=>I n:=List.take_of_length_le zX;simp only[TE];generalize hX:(S1++[In.ret]).flatMap dd=X at tS5 tk5;generalize hY:((S3++[NN]).map fun n:Nat=>I n)=Y at tS6 tk6;refine aa.le (Le.trim [6,7,8,9] [6,8,9] 10 (by simp[fz,hY,-List.all_eq_true,-List.all_flatMap,af tS5,af tS6]) yA) ?_;simp[fz,hY];refine aa.le (Le.dz (o:=8) rfl tS5) ?_;simp[tk5,cW tS6];refine aa.le (Le.dz (o:=9) rfl tS6) ?_;simp[tk6];apply aa.here;simp only[ZA,nD];simp;exact⟨by rw[← hX];simp,by rw[← hY];simp⟩
end Go.Proofs.YtnecpnjdonibmaaGreat
namespace Go.aP
open Go.Can
theorem jP.main {p:Pg}(h:jP p):∃ f r,p.fs=f::r∧f.params=[]∧iu (cU p) f.name=some ⟨f.name,3,0⟩∧nF.head? = some f.name:=by
 obtain⟨a1,a2,_,_⟩:=gg;obtain⟨s1,s2,s3,_⟩:=h.sub;obtain⟨d1,d2,d3,_⟩:=h.nd;obtain⟨k,hk,_,he⟩:=h.fn
 cases RP:p.fs with
 | nil=>
  rw[RP] at he;have:=congrArg List.length he;simp[nF] at this;omega
 | cons f r=>
  refine⟨f,r,rfl,h.f0 f (by rw[RP];rfl),?_,?_⟩
  ·have hm:f.name∈nF:=s3 _ (by rw[RP];simp);have h0:(p.fs.map (·.name))[0]? = some f.name:=by rw[RP];rfl
   rw[cU,dj,dj,dN (fun hx=>(a2 _ hm).1 (s1 _ hx)),dN (fun hx=>(a2 _ hm).2 (s2 _ hx))];simp only;rw[pt h0 d3]
  ·rw[RP] at he;obtain⟨k,rfl⟩:∃ k',k=k' + 1:=⟨k-1,by omega⟩;simp only[nF,List.map_cons,List.take_succ_cons,List.cons.injEq] at he;rw[he.1];rfl
end Go.aP
namespace Go.Proofs.YtnecpnjdonibmaaGreat
open Go.Can Go.aP
theorem mN (x:Pr):trees (nD x)=true:=by simp only[nD,trees,tree,Bool.and_true]
theorem gD (x:Pr):(nD x).length=5:=rfl
def zj (l:List Pr):Ob:=⟨88,5,l.flatMap nD⟩
def Ht (l:List Int):Ob:=⟨3,1,l.map I⟩
theorem iC (l:List Int):trees (l.map I)=true:=by
 induction l with
 | nil=>rfl
 | cons a r ih=>rw[List.map_cons,trees,ih];rfl
theorem BF:∀ {l:List Nat} {x:Nat},x∈l→x≤l.sum
 | a::r,x,h=>by
  rw[List.sum_cons];rcases List.mem_cons.1 h with rfl | h
  ·omega
  ·have:=BF h;omega
def nR:Ob:=⟨30,0,[.ai,.ai,.ai,I 0]⟩
def JL1 (p:Pg)(m:Nat)(s:St):Prop:=∃ i:Nat,m=p.gs.length-i∧i≤p.gs.length∧
 s=⟨[(11,I i),(10,.av 2 0),(6,.az ((cU p).flatMap gN) (cU p).length),(2,.av 1 0),(1,.av 0 0)],
  [(0,⟨27,0,dU p⟩),(1,nR),(2,⟨30,0,[.bj 3 0 i,.az (p.ms.flatMap eL) p.ms.length,.ai,I 0]⟩),(3,Ht ((p.gs.take i).map (·.init)))],4⟩
def JL2 (p:Pg)(m:Nat)(s:St):Prop:=∃ i:Nat,m=p.fs.length-i∧i≤p.fs.length∧
 s=⟨[(12,I i),(10,.av 2 0),(6,.az ((cU p).flatMap gN) (cU p).length),(2,.av 1 0),(1,.av 0 0)],
  [(0,⟨27,0,dU p⟩),(1,nR),(2,⟨30,0,[.az ((p.gs.map (·.init)).map I) p.gs.length,.az (p.ms.flatMap eL) p.ms.length,.bj 3 0 i,I 0]⟩),(3,zj ((p.fs.take i).map (l8 p)))],4⟩
set_option maxHeartbeats 4000000 in
theorem Hm (p:Pg)(h:jP p):ae Tryz.prog 68 [vS p] (.dH [ef (kJ p),I 0,I 0,I 0]):=by
 obtain⟨k1,VC,e1⟩:=h.gn;obtain⟨k2,_,UX,e2⟩:=h.mn;obtain⟨k3,_,hk3,e3⟩:=h.fn;have l1:=congrArg List.length e1;have l2:=congrArg List.length e2;have l3:=congrArg List.length e3;simp[nG] at l1;simp[nM] at l2;simp[nF] at l3;have XM:∀ f∈p.fs,f.params.length≤2:=fun f hf=>by
  obtain⟨k,hk,e⟩:=h.pn f hf;have h5:=congrArg List.length e;simp only[List.length_map,List.length_reverse,List.length_take,nP,List.length_cons,List.length_nil] at h5;omega
 have hB:PgB p:=⟨by omega,by omega,fun f hf=>by have:=XM f hf;omega⟩;have VK:=Ah p;have Rw:=FY p h;have hdec:=Ag p h yA yA yA;obtain⟨fm,fr,RP,Td,Z7,We⟩:=h.main;have SU:=pw (cU p) fm.name yA;rw[Z7] at SU;have Up:fm.name=⟨#[109,97,105,110]⟩:=by
  simp only[nF,List.head?_cons,Option.some.injEq] at We;rw[← We]
 obtain⟨t1,t2,t3⟩:=iA p;have tE:=cj (cU p);have fm1:=bk (f:=eL) (n:=3) (fun _=>rfl) p.ms;have bd0:p.ms.length*32≤140737488355328:=by omega
 have hf0:p.fs[0]? = some fm:=by rw[RP];rfl
 have PL:=bS (f:=eF) (n:=3) (fun _=>rfl) hf0 1 yA;have Qv:0<p.fs.length:=by rw[RP];simp
 refine ae.aM ah Tryz.func68 rfl PH (by simp[Tryz.ntmps68]) rfl fun C hC PN=>?_;rw[Tryz.ntmps68] at hC;simp only[vS,dU] at Rw hdec ⊢;apply aj;simp[hC];apply aU;simp[hC];refine dQ P2 (Rw) ?_;simp[hC];refine gO ?_;simp;apply aj;simp[hC];refine dQ P2 (hdec) ?_;simp[hC];apply aU;simp[hC];refine gO ?_;simp;rw[Up] at SU;apply aj;simp[hC];refine dQ P2 (SU) ?_;simp[hC,pv,gN];apply aU;simp[hC,PL,Qv,eF,Td];refine gO ?_;simp;apply T.seq;refine T.rx ah follows [0,1,2,3,4,5,6,7,8] [(1,2),(1,5),(1,7),(2,4),(2,7),(4,7),(5,7)] PH ?_;simp[hC,fm1,bd0,aX];apply aU;simp[hC];apply T.block;refine T.aJ (JL1 p) (n:=p.gs.length) ?_ ?_
 ·have tk:List.take (p.ms.length*3) (p.ms.flatMap eL)=p.ms.flatMap eL:=List.take_of_length_le (by rw[fm1];exact Nat.le_refl _);refine aa.le (Le.trim [11,10,6,2,1] [10,12,1,0] 13 (by simp[-List.all_eq_true,-List.all_flatMap,af (eT p.ms)]) yA) ?_;simp;refine aa.le (Le.dz (o:=12) rfl (eT p.ms)) ?_;simp[tk];refine aa.le (Le.oo 10 0 3 1 rfl rfl) ?_;simp;refine aa.le (Le.norm [11,10,6,2,1] [(0,0),(1,1),(10,2),(13,3)] 0 4 Rm Rl yBw yA) ?_;simp[dC,ct,cq,dR,gf,assoc];refine aa.here ⟨0,by omega,by omega,?_⟩;simp[dU,nR,Ht]
 ·rintro n s ⟨i,rfl,hi,rfl⟩;by_cases PJ:i<p.gs.length
  ·obtain⟨y,hy⟩:∃ y,p.gs[i]? = some y:=⟨p.gs[i],List.getElem?_eq_getElem PJ⟩;have PL:=aO (f:=nW) (n:=2) (fun _=>rfl) hy;have Rz:=bS (f:=nW) (n:=2) (fun _=>rfl) hy 1 yA;have wi:=cE ((i:Int)+1) yA yA;have PY:p.gs.take (i+1)=p.gs.take i++[y]:=by rw[List.take_add_one,hy];rfl
   have QK:((p.gs.take i).map (·.init)).length=i:=by simp;omega
   have TQ:(i+1)*8≤140737488355328:=by omega
   have tI:=iC ((p.gs.take i).map (·.init));generalize hG:(p.gs.take i).map (·.init)=G at QK tI;simp only[dU,nR,Ht];apply aU;simp[hC,PJ];refine gQ ?_;simp;apply dZ;refine T.rx ah follows [0,1,2,3,4,5,6,7,8,9,10,11] [(1,8)] PH ?_;simp[hC,PJ,PL,nW,QK,TQ,aX];apply aW;simp[hC,wi];refine⟨p.gs.length-(i+1),by omega,?_⟩;have tN:trees (G.map I++[I y.init])=true:=by rw[bF,tI];rfl
   have P4:=aH tN;have Sx:=fun ρ=>ay ρ _ tN;refine aa.le (Le.norm [11,10,6,2,1] [(0,0),(1,1),(2,2),(16,3)] 0 4 Rm Rl YW yA) ?_;simp[dC,ct,cq,dR,gf,assoc,Sx];refine aa.here ⟨i+1,rfl,by omega,?_⟩;simp[dU,nR,Ht,PY,hG]
  ·have PS:i=p.gs.length:=by omega
   subst PS;apply aU;simp[hC,dU];refine bh ?_;simp;apply T.exit;simp;have tI:=iC (p.gs.map (·.init));have tkI:List.take p.gs.length ((p.gs.map (·.init)).map I)=(p.gs.map (·.init)).map I:=List.take_of_length_le zX;have hints:ints (p.gs.map (·.init))=.az ((p.gs.map (·.init)).map I) p.gs.length:=by simp[ints]
   generalize hG:p.gs.map (·.init)=G at tI tkI hints;simp only[nR,Ht];apply aU;simp[hC];apply T.block;refine T.aJ (JL2 p) (n:=p.fs.length) ?_ ?_
   ·refine aa.le (Le.trim [12,10,6,2,1] [0,1,2,3] 4 (by simp[-List.all_eq_true,-List.all_flatMap,af tI]) yA) ?_;simp;refine aa.le (Le.dz (o:=3) rfl tI) ?_;simp[tkI];refine aa.le (Le.oo 2 2 88 5 rfl rfl) ?_;simp;refine aa.le (Le.norm [12,10,6,2,1] [(0,0),(1,1),(2,2),(4,3)] 0 4 Rm Rl yBw yA) ?_;simp[dC,ct,cq,dR,gf,assoc];refine aa.here ⟨0,by omega,by omega,?_⟩;simp[dU,nR,zj,hG]
   ·rintro n s ⟨i,rfl,hi,rfl⟩;by_cases PJ:i<p.fs.length
    ·obtain⟨f,hf⟩:∃ f,p.fs[i]? = some f:=⟨p.fs[i],List.getElem?_eq_getElem PJ⟩;have Z7:=List.mem_of_getElem? hf;have hfk:bH f.body≤1200:=by
      have h1:=BF (List.mem_map_of_mem (f:=fun f:Fu=>bH f.body) Z7);have h2:=h.wt;omega
     have We:=z6 p h hB yA f Z7 hfk (by have:=XM f Z7;omega);have PL:=aO (f:=eF) (n:=3) (fun _=>rfl) hf;have wi:=cE ((i:Int)+1) yA yA;have PY:p.fs.take (i+1)=p.fs.take i++[f]:=by rw[List.take_add_one,hf];rfl
     have QK:((p.fs.take i).map (l8 p)).length=i:=by simp;omega
     have tP:=aF mN ((p.fs.take i).map (l8 p));have fP:=bk (f:=nD) (n:=5) gD ((p.fs.take i).map (l8 p));rw[QK] at fP;have TQ:(i+1)*64≤140737488355328:=by omega
     generalize hH:(p.fs.take i).map (l8 p)=Hs at QK tP fP;have Zz:nD (l8 p f)=[.str (l8 p f).name,I (l8 p f).ints,I (l8 p f).bx,I (l8 p f).locals,.az ((l8 p f).code.flatMap dd) (l8 p f).code.length]:=rfl;have tpr:=mN (l8 p f);rw[Zz] at We tpr;have tcd:=b9 (l8 p f).code;simp only[dU,eF,vS] at We;simp only[dU,nR,zj];apply aU;simp[hC,PJ];refine gQ ?_;simp;apply dZ;apply T.seq;refine T.rx ah follows [0,1,2,3,4,5,6,13,7,8,9,10,11,12,14,15,16,17] [(0,13),(3,13),(6,13),(13,7)] PH ?_;simp[hC,PJ,PL,eF];have PU:trees [.agg [.az (p.gs.flatMap nW) p.gs.length,.az (p.ms.flatMap eL) p.ms.length,.az (p.fs.flatMap eF) p.fs.length],.az ((cU p).flatMap gN) (cU p).length,.agg [.str f.name,.az (f.params.flatMap kj) f.params.length,.az (bz f.body) f.body.length]]=true:=by
      simp only[trees,tree];rfl
     refine RX.call rfl rfl rfl rfl rfl PU We ?_;simp;apply aU;simp[hC];refine gO ?_;simp;apply aW;simp[hC,fP,TQ,aX];apply aW;simp[hC,wi];refine⟨p.fs.length-(i+1),by omega,?_⟩;have tN:trees (Hs.flatMap nD++[.str (l8 p f).name,I (l8 p f).ints,I (l8 p f).bx,I (l8 p f).locals,.az ((l8 p f).code.flatMap dd) (l8 p f).code.length])=true:=by rw[bF,tP,tpr];rfl
     have P4:=aH tN;have Sx:=fun ρ=>ay ρ _ tN;have tI2:=iC (p.gs.map (·.init));refine aa.le (Le.norm [12,10,6,2,1] [(0,0),(1,1),(2,2),(23,3)] 0 4 Rm Rl YW yA) ?_;simp[dC,ct,cq,dR,gf,assoc,Sx];refine aa.here ⟨i+1,rfl,by omega,?_⟩;simp[dU,nR,zj,PY,hH,Zz]
    ·have PS:i=p.fs.length:=by omega
     subst PS;have tP:=aF mN (p.fs.map (l8 p));have fP:=bk (f:=nD) (n:=5) gD (p.fs.map (l8 p));have QK:(p.fs.map (l8 p)).length=p.fs.length:=by simp
     rw[QK] at fP;have tkP:List.take (p.fs.length*5) ((p.fs.map (l8 p)).flatMap nD)=(p.fs.map (l8 p)).flatMap nD:=List.take_of_length_le yA;have TZ:dh (kJ p)=[.az ((p.gs.map (·.init)).map I) p.gs.length,.az (p.ms.flatMap eL) p.ms.length,.az ((p.fs.map (l8 p)).flatMap nD) p.fs.length,I 0]:=by simp[dh,kJ,ints]
     simp only[dU,nR,zj,List.take_length];generalize hH:p.fs.map (l8 p)=Hs at tP fP tkP TZ;apply aU;simp[hC];refine bh ?_;simp;apply T.exit;simp;apply aj;simp[hC];apply T.ret;have tI2:=iC (p.gs.map (·.init));generalize hG:(p.gs.map (·.init)).map I=Gs at tI2 TZ;refine aa.le (Le.trim [5,4,3,2] [1,3] 4 (by simp[-List.all_eq_true,-List.all_flatMap,af tP]) yA) ?_;simp;refine aa.le (Le.dz (o:=3) rfl tP) ?_;simp[tkP];apply aa.here;simp[ef,TZ];rw[← hG,List.map_map]
theorem aC (l:List Nat):trees (l.map fun n:Nat=>I n)=true:=aQ l
theorem aD (l:List Nat):tree (aA l)=true:=by simp only[aA,tree]
theorem bV (x:Is):trees (df x)=true:=by simp only[df,trees,aD,Bool.and_true];rfl
theorem fk (x:Is):(df x).length=2:=rfl
theorem dk {l:List Nat}{i n:Nat}(h:l[i]? = some n):(l.map fun n:Nat=>I n).drop i=I n::(l.drop (i+1)).map fun n:Nat=>I n:=by
 obtain⟨hl,rfl⟩:=List.getElem?_eq_some_iff.1 h;rw[← List.map_drop,List.drop_eq_getElem_cons hl,List.map_cons]
theorem vJ (is:Is)(q:Pl)(h:q.param=true→q.index<is.bx.length):ae Tryz.prog 42 [.agg (df is),.agg (l9 q)] (I (ma is q)):=by
 refine ae.aM ah Tryz.func42 rfl PH (by simp[Tryz.ntmps42]) rfl fun C hC PN=>?_;rw[Tryz.ntmps42] at hC;simp only[df,l9,aA,mr];apply aj;simp[hC];apply aU;simp[hC]
 cases hq:q.param with
 | true=>
  have PQ:=h hq;obtain⟨n,hn⟩:∃ n,is.bx[q.index]? = some n:=⟨_,List.getElem?_eq_getElem PQ⟩;have PL:=dk hn;have WA:ma is q=n:=by simp[ma,hq,List.getD_eq_getElem?_getD,hn]
  refine T.cond (b:=true) RN ?_;simp;apply aj;simp[hC,PQ,PL];apply T.ret;apply aa.here;simp[Tryz.results42,WA]
 | false=>
  have WA:ma is q=q.index:=by simp[ma,hq]
  refine T.cond (b:=false) RN (T.skip ?_);simp;apply aj;simp[hC];apply T.ret;apply aa.here;simp[Tryz.results42,WA]
theorem HA (g:Bool)(t:Nat)(l:List Ex)(ps:List Pl):dd (.call g t l ps)=[I (if g=true then 3 else 2),I t,.bool false,I 0,I 0,.str eS,.az [] 0,.bool false,I 0,.az [] 0,.az (l.flatMap bK) l.length,.az (ps.flatMap l9) ps.length]:=rfl
def cK (l:List Nat):Ob:=⟨3,1,l.map fun n:Nat=>I n⟩
def J27 (_u:Un)(is:Is)(cs:List CV)(cn:Nat)(pc:Int)(t:Nat)(ps:List Pl)(m:Nat)(s:St):Prop:=∃ i:Nat,m=ps.length-i∧i≤ps.length∧
 s=⟨[(10,I i),(9,.av 3 0),(8,.az cs cn),(6,.av 2 0),(4,.av 1 0),(2,I pc)],[(1,⟨90,0,df is⟩),(2,⟨90,0,[I 0,.ai]⟩),(3,⟨90,0,[I t,.bj 4 0 i]⟩),(4,cK ((ps.take i).map (ma is)))],5⟩
theorem bO (u:Un):trees (dh u)=true:=by
 simp only[dh,trees,ints,tree];simp
set_option maxHeartbeats 4000000 in
theorem Bp (u:Un)(hu:ik u)(is:Is)(hi:pV u is)(pc:Int):ae Tryz.prog 137 [ef u,.agg (df is),I pc] (yx (qz u is pc)):=by
 obtain⟨⟨pq,Qe,TK⟩,hlm⟩:=id hi;have PK:aq u is=pq.code:=by simp only[aq,Qe]
 have Qy:=(List.getElem?_eq_some_iff.1 Qe).1;have PL:=bS (f:=nD) (n:=5) gD Qe 4 yA;have hlen:=(hu.pr pq (List.mem_of_getElem? Qe)).2.2.2.2;have RQ:tree (yx (qz u is pc))=true:=by
  cases qz u is pc with
  | none=>rfl
  | some x=>simp only[yx,tree,trees,bV];rfl
 have PO:=bO u;simp only[dh,ints] at PO;refine ae.aM ah Tryz.func137 rfl PH (by simp[Tryz.ntmps137]) RQ fun C hC PN=>?_;rw[Tryz.ntmps137] at hC;simp only[ef,dh,df,ints];apply aj;simp[hC];apply aj;simp[hC,Qy,PL,nD];have WY:=b9 pq.code;have WY:=b9 pq.code;by_cases h1:pc<0
 ·have hn:qz u is pc=none:=by simp[qz,h1]
  apply aU;simp[hC,h1];refine fx ?_;simp;apply aj;simp[hC];apply T.ret;simp;refine aa.le (Le.trim [6,7] [2] 3 zX yA) ?_;simp;refine aa.le (Le.nz [] [2]) ?_;apply aa.here;simp[hn,yx]
 ·obtain⟨k,rfl⟩:∃ k:Nat,pc=k:=⟨pc.toNat,by omega⟩;by_cases h2:k<pq.code.length
  ·obtain⟨x,hx⟩:∃ x,pq.code[k]? = some x:=⟨_,List.getElem?_eq_getElem h2⟩;have R4:qz u is k=jn is x:=by simp[qz,PK,hx,h1]
   have QL:=aO (f:=dd) (n:=12) fo hx;obtain⟨xc,QJ,_⟩:=ku x;rw[QJ] at QL;have Vx:¬ ((pq.code.length:Int)≤(k:Int)):=by omega
   by_cases P0:∃ g t l ps,x=.call g t l ps
   ·obtain⟨g,t,l,ps,rfl⟩:=P0;have hcal2:qz u is k=some ⟨t,ps.map (ma is)⟩:=by rw[R4];rfl
    have hic:FD (u.ps.map fun q=>(q.ints,q.bx)) u.ms u.gs.length pq.locals pq.bx (pq.code.length-1) (.call g t l ps):=(hu.pc pq (List.mem_of_getElem? Qe)).2 _ (List.mem_of_getElem? hx);have Zy:=hic.2.2;have SH:=bS (f:=dd) (n:=12) fo hx 1 yA;have WL:=bS (f:=dd) (n:=12) fo hx 11 yA;rw[HA] at SH WL;have XR:((qj (.call g t l ps) == 2) && (qj (.call g t l ps) == 3))=false:=by cases g<;>rfl
    have Yg:List.drop (k*12) (pq.code.flatMap dd)=I (if g=true then 3 else 2)::xc++(pq.code.drop (k+1)).flatMap dd:=by rw[QL];cases g<;>rfl
    have hpsl:ps.length≤100:=by
     have h5:=hic.1;rw[List.getElem?_map,Option.map_eq_some_iff] at h5;obtain⟨q',h6,h7⟩:=h5;simp only[Prod.mk.injEq] at h7;have:=(hu.pr q' (List.mem_of_getElem? h6)).2.1;omega
    rw[hcal2];simp only[yx];clear QL;generalize Z4:(if g=true then (3:Int) else 2)=op at Yg;have hop3:((op != 2) && (op != 3))=false:=by subst Z4;cases g<;>rfl
    have U3:(op != 2)=false∨((op != 2)=true∧(op != 3)=false):=by subst Z4;cases g<;>simp
    refine T.cut (fun s=>s=⟨[(8,.az (pq.code.flatMap dd) pq.code.length),(6,.av 2 0),(4,.av 1 0),(2,I k)],[(2,⟨90,0,[I 0,.ai]⟩),(1,⟨90,0,df is⟩)],3⟩) ?_ ?_
    ·rcases U3 with hb | ⟨hb,Re⟩
     ·apply aj;simp[hC,Vx,h1,h2,Yg,hb];refine gO ?_;simp;refine aa.trim [8,6,4,2] [2,1] 3 (by simp[-List.all_eq_true,-List.all_flatMap,a6 3 _ (aD is.bx)]) yA ?_;simp[df]
     ·apply aj;simp[hC,Vx,h1,h2,Yg,hb,Re];refine gO ?_;simp;refine aa.trim [8,6,4,2] [2,1] 3 (by simp[-List.all_eq_true,-List.all_flatMap,a6 3 _ (aD is.bx)]) yA ?_;simp[df]
    ·rintro s rfl;simp only[df];apply aj;simp[hC,h2,SH];apply aU;simp[hC];apply T.block;refine T.aJ (J27 u is (pq.code.flatMap dd) pq.code.length k t ps) (n:=ps.length) ?_ ?_
     ·refine aa.le (Le.oo 3 1 3 1 rfl rfl) ?_;simp;refine aa.trim [10,9,8,6,4,2] [1,2,3,4] 5 (by simp[-List.all_eq_true,-List.all_flatMap,a6 5 _ (aD is.bx)]) yA ⟨0,by omega,by omega,?_⟩;simp[df,cK]
     ·rintro n s ⟨i,rfl,UY,rfl⟩;by_cases PJ:i<ps.length
      ·obtain⟨q,hq⟩:∃ q,ps[i]? = some q:=⟨ps[i],List.getElem?_eq_getElem PJ⟩;have WK:=aO (f:=l9) (n:=3) sb hq;have hqv:q.param=true→q.index<is.bx.length:=fun hp=>by
        rcases Zy q (List.mem_of_getElem? hq) with ⟨_,h8,_⟩ | ⟨h8,_⟩
        ·omega
        ·rw[hp] at h8;cases h8
       have QY:=vJ is q hqv;have wi:=cE ((i:Int)+1) yA yA;have PY:ps.take (i+1)=ps.take i++[q]:=by rw[List.take_add_one,hq];rfl
       have QK:((ps.take i).map (ma is)).length=i:=by simp;omega
       have tN:=aC ((ps.take i).map (ma is));have TQ:(i+1)*8≤140737488355328:=by omega
       obtain⟨q1,q2,q3,q4,hqc,tq⟩:=GR q;rw[hqc] at WK QY;generalize hG:(ps.take i).map (ma is)=G at QK tN;simp only[df,cK] at QY ⊢;apply aU;simp[hC,h2,WL,PJ];refine gQ ?_;simp;apply dZ;refine T.rx ah follows [0,1,2,3,4,5,6,7,8,9,10,11,12,13,14,15] [(1,11),(1,12)] PH ?_;simp[hC,h2,WL,PJ,WK];have PU:trees [.agg [I is.proc,aA is.bx],.agg [.bool q1,I q2,.az q3 q4]]=true:=by
        simp only[trees,tree,aD,Bool.and_true]
       refine RX.call rfl rfl rfl rfl rfl PU QY ?_;simp[QK,TQ,aX];apply aW;simp[hC,wi];refine⟨ps.length-(i+1),by omega,?_⟩;have tN2:trees ((G.map fun n:Nat=>I n)++[I (ma is q)])=true:=by rw[bF,tN];rfl
       have P4:=aH tN2;have Sx:=fun ρ=>ay ρ _ tN2;have tnt:=aD is.bx;simp only[aA,tree] at tnt;simp only[aA];refine aa.le (Le.norm [10,9,8,6,4,2] [(1,1),(2,2),(3,3),(21,4)] 0 5 Rm Rl YW yA) ?_;simp[dC,ct,cq,dR,gf,assoc,Sx];refine aa.here ⟨i+1,rfl,by omega,?_⟩;simp[df,cK,PY,hG,aA]
      ·have PS:i=ps.length:=by omega
       subst PS;rw[List.take_length];have tN:=aC (ps.map (ma is));have tkN:List.take ps.length ((ps.map (ma is)).map fun n:Nat=>I n)=(ps.map (ma is)).map fun n:Nat=>I n:=List.take_of_length_le zX;have hnt:aA (ps.map (ma is))=.az ((ps.map (ma is)).map fun n:Nat=>I n) ps.length:=by simp[aA]
       simp only[df,cK];rw[hnt];generalize hG:((ps.map (ma is)).map fun n:Nat=>I n)=G at tN tkN;apply aU;simp[hC,h2,WL];refine bh ?_;simp;apply T.exit;simp;apply aj;simp[hC];apply T.ret;refine aa.le (Le.trim [6,7] [2,4] 5 (by simp[-List.all_eq_true,-List.all_flatMap,af tN]) yA) ?_;simp;refine aa.le (Le.dz (o:=4) rfl tN) ?_;simp[tkN];apply aa.here;simp
   ·have hn:qz u is k=none:=by
     rw[R4]
     cases x with
     | call g t l ps=>exact (P0 ⟨g,t,l,ps,rfl⟩).elim
     | _=>rfl
    have XR:((qj x != 2)=true)∧((qj x != 3)=true):=by
     cases x with
     | call g t l ps=>exact (P0 ⟨g,t,l,ps,rfl⟩).elim
     | lock u _=>cases u<;>exact⟨rfl,rfl⟩
     | _=>exact⟨rfl,rfl⟩
    apply aU;simp[hC,Vx,h1,h2,QL,XR.1,XR.2];refine fx ?_;simp;apply aj;simp[hC];apply T.ret;simp;refine aa.le (Le.trim [6,7] [2] 3 zX yA) ?_;simp;refine aa.le (Le.nz [] [2]) ?_;apply aa.here;simp[hn,yx]
  ·have hn:qz u is k=none:=by simp[qz,PK,List.getElem?_eq_none (Nat.le_of_not_lt h2)]
   have Vx:(pq.code.length:Int)≤(k:Int):=by omega
   apply aU;simp[hC,Vx,h1];refine fx ?_;simp;apply aj;simp[hC];apply T.ret;simp;refine aa.le (Le.trim [6,7] [2] 3 zX yA) ?_;simp;refine aa.le (Le.nz [] [2]) ?_;apply aa.here;simp[hn,yx]
def fD (f:List Nat)(i:Nat):List CV:=(f.take i).map (fun n:Nat=>I n)++List.replicate (f.length-i) (I 0)
theorem iM {f:List Nat}{i:Nat}(h:i≤f.length):(fD f i).length=f.length:=by simp[fD];omega
theorem gq (f:List Nat):fD f 0=List.replicate f.length (I 0):=by simp[fD]
theorem iN (f:List Nat):fD f f.length=f.map fun n:Nat=>I n:=by simp[fD]
theorem jr (n:Nat):trees (List.replicate n (I 0))=true:=by
 induction n with
 | zero=>rfl
 | succ n ih=>rw[List.replicate_succ];simpa only[trees,tree,Bool.true_and] using ih
theorem ey (f:List Nat)(i:Nat):trees (fD f i)=true:=by rw[fD,bF,aC,jr];rfl
theorem iL {f:List Nat}{i v:Nat}(h:f[i]? = some v):List.take i (fD f i)++I v::List.drop (i+1) (fD f i)=fD f (i+1):=by
 have hl:=(List.getElem?_eq_some_iff.1 h).1;have hA:((f.take i).map (fun n:Nat=>I n)).length=i:=by rw[List.length_map,List.length_take];omega
 have hr:List.replicate (f.length-i) (I 0)=I 0::List.replicate (f.length-(i+1)) (I 0):=by
  rw[show f.length-i=(f.length-(i+1))+1 by omega,List.replicate_succ]
 rw[fD,fD,hr,List.take_left' hA];have hd:List.drop (i+1) ((f.take i).map (fun n:Nat=>I n)++I 0::List.replicate (f.length-(i+1)) (I 0))=List.replicate (f.length-(i+1)) (I 0):=by
  rw[← List.drop_drop,List.drop_left' hA];rfl
 rw[hd,List.take_add_one,h];simp
theorem nj {f:List Nat}{i:Nat}(h:f[i]? = some 0):fD f i=fD f (i+1):=by
 have hl:=(List.getElem?_eq_some_iff.1 h).1;rw[fD,fD,show f.length-i=(f.length-(i+1))+1 by omega,List.replicate_succ,List.take_add_one,h];simp
theorem yW {l:List CV}(h:trees l=true)(i:Nat):trees (List.take i l)=true∧trees (List.drop i l)=true:=by
 have:=bF (List.take i l) (List.drop i l);rw[List.take_append_drop,h] at this
 simpa using this.symm
end Go.Proofs.YtnecpnjdonibmaaGreat
namespace Go.aP
open Go.Can
def AS (u:Un)(x:Is)(L:Nat)(t:List (List Nat)):Nat→List Nat
 | 0=>oJ L
 | k+1=>if (aq u x)[k]?.map D6=some true then jK (AS u x L t k) (t.getD k []) else AS u x L t k
theorem yc {u:Un}{x:Is}{L n:Nat}{t:List (List Nat)}(ht:uS L n t):∀ k,k≤n→sI L (AS u x L t k)
 | 0,_=>AW L
 | k+1,hk=>by
  have ih:=yc (u:=u) (x:=x) ht k yA;unfold AS;split
  ·obtain⟨r,hr,hw⟩:=ht.get (p:=k) yA;rw[List.getD_eq_getElem?_getD,hr];exact F4 ih hw
  ·exact ih
theorem Gx {z:In}:D6 z=true↔z=.ret:=by cases z<;>simp[D6]
theorem Dk {u:Un}{x:Is}{L n:Nat}{t:List (List Nat)}(ht:uS L n t){d e:Nat}:∀ k,k≤n→(bm (AS u x L t k) d e=true↔∃ pc,pc<k∧(aq u x)[pc]? = some .ret∧fG t pc d e=true)
 | 0,_=>by simp[AS,rN]
 | k+1,hk=>by
  have ih:=Dk (u:=u) (x:=x) (d:=d) (e:=e) ht k yA;have hw:=yc (u:=u) (x:=x) ht k yA;obtain⟨r,hr,Zb⟩:=ht.get (p:=k) yA;have hg:t.getD k []=r:=by rw[List.getD_eq_getElem?_getD,hr];rfl
  have Yj:fG t k d e=bm r d e:=ij hr d e;unfold AS;split
  ·rename_i Tr;have hz:(aq u x)[k]? = some .ret:=by
    cases hc:(aq u x)[k]? with
    | none=>rw[hc] at Tr;cases Tr
    | some z=>
     rw[hc] at Tr;simp only[Option.map_some,Option.some.injEq] at Tr;rw[Gx.1 Tr]
   rw[hg,Cu (by rw[hw.len,Zb.len]),Bool.or_eq_true,ih];constructor
   ·rintro (⟨pc,h1,h2,h3⟩ | h)
    ·exact⟨pc,by omega,h2,h3⟩
    ·exact⟨k,by omega,hz,by rw[Yj];exact h⟩
   ·rintro⟨pc,h1,h2,h3⟩;by_cases hp:pc=k
    ·subst hp;rw[Yj] at h3;exact .inr h3
    ·exact .inl ⟨pc,by omega,h2,h3⟩
  ·rename_i Tr;rw[ih];constructor
   ·rintro⟨pc,h1,h2,h3⟩;exact⟨pc,by omega,h2,h3⟩
   ·rintro⟨pc,h1,h2,h3⟩;by_cases hp:pc=k
    ·subst hp;rw[h2] at Tr;exact (Tr rfl).elim
    ·exact⟨pc,by omega,h2,h3⟩
theorem Ka {u:Un}{c:Cl}{m L i:Nat}{x:Is}(hx:c.is[i]? = some x)(sm:List (List Nat)):AS u x L (p8 L (aq u x).length (Ri u c m L (yJ sm) i)) (aq u x).length=ss u c m L sm i:=by
 have hw:=jQ L (aq u x).length (Ri u c m L (yJ sm) i);refine CH (yc hw _ (Nat.le_refl _)) fun d e hd he=>?_;rw[Dk hw _ (Nat.le_refl _)];constructor
 ·rintro⟨pc,h1,h2,h3⟩;exact⟨pc,x,hx,h2,(oQ h1 hd he).1 h3⟩
 ·rintro⟨pc,y,h1,h2,h3⟩;rw[hx] at h1;cases h1;have hl:=(List.getElem?_eq_some_iff.1 h2).1;exact⟨pc,hl,h2,(oQ hl hd he).2 h3⟩
section
variable {u:Un}{c:Cl}{m L:Nat}
open Classical in
/-- The last k instances gone through, from the end. -/
noncomputable def vc (u:Un) (c:Cl) (m L:Nat) (t0:List (List Nat)):Nat→List (List Nat)×Bool
 | 0=>(t0,false)
 | k+1=>if (vc u c m L t0 k).1.getD (c.is.length-1-k) []=ss u c m L (vc u c m L t0 k).1 (c.is.length-1-k) then vc u c m L t0 k else ((vc u c m L t0 k).1.set (c.is.length-1-k) (ss u c m L (vc u c m L t0 k).1 (c.is.length-1-k)),true)
structure OfI (u:Un)(c:Cl)(m L:Nat)(t0:List (List Nat))(s:List (List Nat)×Bool):Prop where
 A:Fj u c m L s.1
 same:s.2=false→s.1=t0
 le:eD t0≤eD s.1
 lt:s.2=true→eD t0<eD s.1
theorem BB (h8:L≤8){t0:List (List Nat)}(h0:Fj u c m L t0):∀ k,k≤c.is.length→OfI u c m L t0 (vc u c m L t0 k)∧((vc u c m L t0 k).2=false→∀ i,c.is.length-k≤i→i<c.is.length→t0.getD i []=ss u c m L t0 i)
 | 0,_=>⟨⟨h0,fun _=>rfl,Nat.le_refl _,fun h=>by cases h⟩,fun _ i h1 h2=>by omega⟩
 | k+1,hk=>by
  obtain⟨hI,hd⟩:=BB h8 h0 k yA;unfold vc;split
  ·rename_i he;refine⟨hI,fun h i h1 h2=>?_⟩;by_cases Wa:i=c.is.length-1-k
   ·subst Wa;rw[hI.same h] at he;exact he
   ·exact hd h i yA h2
  ·rename_i he;obtain⟨k1,k2⟩:=hI.A.step h8 (i:=c.is.length-1-k) yA;have k3:=k2 he;have k4:=hI.le;exact⟨⟨k1,(fun h=>by cases h),(by show _≤eD (List.set _ _ _);omega),fun _=>(by show _<eD (List.set _ _ _);omega)⟩,fun h=>by cases h⟩
theorem JO (h8:L≤8){t0:List (List Nat)}(h0:Fj u c m L t0)(h:(vc u c m L t0 c.is.length).2=false):t0=qa u c m L:=
 h0.fin fun i hi=>(BB h8 h0 _ (Nat.le_refl _)).2 h i yA hi
end
section
variable {u:Un}{c:Cl}{m L:Nat}
theorem Ac (H:I1 u c L){i d:Nat}:bm (kZ u c m L) i d=true↔nw u c m L i d:=by
 unfold bm kZ;rw[List.getD_eq_getElem?_getD,List.getElem?_map];by_cases hi:i<c.is.length
 ·rw[List.getElem?_eq_getElem WV];simp only[List.getElem_range,Option.map_some,Option.getD_some];by_cases hd:d≤L
  ·exact qo hd
  ·constructor
   ·intro h;exact (hd (BZ (jA L _) h)).elim
   ·intro h;exact (hd (HT H h).2).elim
 ·rw[List.getElem?_eq_none WV];constructor
  ·intro h;simp at h
  ·intro h;exact (hi (HT H h).1).elim
theorem Py (H:I1 u c L){i pc:Nat}{x:Is}(h:pc<(aq u x).length):wT ((eM u c m L i x).getD pc []) ((kZ u c m L).getD i 0)=jB L (Be u c m L i pc):=
 C8 (Ll h) fun e _=>by
  rw[yE h];exact⟨fun⟨d,h1,h2⟩=>⟨d,(Ac H).1 h1,h2⟩,fun⟨d,h1,h2⟩=>⟨d,(Ac H).2 h1,h2⟩⟩
noncomputable def rH (u:Un) (c:Cl) (m L i:Nat) (x:Is):List Nat:=(List.range (aq u x).length).map fun pc=>jB L (Be u c m L i pc)
noncomputable def qB (u:Un) (c:Cl) (m L:Nat):List (List Nat):=(List.range c.is.length).map fun i=>match c.is[i]? with
 | some x=>rH u c m L i x
 | none=>[]
theorem sF {i:Nat}{x:Is}(hx:c.is[i]? = some x):(qB u c m L)[i]? = some (rH u c m L i x):=by
 have hl:=(List.getElem?_eq_some_iff.1 hx).1;rw[qB,List.getElem?_map,List.getElem?_eq_getElem (by simpa using hl)];simp only[List.getElem_range,Option.map_some,hx]
theorem sG {i pc:Nat}{x:Is}(h:pc<(aq u x).length):(rH u c m L i x)[pc]? = some (jB L (Be u c m L i pc)):=by
 rw[rH,List.getElem?_map,List.getElem?_eq_getElem Sr];simp
end
end Go.aP
