/- function. -/
import Derived.Test.YtlkmbdfhdknlgaaGreatDoorZ34
namespace Go.aT
open Go.Can
def HH (i j:Nat)(q:Pm):En:=if q.mutex=true then ⟨q.name,5,j⟩ else ⟨q.name,4,i⟩
theorem qY:∀ (a:List Pm) (q:Pm) (i j:Nat),jA i j (a++[q])=jA i j a++[HH (i+pI a) (j+pL a) q]
 | [],q,i,j=>by
  simp only[List.nil_append,jA,pI,pL,Nat.add_zero,HH];split<;>rfl
 | p::r,q,i,j=>by
  simp only[List.cons_append,jA,pI,pL];split
  ·rw[qY r q,List.cons_append];congr 3;simp only[HH];congr 2<;>omega
  ·rw[qY r q,List.cons_append];congr 3;simp only[HH];congr 2<;>omega
theorem yU:∀ (a:List Pm) (q:Pm),pI (a++[q])=pI a+if q.mutex=true then 0 else 1
 | [],q=>by simp[pI]
 | p::r,q=>by simp only[List.cons_append,pI,yU r q];omega
theorem yT:∀ (a:List Pm) (q:Pm),pL (a++[q])=pL a+if q.mutex=true then 1 else 0
 | [],q=>by simp[pL]
 | p::r,q=>by simp only[List.cons_append,pL,yT r q];omega
theorem wE:∀ (l:List Pm) (i j:Nat),(jA i j l).length=l.length
 | [],_,_=>rfl
 | p::r,i,j=>by
  simp only[jA];split<;>simp[wE r]
def kZ (p:Pg)(f:Fu)(j:Nat):List En:=cD p++jA 0 0 (f.params.take j)
theorem Bs (p:Pg)(f:Fu)(j:Nat)(q:Pm)(h:f.params[j]? = some q):kZ p f (j+1)=kZ p f j++[HH (pI (f.params.take j)) (pL (f.params.take j)) q]:=by
 have:f.params.take (j+1)=f.params.take j++[q]:=by rw[List.take_add_one,h];rfl
 simp only[kZ,this,qY,Nat.zero_add,List.append_assoc]
theorem xw (p:Pg)(f:Fu)(j:Nat)(h:j≤f.params.length):(kZ p f j).length=(cD p).length+j:=by
 simp only[kZ,List.length_append,wE,List.length_take];omega
theorem DJ {p:Pg}(h:jg p){f:Fu}(hf:f∈p.fs){j:Nat}{q:Pm}(hq:f.params[j]? = some q):gI (kZ p f j) q.name=none:=by
 obtain⟨_,_,_,d4⟩:=h.dec;obtain⟨_,_,a3,_⟩:=fC;obtain⟨_,_,_,s4⟩:=h.sub;obtain⟨_,_,_,n4⟩:=h.nd;have hm:=s4 f hf _ (List.mem_map_of_mem (f:=(·.name)) (List.mem_of_getElem? hq));have ha:=a3 _ hm;rw[kZ,cS,d4 _ (by simp only[List.mem_append,not_or];exact⟨⟨ha.1,ha.2.1⟩,ha.2.2⟩)];simp only;rw[om,mT];obtain⟨hl,K5⟩:=List.getElem?_eq_some_iff.1 hq;have e:f.params=f.params.take j++q::f.params.drop (j+1):=by rw[← K5,← List.drop_eq_getElem_cons hl,List.take_append_drop]
 have h2:((f.params.take j++q::f.params.drop (j+1)).map (·.name)).Nodup:=by rw[← e];exact n4 f hf
 rw[List.map_append,List.map_cons,List.nodup_append] at h2;exact fun hm=>h2.2.2 _ hm _ List.mem_cons_self rfl
end Go.aT
namespace Go.Proofs.YtlkmbdfhdknlgaaGreatDoor
open Go.Can Go.aT
def tt:Ob:=⟨123,0,[.str ⟨#[]⟩,I 0,I 0,I 0,.ag]⟩
def s8 (p:Pg)(n:Nat):Ob:=⟨178,0,[.au (p.gs.flatMap mL) p.gs.length,.au (p.ms.flatMap eQ) p.ms.length,.au (p.fs.flatMap ed) p.fs.length,.bw 3 0 n,I 0,I 0,I 0,I 0,.ag,.ag]⟩
def J60 (p:Pg)(f:Fu)(m:Nat)(s:St):Prop:=∃ j:Nat,m=f.params.length-j∧j≤f.params.length∧
 s=⟨[(12,I j),(11,.ai 4 0),(10,.ai 2 0),(6,.ai 1 0),(5,.ai 0 0)],
  [(0,⟨109,0,ed f⟩),(1,tt),(2,s8 p (kZ p f j).length),(3,gr (kZ p f j)),(4,⟨123,0,[.str f.name,I (pI (f.params.take j)),I (pL (f.params.take j)),I 0,.ag]⟩)],5⟩
set_option maxHeartbeats 4000000 in
theorem xv (p:Pg)(h:jg p)(hB:PgB p)(PE:(cD p).length≤3000)(f:Fu)(hf:f∈p.fs)(hw:bz f.body≤1200)(LX:f.params.length≤100) :
  ae Tryz.prog 49 [tv p,.au ((cD p).flatMap gq) (cD p).length,.agg (ed f)] (.db [.agg (kR (la p f)),.au ((gy f.body 0++[ek f.body]).map fun n:Nat=>I n) (gy f.body 0++[ek f.body]).length,I 0,I 0]):=by
 obtain⟨t1,t2,t3⟩:=gN p;have tE:=bS (cD p);have f0:=aQ (f:=gq) (n:=3) jm (cD p);have Xn:(cD p).length*32≤140737488355328:=by omega
 refine ae.aD af Tryz.func49 rfl lz (by simp[Tryz.ntmps49]) rfl fun C hC xJ=>?_;rw[Tryz.ntmps49] at hC;simp only[tv,dH,ed];apply ah;simp[hC];apply T.seq;refine T.rx af follows [0,1,2,3,4,5,6] [(0,1),(0,3)] lz ?_;simp[hC,f0,Xn,aS];apply ah;simp[hC];apply aL;simp[hC];apply T.block;refine T.aI (J60 p f) (n:=f.params.length) ?_ ?_
 ·refine aa.le (Le.norm [12,11,10,6,5] [(1,0),(2,1),(8,2),(10,3),(11,4)] 0 5 Lb La (by simp[e8,yf,sI,tree,assoc,-List.all_eq_true,-List.all_flatMap,aK tE]) yA) ?_;simp[dP,cr,cg,en,gA,assoc,aF _ _ tE];refine aa.here ⟨0,by omega,by omega,?_⟩;simp[ed,tt,s8,gr,kZ,jA,pI,pL]
 ·rintro n s ⟨j,rfl,hj,rfl⟩;by_cases nr:j<f.params.length
  ·obtain⟨q,hq⟩:∃ q,f.params[j]? = some q:=⟨f.params[j],List.getElem?_eq_getElem nr⟩;have Ue:=xw p f j hj;have M0:=xz (kZ p f j) q.name yA;rw[DJ h hf hq] at M0;have oy:=az (f:=jB) (n:=2) (fun _=>rfl) hq;have KU:=bb (f:=jB) (n:=2) (fun _=>rfl) hq 1 yA;have wi:=cm ((j:Int)+1) yA yA;have VP:=pIL (f.params.take j);rw[List.length_take] at VP;have Zs:pI (f.params.take j)+pL (f.params.take j)≤100:=by omega
   have Kk:f.params.take (j+1)=f.params.take j++[q]:=by rw[List.take_add_one,hq];rfl
   have KB:=Bs p f j q hq;have f1:=aQ (f:=gq) (n:=3) jm (kZ p f j);have Nj:((kZ p f j).length+1)*32≤140737488355328:=by omega
   have XJ:=bS (kZ p f j);simp only[ed,s8,tt];apply aL;simp[hC,nr];refine gF ?_;simp;apply fw;refine T.seq (T.seq ?_);refine T.rx af follows [0,1,2,3,4,5,6,7,8,9,14,10,11,12,13,15,16] [(3,14),(5,14),(9,14),(14,10)] lz ?_;simp[hC,nr,oy,jB];refine RX.hZ 0 3 [3] [] 1 (M0) rfl j5 rfl rfl rfl j5 yA j5 j5 rfl j5 Of rfl j5 j5 j5 rfl j5 ?_;simp[oq];apply ah;simp[hC];refine dg ?_;simp;apply ah;simp[hC,nr,KU,jB]
   cases hm:q.mutex with
   | true=>
    have wl:=cm ((pL (f.params.take j):Int)+1) yA yA;refine T.cond (b:=true) (by simp[ev,assoc]) ?_;simp;apply T.seq;refine T.rx af follows [0,1,2,3,4,5,6,7,8,9,10,11,12,13,14,15,16,17,18] [(4,14)] lz ?_;simp[hC,nr,oy,jB,gr,f1,Nj,aS];apply a8;simp[hC,wl];apply a8;simp[hC,wi];refine⟨f.params.length-(j+1),by omega,?_⟩;have tN:trees ((kZ p f j).flatMap gq++[.str q.name,I 5,I (pL (f.params.take j))])=true:=by rw[bu,bS];rfl
    have Kz:=aK tN;have LK:=fun ρ=>aF ρ _ tN;refine aa.le (Le.norm [12,11,10,6,5] [(0,0),(1,1),(2,2),(41,3),(4,4)] 0 5 Lb La Sq yA) ?_;simp[dP,cr,cg,en,gA,assoc,LK];refine aa.here ⟨j+1,rfl,by omega,?_⟩;simp[ed,tt,s8,gr,KB,Kk,HH,hm,gq,yU,yT]
   | false=>
    have wl:=cm ((pI (f.params.take j):Int)+1) yA yA;refine T.cond (b:=false) (by simp[ev,assoc]) ?_;simp;apply T.seq;refine T.rx af follows [0,1,2,3,4,5,6,7,8,9,10,11,12,13,14,15,16,17,18] [(4,14)] lz ?_;simp[hC,nr,oy,jB,gr,f1,Nj,aS];apply a8;simp[hC,wl];apply a8;simp[hC,wi];refine⟨f.params.length-(j+1),by omega,?_⟩;have tN:trees ((kZ p f j).flatMap gq++[.str q.name,I 4,I (pI (f.params.take j))])=true:=by rw[bu,bS];rfl
    have Kz:=aK tN;have LK:=fun ρ=>aF ρ _ tN;refine aa.le (Le.norm [12,11,10,6,5] [(0,0),(1,1),(2,2),(41,3),(4,4)] 0 5 Lb La Sq yA) ?_;simp[dP,cr,cg,en,gA,assoc,LK];refine aa.here ⟨j+1,rfl,by omega,?_⟩;simp[ed,tt,s8,gr,KB,Kk,HH,hm,gq,yU,yT]
  ·have Qi:j=f.params.length:=by omega
   subst Qi;have Ue:=xw p f f.params.length (Nat.le_refl _);have UF:kZ p f f.params.length=oQ p f:=by simp only[kZ,oQ,List.take_length]
   rw[UF] at Ue;simp only[ed,s8,tt,List.take_length,UF];have Ys:=h.ew hf;have Nh:=Em hB 2 f.body _ (oQ p f) (pI f.params) 0 [] [] Ys (h.bd f hf) yA (by have:=pIL f.params;omega) Lv Lv yA;have XJ:=bS (oQ p f);have tk:List.take ((oQ p f).length*3) ((oQ p f).flatMap gq)=(oQ p f).flatMap gq:=List.take_of_length_le (by rw[aQ (f:=gq) (n:=3) jm];omega);have nr:¬ f.params.length<f.params.length:=by omega
   apply aL;simp[hC];refine aU ?_;simp;apply T.exit;simp;apply ah;simp[hC];refine T.le (Le.dC (o:=3) rfl XJ) ?_;simp[gr,tk];refine T.le (Le.nZ 2 8 136 12 rfl rfl) ?_;simp;refine T.le (Le.nZ 2 9 3 1 rfl rfl) ?_;simp;refine T.le (Le.norm [11,10,6,5] [(2,0),(5,3),(6,4),(0,5),(1,6),(4,7)] 0 8 Lb La Ui yA) ?_;simp[dP,cr,cg,en,gA,assoc];simp only[BZ,List.length_nil,Nat.zero_add,List.nil_append] at Nh;have hlen:=qi.2 f.body (oQ p f) (pI f.params) 0 0;obtain⟨v1,v2,v3,v4⟩:=vX.2 f.body 2 _ _ _ 0 Ys (h.bd f hf);have v5:=uD.2 f.body;have Tb:la p f=⟨f.name,pI f.params,pL f.params,(bF f.body (oQ p f) (pI f.params) 0).2,(bF f.body (oQ p f) (pI f.params) 0).1++[.ret]⟩:=rfl;generalize bF f.body (oQ p f) (pI f.params) 0=S at Nh hlen v1 v2 v3 v4 Tb;obtain⟨S1,S2⟩:=S;generalize hS3:gy f.body 0=S3 at Nh hlen;generalize hN:ek f.body=NN at Nh v4 v5;simp only at Nh hlen v1 v3 v4 Tb;have tb:=bk f.body;apply ah;simp[hC];refine TL.gg Nh rfl rfl (bP _) (aJ _) yA rfl yI rfl rfl rfl So rfl (TL.go' af ?_);simp;have Vb:=bP S1;have XG:=aJ S3;refine T.le (Le.norm [11,10,6,5] [(0,0),(8,3),(9,4),(5,5),(6,6),(7,7)] 0 8 Lb La (by simp[e8,yf,sI,tree,assoc,-List.all_eq_true,-List.all_flatMap,eT,dY,eZ,aK Vb,aK XG]) yA) ?_;simp[dP,cr,cg,en,gA,assoc,eT,dY,eZ,aF _ _ Vb,aF _ _ XG];apply ah;simp[hC];refine TL.gg (HE p (oQ p f) S2 NN S1 S3 S1.length S3.length rfl rfl [I 8,I 0,.bool false,I 0,I 0,.str eS,.ag,.bool false,I 0,.ag,.ag,.ag] rfl rfl NN yA yA) (bP _) (aJ _) (sV _ rfl) (aJ _) yA rfl yI rfl rfl rfl rfl rfl (TL.go' af ?_);simp;have tS4:trees (S1.flatMap cK++[I 8,I 0,.bool false,I 0,I 0,.str eS,.ag,.bool false,I 0,.ag,.ag,.ag])=true:=by rw[bu,Vb];rfl
   refine T.le (Le.nz [] [8]) ?_;simp[JH,n8];apply T.seq;refine T.rx af follows [0,1,2,3,4,5,6,7,8,9,10,11] [(7,9)] lz ?_;simp[hC,eT];apply T.seq;refine T.rx af follows [0,1,2,3,4,5,6,7,8,9,10,11,12,13,14,15,16] [(4,13),(8,13),(12,13)] lz ?_;simp[hC];apply T.ret;have Wp:cK In.ret=[I 8,I 0,.bool false,I 0,I 0,.str eS,.au [] 0,.bool false,I 0,.au [] 0,.au [] 0,.au [] 0]:=by simp[cK,bC,pO]
   have Mi:S1.flatMap cK++[I 8,I 0,.bool false,I 0,I 0,.str eS,.au [] 0,.bool false,I 0,.au [] 0,.au [] 0,.au [] 0]=(S1++[In.ret]).flatMap cK:=by simp[Wp]
   have Va:=bP (S1++[In.ret]);have Um:=aJ (S3++[NN]);have XC:List.take ((S1.length+1)*12) ((S1++[In.ret]).flatMap cK)=(S1++[In.ret]).flatMap cK:=List.take_of_length_le (by rw[vl];simp);have XB:List.take (S3.length+1) ((S3++[NN]).map fun n:Nat=>I n)=(S3++[NN]).map fun n:Nat=>I n:=List.take_of_length_le j5;simp only[Mi];generalize hX:(S1++[In.ret]).flatMap cK=X at Va XC;generalize hY:((S3++[NN]).map fun n:Nat=>I n)=Y at Um XB;refine aa.le (Le.trim [6,7,8,9] [6,8,9] 10 (by simp[eZ,hY,-List.all_eq_true,-List.all_flatMap,aj Va,aj Um]) yA) ?_;simp[eZ,hY];refine aa.le (Le.dC (o:=8) rfl Va) ?_;simp[XC,dv Um];refine aa.le (Le.dC (o:=9) rfl Um) ?_;simp[XB];apply aa.here;simp only[Tb,kR];simp;exact⟨by rw[← hX];simp,by rw[← hY];simp⟩
end Go.Proofs.YtlkmbdfhdknlgaaGreatDoor
namespace Go.aT
open Go.Can
theorem jg.main {p:Pg}(h:jg p):∃ f r,p.fs=f::r∧f.params=[]∧gI (cD p) f.name=some ⟨f.name,3,0⟩∧nF.head? = some f.name:=by
 obtain⟨a1,a2,_,_⟩:=fC;obtain⟨s1,s2,s3,_⟩:=h.sub;obtain⟨d1,d2,d3,_⟩:=h.nd;obtain⟨k,hk,_,he⟩:=h.fn
 cases LL:p.fs with
 | nil=>
  rw[LL] at he;have:=congrArg List.length he;simp[nF] at this;omega
 | cons f r=>
  refine⟨f,r,rfl,h.f0 f (by rw[LL];rfl),?_,?_⟩
  ·have hm:f.name∈nF:=s3 _ (by rw[LL];simp);have h0:(p.fs.map (·.name))[0]? = some f.name:=by rw[LL];rfl
   rw[cD,cS,cS,dA (fun hx=>(a2 _ hm).1 (s1 _ hx)),dA (fun hx=>(a2 _ hm).2 (s2 _ hx))];simp only;rw[oo h0 d3]
  ·rw[LL] at he;obtain⟨k,rfl⟩:∃ k',k=k' + 1:=⟨k-1,by omega⟩;simp only[nF,List.map_cons,List.take_succ_cons,List.cons.injEq] at he;rw[he.1];rfl
end Go.aT
namespace Go.Proofs.YtlkmbdfhdknlgaaGreatDoor
open Go.Can Go.aT
theorem oV (x:Pr):trees (kR x)=true:=by simp only[kR,trees,tree,Bool.and_true]
theorem ig (x:Pr):(kR x).length=5:=rfl
def wC (l:List Pr):Ob:=⟨123,5,l.flatMap kR⟩
def Ds (l:List Int):Ob:=⟨3,1,l.map I⟩
theorem iK (l:List Int):trees (l.map I)=true:=by
 induction l with
 | nil=>rfl
 | cons a r ih=>rw[List.map_cons,trees,ih];rfl
theorem y4:∀ {l:List Nat} {x:Nat},x∈l→x≤l.sum
 | a::r,x,h=>by
  rw[List.sum_cons];rcases List.mem_cons.1 h with rfl | h
  ·omega
  ·have:=y4 h;omega
def mG:Ob:=⟨30,0,[.ag,.ag,.ag,I 0]⟩
def JL1 (p:Pg)(m:Nat)(s:St):Prop:=∃ i:Nat,m=p.gs.length-i∧i≤p.gs.length∧
 s=⟨[(11,I i),(10,.ai 2 0),(6,.au ((cD p).flatMap gq) (cD p).length),(2,.ai 1 0),(1,.ai 0 0)],
  [(0,⟨27,0,dH p⟩),(1,mG),(2,⟨30,0,[.bw 3 0 i,.au (p.ms.flatMap eQ) p.ms.length,.ag,I 0]⟩),(3,Ds ((p.gs.take i).map (·.init)))],4⟩
def JL2 (p:Pg)(m:Nat)(s:St):Prop:=∃ i:Nat,m=p.fs.length-i∧i≤p.fs.length∧
 s=⟨[(12,I i),(10,.ai 2 0),(6,.au ((cD p).flatMap gq) (cD p).length),(2,.ai 1 0),(1,.ai 0 0)],
  [(0,⟨27,0,dH p⟩),(1,mG),(2,⟨30,0,[.au ((p.gs.map (·.init)).map I) p.gs.length,.au (p.ms.flatMap eQ) p.ms.length,.bw 3 0 i,I 0]⟩),(3,wC ((p.fs.take i).map (la p)))],4⟩
set_option maxHeartbeats 4000000 in
theorem Dl (p:Pg)(h:jg p):ae Tryz.prog 19 [tv p] (.db [dt (jV p),I 0,I 0,I 0]):=by
 obtain⟨k1,N6,e1⟩:=h.gn;obtain⟨k2,_,MX,e2⟩:=h.mn;obtain⟨k3,_,Wk,e3⟩:=h.fn;have l1:=congrArg List.length e1;have l2:=congrArg List.length e2;have l3:=congrArg List.length e3;simp[nG] at l1;simp[nM] at l2;simp[nF] at l3;have OC:∀ f∈p.fs,f.params.length≤2:=fun f hf=>by
  obtain⟨k,hk,e⟩:=h.pn f hf;have h5:=congrArg List.length e;simp only[List.length_map,List.length_reverse,List.length_take,nP,List.length_cons,List.length_nil] at h5;omega
 have hB:PgB p:=⟨by omega,by omega,fun f hf=>by have:=OC f hf;omega⟩;have PE:=xI p;have KQ:=Cf p h;have TP:=xH p h yA yA yA;obtain⟨fm,fr,LL,Ng,TF,OW⟩:=h.main;have M0:=ot (cD p) fm.name yA;rw[TF] at M0;have Om:fm.name=⟨#[109,97,105,110]⟩:=by
  simp only[nF,List.head?_cons,Option.some.injEq] at OW;rw[← OW]
 obtain⟨t1,t2,t3⟩:=gN p;have tE:=bS (cD p);have YA:=aQ (f:=eQ) (n:=3) (fun _=>rfl) p.ms;have Xn:p.ms.length*32≤140737488355328:=by omega
 have WC:p.fs[0]? = some fm:=by rw[LL];rfl
 have oy:=bb (f:=ed) (n:=3) (fun _=>rfl) WC 1 yA;have Ld:0<p.fs.length:=by rw[LL];simp
 refine ae.aD af Tryz.func19 rfl lz (by simp[Tryz.ntmps19]) rfl fun C hC xJ=>?_;rw[Tryz.ntmps19] at hC;simp only[tv,dH] at KQ TP ⊢;apply ah;simp[hC];apply aL;simp[hC];refine dk zK (KQ) ?_;simp[hC];refine dg ?_;simp;apply ah;simp[hC];refine dk zK (TP) ?_;simp[hC];apply aL;simp[hC];refine dg ?_;simp;rw[Om] at M0;apply ah;simp[hC];refine dk zK (M0) ?_;simp[hC,oq,gq];apply aL;simp[hC,oy,Ld,ed,Ng];refine dg ?_;simp;apply T.seq;refine T.rx af follows [0,1,2,3,4,5,6,7,8] [(1,2),(1,5),(1,7),(2,4),(2,7),(4,7),(5,7)] lz ?_;simp[hC,YA,Xn,aS];apply aL;simp[hC];apply T.block;refine T.aI (JL1 p) (n:=p.gs.length) ?_ ?_
 ·have tk:List.take (p.ms.length*3) (p.ms.flatMap eQ)=p.ms.flatMap eQ:=List.take_of_length_le (by rw[YA];exact Nat.le_refl _);refine aa.le (Le.trim [11,10,6,2,1] [10,12,1,0] 13 (by simp[-List.all_eq_true,-List.all_flatMap,aj (fj p.ms)]) yA) ?_;simp;refine aa.le (Le.dC (o:=12) rfl (fj p.ms)) ?_;simp[tk];refine aa.le (Le.nZ 10 0 3 1 rfl rfl) ?_;simp;refine aa.le (Le.norm [11,10,6,2,1] [(0,0),(1,1),(10,2),(13,3)] 0 4 Lb La Ui yA) ?_;simp[dP,cr,cg,en,gA,assoc];refine aa.here ⟨0,by omega,by omega,?_⟩;simp[dH,mG,Ds]
 ·rintro n s ⟨i,rfl,hi,rfl⟩;by_cases nr:i<p.gs.length
  ·obtain⟨y,hy⟩:∃ y,p.gs[i]? = some y:=⟨p.gs[i],List.getElem?_eq_getElem nr⟩;have oy:=az (f:=mL) (n:=2) (fun _=>rfl) hy;have KU:=bb (f:=mL) (n:=2) (fun _=>rfl) hy 1 yA;have wi:=cm ((i:Int)+1) yA yA;have Kk:p.gs.take (i+1)=p.gs.take i++[y]:=by rw[List.take_add_one,hy];rfl
   have MV:((p.gs.take i).map (·.init)).length=i:=by simp;omega
   have Nj:(i+1)*8≤140737488355328:=by omega
   have tI:=iK ((p.gs.take i).map (·.init));generalize hG:(p.gs.take i).map (·.init)=G at MV tI;simp only[dH,mG,Ds];apply aL;simp[hC,nr];refine gF ?_;simp;apply fw;refine T.rx af follows [0,1,2,3,4,5,6,7,8,9,10,11] [(1,8)] lz ?_;simp[hC,nr,oy,mL,MV,Nj,aS];apply a8;simp[hC,wi];refine⟨p.gs.length-(i+1),by omega,?_⟩;have tN:trees (G.map I++[I y.init])=true:=by rw[bu,tI];rfl
   have Kz:=aK tN;have LK:=fun ρ=>aF ρ _ tN;refine aa.le (Le.norm [11,10,6,2,1] [(0,0),(1,1),(2,2),(16,3)] 0 4 Lb La Sq yA) ?_;simp[dP,cr,cg,en,gA,assoc,LK];refine aa.here ⟨i+1,rfl,by omega,?_⟩;simp[dH,mG,Ds,Kk,hG]
  ·have CW:i=p.gs.length:=by omega
   subst CW;apply aL;simp[hC,dH];refine aU ?_;simp;apply T.exit;simp;have tI:=iK (p.gs.map (·.init));have Uk:List.take p.gs.length ((p.gs.map (·.init)).map I)=(p.gs.map (·.init)).map I:=List.take_of_length_le j5;have hints:ints (p.gs.map (·.init))=.au ((p.gs.map (·.init)).map I) p.gs.length:=by simp[ints]
   generalize hG:p.gs.map (·.init)=G at tI Uk hints;simp only[mG,Ds];apply aL;simp[hC];apply T.block;refine T.aI (JL2 p) (n:=p.fs.length) ?_ ?_
   ·refine aa.le (Le.trim [12,10,6,2,1] [0,1,2,3] 4 (by simp[-List.all_eq_true,-List.all_flatMap,aj tI]) yA) ?_;simp;refine aa.le (Le.dC (o:=3) rfl tI) ?_;simp[Uk];refine aa.le (Le.nZ 2 2 123 5 rfl rfl) ?_;simp;refine aa.le (Le.norm [12,10,6,2,1] [(0,0),(1,1),(2,2),(4,3)] 0 4 Lb La Ui yA) ?_;simp[dP,cr,cg,en,gA,assoc];refine aa.here ⟨0,by omega,by omega,?_⟩;simp[dH,mG,wC,hG]
   ·rintro n s ⟨i,rfl,hi,rfl⟩;by_cases nr:i<p.fs.length
    ·obtain⟨f,hf⟩:∃ f,p.fs[i]? = some f:=⟨p.fs[i],List.getElem?_eq_getElem nr⟩;have TF:=List.mem_of_getElem? hf;have ZW:bz f.body≤1200:=by
      have h1:=y4 (List.mem_map_of_mem (f:=fun f:Fu=>bz f.body) TF);have h2:=h.wt;omega
     have OW:=xv p h hB yA f TF ZW (by have:=OC f TF;omega);have oy:=az (f:=ed) (n:=3) (fun _=>rfl) hf;have wi:=cm ((i:Int)+1) yA yA;have Kk:p.fs.take (i+1)=p.fs.take i++[f]:=by rw[List.take_add_one,hf];rfl
     have MV:((p.fs.take i).map (la p)).length=i:=by simp;omega
     have tP:=aE oV ((p.fs.take i).map (la p));have fP:=aQ (f:=kR) (n:=5) ig ((p.fs.take i).map (la p));rw[MV] at fP;have Nj:(i+1)*64≤140737488355328:=by omega
     generalize hH:(p.fs.take i).map (la p)=Hs at MV tP fP;have Ta:kR (la p f)=[.str (la p f).name,I (la p f).ints,I (la p f).bx,I (la p f).locals,.au ((la p f).code.flatMap cK) (la p f).code.length]:=rfl;have Xx:=oV (la p f);rw[Ta] at OW Xx;have tcd:=bP (la p f).code;simp only[dH,ed,tv] at OW;simp only[dH,mG,wC];apply aL;simp[hC,nr];refine gF ?_;simp;apply fw;apply T.seq;refine T.rx af follows [0,1,2,3,4,5,6,13,7,8,9,10,11,12,14,15,16,17] [(0,13),(3,13),(6,13),(13,7)] lz ?_;simp[hC,nr,oy,ed];have Lw:trees [.agg [.au (p.gs.flatMap mL) p.gs.length,.au (p.ms.flatMap eQ) p.ms.length,.au (p.fs.flatMap ed) p.fs.length],.au ((cD p).flatMap gq) (cD p).length,.agg [.str f.name,.au (f.params.flatMap jB) f.params.length,.au (bh f.body) f.body.length]]=true:=by
      simp only[trees,tree];rfl
     refine RX.call rfl rfl rfl rfl rfl Lw OW ?_;simp;apply aL;simp[hC];refine dg ?_;simp;apply a8;simp[hC,fP,Nj,aS];apply a8;simp[hC,wi];refine⟨p.fs.length-(i+1),by omega,?_⟩;have tN:trees (Hs.flatMap kR++[.str (la p f).name,I (la p f).ints,I (la p f).bx,I (la p f).locals,.au ((la p f).code.flatMap cK) (la p f).code.length])=true:=by rw[bu,tP,Xx];rfl
     have Kz:=aK tN;have LK:=fun ρ=>aF ρ _ tN;have XI:=iK (p.gs.map (·.init));refine aa.le (Le.norm [12,10,6,2,1] [(0,0),(1,1),(2,2),(23,3)] 0 4 Lb La Sq yA) ?_;simp[dP,cr,cg,en,gA,assoc,LK];refine aa.here ⟨i+1,rfl,by omega,?_⟩;simp[dH,mG,wC,Kk,hH,Ta]
    ·have CW:i=p.fs.length:=by omega
     subst CW;have tP:=aE oV (p.fs.map (la p));have fP:=aQ (f:=kR) (n:=5) ig (p.fs.map (la p));have MV:(p.fs.map (la p)).length=p.fs.length:=by simp
     rw[MV] at fP;have Xy:List.take (p.fs.length*5) ((p.fs.map (la p)).flatMap kR)=(p.fs.map (la p)).flatMap kR:=List.take_of_length_le yA;have OR:dj (jV p)=[.au ((p.gs.map (·.init)).map I) p.gs.length,.au (p.ms.flatMap eQ) p.ms.length,.au ((p.fs.map (la p)).flatMap kR) p.fs.length,I 0]:=by simp[dj,jV,ints]
     simp only[dH,mG,wC,List.take_length];generalize hH:p.fs.map (la p)=Hs at tP fP Xy OR;apply aL;simp[hC];refine aU ?_;simp;apply T.exit;simp;apply ah;simp[hC];apply T.ret;have XI:=iK (p.gs.map (·.init));generalize hG:(p.gs.map (·.init)).map I=Gs at XI OR;refine aa.le (Le.trim [5,4,3,2] [1,3] 4 (by simp[-List.all_eq_true,-List.all_flatMap,aj tP]) yA) ?_;simp;refine aa.le (Le.dC (o:=3) rfl tP) ?_;simp[Xy];apply aa.here;simp[dt,OR];rw[← hG,List.map_map]
theorem dJ (l:List Nat):trees (l.map fun n:Nat=>I n)=true:=aJ l
theorem aP (l:List Nat):tree (aN l)=true:=by simp only[aN,tree]
theorem bL (x:Is):trees (cP x)=true:=by simp only[cP,trees,aP,Bool.and_true];rfl
theorem dV (x:Is):(cP x).length=2:=rfl
theorem mY {l:List Nat}{i n:Nat}(h:l[i]? = some n):(l.map fun n:Nat=>I n).drop i=I n::(l.drop (i+1)).map fun n:Nat=>I n:=by
 obtain⟨hl,rfl⟩:=List.getElem?_eq_some_iff.1 h;rw[← List.map_drop,List.drop_eq_getElem_cons hl,List.map_cons]
theorem td (is:Is)(q:Pl)(h:q.param=true→q.index<is.bx.length):ae Tryz.prog 56 [.agg (cP is),.agg (mU q)] (I (l9 is q)):=by
 refine ae.aD af Tryz.func56 rfl lz (by simp[Tryz.ntmps56]) rfl fun C hC xJ=>?_;rw[Tryz.ntmps56] at hC;simp only[cP,mU,aN,lB];apply ah;simp[hC];apply aL;simp[hC]
 cases hq:q.param with
 | true=>
  have yN:=h hq;obtain⟨n,hn⟩:∃ n,is.bx[q.index]? = some n:=⟨_,List.getElem?_eq_getElem yN⟩;have oy:=mY hn;have Rc:l9 is q=n:=by simp[l9,hq,List.getD_eq_getElem?_getD,hn]
  refine T.cond (b:=true) (by simp[ev,assoc]) ?_;simp;apply ah;simp[hC,yN,oy];apply T.ret;apply aa.here;simp[Tryz.results56,Rc]
 | false=>
  have Rc:l9 is q=q.index:=by simp[l9,hq]
  refine T.cond (b:=false) (by simp[ev,assoc]) (T.skip ?_);simp;apply ah;simp[hC];apply T.ret;apply aa.here;simp[Tryz.results56,Rc]
theorem DA (g:Bool)(t:Nat)(l:List Ex)(ps:List Pl):cK (.call g t l ps)=[I (if g=true then 3 else 2),I t,.bool false,I 0,I 0,.str eS,.au [] 0,.bool false,I 0,.au [] 0,.au (l.flatMap bC) l.length,.au (ps.flatMap mU) ps.length]:=rfl
def wU (l:List Nat):Ob:=⟨3,1,l.map fun n:Nat=>I n⟩
def J27 (_u:Un)(is:Is)(cs:List CV)(cn:Nat)(pc:Int)(t:Nat)(ps:List Pl)(m:Nat)(s:St):Prop:=∃ i:Nat,m=ps.length-i∧i≤ps.length∧
 s=⟨[(10,I i),(9,.ai 3 0),(8,.au cs cn),(6,.ai 2 0),(4,.ai 1 0),(2,I pc)],[(1,⟨75,0,cP is⟩),(2,⟨75,0,[I 0,.ag]⟩),(3,⟨75,0,[I t,.bw 4 0 i]⟩),(4,wU ((ps.take i).map (l9 is)))],5⟩
theorem bB (u:Un):trees (dj u)=true:=by
 simp only[dj,trees,ints,tree];simp
set_option maxHeartbeats 4000000 in
theorem yP (u:Un)(hu:jP u)(is:Is)(hi:p6 u is)(pc:Int):ae Tryz.prog 50 [dt u,.agg (cP is),I pc] (vw (pB u is pc)):=by
 obtain⟨⟨pq,K2,MD⟩,Wb⟩:=id hi;have J9:aC u is=pq.code:=by simp only[aC,K2]
 have LX:=(List.getElem?_eq_some_iff.1 K2).1;have oy:=bb (f:=kR) (n:=5) ig K2 4 yA;have hlen:=(hu.pr pq (List.mem_of_getElem? K2)).2.2.2.2;have LN:tree (vw (pB u is pc))=true:=by
  cases pB u is pc with
  | none=>rfl
  | some x=>simp only[vw,tree,trees,bL];rfl
 have Kd:=bB u;simp only[dj,ints] at Kd;refine ae.aD af Tryz.func50 rfl lz (by simp[Tryz.ntmps50]) LN fun C hC xJ=>?_;rw[Tryz.ntmps50] at hC;simp only[dt,dj,cP,ints];apply ah;simp[hC];apply ah;simp[hC,LX,oy,kR];have Qy:=bP pq.code;have Qy:=bP pq.code;by_cases h1:pc<0
 ·have hn:pB u is pc=none:=by simp[pB,h1]
  apply aL;simp[hC,h1];refine cz ?_;simp;apply ah;simp[hC];apply T.ret;simp;refine aa.le (Le.trim [6,7] [2] 3 j5 yA) ?_;simp;refine aa.le (Le.nz [] [2]) ?_;apply aa.here;simp[hn,vw]
 ·obtain⟨k,rfl⟩:∃ k:Nat,pc=k:=⟨pc.toNat,by omega⟩;by_cases h2:k<pq.code.length
  ·obtain⟨x,hx⟩:∃ x,pq.code[k]? = some x:=⟨_,List.getElem?_eq_getElem h2⟩;have LI:pB u is k=iy is x:=by simp[pB,J9,hx,h1]
   have KJ:=az (f:=cK) (n:=12) eV hx;obtain⟨xc,Lp,_⟩:=jG x;rw[Lp] at KJ;have Mz:¬ ((pq.code.length:Int)≤(k:Int)):=by omega
   by_cases Fm:∃ g t l ps,x=.call g t l ps
   ·obtain⟨g,t,l,ps,rfl⟩:=Fm;have TV:pB u is k=some ⟨t,ps.map (l9 is)⟩:=by rw[LI];rfl
    have Yi:BY (u.ps.map fun q=>(q.ints,q.bx)) u.ms u.gs.length pq.locals pq.bx (pq.code.length-1) (.call g t l ps):=(hu.pc pq (List.mem_of_getElem? K2)).2 _ (List.mem_of_getElem? hx);have S9:=Yi.2.2;have Mr:=bb (f:=cK) (n:=12) eV hx 1 yA;have Qn:=bb (f:=cK) (n:=12) eV hx 11 yA;rw[DA] at Mr Qn;have Ra:((lA (.call g t l ps) == 2) && (lA (.call g t l ps) == 3))=false:=by cases g<;>rfl
    have RA:List.drop (k*12) (pq.code.flatMap cK)=I (if g=true then 3 else 2)::xc++(pq.code.drop (k+1)).flatMap cK:=by rw[KJ];cases g<;>rfl
    have Zq:ps.length≤100:=by
     have h5:=Yi.1;rw[List.getElem?_map,Option.map_eq_some_iff] at h5;obtain⟨q',h6,h7⟩:=h5;simp only[Prod.mk.injEq] at h7;have:=(hu.pr q' (List.mem_of_getElem? h6)).2.1;omega
    rw[TV];simp only[vw];clear KJ;generalize Ro:(if g=true then (3:Int) else 2)=op at RA;have Zu:((op != 2) && (op != 3))=false:=by subst Ro;cases g<;>rfl
    have TW:(op != 2)=false∨((op != 2)=true∧(op != 3)=false):=by subst Ro;cases g<;>simp
    refine T.cut (fun s=>s=⟨[(8,.au (pq.code.flatMap cK) pq.code.length),(6,.ai 2 0),(4,.ai 1 0),(2,I k)],[(2,⟨75,0,[I 0,.ag]⟩),(1,⟨75,0,cP is⟩)],3⟩) ?_ ?_
    ·rcases TW with hb | ⟨hb,K0⟩
     ·apply ah;simp[hC,Mz,h1,h2,RA,hb];refine dg ?_;simp;refine aa.trim [8,6,4,2] [2,1] 3 (by simp[-List.all_eq_true,-List.all_flatMap,bq 3 _ (aP is.bx)]) yA ?_;simp[cP]
     ·apply ah;simp[hC,Mz,h1,h2,RA,hb,K0];refine dg ?_;simp;refine aa.trim [8,6,4,2] [2,1] 3 (by simp[-List.all_eq_true,-List.all_flatMap,bq 3 _ (aP is.bx)]) yA ?_;simp[cP]
    ·rintro s rfl;simp only[cP];apply ah;simp[hC,h2,Mr];apply aL;simp[hC];apply T.block;refine T.aI (J27 u is (pq.code.flatMap cK) pq.code.length k t ps) (n:=ps.length) ?_ ?_
     ·refine aa.le (Le.nZ 3 1 3 1 rfl rfl) ?_;simp;refine aa.trim [10,9,8,6,4,2] [1,2,3,4] 5 (by simp[-List.all_eq_true,-List.all_flatMap,bq 5 _ (aP is.bx)]) yA ⟨0,by omega,by omega,?_⟩;simp[cP,wU]
     ·rintro n s ⟨i,rfl,Oo,rfl⟩;by_cases nr:i<ps.length
      ·obtain⟨q,hq⟩:∃ q,ps[i]? = some q:=⟨ps[i],List.getElem?_eq_getElem nr⟩;have M3:=az (f:=mU) (n:=3) qn hq;have Zm:q.param=true→q.index<is.bx.length:=fun hp=>by
        rcases S9 q (List.mem_of_getElem? hq) with ⟨_,h8,_⟩ | ⟨h8,_⟩
        ·omega
        ·rw[hp] at h8;cases h8
       have L5:=td is q Zm;have wi:=cm ((i:Int)+1) yA yA;have Kk:ps.take (i+1)=ps.take i++[q]:=by rw[List.take_add_one,hq];rfl
       have MV:((ps.take i).map (l9 is)).length=i:=by simp;omega
       have tN:=dJ ((ps.take i).map (l9 is));have Nj:(i+1)*8≤140737488355328:=by omega
       obtain⟨q1,q2,q3,q4,Zo,tq⟩:=CR q;rw[Zo] at M3 L5;generalize hG:(ps.take i).map (l9 is)=G at MV tN;simp only[cP,wU] at L5 ⊢;apply aL;simp[hC,h2,Qn,nr];refine gF ?_;simp;apply fw;refine T.rx af follows [0,1,2,3,4,5,6,7,8,9,10,11,12,13,14,15] [(1,11),(1,12)] lz ?_;simp[hC,h2,Qn,nr,M3];have Lw:trees [.agg [I is.proc,aN is.bx],.agg [.bool q1,I q2,.au q3 q4]]=true:=by
        simp only[trees,tree,aP,Bool.and_true]
       refine RX.call rfl rfl rfl rfl rfl Lw L5 ?_;simp[MV,Nj,aS];apply a8;simp[hC,wi];refine⟨ps.length-(i+1),by omega,?_⟩;have XH:trees ((G.map fun n:Nat=>I n)++[I (l9 is q)])=true:=by rw[bu,tN];rfl
       have Kz:=aK XH;have LK:=fun ρ=>aF ρ _ XH;have YO:=aP is.bx;simp only[aN,tree] at YO;simp only[aN];refine aa.le (Le.norm [10,9,8,6,4,2] [(1,1),(2,2),(3,3),(21,4)] 0 5 Lb La Sq yA) ?_;simp[dP,cr,cg,en,gA,assoc,LK];refine aa.here ⟨i+1,rfl,by omega,?_⟩;simp[cP,wU,Kk,hG,aN]
      ·have CW:i=ps.length:=by omega
       subst CW;rw[List.take_length];have tN:=dJ (ps.map (l9 is));have Xz:List.take ps.length ((ps.map (l9 is)).map fun n:Nat=>I n)=(ps.map (l9 is)).map fun n:Nat=>I n:=List.take_of_length_le j5;have Zz:aN (ps.map (l9 is))=.au ((ps.map (l9 is)).map fun n:Nat=>I n) ps.length:=by simp[aN]
       simp only[cP,wU];rw[Zz];generalize hG:((ps.map (l9 is)).map fun n:Nat=>I n)=G at tN Xz;apply aL;simp[hC,h2,Qn];refine aU ?_;simp;apply T.exit;simp;apply ah;simp[hC];apply T.ret;refine aa.le (Le.trim [6,7] [2,4] 5 (by simp[-List.all_eq_true,-List.all_flatMap,aj tN]) yA) ?_;simp;refine aa.le (Le.dC (o:=4) rfl tN) ?_;simp[Xz];apply aa.here;simp
   ·have hn:pB u is k=none:=by
     rw[LI]
     cases x with
     | call g t l ps=>exact (Fm ⟨g,t,l,ps,rfl⟩).elim
     | _=>rfl
    have Ra:((lA x != 2)=true)∧((lA x != 3)=true):=by
     cases x with
     | call g t l ps=>exact (Fm ⟨g,t,l,ps,rfl⟩).elim
     | lock u _=>cases u<;>exact⟨rfl,rfl⟩
     | _=>exact⟨rfl,rfl⟩
    apply aL;simp[hC,Mz,h1,h2,KJ,Ra.1,Ra.2];refine cz ?_;simp;apply ah;simp[hC];apply T.ret;simp;refine aa.le (Le.trim [6,7] [2] 3 j5 yA) ?_;simp;refine aa.le (Le.nz [] [2]) ?_;apply aa.here;simp[hn,vw]
  ·have hn:pB u is k=none:=by simp[pB,J9,List.getElem?_eq_none (Nat.le_of_not_lt h2)]
   have Mz:(pq.code.length:Int)≤(k:Int):=by omega
   apply aL;simp[hC,Mz,h1];refine cz ?_;simp;apply ah;simp[hC];apply T.ret;simp;refine aa.le (Le.trim [6,7] [2] 3 j5 yA) ?_;simp;refine aa.le (Le.nz [] [2]) ?_;apply aa.here;simp[hn,vw]
def kk (m:Mx):Nat:=if m.size=0∧m.re=false then 1 else 8
theorem Fh (m:Mx):ae Tryz.prog 33 [.agg (eQ m)] (I (kk m)):=by
 obtain⟨nm,re,sz⟩:=m;refine ae.aD af Tryz.func33 rfl lz (by simp[Tryz.ntmps33]) rfl fun C hC xJ=>?_;rw[Tryz.ntmps33] at hC;simp only[eQ];apply ah;simp[hC];by_cases hz:sz=0
 ·subst hz
  cases re with
  | true=>
   apply aL;simp[hC];refine dg ?_;simp;apply ah;simp[hC];apply T.ret;apply aa.here;simp[Tryz.results33,kk]
  | false=>
   apply aL;simp[hC];refine cz ?_;simp;apply ah;simp[hC];apply T.ret;apply aa.here;simp[Tryz.results33,kk]
 ·apply aL;simp[hC,hz];refine dg ?_;simp;apply ah;simp[hC];apply T.ret;apply aa.here;simp[Tryz.results33,kk,hz]
theorem Ff (m:Mx):ae Tryz.prog 37 [.agg (eQ m)] (I (kk m)):=by
 obtain⟨nm,re,sz⟩:=m;refine ae.aD af Tryz.func37 rfl lz (by simp[Tryz.ntmps37]) rfl fun C hC xJ=>?_;rw[Tryz.ntmps37] at hC;simp only[eQ];apply ah;simp[hC];by_cases hz:sz=0
 ·subst hz
  cases re with
  | true=>
   apply aL;simp[hC];refine dg ?_;simp;apply ah;simp[hC];apply T.ret;apply aa.here;simp[Tryz.results37,kk]
  | false=>
   apply aL;simp[hC];refine cz ?_;simp;apply ah;simp[hC];apply T.ret;apply aa.here;simp[Tryz.results37,kk]
 ·apply aL;simp[hC,hz];refine dg ?_;simp;apply ah;simp[hC];apply T.ret;apply aa.here;simp[Tryz.results37,kk,hz]
theorem lV (e:Et):ae Tryz.prog 54 [.agg (dD e)] (.bool e.ok):=by
 obtain⟨a,b,c⟩:=e;refine ae.aD af Tryz.func54 rfl lz (by simp[Tryz.ntmps54]) rfl fun C hC xJ=>?_;rw[Tryz.ntmps54] at hC;simp only[dD];apply ah;simp[hC];by_cases h1 : -8≤a
 case neg=>
  apply ah;simp[hC,h1];apply T.ret;apply aa.here;simp[Tryz.results54,Et.ok,h1]
 by_cases h2:a≤0
 case neg=>
  apply ah;simp[hC,h1,h2];apply T.ret;apply aa.here;simp[Tryz.results54,Et.ok,h1,h2]
 by_cases h3:0≤b
 case neg=>
  apply ah;simp[hC,h1,h2,h3];apply T.ret;apply aa.here;simp[Tryz.results54,Et.ok,h1,h2,h3]
 by_cases h4:b≤8
 case neg=>
  apply ah;simp[hC,h1,h2,h3,h4];apply T.ret;apply aa.here;simp[Tryz.results54,Et.ok,h1,h2,h3,h4]
 by_cases h5:a≤c
 case neg=>
  apply ah;simp[hC,h1,h2,h3,h4,h5];apply T.ret;apply aa.here;simp[Tryz.results54,Et.ok,h1,h2,h3,h4,h5]
 by_cases h6:c≤b
 case neg=>
  apply ah;simp[hC,h1,h2,h3,h4,h5,h6];apply T.ret;apply aa.here;simp[Tryz.results54,Et.ok,h1,h2,h3,h4,h5,h6]
 apply ah;simp[hC,h1,h2,h3,h4,h5,h6];apply T.ret;apply aa.here;simp[Tryz.results54,Et.ok,h1,h2,h3,h4,h5,h6]
theorem lZ (e:Et):ae Tryz.prog 61 [.agg (dD e)] (.bool e.ok):=by
 obtain⟨a,b,c⟩:=e;refine ae.aD af Tryz.func61 rfl lz (by simp[Tryz.ntmps61]) rfl fun C hC xJ=>?_;rw[Tryz.ntmps61] at hC;simp only[dD];apply ah;simp[hC];by_cases h1 : -8≤a
 case neg=>
  apply ah;simp[hC,h1];apply T.ret;apply aa.here;simp[Tryz.results61,Et.ok,h1]
 by_cases h2:a≤0
 case neg=>
  apply ah;simp[hC,h1,h2];apply T.ret;apply aa.here;simp[Tryz.results61,Et.ok,h1,h2]
 by_cases h3:0≤b
 case neg=>
  apply ah;simp[hC,h1,h2,h3];apply T.ret;apply aa.here;simp[Tryz.results61,Et.ok,h1,h2,h3]
 by_cases h4:b≤8
 case neg=>
  apply ah;simp[hC,h1,h2,h3,h4];apply T.ret;apply aa.here;simp[Tryz.results61,Et.ok,h1,h2,h3,h4]
 by_cases h5:a≤c
 case neg=>
  apply ah;simp[hC,h1,h2,h3,h4,h5];apply T.ret;apply aa.here;simp[Tryz.results61,Et.ok,h1,h2,h3,h4,h5]
 by_cases h6:c≤b
 case neg=>
  apply ah;simp[hC,h1,h2,h3,h4,h5,h6];apply T.ret;apply aa.here;simp[Tryz.results61,Et.ok,h1,h2,h3,h4,h5,h6]
 apply ah;simp[hC,h1,h2,h3,h4,h5,h6];apply T.ret;apply aa.here;simp[Tryz.results61,Et.ok,h1,h2,h3,h4,h5,h6]
theorem iR:ae Tryz.prog 55 [] (.agg (dD sO)):=by
 refine ae.aD af Tryz.func55 rfl lz (by simp[Tryz.ntmps55]) rfl fun C hC xJ=>?_;rw[Tryz.ntmps55] at hC;apply ah;simp[hC];apply ah;simp[hC];apply T.ret;apply aa.here;simp[Tryz.results55,dD,sO]
theorem wL:ae Tryz.prog 129 [] (.agg (dD sO)):=by
 refine ae.aD af Tryz.func129 rfl lz (by simp[Tryz.ntmps129]) rfl fun C hC xJ=>?_;rw[Tryz.ntmps129] at hC;apply ah;simp[hC];apply ah;simp[hC];apply T.ret;apply aa.here;simp[Tryz.results129,dD,sO]
theorem mV (e:Et):ae Tryz.prog 116 [.agg (dD e)] (.agg (dD e)):=by
 obtain⟨a,b,c⟩:=e;refine ae.aD af Tryz.func116 rfl lz (by simp[Tryz.ntmps116]) rfl fun C hC xJ=>?_;rw[Tryz.ntmps116] at hC;simp only[dD];apply ah;simp[hC];apply ah;simp[hC];apply T.ret;apply aa.here;simp[Tryz.results116]
theorem iS:ae Tryz.prog 115 [] (.agg (dD sO)):=by
 refine ae.aD af Tryz.func115 rfl lz (by simp[Tryz.ntmps115]) rfl fun C hC xJ=>?_;rw[Tryz.ntmps115] at hC;apply ah;simp[hC];apply ah;simp;refine dk zK (wL) ?_;simp;refine dk zK (mV sO) ?_;simp[dD];apply T.ret;apply aa.here;simp[Tryz.results115,sO]
theorem rof_e (n:Int):ae Tryz.prog 27 [I n] (.agg (dD (Bf n))):=by
 refine ae.aD af Tryz.func27 rfl lz (by simp[Tryz.ntmps27]) rfl fun C hC xJ=>?_;rw[Tryz.ntmps27] at hC;have LD:(if (0:Int)<n then 0 else n)=min n 0:=by split<;>omega
 have MA:(if n<0 then 0 else n)=max n 0:=by split<;>omega
 apply ah;simp[hC];by_cases h1:n < -1
 ·apply aL;simp[hC,h1];refine cz ?_;simp;apply ah;simp;refine dk zK (iR) ?_;simp;apply T.ret;apply aa.here;simp[Tryz.results27,dD,Bf,h1]
 ·by_cases h2:1<n
  ·apply aL;simp[hC,h1,h2];refine cz ?_;simp;apply ah;simp;refine dk zK (iR) ?_;simp;apply T.ret;apply aa.here;simp[Tryz.results27,dD,Bf,h2]
  ·apply aL;simp[hC,h1,h2];refine dg ?_;simp;apply ah;simp[hC,LD,MA];apply T.ret;apply aa.here;simp[Tryz.results27,dD,Bf,h1,h2]
theorem pof_e (n:Int):ae Tryz.prog 89 [I n] (.agg (dD (Bf n))):=by
 refine ae.aD af Tryz.func89 rfl lz (by simp[Tryz.ntmps89]) rfl fun C hC xJ=>?_;rw[Tryz.ntmps89] at hC;have LD:(if (0:Int)<n then 0 else n)=min n 0:=by split<;>omega
 have MA:(if n<0 then 0 else n)=max n 0:=by split<;>omega
 apply ah;simp[hC];by_cases h1:n < -1
 ·apply aL;simp[hC,h1];refine cz ?_;simp;apply ah;simp;refine dk zK (iS) ?_;simp;apply T.ret;apply aa.here;simp[Tryz.results89,dD,Bf,h1]
 ·by_cases h2:1<n
  ·apply aL;simp[hC,h1,h2];refine cz ?_;simp;apply ah;simp;refine dk zK (iS) ?_;simp;apply T.ret;apply aa.here;simp[Tryz.results89,dD,Bf,h2]
  ·apply aL;simp[hC,h1,h2];refine dg ?_;simp;apply ah;simp[hC,LD,MA];refine dk zK (mV ⟨min n 0,max n 0,n⟩) ?_;simp[dD];apply T.ret;apply aa.here;simp[Tryz.results89,Bf,h1,h2]
set_option maxHeartbeats 1000000 in
theorem wa (a b:Et):ae Tryz.prog 26 [.agg (dD a),.agg (dD b)] (.agg (dD (iM a b))):=by
 refine ae.aD af Tryz.func26 rfl lz (by simp[Tryz.ntmps26]) rfl fun C hC xJ=>?_;rw[Tryz.ntmps26] at hC;simp only[dD];apply ah;simp[hC];apply aL;simp[hC];refine dk zK (lV a) ?_;simp[hC]
 cases ha:a.ok with
 | false=>
  simp;refine cz ?_;simp;apply ah;simp;refine dk zK (iR) ?_;simp;apply T.ret;apply aa.here;simp[Tryz.results26,dD,iM,ha]
 | true=>
  simp;refine TL.bG yI rfl rfl rfl rfl (bm.of rfl zK (lV b)) (TL.go' af ?_);simp[hC]
  cases hb:b.ok with
  | false=>
   simp;refine cz ?_;simp;apply ah;simp;refine dk zK (iR) ?_;simp;apply T.ret;apply aa.here;simp[Tryz.results26,dD,iM,hb]
  | true=>
   simp;refine dg ?_;simp;have sa:=(pf a).1 ha;have sb:=(pf b).1 hb;have w1:=cm (a.gm+b.lo) yA yA;have w2:=cm (a.gm+b.hi) yA yA;have w3:=cm (a.gm+b.gm) yA yA;obtain⟨e,he⟩:∃ e:Et,e=⟨min a.lo (a.gm+b.lo),max a.hi (a.gm+b.hi),a.gm+b.gm⟩:=⟨_,rfl⟩;have LD:(if a.gm+b.lo<a.lo then a.gm+b.lo else a.lo)=e.lo:=by rw[he];simp only;split<;>omega
   have MA:(if a.hi<a.gm+b.hi then a.gm+b.hi else a.hi)=e.hi:=by rw[he];simp only;split<;>omega
   have Rb:a.gm+b.gm=e.gm:=by rw[he]
   have Ns:iM a b=if e.ok=true then e else sO:=by rw[he,iM,if_pos ⟨ha,hb⟩]
   have w4:=cm e.gm (by rw[he];simp only;omega) (by rw[he];simp only;omega);rw[Ns];apply ah;simp[hC,w1,w2,LD,MA,Rb,w4];apply aL;simp[hC];refine dk zK (lV e) ?_;simp[hC]
   cases hE:e.ok with
   | false=>
    simp;refine cz ?_;simp;apply ah;simp;refine dk zK (iR) ?_;simp;apply T.ret;apply aa.here;simp[Tryz.results26,dD]
   | true=>
    simp;refine dg ?_;simp;apply ah;simp[hC];apply T.ret;apply aa.here;simp[Tryz.results26]
set_option maxHeartbeats 1000000 in
theorem CO (a b:Et):ae Tryz.prog 91 [.agg (dD a),.agg (dD b)] (.agg (dD (iM a b))):=by
 refine ae.aD af Tryz.func91 rfl lz (by simp[Tryz.ntmps91]) rfl fun C hC xJ=>?_;rw[Tryz.ntmps91] at hC;simp only[dD];apply ah;simp[hC];apply aL;simp[hC];refine dk zK (lZ a) ?_;simp[hC]
 cases ha:a.ok with
 | false=>
  simp;refine cz ?_;simp;apply ah;simp;refine dk zK (iS) ?_;simp;apply T.ret;apply aa.here;simp[Tryz.results91,dD,iM,ha]
 | true=>
  simp;refine TL.bG yI rfl rfl rfl rfl (bm.of rfl zK (lZ b)) (TL.go' af ?_);simp[hC]
  cases hb:b.ok with
  | false=>
   simp;refine cz ?_;simp;apply ah;simp;refine dk zK (iS) ?_;simp;apply T.ret;apply aa.here;simp[Tryz.results91,dD,iM,hb]
  | true=>
   simp;refine dg ?_;simp;have sa:=(pf a).1 ha;have sb:=(pf b).1 hb;have w1:=cm (a.gm+b.lo) yA yA;have w2:=cm (a.gm+b.hi) yA yA;have w3:=cm (a.gm+b.gm) yA yA;obtain⟨e,he⟩:∃ e:Et,e=⟨min a.lo (a.gm+b.lo),max a.hi (a.gm+b.hi),a.gm+b.gm⟩:=⟨_,rfl⟩;have LD:(if a.gm+b.lo<a.lo then a.gm+b.lo else a.lo)=e.lo:=by rw[he];simp only;split<;>omega
   have MA:(if a.hi<a.gm+b.hi then a.gm+b.hi else a.hi)=e.hi:=by rw[he];simp only;split<;>omega
   have Rb:a.gm+b.gm=e.gm:=by rw[he]
   have Ns:iM a b=if e.ok=true then e else sO:=by rw[he,iM,if_pos ⟨ha,hb⟩]
   have w4:=cm e.gm (by rw[he];simp only;omega) (by rw[he];simp only;omega);rw[Ns];apply ah;simp[hC,w1,w2,LD,MA,Rb,w4];refine dk zK (mV e) ?_;simp[hC,dD];apply aL;simp[hC];refine dk zK (lZ e) ?_;simp[hC]
   cases hE:e.ok with
   | false=>
    simp;refine cz ?_;simp;apply ah;simp;refine dk zK (iS) ?_;simp;apply T.ret;apply aa.here;simp[Tryz.results91,dD]
   | true=>
    simp;refine dg ?_;simp;apply ah;simp[hC];apply T.ret;apply aa.here;simp[Tryz.results91]
theorem CF (e:Et)(L:Nat)(hL:L≤8):ae Tryz.prog 36 [.agg (dD e),I 0,I L] (.bool (nk e 0 L)):=by
 refine ae.aD af Tryz.func36 rfl lz (by simp[Tryz.ntmps36]) rfl fun C hC xJ=>?_;rw[Tryz.ntmps36] at hC;simp only[dD];apply ah;simp[hC];apply ah;simp[hC];refine dk zK (lV e) ?_;simp[hC];have hM:(L:Int)≤8:=by omega
 cases ha:e.ok with
 | false=>
  simp;apply T.ret;apply aa.here;simp[Tryz.results36,nk,ha]
 | true=>
  have sa:=(pf e).1 ha;have w1:=cm e.lo yA yA;have w2:=cm e.hi yA yA;by_cases h1:0≤e.lo
  ·by_cases h2:e.hi≤L
   ·simp[hM,w1,w2,h1,h2];apply T.ret;apply aa.here;simp[Tryz.results36,nk,ha,hM,h1,h2]
   ·simp[hM,w1,w2,h1,h2];apply T.ret;apply aa.here;simp[Tryz.results36,nk,ha,hM,h1,h2]
  ·simp[hM,w1,h1];apply T.ret;apply aa.here;simp[Tryz.results36,nk,ha,hM,h1]
theorem CS (e:Et)(L:Nat)(hL:L≤8):ae Tryz.prog 32 [.agg (dD e),I 0,I L] (.bool (nk e 0 L)):=by
 refine ae.aD af Tryz.func32 rfl lz (by simp[Tryz.ntmps32]) rfl fun C hC xJ=>?_;rw[Tryz.ntmps32] at hC;simp only[dD];apply ah;simp[hC];apply ah;simp[hC];refine dk zK (lZ e) ?_;simp[hC];have hM:(L:Int)≤8:=by omega
 cases ha:e.ok with
 | false=>
  simp;apply T.ret;apply aa.here;simp[Tryz.results32,nk,ha]
 | true=>
  have sa:=(pf e).1 ha;have w1:=cm e.lo yA yA;have w2:=cm e.hi yA yA;by_cases h1:0≤e.lo
  ·by_cases h2:e.hi≤L
   ·simp[hM,w1,w2,h1,h2];apply T.ret;apply aa.here;simp[Tryz.results32,nk,ha,hM,h1,h2]
   ·simp[hM,w1,w2,h1,h2];apply T.ret;apply aa.here;simp[Tryz.results32,nk,ha,hM,h1,h2]
  ·simp[hM,w1,h1];apply T.ret;apply aa.here;simp[Tryz.results32,nk,ha,hM,h1]
end Go.Proofs.YtlkmbdfhdknlgaaGreatDoor
