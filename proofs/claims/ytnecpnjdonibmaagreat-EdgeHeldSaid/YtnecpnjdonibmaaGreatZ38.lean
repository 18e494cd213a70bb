/- function. -/
import Derived.Test.YtnecpnjdonibmaaGreatZ37
namespace Go.aP
open Go.Can
def MP (i j:Nat)(q:Pm):En:=if q.mutex=true then ⟨q.name,5,j⟩ else ⟨q.name,4,i⟩
theorem u9:∀ (a:List Pm) (q:Pm) (i j:Nat),lg i j (a++[q])=lg i j a++[MP (i+pI a) (j+pL a) q]
 | [],q,i,j=>by
  simp only[List.nil_append,lg,pI,pL,Nat.add_zero,MP];split<;>rfl
 | p::r,q,i,j=>by
  simp only[List.cons_append,lg,pI,pL];split
  ·rw[u9 r q,List.cons_append];congr 3;simp only[MP];congr 2<;>omega
  ·rw[u9 r q,List.cons_append];congr 3;simp only[MP];congr 2<;>omega
theorem Cz:∀ (a:List Pm) (q:Pm),pI (a++[q])=pI a+if q.mutex=true then 0 else 1
 | [],q=>by simp[pI]
 | p::r,q=>by simp only[List.cons_append,pI,Cz r q];omega
theorem Cy:∀ (a:List Pm) (q:Pm),pL (a++[q])=pL a+if q.mutex=true then 1 else 0
 | [],q=>by simp[pL]
 | p::r,q=>by simp only[List.cons_append,pL,Cy r q];omega
theorem AK:∀ (l:List Pm) (i j:Nat),(lg i j l).length=l.length
 | [],_,_=>rfl
 | p::r,i,j=>by
  simp only[lg];split<;>simp[AK r]
def nj (p:Pg)(f:Fu)(j:Nat):List En:=dd p++lg 0 0 (f.params.take j)
theorem FU (p:Pg)(f:Fu)(j:Nat)(q:Pm)(h:f.params[j]? = some q):nj p f (j+1)=nj p f j++[MP (pI (f.params.take j)) (pL (f.params.take j)) q]:=by
 have:f.params.take (j+1)=f.params.take j++[q]:=by rw[List.take_add_one,h];rfl
 simp only[nj,this,u9,Nat.zero_add,List.append_assoc]
theorem Bl (p:Pg)(f:Fu)(j:Nat)(h:j≤f.params.length):(nj p f j).length=(dd p).length+j:=by
 simp only[nj,List.length_append,AK,List.length_take];omega
theorem IH {p:Pg}(h:kC p){f:Fu}(hf:f∈p.fs){j:Nat}{q:Pm}(hq:f.params[j]? = some q):iX (nj p f j) q.name=none:=by
 obtain⟨_,_,_,d4⟩:=h.dec;obtain⟨_,_,a3,_⟩:=gQ;obtain⟨_,_,_,s4⟩:=h.sub;obtain⟨_,_,_,n4⟩:=h.nd;have hm:=s4 f hf _ (List.mem_map_of_mem (f:=(·.name)) (List.mem_of_getElem? hq));have ha:=a3 _ hm;rw[nj,dC,d4 _ (by simp only[List.mem_append,not_or];exact⟨⟨ha.1,ha.2.1⟩,ha.2.2⟩)];simp only;rw[qF,pM];obtain⟨hl,QG⟩:=List.getElem?_eq_some_iff.1 hq;have e:f.params=f.params.take j++q::f.params.drop (j+1):=by rw[← QG,← List.drop_eq_getElem_cons hl,List.take_append_drop]
 have h2:((f.params.take j++q::f.params.drop (j+1)).map (·.name)).Nodup:=by rw[← e];exact n4 f hf
 rw[List.map_append,List.map_cons,List.nodup_append] at h2;exact fun hm=>h2.2.2 _ hm _ List.mem_cons_self rfl
end Go.aP
namespace Go.Proofs.YtnecpnjdonibmaaGreat
open Go.Can Go.aP
def xH:Ob:=⟨88,0,[.str ⟨#[]⟩,I 0,I 0,I 0,.aa]⟩
def xx (p:Pg)(n:Nat):Ob:=⟨273,0,[.aA (p.gs.flatMap px) p.gs.length,.aA (p.ms.flatMap eJ) p.ms.length,.aA (p.fs.flatMap fq) p.fs.length,.bl 3 0 n,I 0,I 0,I 0,I 0,.aa,.aa]⟩
def J60 (p:Pg)(f:Fu)(m:Nat)(s:St):Prop:=∃ j:Nat,m=f.params.length-j∧j≤f.params.length∧
 s=⟨[(12,I j),(11,.ax 4 0),(10,.ax 2 0),(6,.ax 1 0),(5,.ax 0 0)],
  [(0,⟨192,0,fq f⟩),(1,xH),(2,xx p (nj p f j).length),(3,ir (nj p f j)),(4,⟨88,0,[.str f.name,I (pI (f.params.take j)),I (pL (f.params.take j)),I 0,.aa]⟩)],5⟩
set_option maxHeartbeats 4000000 in
theorem Bk (p:Pg)(h:kC p)(hB:PgB p)(U0:(dd p).length≤3000)(f:Fu)(hf:f∈p.fs)(hw:bO f.body≤1200)(PR:f.params.length≤100) :
  af Tryz.prog 136 [xJ p,.aA ((dd p).flatMap im) (dd p).length,.agg (fq f)] (.dS [.agg (lF (nw p f)),.aA ((iC f.body 0++[fy f.body]).map fun n:Nat=>I n) (iC f.body 0++[fy f.body]).length,I 0,I 0]):=by
 obtain⟨t1,t2,t3⟩:=jd p;have tE:=ct (dd p);have f0:=bM (f:=im) (n:=3) kM (dd p);have bd0:(dd p).length*32≤140737488355328:=by omega
 refine af.aK ai Tryz.func136 rfl OV (by simp[Tryz.ntmps136]) rfl fun C hC O0=>?_;rw[Tryz.ntmps136] at hC;simp only[xJ,eH,fq];apply aq;simp[hC];apply T.seq;refine T.rx ai follows [0,1,2,3,4,5,6] [(0,1),(0,3)] OV ?_;simp[hC,f0,bd0,bb];apply aq;simp[hC];apply aO;simp[hC];apply T.block;refine T.aH (J60 p f) (n:=f.params.length) ?_ ?_
 ·refine ae.le (Le.norm [12,11,10,6,5] [(1,0),(2,1),(8,2),(10,3),(11,4)] 0 5 Ql Qk (by simp[dr,ss,pw,tree,assoc,-List.all_eq_true,-List.all_flatMap,aE tE]) yA) ?_;simp[dj,cc,ca,dR,fF,assoc,av _ _ tE];refine ae.here ⟨0,by omega,by omega,?_⟩;simp[fq,xH,xx,ir,nj,lg,pI,pL]
 ·rintro n s ⟨j,rfl,hj,rfl⟩;by_cases OX:j<f.params.length
  ·obtain⟨q,hq⟩:∃ q,f.params[j]? = some q:=⟨f.params[j],List.getElem?_eq_getElem OX⟩;have XD:=Bl p f j hj;have Sa:=Bo (nj p f j) q.name yA;rw[IH h hf hq] at Sa;have OZ:=aN (f:=lh) (n:=2) (fun _=>rfl) hq;have QP:=bQ (f:=lh) (n:=2) (fun _=>rfl) hq 1 yA;have wi:=cC ((j:Int)+1) yA yA;have XX:=pIL (f.params.take j);rw[List.length_take] at XX;have hpi2:pI (f.params.take j)+pL (f.params.take j)≤100:=by omega
   have Pd:f.params.take (j+1)=f.params.take j++[q]:=by rw[List.take_add_one,hq];rfl
   have Qa:=FU p f j q hq;have f1:=bM (f:=im) (n:=3) kM (nj p f j);have SX:((nj p f j).length+1)*32≤140737488355328:=by omega
   have tEj:=ct (nj p f j);simp only[fq,xx,xH];apply aO;simp[hC,OX];refine fB ?_;simp;apply ed;refine T.seq (T.seq ?_);refine T.rx ai follows [0,1,2,3,4,5,6,7,8,9,14,10,11,12,13,15,16] [(3,14),(5,14),(9,14),(14,10)] OV ?_;simp[hC,OX,OZ,lh];refine RX.ju 0 3 [3] [] 1 (Sa) rfl OU rfl rfl rfl OU yA OU OU rfl OU yB rfl OU OU OU rfl OU ?_;simp[qH];apply aq;simp[hC];refine gw ?_;simp;apply aq;simp[hC,OX,QP,lh]
   cases hm:q.mutex with
   | true=>
    have wl:=cC ((pL (f.params.take j):Int)+1) yA yA;refine T.cond (b:=true) RD ?_;simp;apply T.seq;refine T.rx ai follows [0,1,2,3,4,5,6,7,8,9,10,11,12,13,14,15,16,17,18] [(4,14)] OV ?_;simp[hC,OX,OZ,lh,ir,f1,SX,bb];apply aV;simp[hC,wl];apply aV;simp[hC,wi];refine⟨f.params.length-(j+1),by omega,?_⟩;have tN:trees ((nj p f j).flatMap im++[.str q.name,I 5,I (pL (f.params.take j))])=true:=by rw[bC,ct];rfl
    have Pj:=aE tN;have RK:=fun ρ=>av ρ _ tN;refine ae.le (Le.norm [12,11,10,6,5] [(0,0),(1,1),(2,2),(41,3),(4,4)] 0 5 Ql Qk Yg yA) ?_;simp[dj,cc,ca,dR,fF,assoc,RK];refine ae.here ⟨j+1,rfl,by omega,?_⟩;simp[fq,xH,xx,ir,Qa,Pd,MP,hm,im,Cz,Cy]
   | false=>
    have wl:=cC ((pI (f.params.take j):Int)+1) yA yA;refine T.cond (b:=false) RD ?_;simp;apply T.seq;refine T.rx ai follows [0,1,2,3,4,5,6,7,8,9,10,11,12,13,14,15,16,17,18] [(4,14)] OV ?_;simp[hC,OX,OZ,lh,ir,f1,SX,bb];apply aV;simp[hC,wl];apply aV;simp[hC,wi];refine⟨f.params.length-(j+1),by omega,?_⟩;have tN:trees ((nj p f j).flatMap im++[.str q.name,I 4,I (pI (f.params.take j))])=true:=by rw[bC,ct];rfl
    have Pj:=aE tN;have RK:=fun ρ=>av ρ _ tN;refine ae.le (Le.norm [12,11,10,6,5] [(0,0),(1,1),(2,2),(41,3),(4,4)] 0 5 Ql Qk Yg yA) ?_;simp[dj,cc,ca,dR,fF,assoc,RK];refine ae.here ⟨j+1,rfl,by omega,?_⟩;simp[fq,xH,xx,ir,Qa,Pd,MP,hm,im,Cz,Cy]
  ·have Qh:j=f.params.length:=by omega
   subst Qh;have XD:=Bl p f f.params.length (Nat.le_refl _);have hfe:nj p f f.params.length=ry p f:=by simp only[nj,ry,List.take_length]
   rw[hfe] at XD;simp only[fq,xx,xH,List.take_length,hfe];have hEW:=h.ew hf;have P4:=Jq hB 2 f.body _ (ry p f) (pI f.params) 0 [] [] hEW (h.bd f hf) yA (by have:=pIL f.params;omega) QS QS yA;have tEj:=ct (ry p f);have tk:List.take ((ry p f).length*3) ((ry p f).flatMap im)=(ry p f).flatMap im:=List.take_of_length_le (by rw[bM (f:=im) (n:=3) kM];omega);have OX:¬ f.params.length<f.params.length:=by omega
   apply aO;simp[hC];refine a7 ?_;simp;apply T.exit;simp;apply aq;simp[hC];refine T.le (Le.dp (o:=3) rfl tEj) ?_;simp[ir,tk];refine T.le (Le.pO 2 8 85 12 rfl rfl) ?_;simp;refine T.le (Le.pO 2 9 3 1 rfl rfl) ?_;simp;refine T.le (Le.norm [11,10,6,5] [(2,0),(5,3),(6,4),(0,5),(1,6),(4,7)] 0 8 Ql Qk Z1 yA) ?_;simp[dj,cc,ca,dR,fF,assoc];simp only[GA,List.length_nil,Nat.zero_add,List.nil_append] at P4;have hlen:=ub.2 f.body (ry p f) (pI f.params) 0 0;obtain⟨v1,v2,v3,v4⟩:=Au.2 f.body 2 _ _ _ 0 hEW (h.bd f hf);have v5:=yZ.2 f.body;have YS:nw p f=⟨f.name,pI f.params,pL f.params,(bV f.body (ry p f) (pI f.params) 0).2,(bV f.body (ry p f) (pI f.params) 0).1++[.ret]⟩:=rfl;generalize bV f.body (ry p f) (pI f.params) 0=S at P4 hlen v1 v2 v3 v4 YS;obtain⟨S1,S2⟩:=S;generalize hS3:iC f.body 0=S3 at P4 hlen;generalize hN:fy f.body=NN at P4 v4 v5;simp only at P4 hlen v1 v3 v4 YS;have tb:=bF f.body;apply aq;simp[hC];refine TL.ij P4 rfl rfl (cf _) (aU _) yA rfl O5 rfl rfl rfl Yf rfl (TL.go' ai ?_);simp;have tS1:=cf S1;have Uu:=aU S3;refine T.le (Le.norm [11,10,6,5] [(0,0),(8,3),(9,4),(5,5),(6,6),(7,7)] 0 8 Ql Qk (by simp[dr,ss,pw,tree,assoc,-List.all_eq_true,-List.all_flatMap,fY,fp,gj,aE tS1,aE Uu]) yA) ?_;simp[dj,cc,ca,dR,fF,assoc,fY,fp,gj,av _ _ tS1,av _ _ Uu];apply aq;simp[hC];refine TL.ij (ML p (ry p f) S2 NN S1 S3 S1.length S3.length rfl rfl [I 8,I 0,.bool false,I 0,I 0,.str eS,.aa,.bool false,I 0,.aa,.aa,.aa] rfl rfl NN yA yA) (cf _) (aU _) (xk _ rfl) (aU _) yA rfl O5 rfl rfl rfl rfl rfl (TL.go' ai ?_);simp;have tS4:trees (S1.flatMap dt++[I 8,I 0,.bool false,I 0,I 0,.str eS,.aa,.bool false,I 0,.aa,.aa,.aa])=true:=by rw[bC,tS1];rfl
   refine T.le (Le.nz [] [8]) ?_;simp[OR,qw];apply T.seq;refine T.rx ai follows [0,1,2,3,4,5,6,7,8,9,10,11] [(7,9)] OV ?_;simp[hC,fY];apply T.seq;refine T.rx ai follows [0,1,2,3,4,5,6,7,8,9,10,11,12,13,14,15,16] [(4,13),(8,13),(12,13)] OV ?_;simp[hC];apply T.ret;have hinr:dt In.ret=[I 8,I 0,.bool false,I 0,I 0,.str eS,.aA [] 0,.bool false,I 0,.aA [] 0,.aA [] 0,.aA [] 0]:=by simp[dt,bR,sQ]
   have SM:S1.flatMap dt++[I 8,I 0,.bool false,I 0,I 0,.str eS,.aA [] 0,.bool false,I 0,.aA [] 0,.aA [] 0,.aA [] 0]=(S1++[In.ret]).flatMap dt:=by simp[hinr]
   have tS5:=cf (S1++[In.ret]);have Z9:=aU (S3++[NN]);have tk5:List.take ((S1.length+1)*12) ((S1++[In.ret]).flatMap dt)=(S1++[In.ret]).flatMap dt:=List.take_of_length_le (by rw[zK];simp);have tk6:List.take (S3.length+1) ((S3++[NN]).map fun n:Nat=>I n)=(S3++[NN]).map fun n:Nat=>I n:=List.take_of_length_le OU;simp only[SM];generalize hX:(S1++[In.ret]).flatMap dt=X at tS5 tk5;generalize hY:((S3++[NN]).map fun n:Nat=>I n)=Y at Z9 tk6;refine ae.le (Le.trim [6,7,8,9] [6,8,9] 10 (by simp[gj,hY,-List.all_eq_true,-List.all_flatMap,ah tS5,ah Z9]) yA) ?_;simp[gj,hY];refine ae.le (Le.dp (o:=8) rfl tS5) ?_;simp[tk5,cI Z9];refine ae.le (Le.dp (o:=9) rfl Z9) ?_;simp[tk6];apply ae.here;simp only[YS,lF];simp;exact⟨by rw[← hX];simp,by rw[← hY];simp⟩
end Go.Proofs.YtnecpnjdonibmaaGreat
namespace Go.aP
open Go.Can
theorem kC.main {p:Pg}(h:kC p):∃ f r,p.fs=f::r∧f.params=[]∧iX (dd p) f.name=some ⟨f.name,3,0⟩∧nF.head? = some f.name:=by
 obtain⟨a1,a2,_,_⟩:=gQ;obtain⟨s1,s2,s3,_⟩:=h.sub;obtain⟨d1,d2,d3,_⟩:=h.nd;obtain⟨k,hk,_,he⟩:=h.fn
 cases Q4:p.fs with
 | nil=>
  rw[Q4] at he;have:=congrArg List.length he;simp[nF] at this;omega
 | cons f r=>
  refine⟨f,r,rfl,h.f0 f (by rw[Q4];rfl),?_,?_⟩
  ·have hm:f.name∈nF:=s3 _ (by rw[Q4];simp);have h0:(p.fs.map (·.name))[0]? = some f.name:=by rw[Q4];rfl
   rw[dd,dC,dC,eA (fun hx=>(a2 _ hm).1 (s1 _ hx)),eA (fun hx=>(a2 _ hm).2 (s2 _ hx))];simp only;rw[qG h0 d3]
  ·rw[Q4] at he;obtain⟨k,rfl⟩:∃ k',k=k' + 1:=⟨k-1,by omega⟩;simp only[nF,List.map_cons,List.take_succ_cons,List.cons.injEq] at he;rw[he.1];rfl
end Go.aP
namespace Go.Proofs.YtnecpnjdonibmaaGreat
open Go.Can Go.aP
theorem oA (x:Pr):trees (lF x)=true:=by simp only[lF,trees,tree,Bool.and_true]
theorem eZ (x:Pr):(lF x).length=5:=rfl
def AI (l:List Pr):Ob:=⟨88,5,l.flatMap lF⟩
def Ik (l:List Int):Ob:=⟨3,1,l.map I⟩
theorem jf (l:List Int):trees (l.map I)=true:=by
 induction l with
 | nil=>rfl
 | cons a r ih=>rw[List.map_cons,trees,ih];rfl
theorem CL:∀ {l:List Nat} {x:Nat},x∈l→x≤l.sum
 | a::r,x,h=>by
  rw[List.sum_cons];rcases List.mem_cons.1 h with rfl | h
  ·omega
  ·have:=CL h;omega
def pj:Ob:=⟨30,0,[.aa,.aa,.aa,I 0]⟩
def JL1 (p:Pg)(m:Nat)(s:St):Prop:=∃ i:Nat,m=p.gs.length-i∧i≤p.gs.length∧
 s=⟨[(11,I i),(10,.ax 2 0),(6,.aA ((dd p).flatMap im) (dd p).length),(2,.ax 1 0),(1,.ax 0 0)],
  [(0,⟨27,0,eH p⟩),(1,pj),(2,⟨30,0,[.bl 3 0 i,.aA (p.ms.flatMap eJ) p.ms.length,.aa,I 0]⟩),(3,Ik ((p.gs.take i).map (·.init)))],4⟩
def JL2 (p:Pg)(m:Nat)(s:St):Prop:=∃ i:Nat,m=p.fs.length-i∧i≤p.fs.length∧
 s=⟨[(12,I i),(10,.ax 2 0),(6,.aA ((dd p).flatMap im) (dd p).length),(2,.ax 1 0),(1,.ax 0 0)],
  [(0,⟨27,0,eH p⟩),(1,pj),(2,⟨30,0,[.aA ((p.gs.map (·.init)).map I) p.gs.length,.aA (p.ms.flatMap eJ) p.ms.length,.bl 3 0 i,I 0]⟩),(3,AI ((p.fs.take i).map (nw p)))],4⟩
set_option maxHeartbeats 4000000 in
theorem Ig (p:Pg)(h:kC p):af Tryz.prog 68 [xJ p] (.dS [df (lH p),I 0,I 0,I 0]):=by
 obtain⟨k1,TW,e1⟩:=h.gn;obtain⟨k2,_,Ug,e2⟩:=h.mn;obtain⟨k3,_,hk3,e3⟩:=h.fn;have l1:=congrArg List.length e1;have l2:=congrArg List.length e2;have l3:=congrArg List.length e3;simp[nG] at l1;simp[nM] at l2;simp[nF] at l3;have WY:∀ f∈p.fs,f.params.length≤2:=fun f hf=>by
  obtain⟨k,hk,e⟩:=h.pn f hf;have h5:=congrArg List.length e;simp only[List.length_map,List.length_reverse,List.length_take,nP,List.length_cons,List.length_nil] at h5;omega
 have hB:PgB p:=⟨by omega,by omega,fun f hf=>by have:=WY f hf;omega⟩;have U0:=Bx p;have Q6:=GW p h;have Zy:=Bw p h yA yA yA;obtain⟨fm,fr,Q4,Sn,Zs,Vu⟩:=h.main;have Sa:=qI (dd p) fm.name yA;rw[Zs] at Sa;have Tx:fm.name=⟨#[109,97,105,110]⟩:=by
  simp only[nF,List.head?_cons,Option.some.injEq] at Vu;rw[← Vu]
 obtain⟨t1,t2,t3⟩:=jd p;have tE:=ct (dd p);have fm1:=bM (f:=eJ) (n:=3) (fun _=>rfl) p.ms;have bd0:p.ms.length*32≤140737488355328:=by omega
 have hf0:p.fs[0]? = some fm:=by rw[Q4];rfl
 have OZ:=bQ (f:=fq) (n:=3) (fun _=>rfl) hf0 1 yA;have PO:0<p.fs.length:=by rw[Q4];simp
 refine af.aK ai Tryz.func68 rfl OV (by simp[Tryz.ntmps68]) rfl fun C hC O0=>?_;rw[Tryz.ntmps68] at hC;simp only[xJ,eH] at Q6 Zy ⊢;apply aq;simp[hC];apply aO;simp[hC];refine dz Pc (Q6) ?_;simp[hC];refine gw ?_;simp;apply aq;simp[hC];refine dz Pc (Zy) ?_;simp[hC];apply aO;simp[hC];refine gw ?_;simp;rw[Tx] at Sa;apply aq;simp[hC];refine dz Pc (Sa) ?_;simp[hC,qH,im];apply aO;simp[hC,OZ,PO,fq,Sn];refine gw ?_;simp;apply T.seq;refine T.rx ai follows [0,1,2,3,4,5,6,7,8] [(1,2),(1,5),(1,7),(2,4),(2,7),(4,7),(5,7)] OV ?_;simp[hC,fm1,bd0,bb];apply aO;simp[hC];apply T.block;refine T.aH (JL1 p) (n:=p.gs.length) ?_ ?_
 ·have tk:List.take (p.ms.length*3) (p.ms.flatMap eJ)=p.ms.flatMap eJ:=List.take_of_length_le (by rw[fm1];exact Nat.le_refl _);refine ae.le (Le.trim [11,10,6,2,1] [10,12,1,0] 13 (by simp[-List.all_eq_true,-List.all_flatMap,ah (fH p.ms)]) yA) ?_;simp;refine ae.le (Le.dp (o:=12) rfl (fH p.ms)) ?_;simp[tk];refine ae.le (Le.pO 10 0 3 1 rfl rfl) ?_;simp;refine ae.le (Le.norm [11,10,6,2,1] [(0,0),(1,1),(10,2),(13,3)] 0 4 Ql Qk Z1 yA) ?_;simp[dj,cc,ca,dR,fF,assoc];refine ae.here ⟨0,by omega,by omega,?_⟩;simp[eH,pj,Ik]
 ·rintro n s ⟨i,rfl,hi,rfl⟩;by_cases OX:i<p.gs.length
  ·obtain⟨y,hy⟩:∃ y,p.gs[i]? = some y:=⟨p.gs[i],List.getElem?_eq_getElem OX⟩;have OZ:=aN (f:=px) (n:=2) (fun _=>rfl) hy;have QP:=bQ (f:=px) (n:=2) (fun _=>rfl) hy 1 yA;have wi:=cC ((i:Int)+1) yA yA;have Pd:p.gs.take (i+1)=p.gs.take i++[y]:=by rw[List.take_add_one,hy];rfl
   have P3:((p.gs.take i).map (·.init)).length=i:=by simp;omega
   have SX:(i+1)*8≤140737488355328:=by omega
   have tI:=jf ((p.gs.take i).map (·.init));generalize hG:(p.gs.take i).map (·.init)=G at P3 tI;simp only[eH,pj,Ik];apply aO;simp[hC,OX];refine fB ?_;simp;apply ed;refine T.rx ai follows [0,1,2,3,4,5,6,7,8,9,10,11] [(1,8)] OV ?_;simp[hC,OX,OZ,px,P3,SX,bb];apply aV;simp[hC,wi];refine⟨p.gs.length-(i+1),by omega,?_⟩;have tN:trees (G.map I++[I y.init])=true:=by rw[bC,tI];rfl
   have Pj:=aE tN;have RK:=fun ρ=>av ρ _ tN;refine ae.le (Le.norm [11,10,6,2,1] [(0,0),(1,1),(2,2),(16,3)] 0 4 Ql Qk Yg yA) ?_;simp[dj,cc,ca,dR,fF,assoc,RK];refine ae.here ⟨i+1,rfl,by omega,?_⟩;simp[eH,pj,Ik,Pd,hG]
  ·have O6:i=p.gs.length:=by omega
   subst O6;apply aO;simp[hC,eH];refine a7 ?_;simp;apply T.exit;simp;have tI:=jf (p.gs.map (·.init));have Z5:List.take p.gs.length ((p.gs.map (·.init)).map I)=(p.gs.map (·.init)).map I:=List.take_of_length_le OU;have hints:ints (p.gs.map (·.init))=.aA ((p.gs.map (·.init)).map I) p.gs.length:=by simp[ints]
   generalize hG:p.gs.map (·.init)=G at tI Z5 hints;simp only[pj,Ik];apply aO;simp[hC];apply T.block;refine T.aH (JL2 p) (n:=p.fs.length) ?_ ?_
   ·refine ae.le (Le.trim [12,10,6,2,1] [0,1,2,3] 4 (by simp[-List.all_eq_true,-List.all_flatMap,ah tI]) yA) ?_;simp;refine ae.le (Le.dp (o:=3) rfl tI) ?_;simp[Z5];refine ae.le (Le.pO 2 2 88 5 rfl rfl) ?_;simp;refine ae.le (Le.norm [12,10,6,2,1] [(0,0),(1,1),(2,2),(4,3)] 0 4 Ql Qk Z1 yA) ?_;simp[dj,cc,ca,dR,fF,assoc];refine ae.here ⟨0,by omega,by omega,?_⟩;simp[eH,pj,AI,hG]
   ·rintro n s ⟨i,rfl,hi,rfl⟩;by_cases OX:i<p.fs.length
    ·obtain⟨f,hf⟩:∃ f,p.fs[i]? = some f:=⟨p.fs[i],List.getElem?_eq_getElem OX⟩;have Zs:=List.mem_of_getElem? hf;have hfk:bO f.body≤1200:=by
      have h1:=CL (List.mem_map_of_mem (f:=fun f:Fu=>bO f.body) Zs);have h2:=h.wt;omega
     have Vu:=Bk p h hB yA f Zs hfk (by have:=WY f Zs;omega);have OZ:=aN (f:=fq) (n:=3) (fun _=>rfl) hf;have wi:=cC ((i:Int)+1) yA yA;have Pd:p.fs.take (i+1)=p.fs.take i++[f]:=by rw[List.take_add_one,hf];rfl
     have P3:((p.fs.take i).map (nw p)).length=i:=by simp;omega
     have tP:=aQ oA ((p.fs.take i).map (nw p));have fP:=bM (f:=lF) (n:=5) eZ ((p.fs.take i).map (nw p));rw[P3] at fP;have SX:(i+1)*64≤140737488355328:=by omega
     generalize hH:(p.fs.take i).map (nw p)=Hs at P3 tP fP;have YR:lF (nw p f)=[.str (nw p f).name,I (nw p f).ints,I (nw p f).bH,I (nw p f).locals,.aA ((nw p f).code.flatMap dt) (nw p f).code.length]:=rfl;have tpr:=oA (nw p f);rw[YR] at Vu tpr;have tcd:=cf (nw p f).code;simp only[eH,fq,xJ] at Vu;simp only[eH,pj,AI];apply aO;simp[hC,OX];refine fB ?_;simp;apply ed;apply T.seq;refine T.rx ai follows [0,1,2,3,4,5,6,13,7,8,9,10,11,12,14,15,16,17] [(0,13),(3,13),(6,13),(13,7)] OV ?_;simp[hC,OX,OZ,fq];have O3:trees [.agg [.aA (p.gs.flatMap px) p.gs.length,.aA (p.ms.flatMap eJ) p.ms.length,.aA (p.fs.flatMap fq) p.fs.length],.aA ((dd p).flatMap im) (dd p).length,.agg [.str f.name,.aA (f.params.flatMap lh) f.params.length,.aA (bx f.body) f.body.length]]=true:=by
      simp only[trees,tree];rfl
     refine RX.call rfl rfl rfl rfl rfl O3 Vu ?_;simp;apply aO;simp[hC];refine gw ?_;simp;apply aV;simp[hC,fP,SX,bb];apply aV;simp[hC,wi];refine⟨p.fs.length-(i+1),by omega,?_⟩;have tN:trees (Hs.flatMap lF++[.str (nw p f).name,I (nw p f).ints,I (nw p f).bH,I (nw p f).locals,.aA ((nw p f).code.flatMap dt) (nw p f).code.length])=true:=by rw[bC,tP,tpr];rfl
     have Pj:=aE tN;have RK:=fun ρ=>av ρ _ tN;have tI2:=jf (p.gs.map (·.init));refine ae.le (Le.norm [12,10,6,2,1] [(0,0),(1,1),(2,2),(23,3)] 0 4 Ql Qk Yg yA) ?_;simp[dj,cc,ca,dR,fF,assoc,RK];refine ae.here ⟨i+1,rfl,by omega,?_⟩;simp[eH,pj,AI,Pd,hH,YR]
    ·have O6:i=p.fs.length:=by omega
     subst O6;have tP:=aQ oA (p.fs.map (nw p));have fP:=bM (f:=lF) (n:=5) eZ (p.fs.map (nw p));have P3:(p.fs.map (nw p)).length=p.fs.length:=by simp
     rw[P3] at fP;have tkP:List.take (p.fs.length*5) ((p.fs.map (nw p)).flatMap lF)=(p.fs.map (nw p)).flatMap lF:=List.take_of_length_le yA;have Tq:bY (lH p)=[.aA ((p.gs.map (·.init)).map I) p.gs.length,.aA (p.ms.flatMap eJ) p.ms.length,.aA ((p.fs.map (nw p)).flatMap lF) p.fs.length,I 0]:=by simp[bY,lH,ints]
     simp only[eH,pj,AI,List.take_length];generalize hH:p.fs.map (nw p)=Hs at tP fP tkP Tq;apply aO;simp[hC];refine a7 ?_;simp;apply T.exit;simp;apply aq;simp[hC];apply T.ret;have tI2:=jf (p.gs.map (·.init));generalize hG:(p.gs.map (·.init)).map I=Gs at tI2 Tq;refine ae.le (Le.trim [5,4,3,2] [1,3] 4 (by simp[-List.all_eq_true,-List.all_flatMap,ah tP]) yA) ?_;simp;refine ae.le (Le.dp (o:=3) rfl tP) ?_;simp[tkP];apply ae.here;simp[df,Tq];rw[← hG,List.map_map]
theorem aC (l:List Nat):trees (l.map fun n:Nat=>I n)=true:=aU l
theorem aD (l:List Nat):tree (az l)=true:=by simp only[az,tree]
theorem bT (x:Is):trees (cO x)=true:=by simp only[cO,trees,aD,Bool.and_true];rfl
theorem fa (x:Is):(cO x).length=2:=rfl
theorem cZ {l:List Nat}{i n:Nat}(h:l[i]? = some n):(l.map fun n:Nat=>I n).drop i=I n::(l.drop (i+1)).map fun n:Nat=>I n:=by
 obtain⟨hl,rfl⟩:=List.getElem?_eq_some_iff.1 h;rw[← List.map_drop,List.drop_eq_getElem_cons hl,List.map_cons]
theorem xB (is:Is)(q:Pl)(h:q.param=true→q.index<is.bH.length):af Tryz.prog 42 [.agg (cO is),.agg (pN q)] (I (oK is q)):=by
 refine af.aK ai Tryz.func42 rfl OV (by simp[Tryz.ntmps42]) rfl fun C hC O0=>?_;rw[Tryz.ntmps42] at hC;simp only[cO,pN,az,nQ];apply aq;simp[hC];apply aO;simp[hC]
 cases hq:q.param with
 | true=>
  have O1:=h hq;obtain⟨n,hn⟩:∃ n,is.bH[q.index]? = some n:=⟨_,List.getElem?_eq_getElem O1⟩;have OZ:=cZ hn;have W7:oK is q=n:=by simp[oK,hq,List.getD_eq_getElem?_getD,hn]
  refine T.cond (b:=true) RD ?_;simp;apply aq;simp[hC,O1,OZ];apply T.ret;apply ae.here;simp[Tryz.results42,W7]
 | false=>
  have W7:oK is q=q.index:=by simp[oK,hq]
  refine T.cond (b:=false) RD (T.skip ?_);simp;apply aq;simp[hC];apply T.ret;apply ae.here;simp[Tryz.results42,W7]
theorem Iv (g:Bool)(t:Nat)(l:List Ex)(ps:List Pl):dt (.call g t l ps)=[I (if g=true then 3 else 2),I t,.bool false,I 0,I 0,.str eS,.aA [] 0,.bool false,I 0,.aA [] 0,.aA (l.flatMap bR) l.length,.aA (ps.flatMap pN) ps.length]:=rfl
def a8 (l:List Nat):Ob:=⟨3,1,l.map fun n:Nat=>I n⟩
def J27 (_u:Un)(is:Is)(cs:List CV)(cn:Nat)(pc:Int)(t:Nat)(ps:List Pl)(m:Nat)(s:St):Prop:=∃ i:Nat,m=ps.length-i∧i≤ps.length∧
 s=⟨[(10,I i),(9,.ax 3 0),(8,.aA cs cn),(6,.ax 2 0),(4,.ax 1 0),(2,I pc)],[(1,⟨90,0,cO is⟩),(2,⟨90,0,[I 0,.aa]⟩),(3,⟨90,0,[I t,.bl 4 0 i]⟩),(4,a8 ((ps.take i).map (oK is)))],5⟩
theorem aT (u:Un):trees (bY u)=true:=by
 simp only[bY,trees,ints,tree];simp
set_option maxHeartbeats 4000000 in
theorem Cs (u:Un)(hu:iy u)(is:Is)(hi:pE u is)(pc:Int):af Tryz.prog 137 [df u,.agg (cO is),I pc] (zW (sD u is pc)):=by
 obtain⟨⟨pq,PA,SF⟩,hlm⟩:=id hi;have OY:au u is=pq.code:=by simp only[au,PA]
 have PR:=(List.getElem?_eq_some_iff.1 PA).1;have OZ:=bQ (f:=lF) (n:=5) eZ PA 4 yA;have hlen:=(hu.pr pq (List.mem_of_getElem? PA)).2.2.2.2;have QU:tree (zW (sD u is pc))=true:=by
  cases sD u is pc with
  | none=>rfl
  | some x=>simp only[zW,tree,trees,bT];rfl
 have Pa:=aT u;simp only[bY,ints] at Pa;refine af.aK ai Tryz.func137 rfl OV (by simp[Tryz.ntmps137]) QU fun C hC O0=>?_;rw[Tryz.ntmps137] at hC;simp only[df,bY,cO,ints];apply aq;simp[hC];apply aq;simp[hC,PR,OZ,lF];have Z7:=cf pq.code;have Z7:=cf pq.code;by_cases h1:pc<0
 ·have hn:sD u is pc=none:=by simp[sD,h1]
  apply aO;simp[hC,h1];refine fE ?_;simp;apply aq;simp[hC];apply T.ret;simp;refine ae.le (Le.trim [6,7] [2] 3 OU yA) ?_;simp;refine ae.le (Le.nz [] [2]) ?_;apply ae.here;simp[hn,zW]
 ·obtain⟨k,rfl⟩:∃ k:Nat,pc=k:=⟨pc.toNat,by omega⟩;by_cases h2:k<pq.code.length
  ·obtain⟨x,hx⟩:∃ x,pq.code[k]? = some x:=⟨_,List.getElem?_eq_getElem h2⟩;have Rl:sD u is k=jS is x:=by simp[sD,OY,hx,h1]
   have Qy:=aN (f:=dt) (n:=12) eK hx;obtain⟨xc,Qm,_⟩:=iK x;rw[Qm] at Qy;have UO:¬ ((pq.code.length:Int)≤(k:Int)):=by omega
   by_cases O8:∃ g t l ps,x=.call g t l ps
   ·obtain⟨g,t,l,ps,rfl⟩:=O8;have ZF:sD u is k=some ⟨t,ps.map (oK is)⟩:=by rw[Rl];rfl
    have hic:Gz (u.ps.map fun q=>(q.ints,q.bH)) u.ms u.gs.length pq.locals pq.bH (pq.code.length-1) (.call g t l ps):=(hu.pc pq (List.mem_of_getElem? PA)).2 _ (List.mem_of_getElem? hx);have YQ:=hic.2.2;have RZ:=bQ (f:=dt) (n:=12) eK hx 1 yA;have VY:=bQ (f:=dt) (n:=12) eK hx 11 yA;rw[Iv] at RZ VY;have UM:((mU (.call g t l ps) == 2) && (mU (.call g t l ps) == 3))=false:=by cases g<;>rfl
    have Xs:List.drop (k*12) (pq.code.flatMap dt)=I (if g=true then 3 else 2)::xc++(pq.code.drop (k+1)).flatMap dt:=by rw[Qy];cases g<;>rfl
    have hpsl:ps.length≤100:=by
     have h5:=hic.1;rw[List.getElem?_map,Option.map_eq_some_iff] at h5;obtain⟨q',h6,h7⟩:=h5;simp only[Prod.mk.injEq] at h7;have:=(hu.pr q' (List.mem_of_getElem? h6)).2.1;omega
    rw[ZF];simp only[zW];clear Qy;generalize Zp:(if g=true then (3:Int) else 2)=op at Xs;have hop3:((op != 2) && (op != 3))=false:=by subst Zp;cases g<;>rfl
    have TC:(op != 2)=false∨((op != 2)=true∧(op != 3)=false):=by subst Zp;cases g<;>simp
    refine T.cut (fun s=>s=⟨[(8,.aA (pq.code.flatMap dt) pq.code.length),(6,.ax 2 0),(4,.ax 1 0),(2,I k)],[(2,⟨90,0,[I 0,.aa]⟩),(1,⟨90,0,cO is⟩)],3⟩) ?_ ?_
    ·rcases TC with hb | ⟨hb,Qz⟩
     ·apply aq;simp[hC,UO,h1,h2,Xs,hb];refine gw ?_;simp;refine ae.trim [8,6,4,2] [2,1] 3 (by simp[-List.all_eq_true,-List.all_flatMap,aW 3 _ (aD is.bH)]) yA ?_;simp[cO]
     ·apply aq;simp[hC,UO,h1,h2,Xs,hb,Qz];refine gw ?_;simp;refine ae.trim [8,6,4,2] [2,1] 3 (by simp[-List.all_eq_true,-List.all_flatMap,aW 3 _ (aD is.bH)]) yA ?_;simp[cO]
    ·rintro s rfl;simp only[cO];apply aq;simp[hC,h2,RZ];apply aO;simp[hC];apply T.block;refine T.aH (J27 u is (pq.code.flatMap dt) pq.code.length k t ps) (n:=ps.length) ?_ ?_
     ·refine ae.le (Le.pO 3 1 3 1 rfl rfl) ?_;simp;refine ae.trim [10,9,8,6,4,2] [1,2,3,4] 5 (by simp[-List.all_eq_true,-List.all_flatMap,aW 5 _ (aD is.bH)]) yA ⟨0,by omega,by omega,?_⟩;simp[cO,a8]
     ·rintro n s ⟨i,rfl,UY,rfl⟩;by_cases OX:i<ps.length
      ·obtain⟨q,hq⟩:∃ q,ps[i]? = some q:=⟨ps[i],List.getElem?_eq_getElem OX⟩;have VW:=aN (f:=pN) (n:=3) ui hq;have hqv:q.param=true→q.index<is.bH.length:=fun hp=>by
        rcases YQ q (List.mem_of_getElem? hq) with ⟨_,h8,_⟩ | ⟨h8,_⟩
        ·omega
        ·rw[hp] at h8;cases h8
       have Rj:=xB is q hqv;have wi:=cC ((i:Int)+1) yA yA;have Pd:ps.take (i+1)=ps.take i++[q]:=by rw[List.take_add_one,hq];rfl
       have P3:((ps.take i).map (oK is)).length=i:=by simp;omega
       have tN:=aC ((ps.take i).map (oK is));have SX:(i+1)*8≤140737488355328:=by omega
       obtain⟨q1,q2,q3,q4,hqc,tq⟩:=HO q;rw[hqc] at VW Rj;generalize hG:(ps.take i).map (oK is)=G at P3 tN;simp only[cO,a8] at Rj ⊢;apply aO;simp[hC,h2,VY,OX];refine fB ?_;simp;apply ed;refine T.rx ai follows [0,1,2,3,4,5,6,7,8,9,10,11,12,13,14,15] [(1,11),(1,12)] OV ?_;simp[hC,h2,VY,OX,VW];have O3:trees [.agg [I is.proc,az is.bH],.agg [.bool q1,I q2,.aA q3 q4]]=true:=by
        simp only[trees,tree,aD,Bool.and_true]
       refine RX.call rfl rfl rfl rfl rfl O3 Rj ?_;simp[P3,SX,bb];apply aV;simp[hC,wi];refine⟨ps.length-(i+1),by omega,?_⟩;have tN2:trees ((G.map fun n:Nat=>I n)++[I (oK is q)])=true:=by rw[bC,tN];rfl
       have Pj:=aE tN2;have RK:=fun ρ=>av ρ _ tN2;have tnt:=aD is.bH;simp only[az,tree] at tnt;simp only[az];refine ae.le (Le.norm [10,9,8,6,4,2] [(1,1),(2,2),(3,3),(21,4)] 0 5 Ql Qk Yg yA) ?_;simp[dj,cc,ca,dR,fF,assoc,RK];refine ae.here ⟨i+1,rfl,by omega,?_⟩;simp[cO,a8,Pd,hG,az]
      ·have O6:i=ps.length:=by omega
       subst O6;rw[List.take_length];have tN:=aC (ps.map (oK is));have tkN:List.take ps.length ((ps.map (oK is)).map fun n:Nat=>I n)=(ps.map (oK is)).map fun n:Nat=>I n:=List.take_of_length_le OU;have hnt:az (ps.map (oK is))=.aA ((ps.map (oK is)).map fun n:Nat=>I n) ps.length:=by simp[az]
       simp only[cO,a8];rw[hnt];generalize hG:((ps.map (oK is)).map fun n:Nat=>I n)=G at tN tkN;apply aO;simp[hC,h2,VY];refine a7 ?_;simp;apply T.exit;simp;apply aq;simp[hC];apply T.ret;refine ae.le (Le.trim [6,7] [2,4] 5 (by simp[-List.all_eq_true,-List.all_flatMap,ah tN]) yA) ?_;simp;refine ae.le (Le.dp (o:=4) rfl tN) ?_;simp[tkN];apply ae.here;simp
   ·have hn:sD u is k=none:=by
     rw[Rl]
     cases x with
     | call g t l ps=>exact (O8 ⟨g,t,l,ps,rfl⟩).elim
     | _=>rfl
    have UM:((mU x != 2)=true)∧((mU x != 3)=true):=by
     cases x with
     | call g t l ps=>exact (O8 ⟨g,t,l,ps,rfl⟩).elim
     | lock u _=>cases u<;>exact⟨rfl,rfl⟩
     | _=>exact⟨rfl,rfl⟩
    apply aO;simp[hC,UO,h1,h2,Qy,UM.1,UM.2];refine fE ?_;simp;apply aq;simp[hC];apply T.ret;simp;refine ae.le (Le.trim [6,7] [2] 3 OU yA) ?_;simp;refine ae.le (Le.nz [] [2]) ?_;apply ae.here;simp[hn,zW]
  ·have hn:sD u is k=none:=by simp[sD,OY,List.getElem?_eq_none (Nat.le_of_not_lt h2)]
   have UO:(pq.code.length:Int)≤(k:Int):=by omega
   apply aO;simp[hC,UO,h1];refine fE ?_;simp;apply aq;simp[hC];apply T.ret;simp;refine ae.le (Le.trim [6,7] [2] 3 OU yA) ?_;simp;refine ae.le (Le.nz [] [2]) ?_;apply ae.here;simp[hn,zW]
def gq (f:List Nat)(i:Nat):List CV:=(f.take i).map (fun n:Nat=>I n)++List.replicate (f.length-i) (I 0)
theorem jo {f:List Nat}{i:Nat}(h:i≤f.length):(gq f i).length=f.length:=by simp[gq];omega
theorem gV (f:List Nat):gq f 0=List.replicate f.length (I 0):=by simp[gq]
theorem jq (f:List Nat):gq f f.length=f.map fun n:Nat=>I n:=by simp[gq]
theorem fU (n:Nat):trees (List.replicate n (I 0))=true:=by
 induction n with
 | zero=>rfl
 | succ n ih=>rw[List.replicate_succ];simpa only[trees,tree,Bool.true_and] using ih
theorem fb (f:List Nat)(i:Nat):trees (gq f i)=true:=by rw[gq,bC,aC,fU];rfl
theorem jn {f:List Nat}{i v:Nat}(h:f[i]? = some v):List.take i (gq f i)++I v::List.drop (i+1) (gq f i)=gq f (i+1):=by
 have hl:=(List.getElem?_eq_some_iff.1 h).1;have hA:((f.take i).map (fun n:Nat=>I n)).length=i:=by rw[List.length_map,List.length_take];omega
 have hr:List.replicate (f.length-i) (I 0)=I 0::List.replicate (f.length-(i+1)) (I 0):=by
  rw[show f.length-i=(f.length-(i+1))+1 by omega,List.replicate_succ]
 rw[gq,gq,hr,List.take_left' hA];have hd:List.drop (i+1) ((f.take i).map (fun n:Nat=>I n)++I 0::List.replicate (f.length-(i+1)) (I 0))=List.replicate (f.length-(i+1)) (I 0):=by
  rw[← List.drop_drop,List.drop_left' hA];rfl
 rw[hd,List.take_add_one,h];simp
theorem oO {f:List Nat}{i:Nat}(h:f[i]? = some 0):gq f i=gq f (i+1):=by
 have hl:=(List.getElem?_eq_some_iff.1 h).1;rw[gq,gq,show f.length-i=(f.length-(i+1))+1 by omega,List.replicate_succ,List.take_add_one,h];simp
theorem Ai {l:List CV}(h:trees l=true)(i:Nat):trees (List.take i l)=true∧trees (List.drop i l)=true:=by
 have:=bC (List.take i l) (List.drop i l);rw[List.take_append_drop,h] at this
 simpa using this.symm
end Go.Proofs.YtnecpnjdonibmaaGreat
namespace Go.aP
open Go.Can
def ux (u:Un)(x:Is)(L:Nat)(t:List (List Nat)):Nat→List Nat
 | 0=>kS L
 | k+1=>if (au u x)[k]?.map AD=some true then iU (ux u x L t k) (t.getD k []) else ux u x L t k
theorem vL {u:Un}{x:Is}{L n:Nat}{t:List (List Nat)}(ht:qb L n t):∀ k,k≤n→qc L (ux u x L t k)
 | 0,_=>B5 L
 | k+1,hk=>by
  have ih:=vL (u:=u) (x:=x) ht k yA;unfold ux;split
  ·obtain⟨r,hr,hw⟩:=ht.get (p:=k) yA;rw[List.getD_eq_getElem?_getD,hr];exact B9 ih hw
  ·exact ih
theorem HA {z:In}:AD z=true↔z=.ret:=by cases z<;>simp[AD]
theorem Eo {u:Un}{x:Is}{L n:Nat}{t:List (List Nat)}(ht:qb L n t){d e:Nat}:∀ k,k≤n→(bf (ux u x L t k) d e=true↔∃ pc,pc<k∧(au u x)[pc]? = some .ret∧eO t pc d e=true)
 | 0,_=>by simp[ux,tO]
 | k+1,hk=>by
  have ih:=Eo (u:=u) (x:=x) (d:=d) (e:=e) ht k yA;have hw:=vL (u:=u) (x:=x) ht k yA;obtain⟨r,hr,Yv⟩:=ht.get (p:=k) yA;have hg:t.getD k []=r:=by rw[List.getD_eq_getElem?_getD,hr];rfl
  have Xw:eO t k d e=bf r d e:=iQ hr d e;unfold ux;split
  ·rename_i SA;have hz:(au u x)[k]? = some .ret:=by
    cases hc:(au u x)[k]? with
    | none=>rw[hc] at SA;cases SA
    | some z=>
     rw[hc] at SA;simp only[Option.map_some,Option.some.injEq] at SA;rw[HA.1 SA]
   rw[hg,yO (by rw[hw.len,Yv.len]),Bool.or_eq_true,ih];constructor
   ·rintro (⟨pc,h1,h2,h3⟩ | h)
    ·exact⟨pc,by omega,h2,h3⟩
    ·exact⟨k,by omega,hz,by rw[Xw];exact h⟩
   ·rintro⟨pc,h1,h2,h3⟩;by_cases hp:pc=k
    ·subst hp;rw[Xw] at h3;exact .inr h3
    ·exact .inl ⟨pc,by omega,h2,h3⟩
  ·rename_i SA;rw[ih];constructor
   ·rintro⟨pc,h1,h2,h3⟩;exact⟨pc,by omega,h2,h3⟩
   ·rintro⟨pc,h1,h2,h3⟩;by_cases hp:pc=k
    ·subst hp;rw[h2] at SA;exact (SA rfl).elim
    ·exact⟨pc,by omega,h2,h3⟩
theorem Em {u:Un}{c:Cl}{m L i:Nat}{x:Is}(hx:c.is[i]? = some x)(sm:List (List Nat)):ux u x L (qh L (au u x).length (Ri u c m L (xv sm) i)) (au u x).length=tL u c m L sm i:=by
 have hw:=fX L (au u x).length (Ri u c m L (xv sm) i);refine DL (vL hw _ (Nat.le_refl _)) fun d e hd he=>?_;rw[Eo hw _ (Nat.le_refl _)];constructor
 ·rintro⟨pc,h1,h2,h3⟩;exact⟨pc,x,hx,h2,(qg h1 hd he).1 h3⟩
 ·rintro⟨pc,y,h1,h2,h3⟩;rw[hx] at h1;cases h1;have hl:=(List.getElem?_eq_some_iff.1 h2).1;exact⟨pc,hl,h2,(qg hl hd he).2 h3⟩
section
variable {u:Un}{c:Cl}{m L:Nat}
open Classical in
/-- The last k instances gone through, from the end. -/
noncomputable def wT (u:Un) (c:Cl) (m L:Nat) (t0:List (List Nat)):Nat→List (List Nat)×Bool
 | 0=>(t0,false)
 | k+1=>if (wT u c m L t0 k).1.getD (c.is.length-1-k) []=tL u c m L (wT u c m L t0 k).1 (c.is.length-1-k) then wT u c m L t0 k else ((wT u c m L t0 k).1.set (c.is.length-1-k) (tL u c m L (wT u c m L t0 k).1 (c.is.length-1-k)),true)
structure OfI (u:Un)(c:Cl)(m L:Nat)(t0:List (List Nat))(s:List (List Nat)×Bool):Prop where
 A:z0 u c m L s.1
 same:s.2=false→s.1=t0
 le:cL t0≤cL s.1
 lt:s.2=true→cL t0<cL s.1
theorem CE (h8:L≤8){t0:List (List Nat)}(h0:z0 u c m L t0):∀ k,k≤c.is.length→OfI u c m L t0 (wT u c m L t0 k)∧((wT u c m L t0 k).2=false→∀ i,c.is.length-k≤i→i<c.is.length→t0.getD i []=tL u c m L t0 i)
 | 0,_=>⟨⟨h0,fun _=>rfl,Nat.le_refl _,fun h=>by cases h⟩,fun _ i h1 h2=>by omega⟩
 | k+1,hk=>by
  obtain⟨hI,hd⟩:=CE h8 h0 k yA;unfold wT;split
  ·rename_i he;refine⟨hI,fun h i h1 h2=>?_⟩;by_cases Uh:i=c.is.length-1-k
   ·subst Uh;rw[hI.same h] at he;exact he
   ·exact hd h i yA h2
  ·rename_i he;obtain⟨k1,k2⟩:=hI.A.step h8 (i:=c.is.length-1-k) yA;have k3:=k2 he;have k4:=hI.le;exact⟨⟨k1,(fun h=>by cases h),(by show _≤cL (List.set _ _ _);omega),fun _=>(by show _<cL (List.set _ _ _);omega)⟩,fun h=>by cases h⟩
theorem Ky (h8:L≤8){t0:List (List Nat)}(h0:z0 u c m L t0)(h:(wT u c m L t0 c.is.length).2=false):t0=j3 u c m L:=
 h0.fin fun i hi=>(CE h8 h0 _ (Nat.le_refl _)).2 h i yA hi
end
section
variable {u:Un}{c:Cl}{m L:Nat}
theorem Bp (H:Gp u c L){i d:Nat}:bf (iq u c m L) i d=true↔pf u c m L i d:=by
 unfold bf iq;rw[List.getD_eq_getElem?_getD,List.getElem?_map];by_cases hi:i<c.is.length
 ·rw[List.getElem?_eq_getElem WA];simp only[List.getElem_range,Option.map_some,Option.getD_some];by_cases hd:d≤L
  ·exact sh hd
  ·constructor
   ·intro h;exact (hd (Da (jk L _) h)).elim
   ·intro h;exact (hd (IV H h).2).elim
 ·rw[List.getElem?_eq_none WA];constructor
  ·intro h;simp at h
  ·intro h;exact (hi (IV H h).1).elim
theorem LY (H:Gp u c L){i pc:Nat}{x:Is}(h:pc<(au u x).length):uF ((dh u c m L i x).getD pc []) ((iq u c m L).getD i 0)=jE L (Be u c m L i pc):=
 D5 (Jx h) fun e _=>by
  rw[wx h];exact⟨fun⟨d,h1,h2⟩=>⟨d,(Bp H).1 h1,h2⟩,fun⟨d,h1,h2⟩=>⟨d,(Bp H).2 h1,h2⟩⟩
noncomputable def wg (u:Un) (c:Cl) (m L i:Nat) (x:Is):List Nat:=(List.range (au u x).length).map fun pc=>jE L (Be u c m L i pc)
noncomputable def wa (u:Un) (c:Cl) (m L:Nat):List (List Nat):=(List.range c.is.length).map fun i=>match c.is[i]? with
 | some x=>wg u c m L i x
 | none=>[]
theorem qS {i:Nat}{x:Is}(hx:c.is[i]? = some x):(wa u c m L)[i]? = some (wg u c m L i x):=by
 have hl:=(List.getElem?_eq_some_iff.1 hx).1;rw[wa,List.getElem?_map,List.getElem?_eq_getElem (by simpa using hl)];simp only[List.getElem_range,Option.map_some,hx]
theorem qT {i pc:Nat}{x:Is}(h:pc<(au u x).length):(wg u c m L i x)[pc]? = some (jE L (Be u c m L i pc)):=by
 rw[wg,List.getElem?_map,List.getElem?_eq_getElem RC];simp
end
end Go.aP
