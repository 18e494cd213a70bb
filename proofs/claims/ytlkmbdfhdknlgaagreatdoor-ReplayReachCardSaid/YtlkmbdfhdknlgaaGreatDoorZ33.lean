/- Close. -/
import Derived.Test.YtlkmbdfhdknlgaaGreatDoorZ32
namespace Go.aN
open Go.Can
theorem qu:∀ {a b:List Nat},(a.map fun n:Nat=>(n:Int))=b.map (fun n:Nat=>(n:Int))→a=b
 | [],[],_=>rfl
 | [],_::_,h=>by simp at h
 | _::_,[],h=>by simp at h
 | x::a,y::b,h=>by
  simp only[List.map_cons,List.cons.injEq] at h;rw[qu h.2];congr 1;omega
theorem Jp (y x:Is):oK y x.proc (x.bI.map fun n:Nat=>(n:Int))=decide (y=x):=by
 by_cases h:y=x
 ·subst h;simp[oK]
 ·have:¬ ((y.proc:Int)=x.proc∧(y.bI.map fun n:Nat=>(n:Int))=x.bI.map fun n:Nat=>(n:Int)):=fun⟨h1,h2⟩=>by
   apply h;cases y;cases x;simp only at h1 h2;rw[qu h2];congr 1;omega
  simp only[h,decide_false,oK]
  simpa using this
theorem yM (x:Is):∀ (l:List Is) (k:Nat),oP l x.proc (x.bI.map fun n:Nat=>(n:Int)) k=if x∈l then ((gu l x+k:Nat):Int) else -1
 | [],k=>by simp[oP]
 | y::r,k=>by
  have ih:=yM x r (k+1);rw[oP,Jp];by_cases h:y=x
  ·subst h;simp[gu,List.findIdx_cons]
  ·have h':¬ x=y:=fun e=>h e.symm;simp only[h,decide_false,Bool.false_eq_true,if_false,List.mem_cons,h',false_or];have:((k:Int)+1)=((k+1:Nat):Int):=by simp
   rw[this,ih];split
   ·have:gu (y::r) x=gu r x+1:=by simp[gu,List.findIdx_cons,h]
    rw[this];congr 1;omega
   ·rfl
end Go.aN
namespace Go.Proofs.YtlkmbdfhdknlgaaGreatDoor
open Go.Can Go.aN
def kg (cs:List (List Int)):Ob:=⟨22,1,cs.map ints⟩
theorem lC (l:List Int):tree (ints l)=true:=by simp[ints,tree]
theorem p7 (cs:List (List Int)):trees (cs.map ints)=true:=by
 induction cs with
 | nil=>rfl
 | cons a r ih=>rw[List.map_cons,trees,ih,lC];rfl
def oQ (n m:Nat)(r:List Nat):Ob:=⟨34,0,[.bp 3 0 n,.bp 4 0 m,aB r]⟩
def iZ:Ob:=⟨34,0,[.aj,.aj,.aj]⟩
@[simp] theorem Hr (l:List Is)(n:Nat):(fY l).cells.all (ba n)=true:=ah (aO bD l) n
@[simp] theorem isOb_ltS (l:List Is)(n:Nat):a6 n (fY l).cells=true:=by rw[ch];exact Hr l n
@[simp] theorem isOb_rnm (ρ:Nat→Nat)(l:List Is):cc ρ (fY l)=fY l:=cP _ _ _ (aO bD l)
@[simp] theorem Ia (l:List (List Int))(n:Nat):(kg l).cells.all (ba n)=true:=ah (p7 l) n
@[simp] theorem csOb_ltS (l:List (List Int))(n:Nat):a6 n (kg l).cells=true:=by rw[ch];exact Ia l n
@[simp] theorem csOb_rnm (ρ:Nat→Nat)(l:List (List Int)):cc ρ (kg l)=kg l:=cP _ _ _ (p7 l)
theorem uZ (d:List Int)(n:Nat):trees (d.map I++List.replicate n (I 0))=true:=by
 rw[aZ,iQ,Bool.true_and]
 induction n with
 | zero=>rfl
 | succ n ih=>rw[List.replicate_succ,trees,ih];rfl
def yE (d:List Int)(n:Nat):Ob:=⟨3,1,d.map I++List.replicate n (I 0)⟩
@[simp] theorem G9 (d:List Int)(n k:Nat):(yE d n).cells.all (ba k)=true:=ah (uZ d n) k
@[simp] theorem mkOb_ltS (d:List Int)(n k:Nat):a6 k (yE d n).cells=true:=by rw[ch];exact G9 d n k
theorem JL (d:List Int)(n:Nat)(v:CV):List.take d.length (d.map I++List.replicate (n+1) (I 0))++v::List.drop (d.length+1) (d.map I++List.replicate (n+1) (I 0))=d.map I++v::List.replicate n (I 0):=by
 rw[List.take_append,List.drop_append,List.take_of_length_le N3,List.drop_of_length_le N3];simp[List.replicate_succ]
structure vK (u:Un)(l:List Is):Prop where
 nd:l.Nodup
 v:∀ x∈l,pY u x
def ClH (u:Un)(l:List Is)(cs:List (List Int))(r:List Nat):List (Nat×Ob):=[(0,⟨30,0,bX u⟩),(1,iZ),(2,oQ l.length cs.length r),(3,fY l),(4,kg cs)]
structure InvI (u:Un)(x:Is)(i:Nat)(l:List Is)(r:List Nat)(code:List In)(pc:Nat)(l':List Is)(r':List Nat)(d:List Int):Prop where
 ji:pc≤code.length
 c:vK u l'
 at_:l'[i]? = some x
 rl:r'.length≤200*(i+1)+pc
 dl:d.length=pc
 e1:(gL x code l r).1=(gL x (code.drop pc) l' r').1
 e2:(gL x code l r).2.1=d++(gL x (code.drop pc) l' r').2.1
 e3:(gL x code l r).2.2=(gL x (code.drop pc) l' r').2.2
def iE (i sites:Nat)(code:List In)(pc:Nat):List (Nat×CV):=[(9,I pc),(8,.bp 5 0 code.length),(7,.az (code.flatMap cU) code.length),(6,I i),(5,I sites),(4,.aq 2 0),(2,.aq 1 0),(1,.aq 0 0)]
def iH (u:Un)(cs:List (List Int))(l':List Is)(r':List Nat)(d:List Int)(n:Nat):List (Nat×Ob):=[(0,⟨30,0,bX u⟩),(1,iZ),(2,oQ l'.length cs.length r'),(3,fY l'),(4,kg cs),(5,yE d n)]
def J36i (u:Un)(x:Is)(i sites:Nat)(l:List Is)(cs:List (List Int))(r:List Nat)(code:List In)(m:Nat)(s:St):Prop:=∃ pc l' r' d,m=code.length-pc∧InvI u x i l r code pc l' r' d∧
 s=⟨iE i sites code pc,iH u cs l' r' d (code.length-pc),6⟩
def J36 (u:Un)(m:Nat)(s:St):Prop:=∃ i l cs r,m=100-i∧i≤l.length∧cs.length=i∧r.length≤200*(i+1)∧vK u l∧mo u (100-i) i l cs r=ak u∧
 s=⟨[(6,I i),(5,I ((l.take i).map fun x=>(au u x).length).sum),(4,.aq 2 0),(2,.aq 1 0),(1,.aq 0 0)],ClH u l cs r,5⟩
set_option maxHeartbeats 4000000 in
theorem wY (u:Un)(hu:im u):ae Tryz.prog 20 [cK u] (.dI [eP (ak u),I 0]):=by
 have Oj:=aP u;have Y7:=hu.main;have Vt:vK u [⟨u.main,[]⟩]:=⟨by simp,fun x hx=>by
  rw[List.mem_singleton] at hx;subst hx;have TF:=hu.np;obtain⟨q,hq⟩:∃ q,u.ps[0]? = some q:=⟨_,List.getElem?_eq_getElem yA⟩;exact⟨⟨q,by simp only;rw[Y7];exact hq,by simp[(hu.p0 q hq).2]⟩,by simp⟩⟩
 have Qh:tree (.dI [eP (ak u),I 0])=true:=by
  simp only[tree,trees,eP,cD,aE,Bool.and_true]
 refine ae.aH af Tryz.func20 rfl N4 (by simp[Tryz.ntmps20]) Qh fun C hC N8=>?_;rw[Tryz.ntmps20] at hC;simp only[cK,bX,ints];apply ai;simp[hC];apply ai;simp[hC,aS];apply ai;simp[hC];apply aL;simp[hC];apply T.block;refine T.aI (J36 u) (n:=100) ?_ ?_
 ·have tgs:trees (u.gs.map (CV.int .i64))=true:=iQ u.gs;refine aa.le (Le.trim [6,5,4,2,1] [4,3,2,1,0] 5 Qt yA) ?_;simp;refine aa.le (Le.cV (o:=3) rfl rfl) ?_;simp;refine aa.le (Le.nz [] [2]) ?_;simp;refine aa.le (Le.oL 4 1 22 1 rfl rfl) ?_;simp;refine aa.le (Le.norm [6,5,4,2,1] [(0,0),(1,1),(4,2),(2,3),(5,4)] 0 5 Pn Pk ZX yA) ?_;simp[cT,cc,bV,dT,fc,assoc];refine aa.here ⟨0,[⟨u.main,[]⟩],[],[0],by omega,by simp,rfl,by simp,Vt,rfl,?_⟩;simp[ClH,bX,ints,iZ,oQ,fY,kg,cC,aB]
 ·rintro n s ⟨i,l,cs,r,rfl,hi,UZ,O5,hI,hS,rfl⟩;have hl49:=jW hu hI.nd hI.v;have hsites:=Cr hu hI.nd hI.v;have tgs:trees (u.gs.map (CV.int .i64))=true:=iQ u.gs;have X9:=aO bD l;have Ql:=p7 cs;simp only[ClH,bX,ints,iZ,oQ];by_cases N6:i<l.length
  ·obtain⟨x,hx⟩:∃ x,l[i]? = some x:=⟨l[i],List.getElem?_eq_getElem N6⟩;have Yn:=hI.v x (List.mem_of_getElem? hx);obtain⟨⟨pq,OT,Re⟩,hlm⟩:=id Yn;have N9:au u x=pq.code:=by simp only[au,OT]
   have Po:=(List.getElem?_eq_some_iff.1 OT).1;have Uz:=a8 (f:=jS) (n:=5) fQ OT 4 yA;have hlen:=(hu.pr pq (List.mem_of_getElem? OT)).2.2.2.2;have Qz:=aD (f:=cC) (n:=2) dM hx;have On:l.take (i+1)=l.take i++[x]:=by rw[List.take_add_one,hx];rfl
   have Yw:((l.take (i+1)).map fun x=>(au u x).length).sum=((l.take i).map fun x=>(au u x).length).sum+pq.code.length:=by
    rw[On,List.map_append,List.sum_append];simp[N9]
   have hsum2:((l.take (i+1)).map fun x=>(au u x).length).sum≤7105:=by
    have:=List.take_append_drop (i+1) l;have h2:(l.map fun x=>(au u x).length).sum=((l.take (i+1)).map fun x=>(au u x).length).sum+((l.drop (i+1)).map fun x=>(au u x).length).sum:=by
     rw[← List.sum_append,← List.map_append,this]
    omega
   generalize hG:((l.take i).map fun x=>(au u x).length).sum=sites at Yw;have wi:=cf ((i:Int)+1) yA yA;have ws:=cf ((sites:Int)+(pq.code.length:Int)) yA yA;have SN:¬ (256:Int)≤(i:Int):=by omega
   have P0:¬ (8000:Int)<(sites:Int)+(pq.code.length:Int):=by omega
   apply aL;simp[hC,N6,fY];refine fh ?_;simp;apply eG;apply T.seq;refine T.rx af follows [0,1,2,3,4,5,6,7,8,9,10,11] [] N4 ?_;simp[hC,N6,Qz,cC,Po,Uz,jS];apply ai;simp[hC,ws];apply aL;simp[hC,SN,P0];refine dv ?_;simp;have Pq:8*(pq.code.length:Int)≤281474976710656:=by omega
   have O2:(pq.code.length:Int)≤9223372036854775807:=by omega
   apply ai;simp[hC,Pq,O2];apply aL;simp[hC];have VC:=cb pq.code;have V7:mo u (100-(i+1)) (i+1) (gL x pq.code l r).1 (cs++[(gL x pq.code l r).2.1]) (gL x pq.code l r).2.2=ak u:=by
    rw[← hS];have:100-i=(100-(i+1))+1:=by omega
    rw[this,mo,hx];simp only[N9]
   obtain⟨ext,Zp⟩:=tw x pq.code l r;have VM:(((gL x pq.code l r).1.take (i+1)).map fun x=>(au u x).length).sum=sites+pq.code.length:=by
    rw[Zp,List.take_append_of_le_length yA];exact Yw
   refine T.cutL (fun s=>∃ d,(gL x pq.code l r).2.1=d∧d.length=pq.code.length∧vK u (gL x pq.code l r).1∧(gL x pq.code l r).2.2.length≤200*(i+1)+145∧i<(gL x pq.code l r).1.length∧s=⟨[(8,.bp 5 0 pq.code.length),(6,I i),(5,I (sites+pq.code.length:Nat)),(4,.aq 2 0),(2,.aq 1 0),(1,.aq 0 0)],iH u cs (gL x pq.code l r).1 (gL x pq.code l r).2.2 d 0,6⟩) ?_ ?_
   ·apply T.block;refine T.aI (J36i u x i (sites+pq.code.length) l cs r pq.code) (n:=pq.code.length) ?_ ?_
    ·have X7:trees (List.replicate pq.code.length (CV.int .i64 0))=true:=uZ [] pq.code.length;refine aa.le (Le.norm [9,8,7,6,5,4,2,1] [(0,0),(1,1),(2,2),(3,3),(4,4),(17,5)] 0 6 Pn Pk (by simp[cX,qx,ox,tree,assoc,-List.all_eq_true,-List.all_flatMap,kg,aC Ql,aC X9,aB,aC X7]) yA) ?_;simp[cT,cc,bV,dT,fc,assoc,kg,ay _ _ Ql,ay _ _ X9,aB,ay _ _ X7];refine aa.here ⟨0,l,r,[],by omega,⟨by omega,hI,hx,by omega,rfl,rfl,rfl,rfl⟩,?_⟩;simp[iE,iH,iZ,oQ,yE,fY,bX,ints,kg,aB]
    ·rintro n s ⟨pc,l',r',d,rfl,hV,rfl⟩;obtain⟨v1,v2,v3,v4,v5,v6,v7,v8⟩:=hV;simp only[iE,iH];by_cases ji:pc<pq.code.length
     ·obtain⟨ins,Tq⟩:∃ ins,pq.code[pc]? = some ins:=⟨_,List.getElem?_eq_getElem ji⟩;have hdn:pq.code.drop pc=ins::pq.code.drop (pc+1):=by
       rw[List.drop_eq_getElem_cons ji,(List.getElem?_eq_some_iff.1 Tq).2]
      rw[hdn] at v6 v7 v8;have Qb:sh u x (pc:Int)=jz x ins:=by
       have:¬ (pc:Int)<0:=by omega
       simp[sh,N9,Tq,this]
      have Td:=B9 u hu x Yn pc;rw[Qb] at Td;have Oz:trees [cK u,.agg (cC x),I pc]=true:=by
       simp only[trees,cK,tree,Oj,bD,Bool.and_self]
      have hdi':=aD (f:=cC) (n:=2) dM v3;have WT:=(List.getElem?_eq_some_iff.1 v3).1;have YU:pc+1≤pq.code.length:=by omega
      have TW:=cf ((pc:Int)+1) yA yA;have hl49':=jW hu v2.nd v2.v;have T0:=aO bD l';obtain⟨n',Tp⟩:∃ n',pq.code.length-pc=n' + 1:=⟨pq.code.length-pc-1,by omega⟩;have Pa:=fun v=>JL d n' v;rw[v5] at Pa;have Tb:(d.map I++List.replicate (n' + 1) (I 0)).length=pq.code.length:=by simp;omega
      rw[Tp];simp only[yE];have tD:=uZ d (n' + 1);generalize hDe:d.map I++List.replicate (n' + 1) (I 0)=D at Pa Tb tD;simp only[bX,ints,cK,cC] at Td Oz;simp only[bX,ints,iZ,oQ];apply aL;simp[hC,ji];refine fh ?_;simp;apply eG;apply T.seq;refine T.rx af follows [0,1,2,3,4,5,6,11,7,8,9,10,12,13] [(0,11),(2,11),(5,11),(11,7)] N4 ?_;simp[hC,WT,hdi',fY,cC];refine RX.call rfl rfl rfl rfl rfl Oz Td ?_
      cases Vu:jz x ins with
      | none=>
       simp only[Vu,gL] at v6 v7 v8;simp[y9];apply aL;simp[hC];refine cB ?_;simp;apply ai;simp[hC,ji,YU,Tb,Pa];apply T.exit;simp;apply aY;simp[hC,TW];have tN:trees (d.map I++(I (-1)::List.replicate n' (I 0)))=true:=by
        simp
       refine⟨pq.code.length-(pc+1),by omega,aa.trim [9,8,7,6,5,4,2,1] [0,1,2,3,4,5] 6 (by simp[-List.all_eq_true,-List.all_flatMap,ah T0,a9 6 _ (aE r'),ah tN]) yA ⟨pc+1,l',r',d++[-1],rfl,⟨by omega,v2,v3,by omega,by simp[v5],v6,by rw[v7];simp,v8⟩,?_⟩⟩;have Q2:pq.code.length-(pc+1)=n':=by omega
       rw[Q2];simp[iE,iH,iZ,oQ,yE,fY,bX,ints]
      | some y=>
       have hyv:=CL hu Yn (by rw[N9];exact List.mem_of_getElem? Tq) Vu;simp only[Vu,gL] at v6 v7 v8;simp[y9,cC];apply aL;simp[hC];refine dv ?_;simp;have hf:=wV l' yA (fun z hz=>by
        obtain⟨⟨q,hq,hl⟩,_⟩:=v2.v z hz;have:=(hu.pr q (List.mem_of_getElem? hq)).2.1;omega) cs.length (kg cs) Ql (aB r') (aE r') y.proc (y.bI.map fun n:Nat=>(n:Int))
       have Vn:oP l' y.proc (y.bI.map fun n:Nat=>(n:Int)) 0=if y∈l' then ((gu l' y:Nat):Int) else -1:=by simpa using yM y l' 0
       rw[← oo,Vn] at hf;refine T.le (Le.norm [10,9,8,7,6,5,4,2,1] [(0,0),(1,1),(2,2),(3,3),(4,4),(5,5),(17,6)] 0 7 Pn Pk (by simp[cX,qx,ox,tree,assoc,-List.all_eq_true,-List.all_flatMap,kg,aC Ql,aC T0,aB,aC tD]) yA) ?_;simp[cT,cc,bV,dT,fc,assoc,kg,ay _ _ Ql,ay _ _ T0,aB,ay _ _ tD];have tny:=bj y.bI;have We:=bj r';refine T.cut (fun s=>s=⟨(10,.aq 6 0)::iE i (sites+pq.code.length) pq.code pc,[(0,⟨30,0,bX u⟩),(1,iZ),(2,oQ (eN l' y).length cs.length r'),(3,fY (eN l' y)),(4,kg cs),(5,⟨3,1,D⟩),(6,⟨75,0,cC y⟩)],7⟩) ?_ ?_
       ·have S7:(⟨75,2,l'.flatMap cC⟩:Ob)=fY l':=rfl;have QT:(⟨22,1,cs.map ints⟩:Ob)=kg cs:=rfl;simp only[S7,QT];simp only[aB] at hf;apply ai;simp[hC];refine TL.vB af [3,4] [3,4] 2 0 hf rfl (by rfl) Oc rfl rfl (by simp[bB,ev,assoc,bV,dT,dC]) (by simp[fk,assoc,cu,dC]) (by simp[a6,ba]) (by simp[dD]) rfl (by simp[sr,cu,dC,eB,j5]) (TL.go' af ?_);by_cases Z8:y∈l'
        ·have had:eN l' y=l':=if_pos Z8;have Rw:¬ ((gu l' y:Nat):Int)<0:=by omega
         simp[hC,dC,Z8,Rw];refine dv ?_;simp;refine aa.trim [10,9,8,7,6,5,4,2,1] [0,1,2,3,4,5,6] 7 (by simp[-List.all_eq_true,-List.all_flatMap,ah tD]) yA ?_;rw[had];simp[iE,iZ,oQ,bX,ints,cC,aB]
        ·have had:eN l' y=l'++[y]:=if_neg Z8;have SJ:=aM (f:=cC) (n:=2) dM l';have RO:(l'.length+1)*32≤140737488355328:=by omega
         simp[hC,dC,Z8];refine cB ?_;simp;apply aY;simp[hC,fY,SJ,RO,aS];have tN:trees (l'.flatMap cC++[.int .i64 y.proc,.az (y.bI.map fun n:Nat=>I n) y.bI.length])=true:=by
          rw[aZ,T0];simp[trees,tree]
         have Oo:=aC tN;have Qi:=fun ρ=>ay ρ _ tN;refine aa.le (Le.norm [10,9,8,7,6,5,4,2,1] [(0,0),(1,1),(2,2),(8,3),(4,4),(5,5),(6,6)] 0 7 Pn Pk (by simp[cX,qx,ox,tree,assoc,-List.all_eq_true,-List.all_flatMap,Oo,kg,aC Ql,aC tD]) yA) ?_;simp[cT,cc,bV,dT,fc,assoc,Qi,kg,ay _ _ Ql,ay _ _ tD];apply aa.here;rw[had];simp[iE,iZ,oQ,bX,ints,cC,aB]
       ·rintro s rfl;have UI:vK u (eN l' y):=⟨mB v2.nd,CS v2.v hyv⟩;have O7:=jW hu UI.nd UI.v;have S9:=wV (eN l' y) yA (fun z hz=>by
         obtain⟨⟨q,hq,hl⟩,_⟩:=UI.v z hz;have:=(hu.pr q (List.mem_of_getElem? hq)).2.1;omega) cs.length (kg cs) Ql (aB r') (aE r') y.proc (y.bI.map fun n:Nat=>(n:Int))
        have WW:oP (eN l' y) y.proc (y.bI.map fun n:Nat=>(n:Int)) 0=((gu (eN l' y) y:Nat):Int):=by
         have:=yM y (eN l' y) 0;rw[if_pos (Br l' y),Nat.add_zero] at this;exact this
        rw[← oo,WW] at S9;have Qg:=Kq (x:=y) v3;generalize eN l' y=L at v6 v7 v8 UI O7 S9 WW Qg;generalize hk:gu L y=k at v6 v7 v8 S9 WW;have U8:=aO bD L;have tN:trees (d.map I++(I k::List.replicate n' (I 0)))=true:=by
         simp
        have hdd:List.drop pc (d.map I++(I k::List.replicate n' (I 0)))=I k::List.replicate n' (I 0):=by
         rw[← v5];have:(d.map I).length=d.length:=by simp
         rw[← this,List.drop_left]
        have VK:=zL r' k yA;have VE:trees [aB r',I k]=true:=by simp only[trees,aE,tree,Bool.and_self]
        have VJ:(fU r' k).length≤r'.length+1:=by
         unfold fU;split
         ·omega
         ·simp;omega
        simp only[iE,oQ,cC,aB] at S9 ⊢;have OQ:=aD (f:=cU) (n:=12) eg Tq;obtain⟨xc,Pt,_⟩:=gT ins;rw[Pt] at OQ;apply ai;simp[hC];refine TL.vB af [3,4] [3,4] 2 0 S9 rfl (by rfl) Oc rfl rfl (by simp[bB,ev,assoc,bV,dT,dC]) (by simp[fk,assoc,cu,dC]) (by simp[a6,ba]) (by simp[dD]) rfl (by simp[sr,cu,dC,eB,j5]) (TL.go' af ?_);simp[hC,dC,ji,YU,Tb,Pa];have WB:(mN ins == 3)=rX ins:=by
         cases ins with
         | call g _ _ _=>cases g<;>rfl
         | _=>simp[jz] at Vu
        have tnw:=bj (fU r' k);have Q2:pq.code.length-(pc+1)=n':=by omega
        apply ai;simp[hC,ji,OQ,WB]
        cases WV:rX ins with
        | true=>
         simp only[WV,if_true] at v6 v7 v8;refine T.cond (b:=true) Vz ?_;simp;refine T.rx af follows [0,1,2,3,4,5,6,7,8] [] N4 ?_;simp[hC,ji,hdd];simp only[aB] at VK VE;refine RX.call rfl rfl rfl rfl rfl VE VK ?_;simp;apply aY;simp[hC,TW];refine⟨pq.code.length-(pc+1),by omega,aa.trim [9,8,7,6,5,4,2,1] [0,1,2,3,4,5] 6 (by simp[-List.all_eq_true,-List.all_flatMap,ah Oj,ah tN,iZ]) yA ⟨pc+1,L,fU r' k,d++[(k:Int)],rfl,⟨by omega,UI,Qg,by omega,by simp[v5],v6,by rw[v7];simp,v8⟩,?_⟩⟩;rw[Q2];simp[iE,iH,iZ,oQ,yE,fY,bX,ints,aB]
        | false=>
         simp only[WV,Bool.false_eq_true,if_false] at v6 v7 v8;refine T.cond (b:=false) Vz (T.skip ?_);simp;apply aY;simp[hC,TW];refine⟨pq.code.length-(pc+1),by omega,aa.trim [9,8,7,6,5,4,2,1] [0,1,2,3,4,5] 6 (by simp[-List.all_eq_true,-List.all_flatMap,ah Oj,ah tN,iZ]) yA ⟨pc+1,L,r',d++[(k:Int)],rfl,⟨by omega,UI,Qg,by omega,by simp[v5],v6,by rw[v7];simp,v8⟩,?_⟩⟩;rw[Q2];simp[iE,iH,iZ,oQ,yE,fY,bX,ints,aB]
     ·have Uh:pc=pq.code.length:=by omega
      subst Uh;rw[List.drop_length] at v6 v7 v8;simp only[gL,List.append_nil] at v6 v7 v8;have SJ:=jW hu v2.nd v2.v;have T0:=aO bD l';have We:=bj r';rw[Nat.sub_self];have tD:=uZ d 0;apply aL;simp[hC];refine aX ?_;simp;apply T.exit;simp;refine aa.trim [8,6,5,4,2,1] [0,1,2,3,4,5] 6 (by simp[-List.all_eq_true,-List.all_flatMap,ah Oj,iZ,oQ,aB]) yA ?_;simp only[v6,v7,v8];refine⟨v5,v2,by omega,(List.getElem?_eq_some_iff.1 v3).1,?_⟩;simp
   ·rintro s ⟨d,hd,Tb,UI,OF,Pe,rfl⟩;have O7:=jW hu UI.nd UI.v;rw[hd] at V7;generalize (gL x pq.code l r).1=L at UI Pe O7 V7 VM ⊢;generalize (gL x pq.code l r).2.2=R at OF V7 ⊢;clear hd Zp;have U8:=aO bD L;simp only[fw,iH];have tD:=uZ d 0;simp only[List.replicate_zero,List.append_nil] at tD;have tkD:List.take pq.code.length (d.map I)=d.map I:=List.take_of_length_le PX;have RO:(cs.length+1)*24≤140737488355328:=by omega
    have Og:(cs.map ints).length=cs.length:=by simp
    have hints:(CV.az (d.map I) pq.code.length)=ints d:=by rw[ints,Tb]
    have We:=bj R;have tN:trees (cs.map ints++[ints d])=true:=by rw[aZ,Ql,trees,lC];rfl
    simp only[yE,List.replicate_zero,List.append_nil];refine T.le (Le.cV (o:=5) rfl tD) ?_;simp[tkD,dk Ql,dk U8,kg,fY,oQ,iZ,aB,dk Oj];rw[hints];apply aY;simp[hC,Og,RO,aS];apply aY;simp[hC,wi];have Oo:=aC tN;have Qi:=fun ρ=>ay ρ _ tN;refine⟨100-(i+1),by omega,?_⟩;refine aa.le (Le.norm [6,5,4,2,1] [(0,0),(1,1),(2,2),(3,3),(7,4)] 0 5 Pn Pk (by simp[cX,qx,ox,tree,assoc,-List.all_eq_true,-List.all_flatMap,Oo,aC Oj,aC U8]) yA) ?_;simp[cT,cc,bV,dT,fc,assoc,Qi,ay _ _ Oj,ay _ _ U8];refine aa.here ⟨i+1,L,cs++[d],R,by omega,by omega,by simp[UZ],by omega,UI,V7,?_⟩;rw[VM];simp[ClH,iZ,oQ,fY,kg,aB]
  ·have Oe:i=l.length:=by omega
   have Ph:ak u=⟨l,cs,r⟩:=by
    rw[← hS];have h1:l[i]? = none:=by rw[List.getElem?_eq_none_iff];omega
    obtain⟨k,hk⟩:∃ k,100-i=k+1:=⟨99-i,by omega⟩;rw[hk,mo,h1]
   have We:=bj r;have Z1:List.take (l.length*2) (l.flatMap cC)=l.flatMap cC:=List.take_of_length_le (by rw[aM (f:=cC) (n:=2) dM];omega);have tkC:List.take cs.length (cs.map ints)=cs.map ints:=List.take_of_length_le N3;apply aL;simp[hC,N6,fY];refine aX ?_;simp;apply T.exit;simp;apply ai;simp[hC];apply T.ret;rw[Ph];refine aa.le (Le.trim [3,2] [1,3,4] 5 (by simp[-List.all_eq_true,-List.all_flatMap,ah X9,ah Ql,aB,kg]) yA) ?_;simp[aB];refine aa.le (Le.cV (o:=3) rfl X9) ?_;simp[Z1,dk Ql,kg];refine aa.le (Le.cV (o:=4) rfl Ql) ?_;simp[tkC];apply aa.here;simp[eP,cD,aB]
end Go.Proofs.YtlkmbdfhdknlgaaGreatDoor
