/- Close. -/
import Derived.Test.YtlkmbdfhdknlgaaGreatV35
namespace Go.aV
open Go.Can List
theorem qK:∀ {a b:List Nat},(a.map λ n:Nat=>(n:Int))=b.map (λ n:Nat=>(n:Int))->a=b
 | [],[],_=>rfl
 | [],_::_,h=>by simp at h
 | _::_,[],h=>by simp at h
 | x::a,y::b,h=>by
  simp only[map_cons,cons.injEq] at h;rw[qK h.2];congr 1;omega
theorem JH (y x:Is):mv y x.proc (x.bz.map λ n:Nat=>(n:Int))=decide (y=x):=by
 by_cases h:y=x
 ·subst h;simp[mv]
 ·have:¬ ((y.proc:Int)=x.proc/\(y.bz.map λ n:Nat=>(n:Int))=x.bz.map λ n:Nat=>(n:Int)):=λ⟨h1,h2⟩=>by
   apply h;cases y;cases x;simp only at h1 h2;rw[qK h2];congr 1;omega
  simp only[h,decide_false,mv]
  simpa using this
theorem uF (x:Is):∀ (l:List Is) (k:Nat),kr l x.proc (x.bz.map λ n:Nat=>(n:Int)) k=if x∈l then ((fc l x+k:Nat):Int) else -1
 | [],k=>by simp[kr]
 | y::r,k=>by
  have ih:=uF x r (k+1);rw[kr,JH];by_cases h:y=x
  ·subst h;simp[fc,findIdx_cons]
  ·have h':¬ x=y:=λ e=>h e.symm;simp only[h,decide_false,Bool.false_eq_true,if_false,mem_cons,h',false_or];have:((k:Int)+1)=((k+1:Nat):Int):=by simp
   rw[this,ih];split
   ·have:fc (y::r) x=fc r x+1:=by simp[fc,findIdx_cons,h]
    rw[this];congr 1;omega
   ·rfl
end Go.aV
namespace Go.Proofs.YtlkmbdfhdknlgaaGreat
open Go.Can Go.aV List
def kJ (cs:List (List Int)):Ob:=⟨22,1,cs.map ints⟩
theorem bD (l:List Int):tree (ints l)=true:=by simp[ints,tree]
theorem jn (cs:List (List Int)):trees (cs.map ints)=true:=by
 induction cs with
 | nil=>rfl
 | cons a r ih=>rw[map_cons,trees,ih,bD];rfl
def pv (n m:Nat)(r:List Nat):Ob:=⟨34,0,[.bg 3 0 n,.bg 4 0 m,aN r]⟩
def jw:Ob:=⟨34,0,[.ak,.ak,.ak]⟩
@[simp] theorem HI (l:List Is)(n:Nat):(gr l).cells.all (aU n)=true:=aj (ah cP l) n
@[simp] theorem isOb_ltS (l:List Is)(n:Nat):aX n (gr l).cells=true:=by rw[aE];exact HI l n
@[simp] theorem isOb_rnm (ρ:Nat->Nat)(l:List Is):bf ρ (gr l)=gr l:=dp _ _ _ (ah cP l)
@[simp] theorem Iq (l:List (List Int))(n:Nat):(kJ l).cells.all (aU n)=true:=aj (jn l) n
@[simp] theorem csOb_ltS (l:List (List Int))(n:Nat):aX n (kJ l).cells=true:=by rw[aE];exact Iq l n
@[simp] theorem csOb_rnm (ρ:Nat->Nat)(l:List (List Int)):bf ρ (kJ l)=kJ l:=dp _ _ _ (jn l)
theorem vA (d:List Int)(n:Nat):trees (d.map I++replicate n (I 0))=true:=by
 rw[aF,aB,Bool.true_and]
 induction n with
 | zero=>rfl
 | succ n ih=>rw[replicate_succ,trees,ih];rfl
def y9 (d:List Int)(n:Nat):Ob:=⟨3,1,d.map I++replicate n (I 0)⟩
@[simp] theorem Hv (d:List Int)(n k:Nat):(y9 d n).cells.all (aU k)=true:=aj (vA d n) k
@[simp] theorem mkOb_ltS (d:List Int)(n k:Nat):aX k (y9 d n).cells=true:=by rw[aE];exact Hv d n k
theorem J8 (d:List Int)(n:Nat)(v:CV):take d.length (d.map I++replicate (n+1) (I 0))++v::drop (d.length+1) (d.map I++replicate (n+1) (I 0))=d.map I++v::replicate n (I 0):=by
 rw[take_append,drop_append,take_of_length_le xr,drop_of_length_le xr];simp[replicate_succ]
structure wD (u:Un)(l:List Is):Prop where
 nd:l.Nodup
 v:∀ x∈l,B5 u x
def ClH (u:Un)(l:List Is)(cs:List (List Int))(r:List Nat):List (Nat×Ob):=[(0,⟨30,0,eD u⟩),(1,jw),(2,pv l.length cs.length r),(3,gr l),(4,kJ cs)]
structure InvI (u:Un)(x:Is)(i:Nat)(l:List Is)(r:List Nat)(code:List In)(pc:Nat)(l':List Is)(r':List Nat)(d:List Int):Prop where
 gJ:pc<=code.length
 c:wD u l'
 at_:l'[i]? = some x
 rl:r'.length<=200*(i+1)+pc
 dl:d.length=pc
 e1:(g6 x code l r).1=(g6 x (code.drop pc) l' r').1
 e2:(g6 x code l r).2.1=d++(g6 x (code.drop pc) l' r').2.1
 e3:(g6 x code l r).2.2=(g6 x (code.drop pc) l' r').2.2
def iE (i sites:Nat)(code:List In)(pc:Nat):List (Nat×CV):=[(9,I pc),(8,.bg 5 0 code.length),(7,.au (code.flatMap df) code.length),(6,I i),(5,I sites),(4,.ax 2 0),(2,.ax 1 0),(1,.ax 0 0)]
def iH (u:Un)(cs:List (List Int))(l':List Is)(r':List Nat)(d:List Int)(n:Nat):List (Nat×Ob):=[(0,⟨30,0,eD u⟩),(1,jw),(2,pv l'.length cs.length r'),(3,gr l'),(4,kJ cs),(5,y9 d n)]
def J36i (u:Un)(x:Is)(i sites:Nat)(l:List Is)(cs:List (List Int))(r:List Nat)(code:List In)(m:Nat)(s:St):Prop:=∃ pc l' r' d,m=code.length-pc/\InvI u x i l r code pc l' r' d/\
 s=⟨iE i sites code pc,iH u cs l' r' d (code.length-pc),6⟩
def J36 (u:Un)(m:Nat)(s:St):Prop:=∃ i l cs r,m=100-i/\i<=l.length/\cs.length=i/\r.length<=200*(i+1)/\wD u l/\mT u (100-i) i l cs r=cc u/\
 s=⟨[(6,I i),(5,I ((l.take i).map λ x=>(bN u x).length).sum),(4,.ax 2 0),(2,.ax 1 0),(1,.ax 0 0)],ClH u l cs r,5⟩
set_option maxHeartbeats 4000000 in
theorem xw (u:Un)(hu:jx u):af Tryz.prog 28 [cb u] (.bY [oZ (cc u),I 0]):=by
 have PR:=bt u;have Zh:=hu.main;have hcl0:wD u [⟨u.main,[]⟩]:=⟨by simp,λ x hx=>by
  rw[mem_singleton] at hx;subst hx;have Uk:=hu.np;obtain⟨q,hq⟩:∃ q,u.ps[0]? = some q:=⟨_,getElem?_eq_getElem yA⟩;exact⟨⟨q,by simp only;rw[Zh];exact hq,by simp[(hu.p0 q hq).2]⟩,by simp⟩⟩
 have O1:tree (.bY [oZ (cc u),I 0])=true:=by
  simp only[tree,trees,oZ,oY,bT,Bool.and_true]
 refine af.aC ag Tryz.func28 rfl GK (by simp[Tryz.ntmps28]) O1 λ C hC OR=>?_;rw[Tryz.ntmps28] at hC;simp only[cb,eD,ints];apply aq;simp[hC];apply aq;simp[hC,aS];apply aq;simp[hC];apply aT;simp[hC];apply T.block;refine T.aQ (J36 u) (n:=100) ?_ ?_
 ·have tgs:trees (u.gs.map (CV.int .i64))=true:=aB u.gs;refine aa.le (Le.trim [6,5,4,2,1] [4,3,2,1,0] 5 RY yA) ?_;simp;refine aa.le (Le.cF (o:=3) rfl rfl) ?_;simp;refine aa.le (Le.nz [] [2]) ?_;simp;refine aa.le (Le.lq 4 1 22 1 rfl rfl) ?_;simp;refine aa.le (Le.norm [6,5,4,2,1] [(0,0),(1,1),(4,2),(2,3),(5,4)] 0 5 Px Pw Z9 yA) ?_;simp[cz,bf,aL,cQ,dW,assoc];refine aa.here ⟨0,[⟨u.main,[]⟩],[],[0],by omega,by simp,rfl,by simp,hcl0,rfl,?_⟩;simp[ClH,eD,ints,jw,pv,gr,kJ,gI,aN]
 ·rintro n s ⟨i,l,cs,r,rfl,hi,ZN,Y2,hI,hS,rfl⟩;have hl49:=kq hu hI.nd hI.v;have hsites:=CY hu hI.nd hI.v;have tgs:trees (u.gs.map (CV.int .i64))=true:=aB u.gs;have Ug:=ah cP l;have Qy:=jn cs;simp only[ClH,eD,ints,jw,pv];by_cases OP:i<l.length
  ·obtain⟨x,hx⟩:∃ x,l[i]? = some x:=⟨l[i],getElem?_eq_getElem OP⟩;have YK:=hI.v x (mem_of_getElem? hx);obtain⟨⟨pq,R4,PV⟩,RT⟩:=id YK;have RE:bN u x=pq.code:=by simp only[bN,R4]
   have Qx:=(List.getElem?_eq_some_iff.1 R4).1;have Wz:=cq (f:=mw) (n:=5) jM R4 4 yA;have hlen:=(hu.pr pq (mem_of_getElem? R4)).2.2.2.2;have hdi:=aH (f:=gI) (n:=2) jR hx;have Pb:l.take (i+1)=l.take i++[x]:=by rw[take_add_one,hx];rfl
   have UF:((l.take (i+1)).map λ x=>(bN u x).length).sum=((l.take i).map λ x=>(bN u x).length).sum+pq.code.length:=by
    rw[Pb,map_append,sum_append];simp[RE]
   have hsum2:((l.take (i+1)).map λ x=>(bN u x).length).sum<=7105:=by
    have:=take_append_drop (i+1) l;have h2:(l.map λ x=>(bN u x).length).sum=((l.take (i+1)).map λ x=>(bN u x).length).sum+((l.drop (i+1)).map λ x=>(bN u x).length).sum:=by
     rw[<- sum_append,<- map_append,this]
    omega
   generalize hG:((l.take i).map λ x=>(bN u x).length).sum=sites at UF;have wi:=cw ((i:Int)+1) yA yA;have ws:=cw ((sites:Int)+(pq.code.length:Int)) yA yA;have Sv:¬ (256:Int)<=(i:Int):=by omega
   have Qk:¬ (8000:Int)<(sites:Int)+(pq.code.length:Int):=by omega
   apply aT;simp[hC,OP,gr];refine iI ?_;simp;apply eZ;apply T.seq;refine T.rx ag follows [0,1,2,3,4,5,6,7,8,9,10,11] [] GK ?_;simp[hC,OP,hdi,gI,Qx,Wz,mw];apply aq;simp[hC,ws];apply aT;simp[hC,Sv,Qk];refine eQ ?_;simp;have Tg:8*(pq.code.length:Int)<=281474976710656:=by omega
   have Q0:(pq.code.length:Int)<=9223372036854775807:=by omega
   apply aq;simp[hC,Tg,Q0];apply aT;simp[hC];have Vd:=cC pq.code;have Ye:mT u (100-(i+1)) (i+1) (g6 x pq.code l r).1 (cs++[(g6 x pq.code l r).2.1]) (g6 x pq.code l r).2.2=cc u:=by
    rw[<- hS];have:100-i=(100-(i+1))+1:=by omega
    rw[this,mT,hx];simp only[RE]
   obtain⟨ext,ZD⟩:=qA x pq.code l r;have Wm:(((g6 x pq.code l r).1.take (i+1)).map λ x=>(bN u x).length).sum=sites+pq.code.length:=by
    rw[ZD,take_append_of_le_length yA];exact UF
   refine T.cutL (λ s=>∃ d,(g6 x pq.code l r).2.1=d/\d.length=pq.code.length/\wD u (g6 x pq.code l r).1/\(g6 x pq.code l r).2.2.length<=200*(i+1)+145/\i<(g6 x pq.code l r).1.length/\s=⟨[(8,.bg 5 0 pq.code.length),(6,I i),(5,I (sites+pq.code.length:Nat)),(4,.ax 2 0),(2,.ax 1 0),(1,.ax 0 0)],iH u cs (g6 x pq.code l r).1 (g6 x pq.code l r).2.2 d 0,6⟩) ?_ ?_
   ·apply T.block;refine T.aQ (J36i u x i (sites+pq.code.length) l cs r pq.code) (n:=pq.code.length) ?_ ?_
    ·have Yq:trees (replicate pq.code.length (CV.int .i64 0))=true:=vA [] pq.code.length;refine aa.le (Le.norm [9,8,7,6,5,4,2,1] [(0,0),(1,1),(2,2),(3,3),(4,4),(17,5)] 0 6 Px Pw (by simp[cO,nu,lF,tree,assoc,-all_eq_true,-all_flatMap,kJ,aw Qy,aw Ug,aN,aw Yq]) yA) ?_;simp[cz,bf,aL,cQ,dW,assoc,kJ,ae _ _ Qy,ae _ _ Ug,aN,ae _ _ Yq];refine aa.here ⟨0,l,r,[],by omega,⟨by omega,hI,hx,by omega,rfl,rfl,rfl,rfl⟩,?_⟩;simp[iE,iH,jw,pv,y9,gr,eD,ints,kJ,aN]
    ·rintro n s ⟨pc,l',r',d,rfl,hV,rfl⟩;obtain⟨v1,v2,v3,v4,v5,v6,v7,v8⟩:=hV;simp only[iE,iH];by_cases gJ:pc<pq.code.length
     ·obtain⟨ins,PF⟩:∃ ins,pq.code[pc]? = some ins:=⟨_,getElem?_eq_getElem gJ⟩;have hdn:pq.code.drop pc=ins::pq.code.drop (pc+1):=by
       rw[drop_eq_getElem_cons gJ,(List.getElem?_eq_some_iff.1 PF).2]
      rw[hdn] at v6 v7 v8;have Rs:sG u x (pc:Int)=jZ x ins:=by
       have:¬ (pc:Int)<0:=by omega
       simp[sG,RE,PF,this]
      have hcc:=Cy u hu x YK pc;rw[Rs] at hcc;have OQ:trees [cb u,.agg (gI x),I pc]=true:=by
       simp only[trees,cb,tree,PR,cP,Bool.and_self]
      have hdi':=aH (f:=gI) (n:=2) jR v3;have hil':=(List.getElem?_eq_some_iff.1 v3).1;have Y6:pc+1<=pq.code.length:=by omega
      have wpc:=cw ((pc:Int)+1) yA yA;have hl49':=kq hu v2.nd v2.v;have Uv:=ah cP l';obtain⟨n',T6⟩:∃ n',pq.code.length-pc=n' + 1:=⟨pq.code.length-pc-1,by omega⟩;have VM:=λ v=>J8 d n' v;rw[v5] at VM;have Q4:(d.map I++replicate (n' + 1) (I 0)).length=pq.code.length:=by simp;omega
      rw[T6];simp only[y9];have tD:=vA d (n' + 1);generalize hDe:d.map I++replicate (n' + 1) (I 0)=D at VM Q4 tD;simp only[eD,ints,cb,gI] at hcc OQ;simp only[eD,ints,jw,pv];apply aT;simp[hC,gJ];refine iI ?_;simp;apply eZ;apply T.seq;refine T.rx ag follows [0,1,2,3,4,5,6,11,7,8,9,10,12,13] [(0,11),(2,11),(5,11),(11,7)] GK ?_;simp[hC,hil',hdi',gr,gI];refine RX.call rfl rfl rfl rfl rfl OQ hcc ?_
      cases X9:jZ x ins with
      | none=>
       simp only[X9,g6] at v6 v7 v8;simp[zE];apply aT;simp[hC];refine cX ?_;simp;apply aq;simp[hC,gJ,Y6,Q4,VM];apply T.exit;simp;apply aG;simp[hC,wpc];have tN:trees (d.map I++(I (-1)::replicate n' (I 0)))=true:=by
        simp
       refine⟨pq.code.length-(pc+1),by omega,aa.trim [9,8,7,6,5,4,2,1] [0,1,2,3,4,5] 6 (by simp[-all_eq_true,-all_flatMap,aj Uv,bq 6 _ (bT r'),aj tN]) yA ⟨pc+1,l',r',d++[-1],rfl,⟨by omega,v2,v3,by omega,by simp[v5],v6,by rw[v7];simp,v8⟩,?_⟩⟩;have QV:pq.code.length-(pc+1)=n':=by omega
       rw[QV];simp[iE,iH,jw,pv,y9,gr,eD,ints]
      | some y=>
       have SL:=Df hu YK (by rw[RE];exact mem_of_getElem? PF) X9;simp only[X9,g6] at v6 v7 v8;simp[zE,gI];apply aT;simp[hC];refine eQ ?_;simp;have hf:=xq l' yA (λ z hz=>by
        obtain⟨⟨q,hq,hl⟩,_⟩:=v2.v z hz;have:=(hu.pr q (mem_of_getElem? hq)).2.1;omega) cs.length (kJ cs) Qy (aN r') (bT r') y.proc (y.bz.map λ n:Nat=>(n:Int))
       have PB:kr l' y.proc (y.bz.map λ n:Nat=>(n:Int)) 0=if y∈l' then ((fc l' y:Nat):Int) else -1:=by simpa using uF y l' 0
       rw[<- j6,PB] at hf;refine T.le (Le.norm [10,9,8,7,6,5,4,2,1] [(0,0),(1,1),(2,2),(3,3),(4,4),(5,5),(17,6)] 0 7 Px Pw (by simp[cO,nu,lF,tree,assoc,-all_eq_true,-all_flatMap,kJ,aw Qy,aw Uv,aN,aw tD]) yA) ?_;simp[cz,bf,aL,cQ,dW,assoc,kJ,ae _ _ Qy,ae _ _ Uv,aN,ae _ _ tD];have tny:=aM y.bz;have tnr:=aM r';refine T.cut (λ s=>s=⟨(10,.ax 6 0)::iE i (sites+pq.code.length) pq.code pc,[(0,⟨30,0,eD u⟩),(1,jw),(2,pv (fh l' y).length cs.length r'),(3,gr (fh l' y)),(4,kJ cs),(5,⟨3,1,D⟩),(6,⟨95,0,gI y⟩)],7⟩) ?_ ?_
       ·have QM:(⟨95,2,l'.flatMap gI⟩:Ob)=gr l':=rfl;have PN:(⟨22,1,cs.map ints⟩:Ob)=kJ cs:=rfl;simp only[QM,PN];simp only[aN] at hf;apply aq;simp[hC];refine TL.wa ag [3,4] [3,4] 2 0 hf rfl PU OU rfl rfl (by simp[bJ,ev,assoc,aL,cQ,bP]) (by simp[eK,assoc,br,bP]) (by simp[aX,aU]) (by simp[dq]) rfl WI (TL.go' ag ?_);by_cases hym:y∈l'
        ·have had:fh l' y=l':=if_pos hym;have W9:¬ ((fc l' y:Nat):Int)<0:=by omega
         simp[hC,bP,hym,W9];refine eQ ?_;simp;refine aa.trim [10,9,8,7,6,5,4,2,1] [0,1,2,3,4,5,6] 7 (by simp[-all_eq_true,-all_flatMap,aj tD]) yA ?_;rw[had];simp[iE,jw,pv,eD,ints,gI,aN]
        ·have had:fh l' y=l'++[y]:=if_neg hym;have Tq:=aA (f:=gI) (n:=2) jR l';have SJ:(l'.length+1)*32<=140737488355328:=by omega
         simp[hC,bP,hym];refine cX ?_;simp;apply aG;simp[hC,gr,Tq,SJ,aS];have tN:trees (l'.flatMap gI++[.int .i64 y.proc,.au (y.bz.map λ n:Nat=>I n) y.bz.length])=true:=by
          rw[aF,Uv];simp[trees,tree]
         have OZ:=aw tN;have Ta:=λ ρ=>ae ρ _ tN;refine aa.le (Le.norm [10,9,8,7,6,5,4,2,1] [(0,0),(1,1),(2,2),(8,3),(4,4),(5,5),(6,6)] 0 7 Px Pw (by simp[cO,nu,lF,tree,assoc,-all_eq_true,-all_flatMap,OZ,kJ,aw Qy,aw tD]) yA) ?_;simp[cz,bf,aL,cQ,dW,assoc,Ta,kJ,ae _ _ Qy,ae _ _ tD];apply aa.here;rw[had];simp[iE,jw,pv,eD,ints,gI,aN]
       ·rintro s rfl;have U7:wD u (fh l' y):=⟨nh v2.nd,Dl v2.v SL⟩;have P3:=kq hu U7.nd U7.v;have O9:=xq (fh l' y) yA (λ z hz=>by
         obtain⟨⟨q,hq,hl⟩,_⟩:=U7.v z hz;have:=(hu.pr q (mem_of_getElem? hq)).2.1;omega) cs.length (kJ cs) Qy (aN r') (bT r') y.proc (y.bz.map λ n:Nat=>(n:Int))
        have Xj:kr (fh l' y) y.proc (y.bz.map λ n:Nat=>(n:Int)) 0=((fc (fh l' y) y:Nat):Int):=by
         have:=uF y (fh l' y) 0;rw[if_pos (BR l' y),Nat.add_zero] at this;exact this
        rw[<- j6,Xj] at O9;have Th:=KV (x:=y) v3;generalize fh l' y=L at v6 v7 v8 U7 P3 O9 Xj Th;generalize hk:fc L y=k at v6 v7 v8 O9 Xj;have VD:=ah cP L;have tN:trees (d.map I++(I k::replicate n' (I 0)))=true:=by
         simp
        have hdd:drop pc (d.map I++(I k::replicate n' (I 0)))=I k::replicate n' (I 0):=by
         rw[<- v5];have:(d.map I).length=d.length:=by simp
         rw[<- this,drop_left]
        have Wi:=GW r' k yA;have Ph:trees [aN r',I k]=true:=by simp only[trees,bT,tree,Bool.and_self]
        have hwl:(g9 r' k).length<=r'.length+1:=by
         unfold g9;split
         ·omega
         ·simp;omega
        simp only[iE,pv,gI,aN] at O9 |-;have Ub:=aH (f:=df) (n:=12) jS PF;obtain⟨xc,WQ,_⟩:=zg ins;rw[WQ] at Ub;apply aq;simp[hC];refine TL.wa ag [3,4] [3,4] 2 0 O9 rfl PU OU rfl rfl (by simp[bJ,ev,assoc,aL,cQ,bP]) (by simp[eK,assoc,br,bP]) (by simp[aX,aU]) (by simp[dq]) rfl WI (TL.go' ag ?_);simp[hC,bP,gJ,Y6,Q4,VM];have W6:(DK ins == 3)=sq ins:=by
         cases ins with
         | call g _ _ _=>cases g<;>rfl
         | _=>simp[jZ] at X9
        have tnw:=aM (g9 r' k);have QV:pq.code.length-(pc+1)=n':=by omega
        apply aq;simp[hC,gJ,Ub,W6]
        cases TR:sq ins with
        | true=>
         simp only[TR,if_true] at v6 v7 v8;refine T.cond (b:=true) PC ?_;simp;refine T.rx ag follows [0,1,2,3,4,5,6,7,8] [] GK ?_;simp[hC,gJ,hdd];simp only[aN] at Wi Ph;refine RX.call rfl rfl rfl rfl rfl Ph Wi ?_;simp;apply aG;simp[hC,wpc];refine⟨pq.code.length-(pc+1),by omega,aa.trim [9,8,7,6,5,4,2,1] [0,1,2,3,4,5] 6 (by simp[-all_eq_true,-all_flatMap,aj PR,aj tN,jw]) yA ⟨pc+1,L,g9 r' k,d++[(k:Int)],rfl,⟨by omega,U7,Th,by omega,by simp[v5],v6,by rw[v7];simp,v8⟩,?_⟩⟩;rw[QV];simp[iE,iH,jw,pv,y9,gr,eD,ints,aN]
        | false=>
         simp only[TR,Bool.false_eq_true,if_false] at v6 v7 v8;refine T.cond (b:=false) PC (T.skip ?_);simp;apply aG;simp[hC,wpc];refine⟨pq.code.length-(pc+1),by omega,aa.trim [9,8,7,6,5,4,2,1] [0,1,2,3,4,5] 6 (by simp[-all_eq_true,-all_flatMap,aj PR,aj tN,jw]) yA ⟨pc+1,L,r',d++[(k:Int)],rfl,⟨by omega,U7,Th,by omega,by simp[v5],v6,by rw[v7];simp,v8⟩,?_⟩⟩;rw[QV];simp[iE,iH,jw,pv,y9,gr,eD,ints,aN]
     ·have VQ:pc=pq.code.length:=by omega
      subst VQ;rw[drop_length] at v6 v7 v8;simp only[g6,append_nil] at v6 v7 v8;have Tq:=kq hu v2.nd v2.v;have Uv:=ah cP l';have tnr:=aM r';rw[Nat.sub_self];have tD:=vA d 0;apply aT;simp[hC];refine bh ?_;simp;apply T.exit;simp;refine aa.trim [8,6,5,4,2,1] [0,1,2,3,4,5] 6 (by simp[-all_eq_true,-all_flatMap,aj PR,jw,pv,aN]) yA ?_;simp only[v6,v7,v8];refine⟨v5,v2,by omega,(List.getElem?_eq_some_iff.1 v3).1,?_⟩;simp
   ·rintro s ⟨d,hd,Q4,U7,PL,Qn,rfl⟩;have P3:=kq hu U7.nd U7.v;rw[hd] at Ye;generalize (g6 x pq.code l r).1=L at U7 Qn P3 Ye Wm |-;generalize (g6 x pq.code l r).2.2=R at PL Ye |-;clear hd ZD;have VD:=ah cP L;simp only[fj,iH];have tD:=vA d 0;simp only[replicate_zero,append_nil] at tD;have tkD:take pq.code.length (d.map I)=d.map I:=take_of_length_le PA;have SJ:(cs.length+1)*24<=140737488355328:=by omega
    have O2:(cs.map ints).length=cs.length:=by simp
    have hints:(CV.au (d.map I) pq.code.length)=ints d:=by rw[ints,Q4]
    have tnr:=aM R;have tN:trees (cs.map ints++[ints d])=true:=by rw[aF,Qy,trees,bD];rfl
    simp only[y9,replicate_zero,append_nil];refine T.le (Le.cF (o:=5) rfl tD) ?_;simp[tkD,ai Qy,ai VD,kJ,gr,pv,jw,aN,ai PR];rw[hints];apply aG;simp[hC,O2,SJ,aS];apply aG;simp[hC,wi];have OZ:=aw tN;have Ta:=λ ρ=>ae ρ _ tN;refine⟨100-(i+1),by omega,?_⟩;refine aa.le (Le.norm [6,5,4,2,1] [(0,0),(1,1),(2,2),(3,3),(7,4)] 0 5 Px Pw (by simp[cO,nu,lF,tree,assoc,-all_eq_true,-all_flatMap,OZ,aw PR,aw VD]) yA) ?_;simp[cz,bf,aL,cQ,dW,assoc,Ta,ae _ _ PR,ae _ _ VD];refine aa.here ⟨i+1,L,cs++[d],R,by omega,by omega,by simp[ZN],by omega,U7,Ye,?_⟩;rw[Wm];simp[ClH,jw,pv,gr,kJ,aN]
  ·have OV:i=l.length:=by omega
   have Rq:cc u=⟨l,cs,r⟩:=by
    rw[<- hS];have h1:l[i]? = none:=by rw[List.getElem?_eq_none_iff];omega
    obtain⟨k,hk⟩:∃ k,100-i=k+1:=⟨99-i,by omega⟩;rw[hk,mT,h1]
   have tnr:=aM r;have tkI:take (l.length*2) (l.flatMap gI)=l.flatMap gI:=take_of_length_le (by rw[aA (f:=gI) (n:=2) jR];omega);have tkC:take cs.length (cs.map ints)=cs.map ints:=take_of_length_le xr;apply aT;simp[hC,OP,gr];refine bh ?_;simp;apply T.exit;simp;apply aq;simp[hC];apply T.ret;rw[Rq];refine aa.le (Le.trim [3,2] [1,3,4] 5 (by simp[-all_eq_true,-all_flatMap,aj Ug,aj Qy,aN,kJ]) yA) ?_;simp[aN];refine aa.le (Le.cF (o:=3) rfl Ug) ?_;simp[tkI,ai Qy,kJ];refine aa.le (Le.cF (o:=4) rfl Qy) ?_;simp[tkC];apply aa.here;simp[oZ,oY,aN]
end Go.Proofs.YtlkmbdfhdknlgaaGreat
