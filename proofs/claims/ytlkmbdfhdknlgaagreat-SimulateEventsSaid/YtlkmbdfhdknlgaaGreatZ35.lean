/- Close. -/
import Derived.Test.YtlkmbdfhdknlgaaGreatZ34
namespace Go.aJ
open Go.Can List
theorem sa:∀ {a b:List Nat},(a.map λ n:Nat=>(n:Int))=b.map (λ n:Nat=>(n:Int))->a=b
 | [],[],_=>rfl
 | [],_::_,h=>by simp at h
 | _::_,[],h=>by simp at h
 | x::a,y::b,h=>by
  simp only[map_cons,cons.injEq] at h;rw[sa h.2];congr 1;omega
theorem Mu (y x:Is):nj y x.proc (x.bp.map λ n:Nat=>(n:Int))=decide (y=x):=by
 by_cases h:y=x
 ·subst h;simp[nj]
 ·have:¬ ((y.proc:Int)=x.proc/\(y.bp.map λ n:Nat=>(n:Int))=x.bp.map λ n:Nat=>(n:Int)):=λ⟨h1,h2⟩=>by
   apply h;cases y;cases x;simp only at h1 h2;rw[sa h2];congr 1;omega
  simp only[h,decide_false,nj]
  simpa using this
theorem vP (x:Is):∀ (l:List Is) (k:Nat),kK l x.proc (x.bp.map λ n:Nat=>(n:Int)) k=if x∈l then ((ez l x+k:Nat):Int) else -1
 | [],k=>by simp[kK]
 | y::r,k=>by
  have ih:=vP x r (k+1);rw[kK,Mu];by_cases h:y=x
  ·subst h;simp[ez,findIdx_cons]
  ·have h':¬ x=y:=λ e=>h e.symm;simp only[h,decide_false,Bool.false_eq_true,if_false,mem_cons,h',false_or];have:((k:Int)+1)=((k+1:Nat):Int):=by simp
   rw[this,ih];split
   ·have:ez (y::r) x=ez r x+1:=by simp[ez,findIdx_cons,h]
    rw[this];congr 1;omega
   ·rfl
end Go.aJ
namespace Go.Proofs.YtlkmbdfhdknlgaaGreat
open Go.Can Go.aJ List
def k8 (cs:List (List Int)):Ob:=⟨22,1,cs.map ints⟩
theorem da (l:List Int):tree (ints l)=true:=by simp[ints,tree]
theorem js (cs:List (List Int)):trees (cs.map ints)=true:=by
 induction cs with
 | nil=>rfl
 | cons a r ih=>rw[map_cons,trees,ih,da];rfl
def qb (n m:Nat)(r:List Nat):Ob:=⟨34,0,[.bb 3 0 n,.bb 4 0 m,aB r]⟩
def jB:Ob:=⟨34,0,[.aj,.aj,.aj]⟩
@[simp] theorem Kl (l:List Is)(n:Nat):(gJ l).cells.all (aU n)=true:=ai (ak ca l) n
@[simp] theorem isOb_ltS (l:List Is)(n:Nat):ba n (gJ l).cells=true:=by rw[aT];exact Kl l n
@[simp] theorem isOb_rnm (ρ:Nat->Nat)(l:List Is):bh ρ (gJ l)=gJ l:=dg _ _ _ (ak ca l)
@[simp] theorem K5 (l:List (List Int))(n:Nat):(k8 l).cells.all (aU n)=true:=ai (js l) n
@[simp] theorem csOb_ltS (l:List (List Int))(n:Nat):ba n (k8 l).cells=true:=by rw[aT];exact K5 l n
@[simp] theorem csOb_rnm (ρ:Nat->Nat)(l:List (List Int)):bh ρ (k8 l)=k8 l:=dg _ _ _ (js l)
theorem xh (d:List Int)(n:Nat):trees (d.map I++replicate n (I 0))=true:=by
 rw[bg,aO,Bool.true_and]
 induction n with
 | zero=>rfl
 | succ n ih=>rw[replicate_succ,trees,ih];rfl
def AJ (d:List Int)(n:Nat):Ob:=⟨3,1,d.map I++replicate n (I 0)⟩
@[simp] theorem J2 (d:List Int)(n k:Nat):(AJ d n).cells.all (aU k)=true:=ai (xh d n) k
@[simp] theorem mkOb_ltS (d:List Int)(n k:Nat):ba k (AJ d n).cells=true:=by rw[aT];exact J2 d n k
theorem MX (d:List Int)(n:Nat)(v:CV):take d.length (d.map I++replicate (n+1) (I 0))++v::drop (d.length+1) (d.map I++replicate (n+1) (I 0))=d.map I++v::replicate n (I 0):=by
 rw[take_append,drop_append,take_of_length_le xr,drop_of_length_le xr];simp[replicate_succ]
structure yf (u:Un)(l:List Is):Prop where
 nd:l.Nodup
 v:∀ x∈l,sX u x
def ClH (u:Un)(l:List Is)(cs:List (List Int))(r:List Nat):List (Nat×Ob):=[(0,⟨30,0,cR u⟩),(1,jB),(2,qb l.length cs.length r),(3,gJ l),(4,k8 cs)]
structure InvI (u:Un)(x:Is)(i:Nat)(l:List Is)(r:List Nat)(code:List In)(pc:Nat)(l':List Is)(r':List Nat)(d:List Int):Prop where
 gZ:pc<=code.length
 c:yf u l'
 at_:l'[i]? = some x
 rl:r'.length<=200*(i+1)+pc
 dl:d.length=pc
 e1:(iu x code l r).1=(iu x (code.drop pc) l' r').1
 e2:(iu x code l r).2.1=d++(iu x (code.drop pc) l' r').2.1
 e3:(iu x code l r).2.2=(iu x (code.drop pc) l' r').2.2
def iE (i sites:Nat)(code:List In)(pc:Nat):List (Nat×CV):=[(9,I pc),(8,.bb 5 0 code.length),(7,.ax (code.flatMap cW) code.length),(6,I i),(5,I sites),(4,.aw 2 0),(2,.aw 1 0),(1,.aw 0 0)]
def iH (u:Un)(cs:List (List Int))(l':List Is)(r':List Nat)(d:List Int)(n:Nat):List (Nat×Ob):=[(0,⟨30,0,cR u⟩),(1,jB),(2,qb l'.length cs.length r'),(3,gJ l'),(4,k8 cs),(5,AJ d n)]
def J36i (u:Un)(x:Is)(i sites:Nat)(l:List Is)(cs:List (List Int))(r:List Nat)(code:List In)(m:Nat)(s:St):Prop:=∃ pc l' r' d,m=code.length-pc/\InvI u x i l r code pc l' r' d/\
 s=⟨iE i sites code pc,iH u cs l' r' d (code.length-pc),6⟩
def J36 (u:Un)(m:Nat)(s:St):Prop:=∃ i l cs r,m=100-i/\i<=l.length/\cs.length=i/\r.length<=200*(i+1)/\yf u l/\kQ u (100-i) i l cs r=az u/\
 s=⟨[(6,I i),(5,I ((l.take i).map λ x=>(ay u x).length).sum),(4,.aw 2 0),(2,.aw 1 0),(1,.aw 0 0)],ClH u l cs r,5⟩
set_option maxHeartbeats 4000000 in
theorem y4 (u:Un)(hu:fV u):ae Tryz.prog 28 [cg u] (.cB [gC (az u),I 0]):=by
 have R6:=bj u;have hmain:=hu.main;have hcl0:yf u [⟨u.main,[]⟩]:=⟨by simp,λ x hx=>by
  rw[mem_singleton] at hx;subst hx;have Xd:=hu.np;obtain⟨q,hq⟩:∃ q,u.ps[0]? = some q:=⟨_,getElem?_eq_getElem yA⟩;exact⟨⟨q,by simp only;rw[hmain];exact hq,by simp[(hu.p0 q hq).2]⟩,by simp⟩⟩
 have Sa:tree (.cB [gC (az u),I 0])=true:=by
  simp only[tree,trees,gC,eC,aM,Bool.and_true]
 refine ae.aE ah Tryz.func28 rfl Ix (by simp[Tryz.ntmps28]) Sa λ C hC RR=>?_;rw[Tryz.ntmps28] at hC;simp only[cg,cR,ints];apply aq;simp[hC];apply aq;simp[hC,aY];apply aq;simp[hC];apply aW;simp[hC];apply T.block;refine T.aH (J36 u) (n:=100) ?_ ?_
 ·have tgs:trees (u.gs.map (CV.int .i64))=true:=aO u.gs;refine aa.le (Le.trim [6,5,4,2,1] [4,3,2,1,0] 5 Vz yA) ?_;simp;refine aa.le (Le.dn (o:=3) rfl rfl) ?_;simp;refine aa.le (Le.nz [] [2]) ?_;simp;refine aa.le (Le.nk 4 1 22 1 rfl rfl) ?_;simp;refine aa.le (Le.norm [6,5,4,2,1] [(0,0),(1,1),(4,2),(2,3),(5,4)] 0 5 Sn Sl yCu yA) ?_;simp[cm,bh,aX,cN,dZ,assoc];refine aa.here ⟨0,[⟨u.main,[]⟩],[],[0],by omega,by simp,rfl,by simp,hcl0,rfl,?_⟩;simp[ClH,cR,ints,jB,qb,gJ,k8,dV,aB]
 ·rintro n s ⟨i,l,cs,r,rfl,hi,hci,XG,hI,hS,rfl⟩;have hl49:=jy hu hI.nd hI.v;have hsites:=EO hu hI.nd hI.v;have tgs:trees (u.gs.map (CV.int .i64))=true:=aO u.gs;have Xa:=ak ca l;have Tp:=js cs;simp only[ClH,cR,ints,jB,qb];by_cases Og:i<l.length
  ·obtain⟨x,hx⟩:∃ x,l[i]? = some x:=⟨l[i],getElem?_eq_getElem Og⟩;have hxv:=hI.v x (mem_of_getElem? hx);obtain⟨⟨pq,Tw,Tg⟩,UR⟩:=id hxv;have RZ:ay u x=pq.code:=by simp only[ay,Tw]
   have SR:=(List.getElem?_eq_some_iff.1 Tw).1;have UL:=b9 (f:=mW) (n:=5) iC Tw 4 yA;have hlen:=(hu.pr pq (mem_of_getElem? Tw)).2.2.2.2;have hdi:=aI (f:=dV) (n:=2) gU hx;have R3:l.take (i+1)=l.take i++[x]:=by rw[take_add_one,hx];rfl
   have XD:((l.take (i+1)).map λ x=>(ay u x).length).sum=((l.take i).map λ x=>(ay u x).length).sum+pq.code.length:=by
    rw[R3,map_append,sum_append];simp[RZ]
   have hsum2:((l.take (i+1)).map λ x=>(ay u x).length).sum<=7105:=by
    have:=take_append_drop (i+1) l;have h2:(l.map λ x=>(ay u x).length).sum=((l.take (i+1)).map λ x=>(ay u x).length).sum+((l.drop (i+1)).map λ x=>(ay u x).length).sum:=by
     rw[<- sum_append,<- map_append,this]
    omega
   generalize hG:((l.take i).map λ x=>(ay u x).length).sum=sites at XD;have wi:=cF ((i:Int)+1) yA yA;have ws:=cF ((sites:Int)+(pq.code.length:Int)) yA yA;have V0:¬ (256:Int)<=(i:Int):=by omega
   have To:¬ (8000:Int)<(sites:Int)+(pq.code.length:Int):=by omega
   apply aW;simp[hC,Og,gJ];refine gw ?_;simp;apply eN;apply T.seq;refine T.rx ah follows [0,1,2,3,4,5,6,7,8,9,10,11] [] Ix ?_;simp[hC,Og,hdi,dV,SR,UL,mW];apply aq;simp[hC,ws];apply aW;simp[hC,V0,To];refine fX ?_;simp;have Vl:8*(pq.code.length:Int)<=281474976710656:=by omega
   have TG:(pq.code.length:Int)<=9223372036854775807:=by omega
   apply aq;simp[hC,Vl,TG];apply aW;simp[hC];have tco:=cu pq.code;have Zy:kQ u (100-(i+1)) (i+1) (iu x pq.code l r).1 (cs++[(iu x pq.code l r).2.1]) (iu x pq.code l r).2.2=az u:=by
    rw[<- hS];have:100-i=(100-(i+1))+1:=by omega
    rw[this,kQ,hx];simp only[RZ]
   obtain⟨ext,hext⟩:=rH x pq.code l r;have Ze:(((iu x pq.code l r).1.take (i+1)).map λ x=>(ay u x).length).sum=sites+pq.code.length:=by
    rw[hext,take_append_of_le_length yA];exact XD
   refine T.cutL (λ s=>∃ d,(iu x pq.code l r).2.1=d/\d.length=pq.code.length/\yf u (iu x pq.code l r).1/\(iu x pq.code l r).2.2.length<=200*(i+1)+145/\i<(iu x pq.code l r).1.length/\s=⟨[(8,.bb 5 0 pq.code.length),(6,I i),(5,I (sites+pq.code.length:Nat)),(4,.aw 2 0),(2,.aw 1 0),(1,.aw 0 0)],iH u cs (iu x pq.code l r).1 (iu x pq.code l r).2.2 d 0,6⟩) ?_ ?_
   ·apply T.block;refine T.aH (J36i u x i (sites+pq.code.length) l cs r pq.code) (n:=pq.code.length) ?_ ?_
    ·have trep:trees (replicate pq.code.length (CV.int .i64 0))=true:=xh [] pq.code.length;refine aa.le (Le.norm [9,8,7,6,5,4,2,1] [(0,0),(1,1),(2,2),(3,3),(4,4),(17,5)] 0 6 Sn Sl (by simp[cI,oe,mg,tree,assoc,-all_eq_true,-all_flatMap,k8,au Tp,au Xa,aB,au trep]) yA) ?_;simp[cm,bh,aX,cN,dZ,assoc,k8,af _ _ Tp,af _ _ Xa,aB,af _ _ trep];refine aa.here ⟨0,l,r,[],by omega,⟨by omega,hI,hx,by omega,rfl,rfl,rfl,rfl⟩,?_⟩;simp[iE,iH,jB,qb,AJ,gJ,cR,ints,k8,aB]
    ·rintro n s ⟨pc,l',r',d,rfl,hV,rfl⟩;obtain⟨v1,v2,v3,v4,v5,v6,v7,v8⟩:=hV;simp only[iE,iH];by_cases gZ:pc<pq.code.length
     ·obtain⟨ins,Vb⟩:∃ ins,pq.code[pc]? = some ins:=⟨_,getElem?_eq_getElem gZ⟩;have hdn:pq.code.drop pc=ins::pq.code.drop (pc+1):=by
       rw[drop_eq_getElem_cons gZ,(List.getElem?_eq_some_iff.1 Vb).2]
      rw[hdn] at v6 v7 v8;have Um:uF u x (pc:Int)=j4 x ins:=by
       have:¬ (pc:Int)<0:=by omega
       simp[uF,RZ,Vb,this]
      have WM:=Ej u hu x hxv pc;rw[Um] at WM;have RQ:trees [cg u,.agg (dV x),I pc]=true:=by
       simp only[trees,cg,tree,R6,ca,Bool.and_self]
      have hdi':=aI (f:=dV) (n:=2) gU v3;have hil':=(List.getElem?_eq_some_iff.1 v3).1;have hpc1:pc+1<=pq.code.length:=by omega
      have Xq:=cF ((pc:Int)+1) yA yA;have hl49':=jy hu v2.nd v2.v;have Xs:=ak ca l';obtain⟨n',WZ⟩:∃ n',pq.code.length-pc=n' + 1:=⟨pq.code.length-pc-1,by omega⟩;have TS:=λ v=>MX d n' v;rw[v5] at TS;have Uk:(d.map I++replicate (n' + 1) (I 0)).length=pq.code.length:=by simp;omega
      rw[WZ];simp only[AJ];have tD:=xh d (n' + 1);generalize hDe:d.map I++replicate (n' + 1) (I 0)=D at TS Uk tD;simp only[cR,ints,cg,dV] at WM RQ;simp only[cR,ints,jB,qb];apply aW;simp[hC,gZ];refine gw ?_;simp;apply eN;apply T.seq;refine T.rx ah follows [0,1,2,3,4,5,6,11,7,8,9,10,12,13] [(0,11),(2,11),(5,11),(11,7)] Ix ?_;simp[hC,hil',hdi',gJ,dV];refine RX.call rfl rfl rfl rfl rfl RQ WM ?_
      cases hce:j4 x ins with
      | none=>
       simp only[hce,iu] at v6 v7 v8;simp[Bn];apply aW;simp[hC];refine dy ?_;simp;apply aq;simp[hC,gZ,hpc1,Uk,TS];apply T.exit;simp;apply aN;simp[hC,Xq];have tN:trees (d.map I++(I (-1)::replicate n' (I 0)))=true:=by
        simp
       refine⟨pq.code.length-(pc+1),by omega,aa.trim [9,8,7,6,5,4,2,1] [0,1,2,3,4,5] 6 (by simp[-all_eq_true,-all_flatMap,ai Xs,bP 6 _ (aM r'),ai tN]) yA ⟨pc+1,l',r',d++[-1],rfl,⟨by omega,v2,v3,by omega,by simp[v5],v6,by rw[v7];simp,v8⟩,?_⟩⟩;have Up:pq.code.length-(pc+1)=n':=by omega
       rw[Up];simp[iE,iH,jB,qb,AJ,gJ,cR,ints]
      | some y=>
       have hyv:=Fc hu hxv (by rw[RZ];exact mem_of_getElem? Vb) hce;simp only[hce,iu] at v6 v7 v8;simp[Bn,dV];apply aW;simp[hC];refine fX ?_;simp;have hf:=yY l' yA (λ z hz=>by
        obtain⟨⟨q,hq,hl⟩,_⟩:=v2.v z hz;have:=(hu.pr q (mem_of_getElem? hq)).2.1;omega) cs.length (k8 cs) Tp (aB r') (aM r') y.proc (y.bp.map λ n:Nat=>(n:Int))
       have TE:kK l' y.proc (y.bp.map λ n:Nat=>(n:Int)) 0=if y∈l' then ((ez l' y:Nat):Int) else -1:=by simpa using vP y l' 0
       rw[<- ka,TE] at hf;refine T.le (Le.norm [10,9,8,7,6,5,4,2,1] [(0,0),(1,1),(2,2),(3,3),(4,4),(5,5),(17,6)] 0 7 Sn Sl (by simp[cI,oe,mg,tree,assoc,-all_eq_true,-all_flatMap,k8,au Tp,au Xs,aB,au tD]) yA) ?_;simp[cm,bh,aX,cN,dZ,assoc,k8,af _ _ Tp,af _ _ Xs,aB,af _ _ tD];have tny:=aK y.bp;have tnr:=aK r';refine T.cut (λ s=>s=⟨(10,.aw 6 0)::iE i (sites+pq.code.length) pq.code pc,[(0,⟨30,0,cR u⟩),(1,jB),(2,qb (fx l' y).length cs.length r'),(3,gJ (fx l' y)),(4,k8 cs),(5,⟨3,1,D⟩),(6,⟨95,0,dV y⟩)],7⟩) ?_ ?_
       ·have UK:(⟨95,2,l'.flatMap dV⟩:Ob)=gJ l':=rfl;have TN:(⟨22,1,cs.map ints⟩:Ob)=k8 cs:=rfl;simp only[UK,TN];simp only[aB] at hf;apply aq;simp[hC];refine TL.xW ah [3,4] [3,4] 2 0 hf rfl SQ RT rfl rfl (by simp[bM,ev,assoc,aX,cN,bS]) (by simp[eZ,assoc,bC,bS]) (by simp[ba,aU]) (by simp[dh]) rfl ZG (TL.go' ah ?_);by_cases hym:y∈l'
        ·have had:fx l' y=l':=if_pos hym;have Z7:¬ ((ez l' y:Nat):Int)<0:=by omega
         simp[hC,bS,hym,Z7];refine fX ?_;simp;refine aa.trim [10,9,8,7,6,5,4,2,1] [0,1,2,3,4,5,6] 7 (by simp[-all_eq_true,-all_flatMap,ai tD]) yA ?_;rw[had];simp[iE,jB,qb,cR,ints,dV,aB]
        ·have had:fx l' y=l'++[y]:=if_neg hym;have Wk:=aC (f:=dV) (n:=2) gU l';have Wa:(l'.length+1)*32<=140737488355328:=by omega
         simp[hC,bS,hym];refine dy ?_;simp;apply aN;simp[hC,gJ,Wk,Wa,aY];have tN:trees (l'.flatMap dV++[.int .i64 y.proc,.ax (y.bp.map λ n:Nat=>I n) y.bp.length])=true:=by
          rw[bg,Xs];simp[trees,tree]
         have R4:=au tN;have U5:=λ ρ=>af ρ _ tN;refine aa.le (Le.norm [10,9,8,7,6,5,4,2,1] [(0,0),(1,1),(2,2),(8,3),(4,4),(5,5),(6,6)] 0 7 Sn Sl (by simp[cI,oe,mg,tree,assoc,-all_eq_true,-all_flatMap,R4,k8,au Tp,au tD]) yA) ?_;simp[cm,bh,aX,cN,dZ,assoc,U5,k8,af _ _ Tp,af _ _ tD];apply aa.here;rw[had];simp[iE,jB,qb,cR,ints,dV,aB]
       ·rintro s rfl;have X8:yf u (fx l' y):=⟨nW v2.nd,Fl v2.v hyv⟩;have S8:=jy hu X8.nd X8.v;have SE:=yY (fx l' y) yA (λ z hz=>by
         obtain⟨⟨q,hq,hl⟩,_⟩:=X8.v z hz;have:=(hu.pr q (mem_of_getElem? hq)).2.1;omega) cs.length (k8 cs) Tp (aB r') (aM r') y.proc (y.bp.map λ n:Nat=>(n:Int))
        have hfr2:kK (fx l' y) y.proc (y.bp.map λ n:Nat=>(n:Int)) 0=((ez (fx l' y) y:Nat):Int):=by
         have:=vP y (fx l' y) 0;rw[if_pos (DF l' y),Nat.add_zero] at this;exact this
        rw[<- ka,hfr2] at SE;have TJ:=NT (x:=y) v3;generalize fx l' y=L at v6 v7 v8 X8 S8 SE hfr2 TJ;generalize hk:ez L y=k at v6 v7 v8 SE hfr2;have Yv:=ak ca L;have tN:trees (d.map I++(I k::replicate n' (I 0)))=true:=by
         simp
        have hdd:drop pc (d.map I++(I k::replicate n' (I 0)))=I k::replicate n' (I 0):=by
         rw[<- v5];have:(d.map I).length=d.length:=by simp
         rw[<- this,drop_left]
        have Zb:=BZ r' k yA;have SD:trees [aB r',I k]=true:=by simp only[trees,aM,tree,Bool.and_self]
        have hwl:(gF r' k).length<=r'.length+1:=by
         unfold gF;split
         ·omega
         ·simp;omega
        simp only[iE,qb,dV,aB] at SE |-;have Ud:=aI (f:=cW) (n:=12) gB Vb;obtain⟨xc,UT,_⟩:=oW ins;rw[UT] at Ud;apply aq;simp[hC];refine TL.xW ah [3,4] [3,4] 2 0 SE rfl SQ RT rfl rfl (by simp[bM,ev,assoc,aX,cN,bS]) (by simp[eZ,assoc,bC,bS]) (by simp[ba,aU]) (by simp[dh]) rfl ZG (TL.go' ah ?_);simp[hC,bS,gZ,hpc1,Uk,TS];have Z4:(qX ins == 3)=uk ins:=by
         cases ins with
         | call g _ _ _=>cases g<;>rfl
         | _=>simp[j4] at hce
        have tnw:=aK (gF r' k);have Up:pq.code.length-(pc+1)=n':=by omega
        apply aq;simp[hC,gZ,Ud,Z4]
        cases Xi:uk ins with
        | true=>
         simp only[Xi,if_true] at v6 v7 v8;refine T.cond (b:=true) Ta ?_;simp;refine T.rx ah follows [0,1,2,3,4,5,6,7,8] [] Ix ?_;simp[hC,gZ,hdd];simp only[aB] at Zb SD;refine RX.call rfl rfl rfl rfl rfl SD Zb ?_;simp;apply aN;simp[hC,Xq];refine⟨pq.code.length-(pc+1),by omega,aa.trim [9,8,7,6,5,4,2,1] [0,1,2,3,4,5] 6 (by simp[-all_eq_true,-all_flatMap,ai R6,ai tN,jB]) yA ⟨pc+1,L,gF r' k,d++[(k:Int)],rfl,⟨by omega,X8,TJ,by omega,by simp[v5],v6,by rw[v7];simp,v8⟩,?_⟩⟩;rw[Up];simp[iE,iH,jB,qb,AJ,gJ,cR,ints,aB]
        | false=>
         simp only[Xi,Bool.false_eq_true,if_false] at v6 v7 v8;refine T.cond (b:=false) Ta (T.skip ?_);simp;apply aN;simp[hC,Xq];refine⟨pq.code.length-(pc+1),by omega,aa.trim [9,8,7,6,5,4,2,1] [0,1,2,3,4,5] 6 (by simp[-all_eq_true,-all_flatMap,ai R6,ai tN,jB]) yA ⟨pc+1,L,r',d++[(k:Int)],rfl,⟨by omega,X8,TJ,by omega,by simp[v5],v6,by rw[v7];simp,v8⟩,?_⟩⟩;rw[Up];simp[iE,iH,jB,qb,AJ,gJ,cR,ints,aB]
     ·have Wg:pc=pq.code.length:=by omega
      subst Wg;rw[drop_length] at v6 v7 v8;simp only[iu,append_nil] at v6 v7 v8;have Wk:=jy hu v2.nd v2.v;have Xs:=ak ca l';have tnr:=aK r';rw[Nat.sub_self];have tD:=xh d 0;apply aW;simp[hC];refine a9 ?_;simp;apply T.exit;simp;refine aa.trim [8,6,5,4,2,1] [0,1,2,3,4,5] 6 (by simp[-all_eq_true,-all_flatMap,ai R6,jB,qb,aB]) yA ?_;simp only[v6,v7,v8];refine⟨v5,v2,by omega,(List.getElem?_eq_some_iff.1 v3).1,?_⟩;simp
   ·rintro s ⟨d,hd,Uk,X8,Sx,Tc,rfl⟩;have S8:=jy hu X8.nd X8.v;rw[hd] at Zy;generalize (iu x pq.code l r).1=L at X8 Tc S8 Zy Ze |-;generalize (iu x pq.code l r).2.2=R at Sx Zy |-;clear hd hext;have Yv:=ak ca L;simp only[fy,iH];have tD:=xh d 0;simp only[replicate_zero,append_nil] at tD;have tkD:take pq.code.length (d.map I)=d.map I:=take_of_length_le SO;have Wa:(cs.length+1)*24<=140737488355328:=by omega
    have RY:(cs.map ints).length=cs.length:=by simp
    have hints:(CV.ax (d.map I) pq.code.length)=ints d:=by rw[ints,Uk]
    have tnr:=aK R;have tN:trees (cs.map ints++[ints d])=true:=by rw[bg,Tp,trees,da];rfl
    simp only[AJ,replicate_zero,append_nil];refine T.le (Le.dn (o:=5) rfl tD) ?_;simp[tkD,aS Tp,aS Yv,k8,gJ,qb,jB,aB,aS R6];rw[hints];apply aN;simp[hC,RY,Wa,aY];apply aN;simp[hC,wi];have R4:=au tN;have U5:=λ ρ=>af ρ _ tN;refine⟨100-(i+1),by omega,?_⟩;refine aa.le (Le.norm [6,5,4,2,1] [(0,0),(1,1),(2,2),(3,3),(7,4)] 0 5 Sn Sl (by simp[cI,oe,mg,tree,assoc,-all_eq_true,-all_flatMap,R4,au R6,au Yv]) yA) ?_;simp[cm,bh,aX,cN,dZ,assoc,U5,af _ _ R6,af _ _ Yv];refine aa.here ⟨i+1,L,cs++[d],R,by omega,by omega,by simp[hci],by omega,X8,Zy,?_⟩;rw[Ze];simp[ClH,jB,qb,gJ,k8,aB]
  ·have RU:i=l.length:=by omega
   have S0:az u=⟨l,cs,r⟩:=by
    rw[<- hS];have h1:l[i]? = none:=by rw[List.getElem?_eq_none_iff];omega
    obtain⟨k,hk⟩:∃ k,100-i=k+1:=⟨99-i,by omega⟩;rw[hk,kQ,h1]
   have tnr:=aK r;have tkI:take (l.length*2) (l.flatMap dV)=l.flatMap dV:=take_of_length_le (by rw[aC (f:=dV) (n:=2) gU];omega);have tkC:take cs.length (cs.map ints)=cs.map ints:=take_of_length_le xr;apply aW;simp[hC,Og,gJ];refine a9 ?_;simp;apply T.exit;simp;apply aq;simp[hC];apply T.ret;rw[S0];refine aa.le (Le.trim [3,2] [1,3,4] 5 (by simp[-all_eq_true,-all_flatMap,ai Xa,ai Tp,aB,k8]) yA) ?_;simp[aB];refine aa.le (Le.dn (o:=3) rfl Xa) ?_;simp[tkI,aS Tp,k8];refine aa.le (Le.dn (o:=4) rfl Tp) ?_;simp[tkC];apply aa.here;simp[gC,eC,aB]
end Go.Proofs.YtlkmbdfhdknlgaaGreat
