/- SameInts, Find. -/
import Derived.Test.YtnecpnjdonibmaaGreatZ38
import Derived.DeepKeys3
namespace Go.aP
open Go.Can
theorem na (l:List Nat):aA l=ints (l.map fun n:Nat=>(n:Int)):=by simp[aA,ints,List.map_map,Function.comp_def]
def nC (y:Is)(p:Int)(ls:List Int):Bool:=decide ((y.proc:Int)=p) && decide ((y.bx.map fun n:Nat=>(n:Int))=ls)
def nJ:List Is→Int→List Int→Int→Int
 | [],_,_,_=>-1
 | y::r,p,ls,i=>if nC y p ls=true then i else nJ r p ls (i+1)
end Go.aP
namespace Go.Proofs.YtnecpnjdonibmaaGreat
open Go.Can Go.aP
set_option maxRecDepth 10000 in
theorem qH (a b:List Int)(ha:a.length≤4611686018427387904):ae Tryz.prog 40 [ints a,ints b] (.bool (decide (a=b))):=by
 refine ae.aM ah Tryz.func40 rfl PH (by simp[Tryz.ntmps40]) rfl fun C hC PN=>?_;rw[Tryz.ntmps40] at hC;apply aj;simp[hC];apply aU;simp[hC,ints];refine T.bb rfl (fun h=>?_) (fun h=>?_)
 ·apply aj;simp[hC];apply T.ret;apply aa.here;simp[Tryz.results40];intro e;subst e;simp at h
 ·apply T.skip;have hl:a.length=b.length:=by simp at h;omega
  apply aU;simp[hC];apply T.block;refine T.aJ (fun m s=>∃ i,m=a.length-i∧i≤a.length∧(∀ j,j<i→a[j]? = b[j]?)∧s=⟨[(5,.int .i64 i),(0,ints a),(1,ints b)],[],0⟩) (n:=a.length) ?_ ?_
  ·refine aa.trim [5,0,1] [] 0 rfl yA ⟨0,rfl,Nat.zero_le _,by simp,?_⟩;simp[ints]
  ·rintro n s ⟨i,rfl,hi,hj,rfl⟩;apply aU;simp[hC,ints];refine T.bb rfl (fun h=>?_) (fun h=>?_)
   ·apply T.skip;have hib:i<a.length:=by simpa using h
    simp;have ea:a[i]? = some a[i]:=List.getElem?_eq_getElem hib;have eb:b[i]? = some b[i]:=List.getElem?_eq_getElem yA;refine T.seq (T.block (T.seq (T.rx ah follows [0,1,2,3,4,5,6,7,8] [] PH ?_)));simp[hC,hib,← hl];refine T.bb rfl (fun h=>?_) (fun h=>?_)
    ·apply aj;simp[hC];apply T.ret;apply aa.here;simp[Tryz.results40];intro e;subst e;simp at h
    ·apply T.skip;simp;apply aW;simp[hC];refine⟨_,?_,aa.trim [5,0,1] [] 0 rfl yA ⟨i+1,rfl,hib,?_,?_⟩⟩
     ·omega
     ·intro j hj';by_cases e:j=i
      ·subst e;rw[ea,eb];simpa using h
      ·exact hj j yA
     ·simp;rw[cE _ yA yA]
   ·apply T.exit;simp;apply aj;simp[hC];apply T.ret;apply aa.here;simp[Tryz.results40];have:i=a.length:=by simp at h;omega
    subst this;refine List.ext_getElem? fun j=>?_;by_cases P7:j<a.length
    ·exact hj j P7
    ·rw[List.getElem?_eq_none yA,List.getElem?_eq_none yA]
def fC (l:List Is):Ob:=⟨90,2,l.flatMap df⟩
def J33 (l:List Is)(X Y:CV)(p:Int)(ls:List Int)(n:Nat)(s:St):Prop:=∃ i:Nat,n=l.length-i∧i≤l.length∧nJ l p ls 0=nJ (l.drop i) p ls i∧s=⟨[(5,I i),(3,.av 1 0),(2,.av 0 0)],[(0,⟨34,0,[.az (l.flatMap df) l.length,X,Y]⟩),(1,⟨90,0,[I p,ints ls]⟩)],2⟩
set_option maxHeartbeats 4000000 in
theorem rfind_ok (l:List Is)(hl:l.length≤100000)(TK:∀ x∈l,x.bx.length≤100000)(X Y:CV)(hX:tree X=true)(hY:tree Y=true)(p:Int)(ls:List Int) :
  ae Tryz.prog 138 [.agg [.az (l.flatMap df) l.length,X,Y],.agg [I p,ints ls]] (I (nJ l p ls 0)):=by
 have Yw:tree (ints ls)=true:=by simp[ints,tree]
 refine ae.aM ah Tryz.func138 rfl PH (by simp[Tryz.ntmps138]) rfl fun C hC PN=>?_;rw[Tryz.ntmps138] at hC;apply aj;simp[hC];apply aU;simp[hC];apply T.block;refine T.aJ (J33 l X Y p ls) (n:=l.length) ?_ ?_
 ·refine aa.trim [5,3,2] [0,1] 2 yBv yA ⟨0,by omega,by omega,rfl,?_⟩;simp
 ·rintro n s ⟨i,rfl,hi,hf,rfl⟩;by_cases PJ:i<l.length
  ·obtain⟨y,hy⟩:∃ y,l[i]? = some y:=⟨l[i],List.getElem?_eq_getElem PJ⟩;have hd:l.drop i=y::l.drop (i+1):=by
    rw[List.drop_eq_getElem_cons PJ,(List.getElem?_eq_some_iff.1 hy).2]
   rw[hd,nJ] at hf;have PL:=aO (f:=df) (n:=2) fk hy;have Rz:=bS (f:=df) (n:=2) fk hy 1 yA;have wi:=cE ((i:Int)+1) yA yA;have R7:=qH (y.bx.map fun n:Nat=>(n:Int)) ls (by have:=TK y (List.mem_of_getElem? hy);simp;omega);rw[← na] at R7;have PU:trees [aA y.bx,ints ls]=true:=by simp only[trees,aD,Yw,Bool.and_self]
   apply aU;simp[hC,PJ];refine gQ ?_;simp;apply dZ;refine T.cut (fun s=>s=⟨(32,.bool (nC y p ls))::[(5,I i),(3,.av 1 0),(2,.av 0 0)],[(0,⟨34,0,[.az (l.flatMap df) l.length,X,Y]⟩),(1,⟨90,0,[I p,ints ls]⟩)],2⟩) ?_ ?_
   ·refine T.rx ah follows [0,1,2,3,4,5,6,7,8,9,10,11,12,13,14,15,16,17,18,19] [] PH ?_;by_cases hp:(y.proc:Int)=p
    ·have T2:nC y p ls=decide ((y.bx.map fun n:Nat=>(n:Int))=ls):=by simp[nC,hp]
     simp[hC,PJ,PL,df,hp];refine RX.call rfl rfl rfl rfl rfl PU R7 ?_;simp;refine aa.trim [32,5,3,2] [0,1] 2 yBv yA ?_;simp[T2]
    ·have T2:nC y p ls=false:=by simp[nC,hp]
     have RY:((y.proc:Int) == p)=false:=by simpa using hp
     simp[hC,PJ,PL,df,RY];refine aa.trim [32,5,3,2] [0,1] 2 yBv yA ?_;simp[T2]
   rintro s rfl
   cases hr:nC y p ls with
   | true=>
    rw[if_pos hr] at hf;refine fx ?_;simp;apply aj;simp[hC];apply T.ret;have Q3:=hf;simp;apply aa.here;simp[Tryz.results138,Q3]
   | false=>
    rw[if_neg (by simp[hr])] at hf;refine gO ?_;simp;apply aW;simp[hC,wi];refine⟨l.length-(i+1),by omega,aa.trim [5,3,2] [0,1] 2 yBv yA ⟨i+1,rfl,by omega,hf,?_⟩⟩;simp
  ·have PS:i=l.length:=by omega
   rw[PS,List.drop_length,nJ] at hf;have Q3:=hf;apply aU;simp[hC,PJ];refine bh ?_;simp;apply T.exit;simp;apply aj;simp[hC];apply T.ret;apply aa.here;simp[Tryz.results138,Q3]
def J33B (l:List Is)(m:Nat)(Yq:Ob)(Y:CV)(p:Int)(ls:List Int)(n:Nat)(s:St):Prop:=∃ i:Nat,n=l.length-i∧i≤l.length∧nJ l p ls 0=nJ (l.drop i) p ls i∧s=⟨[(5,I i),(3,.av 3 0),(2,.av 2 0)],[(2,⟨34,0,[.bj 0 0 l.length,.bj 1 0 m,Y]⟩),(3,⟨90,0,[I p,ints ls]⟩),(0,fC l),(1,Yq)],4⟩
set_option maxHeartbeats 4000000 in
theorem vK (l:List Is)(hl:l.length≤100000)(TK:∀ x∈l,x.bx.length≤100000)(m:Nat)(Yq:Ob)(WM:trees Yq.cells=true)(Y:CV)(hY:tree Y=true)(p:Int)(ls:List Int) :
  Body Tryz.prog au 138 [.agg [.bj 0 0 l.length,.bj 1 0 m,Y],.agg [I p,ints ls]] [(0,fC l),(1,Yq)] 2 (iy (I (nJ l p ls 0)) [(0,fC l),(1,Yq)] 2):=by
 have Yw:tree (ints ls)=true:=by simp[ints,tree]
 refine Body.iV Tryz.func138 rfl PH (by simp[Tryz.ntmps138]) fun C hC PN=>?_;rw[Tryz.ntmps138] at hC;apply aj;simp[hC,fC];apply aU;simp[hC];apply T.block;refine T.aJ (J33B l m Yq Y p ls) (n:=l.length) ?_ ?_
 ·refine aa.trim [5,3,2] [2,3,0,1] 4 yCa yA ⟨0,by omega,by omega,rfl,?_⟩;simp[fC]
 ·rintro n s ⟨i,rfl,hi,hf,rfl⟩;by_cases PJ:i<l.length
  ·obtain⟨y,hy⟩:∃ y,l[i]? = some y:=⟨l[i],List.getElem?_eq_getElem PJ⟩;have hd:l.drop i=y::l.drop (i+1):=by
    rw[List.drop_eq_getElem_cons PJ,(List.getElem?_eq_some_iff.1 hy).2]
   rw[hd,nJ] at hf;have PL:=aO (f:=df) (n:=2) fk hy;have Rz:=bS (f:=df) (n:=2) fk hy 1 yA;have wi:=cE ((i:Int)+1) yA yA;have R7:=qH (y.bx.map fun n:Nat=>(n:Int)) ls (by have:=TK y (List.mem_of_getElem? hy);simp;omega);rw[← na] at R7;have PU:trees [aA y.bx,ints ls]=true:=by simp only[trees,aD,Yw,Bool.and_self]
   apply aU;simp[hC,PJ];refine gQ ?_;simp;apply dZ;refine T.cut (fun s=>s=⟨(32,.bool (nC y p ls))::[(5,I i),(3,.av 3 0),(2,.av 2 0)],[(2,⟨34,0,[.bj 0 0 l.length,.bj 1 0 m,Y]⟩),(3,⟨90,0,[I p,ints ls]⟩),(0,fC l),(1,Yq)],4⟩) ?_ ?_
   ·refine T.rx ah follows [0,1,2,3,4,5,6,7,8,9,10,11,12,13,14,15,16,17,18,19] [] PH ?_;by_cases hp:(y.proc:Int)=p
    ·have T2:nC y p ls=decide ((y.bx.map fun n:Nat=>(n:Int))=ls):=by simp[nC,hp]
     simp[hC,PJ,PL,Rz,df,hp,fC];refine RX.call rfl rfl rfl rfl rfl PU R7 ?_;simp;refine aa.trim [32,5,3,2] [2,3,0,1] 4 yCa yA ?_;simp[T2]
    ·have T2:nC y p ls=false:=by simp[nC,hp]
     have RY:((y.proc:Int) == p)=false:=by simpa using hp
     simp[hC,PJ,PL,df,RY,fC];refine aa.trim [32,5,3,2] [2,3,0,1] 4 yCa yA ?_;simp[T2]
   rintro s rfl
   cases hr:nC y p ls with
   | true=>
    rw[if_pos hr] at hf;refine fx ?_;simp;apply aj;simp[hC];apply T.ret;have Q3:=hf;simp;refine aa.trim [4] [0,1] 2 (by simp[-List.all_eq_true,af WM,af (aF bV l),fC]) yA ⟨_,?_,rfl,?_,rfl⟩
    ·simp[Tryz.results138,Q3]
    ·simp[fC]
   | false=>
    rw[if_neg (by simp[hr])] at hf;refine gO ?_;simp;apply aW;simp[hC,wi];refine⟨l.length-(i+1),by omega,aa.trim [5,3,2] [2,3,0,1] 4 (by simp[-List.all_eq_true,-List.all_flatMap,a6 4 _ hY,af (aF bV l),a6 4 _ Yw,af WM,fC]) yA ⟨i+1,rfl,by omega,hf,?_⟩⟩;simp[fC]
  ·have PS:i=l.length:=by omega
   rw[PS,List.drop_length,nJ] at hf;have Q3:=hf;apply aU;simp[hC,PJ];refine bh ?_;simp;apply T.exit;simp;apply aj;simp[hC];apply T.ret;refine aa.trim [4] [0,1] 2 (by simp[-List.all_eq_true,af WM,af (aF bV l),fC]) yA ⟨_,?_,rfl,?_,rfl⟩
   ·simp[Tryz.results138,Q3]
   ·simp[fC]
end Go.Proofs.YtnecpnjdonibmaaGreat
namespace Go.aP
open Go.Can
theorem pe:∀ {a b:List Nat},(a.map fun n:Nat=>(n:Int))=b.map (fun n:Nat=>(n:Int))→a=b
 | [],[],_=>rfl
 | [],_::_,h=>by simp at h
 | _::_,[],h=>by simp at h
 | x::a,y::b,h=>by
  simp only[List.map_cons,List.cons.injEq] at h;rw[pe h.2];congr 1;omega
theorem Jw (y x:Is):nC y x.proc (x.bx.map fun n:Nat=>(n:Int))=decide (y=x):=by
 by_cases h:y=x
 ·subst h;simp[nC]
 ·have:¬ ((y.proc:Int)=x.proc∧(y.bx.map fun n:Nat=>(n:Int))=x.bx.map fun n:Nat=>(n:Int)):=fun⟨h1,h2⟩=>by
   apply h;cases y;cases x;simp only at h1 h2;rw[pe h2];congr 1;omega
  simp only[h,decide_false,nC]
  simpa using this
theorem ya (x:Is):∀ (l:List Is) (k:Nat),nJ l x.proc (x.bx.map fun n:Nat=>(n:Int)) k=if x∈l then ((fJ l x+k:Nat):Int) else -1
 | [],k=>by simp[nJ]
 | y::r,k=>by
  have ih:=ya x r (k+1);rw[nJ,Jw];by_cases h:y=x
  ·subst h;simp[fJ,List.findIdx_cons]
  ·have h':¬ x=y:=fun e=>h e.symm;simp only[h,decide_false,Bool.false_eq_true,if_false,List.mem_cons,h',false_or];have:((k:Int)+1)=((k+1:Nat):Int):=by simp
   rw[this,ih];split
   ·have:fJ (y::r) x=fJ r x+1:=by simp[fJ,List.findIdx_cons,h]
    rw[this];congr 1;omega
   ·rfl
end Go.aP
namespace Go.Proofs.YtnecpnjdonibmaaGreat
open Go.Can Go.aP
def jO (cs:List (List Int)):Ob:=⟨22,1,cs.map ints⟩
theorem kK (l:List Int):tree (ints l)=true:=by simp[ints,tree]
theorem sP (cs:List (List Int)):trees (cs.map ints)=true:=by
 induction cs with
 | nil=>rfl
 | cons a r ih=>rw[List.map_cons,trees,ih,kK];rfl
def nL (n m:Nat)(r:List Nat):Ob:=⟨34,0,[.bj 3 0 n,.bj 4 0 m,aA r]⟩
def iP:Ob:=⟨34,0,[.ai,.ai,.ai]⟩
@[simp] theorem Hv (l:List Is)(n:Nat):(fC l).cells.all (a7 n)=true:=af (aF bV l) n
@[simp] theorem isOb_ltS (l:List Is)(n:Nat):aS n (fC l).cells=true:=by rw[cr];exact Hv l n
@[simp] theorem isOb_rnm (ρ:Nat→Nat)(l:List Is):ct ρ (fC l)=fC l:=cL _ _ _ (aF bV l)
@[simp] theorem H9 (l:List (List Int))(n:Nat):(jO l).cells.all (a7 n)=true:=af (sP l) n
@[simp] theorem csOb_ltS (l:List (List Int))(n:Nat):aS n (jO l).cells=true:=by rw[cr];exact H9 l n
@[simp] theorem csOb_rnm (ρ:Nat→Nat)(l:List (List Int)):ct ρ (jO l)=jO l:=cL _ _ _ (sP l)
theorem uc (d:List Int)(n:Nat):trees (d.map I++List.replicate n (I 0))=true:=by
 rw[bF,iC,Bool.true_and]
 induction n with
 | zero=>rfl
 | succ n ih=>rw[List.replicate_succ,trees,ih];rfl
def xX (d:List Int)(n:Nat):Ob:=⟨3,1,d.map I++List.replicate n (I 0)⟩
@[simp] theorem Hc (d:List Int)(n k:Nat):(xX d n).cells.all (a7 k)=true:=af (uc d n) k
@[simp] theorem mkOb_ltS (d:List Int)(n k:Nat):aS k (xX d n).cells=true:=by rw[cr];exact Hc d n k
theorem JV (d:List Int)(n:Nat)(v:CV):List.take d.length (d.map I++List.replicate (n+1) (I 0))++v::List.drop (d.length+1) (d.map I++List.replicate (n+1) (I 0))=d.map I++v::List.replicate n (I 0):=by
 rw[List.take_append,List.drop_append,List.take_of_length_le zX,List.drop_of_length_le zX];simp[List.replicate_succ]
structure uU (u:Un)(l:List Is):Prop where
 nd:l.Nodup
 v:∀ x∈l,pV u x
def ClH (u:Un)(l:List Is)(cs:List (List Int))(r:List Nat):List (Nat×Ob):=[(0,⟨30,0,dh u⟩),(1,iP),(2,nL l.length cs.length r),(3,fC l),(4,jO cs)]
structure InvI (u:Un)(x:Is)(i:Nat)(l:List Is)(r:List Nat)(code:List In)(pc:Nat)(l':List Is)(r':List Nat)(d:List Int):Prop where
 jN:pc≤code.length
 c:uU u l'
 at_:l'[i]? = some x
 rl:r'.length≤200*(i+1)+pc
 dl:d.length=pc
 e1:(gw x code l r).1=(gw x (code.drop pc) l' r').1
 e2:(gw x code l r).2.1=d++(gw x (code.drop pc) l' r').2.1
 e3:(gw x code l r).2.2=(gw x (code.drop pc) l' r').2.2
def iE (i sites:Nat)(code:List In)(pc:Nat):List (Nat×CV):=[(9,I pc),(8,.bj 5 0 code.length),(7,.az (code.flatMap dd) code.length),(6,I i),(5,I sites),(4,.av 2 0),(2,.av 1 0),(1,.av 0 0)]
def iH (u:Un)(cs:List (List Int))(l':List Is)(r':List Nat)(d:List Int)(n:Nat):List (Nat×Ob):=[(0,⟨30,0,dh u⟩),(1,iP),(2,nL l'.length cs.length r'),(3,fC l'),(4,jO cs),(5,xX d n)]
def J36i (u:Un)(x:Is)(i sites:Nat)(l:List Is)(cs:List (List Int))(r:List Nat)(code:List In)(m:Nat)(s:St):Prop:=∃ pc l' r' d,m=code.length-pc∧InvI u x i l r code pc l' r' d∧
 s=⟨iE i sites code pc,iH u cs l' r' d (code.length-pc),6⟩
def J36 (u:Un)(m:Nat)(s:St):Prop:=∃ i l cs r,m=100-i∧i≤l.length∧cs.length=i∧r.length≤200*(i+1)∧uU u l∧lE u (100-i) i l cs r=ak u∧
 s=⟨[(6,I i),(5,I ((l.take i).map fun x=>(aq u x).length).sum),(4,.av 2 0),(2,.av 1 0),(1,.av 0 0)],ClH u l cs r,5⟩
set_option maxHeartbeats 4000000 in
theorem Ea (u:Un)(hu:ik u):ae Tryz.prog 69 [ef u] (.dH [jj (ak u),I 0]):=by
 have PO:=bO u;have ZR:=hu.main;have hcl0:uU u [⟨u.main,[]⟩]:=⟨by simp,fun x hx=>by
  rw[List.mem_singleton] at hx;subst hx;have UU:=hu.np;obtain⟨q,hq⟩:∃ q,u.ps[0]? = some q:=⟨_,List.getElem?_eq_getElem yA⟩;exact⟨⟨q,by simp only;rw[ZR];exact hq,by simp[(hu.p0 q hq).2]⟩,by simp⟩⟩
 have RQ:tree (.dH [jj (ak u),I 0])=true:=by
  simp only[tree,trees,jj,fp,aD,Bool.and_true]
 refine ae.aM ah Tryz.func69 rfl PH (by simp[Tryz.ntmps69]) RQ fun C hC PN=>?_;rw[Tryz.ntmps69] at hC;simp only[ef,dh,ints];apply aj;simp[hC];apply aj;simp[hC,aX];apply aj;simp[hC];apply aU;simp[hC];apply T.block;refine T.aJ (J36 u) (n:=100) ?_ ?_
 ·have tgs:trees (u.gs.map (CV.int .i64))=true:=iC u.gs;refine aa.le (Le.trim [6,5,4,2,1] [4,3,2,1,0] 5 SK yA) ?_;simp;refine aa.le (Le.dz (o:=3) rfl rfl) ?_;simp;refine aa.le (Le.nz [] [2]) ?_;simp;refine aa.le (Le.oo 4 1 22 1 rfl rfl) ?_;simp;refine aa.le (Le.norm [6,5,4,2,1] [(0,0),(1,1),(4,2),(2,3),(5,4)] 0 5 Rm Rl yBw yA) ?_;simp[dC,ct,cq,dR,gf,assoc];refine aa.here ⟨0,[⟨u.main,[]⟩],[],[0],by omega,by simp,rfl,by simp,hcl0,rfl,?_⟩;simp[ClH,dh,ints,iP,nL,fC,jO,df,aA]
 ·rintro n s ⟨i,l,cs,r,rfl,hi,hci,Uj,hI,hS,rfl⟩;have hl49:=jD hu hI.nd hI.v;have hsites:=BH hu hI.nd hI.v;have tgs:trees (u.gs.map (CV.int .i64))=true:=iC u.gs;have Yx:=aF bV l;have R0:=sP cs;simp only[ClH,dh,ints,iP,nL];by_cases PJ:i<l.length
  ·obtain⟨x,hx⟩:∃ x,l[i]? = some x:=⟨l[i],List.getElem?_eq_getElem PJ⟩;have Y7:=hI.v x (List.mem_of_getElem? hx);obtain⟨⟨pq,Qe,TK⟩,hlm⟩:=id Y7;have PK:aq u x=pq.code:=by simp only[aq,Qe]
   have Qy:=(List.getElem?_eq_some_iff.1 Qe).1;have Ur:=bS (f:=nD) (n:=5) gD Qe 4 yA;have hlen:=(hu.pr pq (List.mem_of_getElem? Qe)).2.2.2.2;have R8:=aO (f:=df) (n:=2) fk hx;have PY:l.take (i+1)=l.take i++[x]:=by rw[List.take_add_one,hx];rfl
   have Zi:((l.take (i+1)).map fun x=>(aq u x).length).sum=((l.take i).map fun x=>(aq u x).length).sum+pq.code.length:=by
    rw[PY,List.map_append,List.sum_append];simp[PK]
   have hsum2:((l.take (i+1)).map fun x=>(aq u x).length).sum≤7105:=by
    have:=List.take_append_drop (i+1) l;have h2:(l.map fun x=>(aq u x).length).sum=((l.take (i+1)).map fun x=>(aq u x).length).sum+((l.drop (i+1)).map fun x=>(aq u x).length).sum:=by
     rw[← List.sum_append,← List.map_append,this]
    omega
   generalize hG:((l.take i).map fun x=>(aq u x).length).sum=sites at Zi;have wi:=cE ((i:Int)+1) yA yA;have ws:=cE ((sites:Int)+(pq.code.length:Int)) yA yA;have UL:¬ (256:Int)≤(i:Int):=by omega
   have RE:¬ (8000:Int)<(sites:Int)+(pq.code.length:Int):=by omega
   apply aU;simp[hC,PJ,fC];refine gQ ?_;simp;apply dZ;apply T.seq;refine T.rx ah follows [0,1,2,3,4,5,6,7,8,9,10,11] [] PH ?_;simp[hC,PJ,R8,df,Qy,Ur,nD];apply aj;simp[hC,ws];apply aU;simp[hC,UL,RE];refine gO ?_;simp;have S8:8*(pq.code.length:Int)≤281474976710656:=by omega
   have Re:(pq.code.length:Int)≤9223372036854775807:=by omega
   apply aj;simp[hC,S8,Re];apply aU;simp[hC];have WY:=b9 pq.code;have WU:lE u (100-(i+1)) (i+1) (gw x pq.code l r).1 (cs++[(gw x pq.code l r).2.1]) (gw x pq.code l r).2.2=ak u:=by
    rw[← hS];have:100-i=(100-(i+1))+1:=by omega
    rw[this,lE,hx];simp only[PK]
   obtain⟨ext,Z8⟩:=rV x pq.code l r;have W4:(((gw x pq.code l r).1.take (i+1)).map fun x=>(aq u x).length).sum=sites+pq.code.length:=by
    rw[Z8,List.take_append_of_le_length yA];exact Zi
   refine T.cutL (fun s=>∃ d,(gw x pq.code l r).2.1=d∧d.length=pq.code.length∧uU u (gw x pq.code l r).1∧(gw x pq.code l r).2.2.length≤200*(i+1)+145∧i<(gw x pq.code l r).1.length∧s=⟨[(8,.bj 5 0 pq.code.length),(6,I i),(5,I (sites+pq.code.length:Nat)),(4,.av 2 0),(2,.av 1 0),(1,.av 0 0)],iH u cs (gw x pq.code l r).1 (gw x pq.code l r).2.2 d 0,6⟩) ?_ ?_
   ·apply T.block;refine T.aJ (J36i u x i (sites+pq.code.length) l cs r pq.code) (n:=pq.code.length) ?_ ?_
    ·have YZ:trees (List.replicate pq.code.length (CV.int .i64 0))=true:=uc [] pq.code.length;refine aa.le (Le.norm [9,8,7,6,5,4,2,1] [(0,0),(1,1),(2,2),(3,3),(4,4),(17,5)] 0 6 Rm Rl (by simp[dD,um,p4,tree,assoc,-List.all_eq_true,-List.all_flatMap,jO,aH R0,aH Yx,aA,aH YZ]) yA) ?_;simp[dC,ct,cq,dR,gf,assoc,jO,ay _ _ R0,ay _ _ Yx,aA,ay _ _ YZ];refine aa.here ⟨0,l,r,[],by omega,⟨by omega,hI,hx,by omega,rfl,rfl,rfl,rfl⟩,?_⟩;simp[iE,iH,iP,nL,xX,fC,dh,ints,jO,aA]
    ·rintro n s ⟨pc,l',r',d,rfl,hV,rfl⟩;obtain⟨v1,v2,v3,v4,v5,v6,v7,v8⟩:=hV;simp only[iE,iH];by_cases jN:pc<pq.code.length
     ·obtain⟨ins,WD⟩:∃ ins,pq.code[pc]? = some ins:=⟨_,List.getElem?_eq_getElem jN⟩;have hdn:pq.code.drop pc=ins::pq.code.drop (pc+1):=by
       rw[List.drop_eq_getElem_cons jN,(List.getElem?_eq_some_iff.1 WD).2]
      rw[hdn] at v6 v7 v8;have R4:qz u x (pc:Int)=jn x ins:=by
       have:¬ (pc:Int)<0:=by omega
       simp[qz,PK,WD,this]
      have Ut:=Bp u hu x Y7 pc;rw[R4] at Ut;have PU:trees [ef u,.agg (df x),I pc]=true:=by
       simp only[trees,ef,tree,PO,bV,Bool.and_self]
      have hdi':=aO (f:=df) (n:=2) fk v3;have X6:=(List.getElem?_eq_some_iff.1 v3).1;have Wx:pc+1≤pq.code.length:=by omega
      have RU:=cE ((pc:Int)+1) yA yA;have hl49':=jD hu v2.nd v2.v;have Va:=aF bV l';obtain⟨n',UD⟩:∃ n',pq.code.length-pc=n' + 1:=⟨pq.code.length-pc-1,by omega⟩;have Qi:=fun v=>JV d n' v;rw[v5] at Qi;have VK:(d.map I++List.replicate (n' + 1) (I 0)).length=pq.code.length:=by simp;omega
      rw[UD];simp only[xX];have tD:=uc d (n' + 1);generalize hDe:d.map I++List.replicate (n' + 1) (I 0)=D at Qi VK tD;simp only[dh,ints,ef,df] at Ut PU;simp only[dh,ints,iP,nL];apply aU;simp[hC,jN];refine gQ ?_;simp;apply dZ;apply T.seq;refine T.rx ah follows [0,1,2,3,4,5,6,11,7,8,9,10,12,13] [(0,11),(2,11),(5,11),(11,7)] PH ?_;simp[hC,X6,hdi',fC,df];refine RX.call rfl rfl rfl rfl rfl PU Ut ?_
      cases Ub:jn x ins with
      | none=>
       simp only[Ub,gw] at v6 v7 v8;simp[yx];apply aU;simp[hC];refine fx ?_;simp;apply aj;simp[hC,jN,Wx,VK,Qi];apply T.exit;simp;apply aW;simp[hC,RU];have tN:trees (d.map I++(I (-1)::List.replicate n' (I 0)))=true:=by
        simp
       refine⟨pq.code.length-(pc+1),by omega,aa.trim [9,8,7,6,5,4,2,1] [0,1,2,3,4,5] 6 (by simp[-List.all_eq_true,-List.all_flatMap,af Va,a6 6 _ (aD r'),af tN]) yA ⟨pc+1,l',r',d++[-1],rfl,⟨by omega,v2,v3,by omega,by simp[v5],v6,by rw[v7];simp,v8⟩,?_⟩⟩;have SP:pq.code.length-(pc+1)=n':=by omega
       rw[SP];simp[iE,iH,iP,nL,xX,fC,dh,ints]
      | some y=>
       have hyv:=BY hu Y7 (by rw[PK];exact List.mem_of_getElem? WD) Ub;simp only[Ub,gw] at v6 v7 v8;simp[yx,df];apply aU;simp[hC];refine gO ?_;simp;have hf:=vK l' yA (fun z hz=>by
        obtain⟨⟨q,hq,hl⟩,_⟩:=v2.v z hz;have:=(hu.pr q (List.mem_of_getElem? hq)).2.1;omega) cs.length (jO cs) R0 (aA r') (aD r') y.proc (y.bx.map fun n:Nat=>(n:Int))
       have WG:nJ l' y.proc (y.bx.map fun n:Nat=>(n:Int)) 0=if y∈l' then ((fJ l' y:Nat):Int) else -1:=by simpa using ya y l' 0
       rw[← na,WG] at hf;refine T.le (Le.norm [10,9,8,7,6,5,4,2,1] [(0,0),(1,1),(2,2),(3,3),(4,4),(5,5),(17,6)] 0 7 Rm Rl (by simp[dD,um,p4,tree,assoc,-List.all_eq_true,-List.all_flatMap,jO,aH R0,aH Va,aA,aH tD]) yA) ?_;simp[dC,ct,cq,dR,gf,assoc,jO,ay _ _ R0,ay _ _ Va,aA,ay _ _ tD];have tny:=aC y.bx;have tnr:=aC r';refine T.cut (fun s=>s=⟨(10,.av 6 0)::iE i (sites+pq.code.length) pq.code pc,[(0,⟨30,0,dh u⟩),(1,iP),(2,nL (ec l' y).length cs.length r'),(3,fC (ec l' y)),(4,jO cs),(5,⟨3,1,D⟩),(6,⟨90,0,df y⟩)],7⟩) ?_ ?_
       ·have UI:(⟨90,2,l'.flatMap df⟩:Ob)=fC l':=rfl;have TE:(⟨22,1,cs.map ints⟩:Ob)=jO cs:=rfl;simp only[UI,TE];simp only[aA] at hf;apply aj;simp[hC];refine TL.uJ ah [3,4] [3,4] 2 0 hf rfl (by rfl) PV rfl rfl (by simp[bl,ev,assoc,cq,dR,cH]) (by simp[dX,assoc,cb,cH]) (by simp[aS,a7]) (by simp[cT]) rfl (by simp[kF,cb,cH,dy,iY]) (TL.go' ah ?_);by_cases hym:y∈l'
        ·have WT:ec l' y=l':=if_pos hym;have XS:¬ ((fJ l' y:Nat):Int)<0:=by omega
         simp[hC,cH,hym,XS];refine gO ?_;simp;refine aa.trim [10,9,8,7,6,5,4,2,1] [0,1,2,3,4,5,6] 7 (by simp[-List.all_eq_true,-List.all_flatMap,af tD]) yA ?_;rw[WT];simp[iE,iP,nL,dh,ints,df,aA]
        ·have WT:ec l' y=l'++[y]:=if_neg hym;have T8:=bk (f:=df) (n:=2) fk l';have TQ:(l'.length+1)*32≤140737488355328:=by omega
         simp[hC,cH,hym];refine fx ?_;simp;apply aW;simp[hC,fC,T8,TQ,aX];have tN:trees (l'.flatMap df++[.int .i64 y.proc,.az (y.bx.map fun n:Nat=>I n) y.bx.length])=true:=by
          rw[bF,Va];simp[trees,tree]
         have P4:=aH tN;have Sx:=fun ρ=>ay ρ _ tN;refine aa.le (Le.norm [10,9,8,7,6,5,4,2,1] [(0,0),(1,1),(2,2),(8,3),(4,4),(5,5),(6,6)] 0 7 Rm Rl (by simp[dD,um,p4,tree,assoc,-List.all_eq_true,-List.all_flatMap,P4,jO,aH R0,aH tD]) yA) ?_;simp[dC,ct,cq,dR,gf,assoc,Sx,jO,ay _ _ R0,ay _ _ tD];apply aa.here;rw[WT];simp[iE,iP,nL,dh,ints,df,aA]
       ·rintro s rfl;have UO:uU u (ec l' y):=⟨lN v2.nd,B8 v2.v hyv⟩;have Q0:=jD hu UO.nd UO.v;have Uq:=vK (ec l' y) yA (fun z hz=>by
         obtain⟨⟨q,hq,hl⟩,_⟩:=UO.v z hz;have:=(hu.pr q (List.mem_of_getElem? hq)).2.1;omega) cs.length (jO cs) R0 (aA r') (aD r') y.proc (y.bx.map fun n:Nat=>(n:Int))
        have X9:nJ (ec l' y) y.proc (y.bx.map fun n:Nat=>(n:Int)) 0=((fJ (ec l' y) y:Nat):Int):=by
         have:=ya y (ec l' y) 0;rw[if_pos (AH l' y),Nat.add_zero] at this;exact this
        rw[← na,X9] at Uq;have QO:=KD (x:=y) v3;generalize ec l' y=L at v6 v7 v8 UO Q0 Uq X9 QO;generalize hk:fJ L y=k at v6 v7 v8 Uq X9;have Wm:=aF bV L;have tN:trees (d.map I++(I k::List.replicate n' (I 0)))=true:=by
         simp
        have hdd:List.drop pc (d.map I++(I k::List.replicate n' (I 0)))=I k::List.replicate n' (I 0):=by
         rw[← v5];have:(d.map I).length=d.length:=by simp
         rw[← this,List.drop_left]
        have W3:=Gw r' k yA;have WZ:trees [aA r',I k]=true:=by simp only[trees,aD,tree,Bool.and_self]
        have V1:(gz r' k).length≤r'.length+1:=by
         unfold gz;split
         ·omega
         ·simp;omega
        simp only[iE,nL,df,aA] at Uq ⊢;have QL:=aO (f:=dd) (n:=12) fo WD;obtain⟨xc,QJ,_⟩:=ku ins;rw[QJ] at QL;apply aj;simp[hC];refine TL.uJ ah [3,4] [3,4] 2 0 Uq rfl (by rfl) PV rfl rfl (by simp[bl,ev,assoc,cq,dR,cH]) (by simp[dX,assoc,cb,cH]) (by simp[aS,a7]) (by simp[cT]) rfl (by simp[kF,cb,cH,dy,iY]) (TL.go' ah ?_);simp[hC,cH,jN,Wx,VK,Qi];have XQ:(qj ins == 3)=qq ins:=by
         cases ins with
         | call g _ _ _=>cases g<;>rfl
         | _=>simp[jn] at Ub
        have tnw:=aC (gz r' k);have SP:pq.code.length-(pc+1)=n':=by omega
        apply aj;simp[hC,jN,QL,XQ]
        cases Z4:qq ins with
        | true=>
         simp only[Z4,if_true] at v6 v7 v8;refine T.cond (b:=true) RN ?_;simp;refine T.rx ah follows [0,1,2,3,4,5,6,7,8] [] PH ?_;simp[hC,jN,hdd];simp only[aA] at W3 WZ;refine RX.call rfl rfl rfl rfl rfl WZ W3 ?_;simp;apply aW;simp[hC,RU];refine⟨pq.code.length-(pc+1),by omega,aa.trim [9,8,7,6,5,4,2,1] [0,1,2,3,4,5] 6 (by simp[-List.all_eq_true,-List.all_flatMap,af PO,af tN,iP]) yA ⟨pc+1,L,gz r' k,d++[(k:Int)],rfl,⟨by omega,UO,QO,by omega,by simp[v5],v6,by rw[v7];simp,v8⟩,?_⟩⟩;rw[SP];simp[iE,iH,iP,nL,xX,fC,dh,ints,aA]
        | false=>
         simp only[Z4,Bool.false_eq_true,if_false] at v6 v7 v8;refine T.cond (b:=false) RN (T.skip ?_);simp;apply aW;simp[hC,RU];refine⟨pq.code.length-(pc+1),by omega,aa.trim [9,8,7,6,5,4,2,1] [0,1,2,3,4,5] 6 (by simp[-List.all_eq_true,-List.all_flatMap,af PO,af tN,iP]) yA ⟨pc+1,L,r',d++[(k:Int)],rfl,⟨by omega,UO,QO,by omega,by simp[v5],v6,by rw[v7];simp,v8⟩,?_⟩⟩;rw[SP];simp[iE,iH,iP,nL,xX,fC,dh,ints,aA]
     ·have RY:pc=pq.code.length:=by omega
      subst RY;rw[List.drop_length] at v6 v7 v8;simp only[gw,List.append_nil] at v6 v7 v8;have T8:=jD hu v2.nd v2.v;have Va:=aF bV l';have tnr:=aC r';rw[Nat.sub_self];have tD:=uc d 0;apply aU;simp[hC];refine bh ?_;simp;apply T.exit;simp;refine aa.trim [8,6,5,4,2,1] [0,1,2,3,4,5] 6 (by simp[-List.all_eq_true,-List.all_flatMap,af PO,iP,nL,aA]) yA ?_;simp only[v6,v7,v8];refine⟨v5,v2,by omega,(List.getElem?_eq_some_iff.1 v3).1,?_⟩;simp
   ·rintro s ⟨d,hd,VK,UO,Qg,Q6,rfl⟩;have Q0:=jD hu UO.nd UO.v;rw[hd] at WU;generalize (gw x pq.code l r).1=L at UO Q6 Q0 WU W4 ⊢;generalize (gw x pq.code l r).2.2=R at Qg WU ⊢;clear hd Z8;have Wm:=aF bV L;simp only[thenS,iH];have tD:=uc d 0;simp only[List.replicate_zero,List.append_nil] at tD;have tkD:List.take pq.code.length (d.map I)=d.map I:=List.take_of_length_le Ru;have TQ:(cs.length+1)*24≤140737488355328:=by omega
    have PX:(cs.map ints).length=cs.length:=by simp
    have hints:(CV.az (d.map I) pq.code.length)=ints d:=by rw[ints,VK]
    have tnr:=aC R;have tN:trees (cs.map ints++[ints d])=true:=by rw[bF,R0,trees,kK];rfl
    simp only[xX,List.replicate_zero,List.append_nil];refine T.le (Le.dz (o:=5) rfl tD) ?_;simp[tkD,cW R0,cW Wm,jO,fC,nL,iP,aA,cW PO];rw[hints];apply aW;simp[hC,PX,TQ,aX];apply aW;simp[hC,wi];have P4:=aH tN;have Sx:=fun ρ=>ay ρ _ tN;refine⟨100-(i+1),by omega,?_⟩;refine aa.le (Le.norm [6,5,4,2,1] [(0,0),(1,1),(2,2),(3,3),(7,4)] 0 5 Rm Rl (by simp[dD,um,p4,tree,assoc,-List.all_eq_true,-List.all_flatMap,P4,aH PO,aH Wm]) yA) ?_;simp[dC,ct,cq,dR,gf,assoc,Sx,ay _ _ PO,ay _ _ Wm];refine aa.here ⟨i+1,L,cs++[d],R,by omega,by omega,by simp[hci],by omega,UO,WU,?_⟩;rw[W4];simp[ClH,iP,nL,fC,jO,aA]
  ·have PS:i=l.length:=by omega
   have P8:ak u=⟨l,cs,r⟩:=by
    rw[← hS];have h1:l[i]? = none:=by rw[List.getElem?_eq_none_iff];omega
    obtain⟨k,hk⟩:∃ k,100-i=k+1:=⟨99-i,by omega⟩;rw[hk,lE,h1]
   have tnr:=aC r;have tkI:List.take (l.length*2) (l.flatMap df)=l.flatMap df:=List.take_of_length_le (by rw[bk (f:=df) (n:=2) fk];omega);have tkC:List.take cs.length (cs.map ints)=cs.map ints:=List.take_of_length_le zX;apply aU;simp[hC,PJ,fC];refine bh ?_;simp;apply T.exit;simp;apply aj;simp[hC];apply T.ret;rw[P8];refine aa.le (Le.trim [3,2] [1,3,4] 5 (by simp[-List.all_eq_true,-List.all_flatMap,af Yx,af R0,aA,jO]) yA) ?_;simp[aA];refine aa.le (Le.dz (o:=3) rfl Yx) ?_;simp[tkI,cW R0,jO];refine aa.le (Le.dz (o:=4) rfl R0) ?_;simp[tkC];apply aa.here;simp[jj,fp,aA]
theorem zD (l:List Int):ik (kJ (C2 l)):=by
 have h:=KU l;refine h.unit (fun f hf=>?_) fun f hf=>?_
 ·have h1:=BF (List.mem_map_of_mem (f:=fun f:Fu=>bH f.body) hf);have h2:=h.wt;omega
 ·obtain⟨k,hk,e⟩:=h.pn f hf;have h5:=congrArg List.length e;simp only[List.length_map,List.length_reverse,List.length_take,nP,List.length_cons,List.length_nil] at h5;omega
theorem I8 (l:List Int)(hl:l.length≤9223372036854775807):ae Tryz.prog 15 [ints l] (.dH [vS (C2 l),ef (kJ (C2 l)),jj (ak (kJ (C2 l)))]):=by
 have hp:=Bs l hl;have Ty:=Hm (C2 l) (KU l);have PX:=Ea (kJ (C2 l)) (zD l);generalize kJ (C2 l)=u at Ty PX;generalize C2 l=p at hp Ty;generalize ak u=c at PX;have PO:=bO u;obtain⟨t1,t2,t3⟩:=iA p;have tp:trees (dU p)=true:=by simp only[dU,trees,t1,t2,t3];rfl
 have tc:trees (fp c)=true:=by simp only[fp,trees,tree,aD];rfl
 have RQ:tree (.dH [vS p,ef u,jj c])=true:=by simp only[tree,trees,vS,ef,jj,tp,PO,tc];rfl
 refine ae.aM ah Tryz.func15 rfl PH (by simp[Tryz.ntmps15]) RQ fun C hC PN=>?_;rw[Tryz.ntmps15] at hC;have ta1:trees [ints l]=true:=by simp only[trees,kK,Bool.and_self]
 have ta2:trees [vS p]=true:=by simp only[trees,tree,vS,tp,Bool.and_self]
 have ta3:trees [ef u]=true:=by simp only[trees,tree,ef,PO,Bool.and_self]
 simp only[vS,dU,ef,dh,jj,fp] at hp Ty PX ta2 ta3 ⊢;apply aj;simp[hC];apply aj;simp[hC];refine dQ ta1 hp ?_;simp[hC];apply aj;simp[hC];refine dQ ta2 Ty ?_;simp[hC];apply aj;simp[hC];refine dQ ta3 PX ?_;simp[hC];apply T.seq;refine T.rx ah follows [0,1,2,3,4,5] [(1,3),(2,3),(2,4)] PH ?_;simp[hC];apply T.ret;apply aa.here;simp[Tryz.results15]
end Go.Proofs.YtnecpnjdonibmaaGreat
namespace Go.Can
open Go.RowKit
def wI:Value→Bool
 | .int .i64 n=>PB n
 | _=>false
theorem OU {v:Value}(h:wI v=true):∃ n,v=.int .i64 n∧(Lit.int .i64 n).wf=true:=by
 unfold wI at h;split at h
 ·rename_i n;refine⟨n,rfl,?_⟩;simp only[PB,Bool.and_eq_true,decide_eq_true_eq] at h;simp[Lit.wf,IntKind.min,IntKind.max,IntKind.signed,IntKind.bits];omega
 ·cases h
theorem mapM_some {α β:Type}{f:α→Option β}:∀ (l:List α),(l.mapM f).isSome=l.all fun x=>(f x).isSome
 | []=>by simp
 | x::r=>by
  rw[List.mapM_cons]
  cases h:f x with
  | none=>simp[h]
  | some y=>
   have:=mapM_some (f:=f) r
   cases h2:r.mapM f with
   | none=>simp[h,h2] at this ⊢;simpa using this
   | some z=>simp[h,h2] at this ⊢;simpa using this
theorem OG {P:Program}:∀ (d:Nat) (t:TypeId) (cs ds:List Value),cs.length=ds.length→(cs.all wI=true)→(ds.all wI=true)→(P.keyLits d t ds).isSome=true→(P.keyLits d t cs).isSome=true
 | 0,_,_,_,_,_,_,h=>by simp[Program.keyLits] at h
 | d+1,t,cs,ds,hl,hc,hd,h=>by
  have sub:∀ u n m,(P.keyLits d u ((ds.drop n).take m)).isSome=true→(P.keyLits d u ((cs.drop n).take m)).isSome=true:=fun u n m hs=>by
   refine OG d u _ _ (by simp[hl]) ?_ ?_ hs
   ·exact List.all_eq_true.2 fun x hx=>List.all_eq_true.1 hc x (List.mem_of_mem_drop (List.mem_of_mem_take hx))
   ·exact List.all_eq_true.2 fun x hx=>List.all_eq_true.1 hd x (List.mem_of_mem_drop (List.mem_of_mem_take hx))
  unfold Program.keyLits at h ⊢
  cases hu:P.underlying t with
  | none=>rw[hu] at h;simp at h
  | some u=>
   rw[hu] at h
   cases u with
   | array n e=>
    simp only[hl] at h ⊢;split at h
    ·rename_i he;rw[if_pos he];rw[Option.isSome_map,mapM_some] at h ⊢;exact List.all_eq_true.2 fun i hi=>sub _ _ _ (List.all_eq_true.1 h i hi)
    ·cases h
   | struct fs=>
    simp only[hl] at h ⊢;split at h
    ·rename_i he;rw[if_pos he];rw[Option.isSome_map,mapM_some] at h ⊢;exact List.all_eq_true.2 fun i hi=>sub _ _ _ (List.all_eq_true.1 h i hi)
    ·cases h
   | int q=>
    match ds,cs,hl,hc,hd,h with
    | [x],[y],_,hc,hd,h=>
     simp only[List.all_cons,List.all_nil,Bool.and_true] at hc hd;obtain⟨n,rfl,w1⟩:=OU hd;obtain⟨m,rfl,w2⟩:=OU hc;simp only at h ⊢;split at h
     ·rename_i he;obtain⟨rfl,_⟩:=he;rw[if_pos ⟨rfl,w2⟩];rfl
     ·cases h
    | [],_,_,_,_,h=>simp at h
    | _::_::_,_,_,_,_,h=>simp at h
   | bool=>
    cases ds with
    | nil=>simp at h
    | cons x r=>
     simp only[List.all_cons,Bool.and_eq_true] at hd;obtain⟨n,rfl,_⟩:=OU hd.1;simp at h
   | string=>
    cases ds with
    | nil=>simp at h
    | cons x r=>
     simp only[List.all_cons,Bool.and_eq_true] at hd;obtain⟨n,rfl,_⟩:=OU hd.1;simp at h
   | _=>simp at h
def OX (n:Nat):Value→Bool
 | .agg cs=>decide (cs.size=n) && cs.toList.all wI
 | _=>false
theorem OS {n:Nat}{v:Value}(h:OX n v=true):∃ cs,v=.agg cs∧cs.size=n∧cs.toList.all wI=true:=by
 unfold OX at h;split at h
 ·simp only[Bool.and_eq_true,decide_eq_true_eq] at h;exact⟨_,rfl,h⟩
 ·cases h
def O1 (P:Program)(m n:Nat)(t:TypeId):Bool:=P.keyTypeAt m t && P.tiled m t && (match P.underlying t with | some (.array _ _) | some (.struct _)=>true | _=>false) && P.keyType t && (P.cellsOf t == n) && (P.keyLits (P.types.size+1) t (List.replicate n (.int .i64 0))).isSome
theorem O0 {P:Program}{m n:Nat}{t:TypeId}(h:O1 P m n t=true){v:Value}(hv:OX n v=true):∃ l,keyOf P t v=some l:=by
 simp only[O1,Bool.and_eq_true,beq_iff_eq] at h;obtain⟨⟨⟨⟨⟨h1,h2⟩,h3⟩,h4⟩,h5⟩,h6⟩:=h;obtain⟨cs,rfl,hn,hw⟩:=OS hv;have hk:=OG (P:=P) (P.types.size+1) t cs.toList (List.replicate n (.int .i64 0)) (by simp[hn]) hw (by simp[List.all_replicate,wI,PB]) h6;obtain⟨L,hL⟩:=Option.isSome_iff_exists.1 hk;have hf:(Value.agg cs).formed P t=true:=by
  unfold Value.formed;split at h3<;>rename_i e<;>simp only[e,hn,h5,beq_self_eq_true] at h3 ⊢;cases h3
 have hif:(if P.keyType t && (Value.agg cs).formed P t then (P.keyLits (P.types.size+1) t (Value.agg cs).cells.toList).map fun ls=>Lit.string (keyBytes ls) else none)=some (.string (keyBytes L)):=by
  rw[if_pos (by rw[h4,hf];rfl),show (Value.agg cs).cells=cs from rfl,hL];rfl
 refine⟨_,Eq.trans ?_ hif⟩;unfold keyOf;split
 ·rfl
 ·rfl
 ·exfalso;split at h3
  ·simp_all
  ·simp_all
  ·cases h3
theorem Ph {n:Nat}{v:Value}(h:OX n v=true):Dz v=true:=by
 obtain⟨cs,rfl,_,hw⟩:=OS h;simp only[Dz];refine List.all_eq_true.2 fun x hx=>?_;obtain⟨k,rfl,_⟩:=OU (List.all_eq_true.1 hw x hx);rfl
theorem Po {P:Program}{m n:Nat}{t:TypeId}(hm:m+1≤10000)(h:O1 P m n t=true)(hg:P.eqGuardType P.depth t=false):PG P t (OX n):=by
 have h':=h;simp only[O1,Bool.and_eq_true,beq_iff_eq] at h';refine⟨fun w x y hx hy=>?_,hg,fun x hx=>(OS hx).imp fun _ h=>h.1⟩;obtain⟨lx,ex⟩:=O0 h hx;obtain⟨ly,ey⟩:=O0 h hy;obtain⟨r,hr,hi⟩:=run_equal_deep w (by omega:m≤10000) h'.1.1.1.1.1 h'.1.1.1.2 ex ey;have hq:(Op.equalIn 10000 t x y).run P w=.ok r w:=hr;rw[hq];congr 1;have Rn:r=true↔x=y:=by
  rw[hi];refine⟨fun e=>?_,fun e=>?_⟩
  ·subst e;exact keyOf_inj_deep h'.1.1.1.1.2 h'.1.1.1.2 ex ey
  ·subst e;rw[ex] at ey;exact Option.some.inj ey
 have hv:Fq x y=true↔x=y:=⟨sL,fun e=>by subst e;exact sK (Ph hx)⟩;cases r<;>cases hh:Fq x y<;>simp_all
end Go.Can
namespace Go.aP
open Go.Can
theorem wy {cs:List CV}(h:cs.length=11):∃ c1 c2 c3 c4 c5 c6 c7 c8 c9 VY VX,cs=[c1,c2,c3,c4,c5,c6,c7,c8,c9,VY,VX]:=by
 match cs,h with
 | [a,b,c,d,e,f,g,h,i,j,k],_=>exact⟨a,b,c,d,e,f,g,h,i,j,k,rfl⟩
end Go.aP
namespace Go.Proofs.YtnecpnjdonibmaaGreat
open Go.Can Go.aP
theorem HP (e:Ex):(bK e).all one=true:=by cases e<;>rfl
theorem JG (o:Option Ex):one (nV o)=true:=by rw[mr];rfl
theorem GQ (q:Pl):(l9 q).all one=true:=by simp only[l9,List.all_cons,List.all_nil,JG];rfl
theorem kS (x:In):(dd x).all one=true:=by
 cases x<;>simp only[dd,List.cons_append,List.nil_append,List.append_assoc,List.all_append,List.all_cons,List.all_nil,HP,GQ,one,Bool.and_self,Bool.and_true,Bool.true_and]<;>rfl
theorem zC (is:Is)(q:Pl)(h:q.param=true→q.index<is.bx.length):ae Tryz.prog 74 [.agg (df is),.agg (l9 q)] (I (ma is q)):=by
 refine ae.aM ah Tryz.func74 rfl PH (by simp[Tryz.ntmps74]) rfl fun C hC PN=>?_;rw[Tryz.ntmps74] at hC;simp only[df,l9,aA,mr];apply aj;simp[hC]
 cases hq:q.param with
 | true=>
  have PQ:=h hq;obtain⟨n,hn⟩:∃ n,is.bx[q.index]? = some n:=⟨_,List.getElem?_eq_getElem PQ⟩;have PL:=dk hn;have WA:ma is q=n:=by simp[ma,hq,List.getD_eq_getElem?_getD,hn]
  apply aU;simp[hC,PQ];refine fx ?_;simp;apply aj;simp[hC,PQ,PL];apply T.ret;apply aa.here;simp[Tryz.results74,WA]
 | false=>
  have WA:ma is q=q.index:=by simp[ma,hq]
  apply aU;simp[hC];refine gO ?_;simp;apply aj;simp[hC];apply T.ret;apply aa.here;simp[Tryz.results74,WA]
def aI (m:Mx):Nat:=if m.size=0∧m.re=false then 1 else 8
theorem sd (m:Mx):ae Tryz.prog 89 [.agg (eL m)] (I (aI m)):=by
 obtain⟨nm,re,sz⟩:=m;refine ae.aM ah Tryz.func89 rfl PH (by simp[Tryz.ntmps89]) rfl fun C hC PN=>?_;rw[Tryz.ntmps89] at hC;simp only[eL];apply aj;simp[hC];by_cases hz:sz=0
 ·subst hz
  cases re with
  | true=>
   apply aU;simp[hC];refine gO ?_;simp;apply aj;simp[hC];apply T.ret;apply aa.here;simp[Tryz.results89,aI]
  | false=>
   apply aU;simp[hC];refine fx ?_;simp;apply aj;simp[hC];apply T.ret;apply aa.here;simp[Tryz.results89,aI]
 ·apply aU;simp[hC,hz];refine gO ?_;simp;apply aj;simp[hC];apply T.ret;apply aa.here;simp[Tryz.results89,aI,hz]
theorem OL (m:Mx):ae Tryz.prog 66 [.agg (eL m)] (I (aI m)):=by
 obtain⟨nm,re,sz⟩:=m;refine ae.aM ah Tryz.func66 rfl PH (by simp[Tryz.ntmps66]) rfl fun C hC PN=>?_;rw[Tryz.ntmps66] at hC;simp only[eL];apply aj;simp[hC];by_cases hz:sz=0
 ·subst hz
  cases re with
  | true=>
   apply aU;simp[hC];refine gO ?_;simp;apply aj;simp[hC];apply T.ret;apply aa.here;simp[Tryz.results66,aI]
  | false=>
   apply aU;simp[hC];refine fx ?_;simp;apply aj;simp[hC];apply T.ret;apply aa.here;simp[Tryz.results66,aI]
 ·apply aU;simp[hC,hz];refine gO ?_;simp;apply aj;simp[hC];apply T.ret;apply aa.here;simp[Tryz.results66,aI,hz]
end Go.Proofs.YtnecpnjdonibmaaGreat
