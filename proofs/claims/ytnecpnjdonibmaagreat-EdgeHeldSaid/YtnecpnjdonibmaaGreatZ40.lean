/- SameInts, Find. -/
import Derived.Test.YtnecpnjdonibmaaGreatZ39
import Derived.DeepKeys3
namespace Go.aP
open Go.Can
theorem oJ (l:List Nat):az l=ints (l.map fun n:Nat=>(n:Int)):=by simp[az,ints,List.map_map,Function.comp_def]
def oY (y:Is)(p:Int)(ls:List Int):Bool:=decide ((y.proc:Int)=p) && decide ((y.bH.map fun n:Nat=>(n:Int))=ls)
def pb:List Is→Int→List Int→Int→Int
 | [],_,_,_=>-1
 | y::r,p,ls,i=>if oY y p ls=true then i else pb r p ls (i+1)
end Go.aP
namespace Go.Proofs.YtnecpnjdonibmaaGreat
open Go.Can Go.aP
set_option maxRecDepth 10000 in
theorem nH (a b:List Int)(ha:a.length≤4611686018427387904):af Tryz.prog 40 [ints a,ints b] (.bool (decide (a=b))):=by
 refine af.aK ai Tryz.func40 rfl OV (by simp[Tryz.ntmps40]) rfl fun C hC O0=>?_;rw[Tryz.ntmps40] at hC;apply aq;simp[hC];apply aO;simp[hC,ints];refine T.bh rfl (fun h=>?_) (fun h=>?_)
 ·apply aq;simp[hC];apply T.ret;apply ae.here;simp[Tryz.results40];intro e;subst e;simp at h
 ·apply T.skip;have hl:a.length=b.length:=by simp at h;omega
  apply aO;simp[hC];apply T.block;refine T.aH (fun m s=>∃ i,m=a.length-i∧i≤a.length∧(∀ j,j<i→a[j]? = b[j]?)∧s=⟨[(5,.int .i64 i),(0,ints a),(1,ints b)],[],0⟩) (n:=a.length) ?_ ?_
  ·refine ae.trim [5,0,1] [] 0 rfl yA ⟨0,rfl,Nat.zero_le _,by simp,?_⟩;simp[ints]
  ·rintro n s ⟨i,rfl,hi,hj,rfl⟩;apply aO;simp[hC,ints];refine T.bh rfl (fun h=>?_) (fun h=>?_)
   ·apply T.skip;have hib:i<a.length:=by simpa using h
    simp;have ea:a[i]? = some a[i]:=List.getElem?_eq_getElem hib;have eb:b[i]? = some b[i]:=List.getElem?_eq_getElem yA;refine T.seq (T.block (T.seq (T.draw' ai follows [] [0,1,2,3,4,5,6,7,8] [] OV ?_)));simp[hC,hib,← hl];refine T.bh rfl (fun h=>?_) (fun h=>?_)
    ·apply aq;simp[hC];apply T.ret;apply ae.here;simp[Tryz.results40];intro e;subst e;simp at h
    ·apply T.skip;simp;apply aV;simp[hC];refine⟨_,?_,ae.trim [5,0,1] [] 0 rfl yA ⟨i+1,rfl,hib,?_,?_⟩⟩
     ·omega
     ·intro j hj';by_cases e:j=i
      ·subst e;rw[ea,eb];simpa using h
      ·exact hj j yA
     ·simp;rw[cC _ yA yA]
   ·apply T.exit;simp;apply aq;simp[hC];apply T.ret;apply ae.here;simp[Tryz.results40];have:i=a.length:=by simp at h;omega
    subst this;refine List.ext_getElem? fun j=>?_;by_cases Pn:j<a.length
    ·exact hj j Pn
    ·rw[List.getElem?_eq_none yA,List.getElem?_eq_none yA]
def gm (l:List Is):Ob:=⟨90,2,l.flatMap cO⟩
def J33 (l:List Is)(X Y:CV)(p:Int)(ls:List Int)(n:Nat)(s:St):Prop:=∃ i:Nat,n=l.length-i∧i≤l.length∧pb l p ls 0=pb (l.drop i) p ls i∧s=⟨[(5,I i),(3,.ax 1 0),(2,.ax 0 0)],[(0,⟨34,0,[.aA (l.flatMap cO) l.length,X,Y]⟩),(1,⟨90,0,[I p,ints ls]⟩)],2⟩
set_option maxHeartbeats 4000000 in
theorem rfind_ok (l:List Is)(hl:l.length≤100000)(SF:∀ x∈l,x.bH.length≤100000)(X Y:CV)(hX:tree X=true)(hY:tree Y=true)(p:Int)(ls:List Int) :
  af Tryz.prog 138 [.agg [.aA (l.flatMap cO) l.length,X,Y],.agg [I p,ints ls]] (I (pb l p ls 0)):=by
 have XN:tree (ints ls)=true:=by simp[ints,tree]
 refine af.aK ai Tryz.func138 rfl OV (by simp[Tryz.ntmps138]) rfl fun C hC O0=>?_;rw[Tryz.ntmps138] at hC;apply aq;simp[hC];apply aO;simp[hC];apply T.block;refine T.aH (J33 l X Y p ls) (n:=l.length) ?_ ?_
 ·refine ae.trim [5,3,2] [0,1] 2 Z3 yA ⟨0,by omega,by omega,rfl,?_⟩;simp
 ·rintro n s ⟨i,rfl,hi,hf,rfl⟩;by_cases OX:i<l.length
  ·obtain⟨y,hy⟩:∃ y,l[i]? = some y:=⟨l[i],List.getElem?_eq_getElem OX⟩;have hd:l.drop i=y::l.drop (i+1):=by
    rw[List.drop_eq_getElem_cons OX,(List.getElem?_eq_some_iff.1 hy).2]
   rw[hd,pb] at hf;have OZ:=aN (f:=cO) (n:=2) fa hy;have QP:=bQ (f:=cO) (n:=2) fa hy 1 yA;have wi:=cC ((i:Int)+1) yA yA;have RP:=nH (y.bH.map fun n:Nat=>(n:Int)) ls (by have:=SF y (List.mem_of_getElem? hy);simp;omega);rw[← oJ] at RP;have O3:trees [az y.bH,ints ls]=true:=by simp only[trees,aD,XN,Bool.and_self]
   apply aO;simp[hC,OX];refine fB ?_;simp;apply ed;refine T.cut (fun s=>s=⟨(32,.bool (oY y p ls))::[(5,I i),(3,.ax 1 0),(2,.ax 0 0)],[(0,⟨34,0,[.aA (l.flatMap cO) l.length,X,Y]⟩),(1,⟨90,0,[I p,ints ls]⟩)],2⟩) ?_ ?_
   ·refine T.rx ai follows [0,1,2,3,4,5,6,7,8,9,10,11,12,13,14,15,16,17,18,19] [] OV ?_;by_cases hp:(y.proc:Int)=p
    ·have Tb:oY y p ls=decide ((y.bH.map fun n:Nat=>(n:Int))=ls):=by simp[oY,hp]
     simp[hC,OX,OZ,cO,hp];refine RX.call rfl rfl rfl rfl rfl O3 RP ?_;simp;refine ae.trim [32,5,3,2] [0,1] 2 Z3 yA ?_;simp[Tb]
    ·have Tb:oY y p ls=false:=by simp[oY,hp]
     have Tc:((y.proc:Int) == p)=false:=by simpa using hp
     simp[hC,OX,OZ,cO,Tc];refine ae.trim [32,5,3,2] [0,1] 2 Z3 yA ?_;simp[Tb]
   rintro s rfl
   cases hr:oY y p ls with
   | true=>
    rw[if_pos hr] at hf;refine fE ?_;simp;apply aq;simp[hC];apply T.ret;have P0:=hf;simp;apply ae.here;simp[Tryz.results138,P0]
   | false=>
    rw[if_neg (by simp[hr])] at hf;refine gw ?_;simp;apply aV;simp[hC,wi];refine⟨l.length-(i+1),by omega,ae.trim [5,3,2] [0,1] 2 Z3 yA ⟨i+1,rfl,by omega,hf,?_⟩⟩;simp
  ·have O6:i=l.length:=by omega
   rw[O6,List.drop_length,pb] at hf;have P0:=hf;apply aO;simp[hC,OX];refine a7 ?_;simp;apply T.exit;simp;apply aq;simp[hC];apply T.ret;apply ae.here;simp[Tryz.results138,P0]
def J33B (l:List Is)(m:Nat)(XF:Ob)(Y:CV)(p:Int)(ls:List Int)(n:Nat)(s:St):Prop:=∃ i:Nat,n=l.length-i∧i≤l.length∧pb l p ls 0=pb (l.drop i) p ls i∧s=⟨[(5,I i),(3,.ax 3 0),(2,.ax 2 0)],[(2,⟨34,0,[.bl 0 0 l.length,.bl 1 0 m,Y]⟩),(3,⟨90,0,[I p,ints ls]⟩),(0,gm l),(1,XF)],4⟩
set_option maxHeartbeats 4000000 in
theorem xC (l:List Is)(hl:l.length≤100000)(SF:∀ x∈l,x.bH.length≤100000)(m:Nat)(XF:Ob)(V0:trees XF.cells=true)(Y:CV)(hY:tree Y=true)(p:Int)(ls:List Int) :
  Body Tryz.prog ak 138 [.agg [.bl 0 0 l.length,.bl 1 0 m,Y],.agg [I p,ints ls]] [(0,gm l),(1,XF)] 2 (jb (I (pb l p ls 0)) [(0,gm l),(1,XF)] 2):=by
 have XN:tree (ints ls)=true:=by simp[ints,tree]
 refine Body.jA Tryz.func138 rfl OV (by simp[Tryz.ntmps138]) fun C hC O0=>?_;rw[Tryz.ntmps138] at hC;apply aq;simp[hC,gm];apply aO;simp[hC];apply T.block;refine T.aH (J33B l m XF Y p ls) (n:=l.length) ?_ ?_
 ·refine ae.trim [5,3,2] [2,3,0,1] 4 yCh yA ⟨0,by omega,by omega,rfl,?_⟩;simp[gm]
 ·rintro n s ⟨i,rfl,hi,hf,rfl⟩;by_cases OX:i<l.length
  ·obtain⟨y,hy⟩:∃ y,l[i]? = some y:=⟨l[i],List.getElem?_eq_getElem OX⟩;have hd:l.drop i=y::l.drop (i+1):=by
    rw[List.drop_eq_getElem_cons OX,(List.getElem?_eq_some_iff.1 hy).2]
   rw[hd,pb] at hf;have OZ:=aN (f:=cO) (n:=2) fa hy;have QP:=bQ (f:=cO) (n:=2) fa hy 1 yA;have wi:=cC ((i:Int)+1) yA yA;have RP:=nH (y.bH.map fun n:Nat=>(n:Int)) ls (by have:=SF y (List.mem_of_getElem? hy);simp;omega);rw[← oJ] at RP;have O3:trees [az y.bH,ints ls]=true:=by simp only[trees,aD,XN,Bool.and_self]
   apply aO;simp[hC,OX];refine fB ?_;simp;apply ed;refine T.cut (fun s=>s=⟨(32,.bool (oY y p ls))::[(5,I i),(3,.ax 3 0),(2,.ax 2 0)],[(2,⟨34,0,[.bl 0 0 l.length,.bl 1 0 m,Y]⟩),(3,⟨90,0,[I p,ints ls]⟩),(0,gm l),(1,XF)],4⟩) ?_ ?_
   ·refine T.rx ai follows [0,1,2,3,4,5,6,7,8,9,10,11,12,13,14,15,16,17,18,19] [] OV ?_;by_cases hp:(y.proc:Int)=p
    ·have Tb:oY y p ls=decide ((y.bH.map fun n:Nat=>(n:Int))=ls):=by simp[oY,hp]
     simp[hC,OX,OZ,QP,cO,hp,gm];refine RX.call rfl rfl rfl rfl rfl O3 RP ?_;simp;refine ae.trim [32,5,3,2] [2,3,0,1] 4 yCh yA ?_;simp[Tb]
    ·have Tb:oY y p ls=false:=by simp[oY,hp]
     have Tc:((y.proc:Int) == p)=false:=by simpa using hp
     simp[hC,OX,OZ,cO,Tc,gm];refine ae.trim [32,5,3,2] [2,3,0,1] 4 yCh yA ?_;simp[Tb]
   rintro s rfl
   cases hr:oY y p ls with
   | true=>
    rw[if_pos hr] at hf;refine fE ?_;simp;apply aq;simp[hC];apply T.ret;have P0:=hf;simp;refine ae.trim [4] [0,1] 2 (by simp[-List.all_eq_true,ah V0,ah (aQ bT l),gm]) yA ⟨_,?_,rfl,?_,rfl⟩
    ·simp[Tryz.results138,P0]
    ·simp[gm]
   | false=>
    rw[if_neg (by simp[hr])] at hf;refine gw ?_;simp;apply aV;simp[hC,wi];refine⟨l.length-(i+1),by omega,ae.trim [5,3,2] [2,3,0,1] 4 (by simp[-List.all_eq_true,-List.all_flatMap,aW 4 _ hY,ah (aQ bT l),aW 4 _ XN,ah V0,gm]) yA ⟨i+1,rfl,by omega,hf,?_⟩⟩;simp[gm]
  ·have O6:i=l.length:=by omega
   rw[O6,List.drop_length,pb] at hf;have P0:=hf;apply aO;simp[hC,OX];refine a7 ?_;simp;apply T.exit;simp;apply aq;simp[hC];apply T.ret;refine ae.trim [4] [0,1] 2 (by simp[-List.all_eq_true,ah V0,ah (aQ bT l),gm]) yA ⟨_,?_,rfl,?_,rfl⟩
   ·simp[Tryz.results138,P0]
   ·simp[gm]
end Go.Proofs.YtnecpnjdonibmaaGreat
namespace Go.aP
open Go.Can
theorem qy:∀ {a b:List Nat},(a.map fun n:Nat=>(n:Int))=b.map (fun n:Nat=>(n:Int))→a=b
 | [],[],_=>rfl
 | [],_::_,h=>by simp at h
 | _::_,[],h=>by simp at h
 | x::a,y::b,h=>by
  simp only[List.map_cons,List.cons.injEq] at h;rw[qy h.2];congr 1;omega
theorem Kg (y x:Is):oY y x.proc (x.bH.map fun n:Nat=>(n:Int))=decide (y=x):=by
 by_cases h:y=x
 ·subst h;simp[oY]
 ·have:¬ ((y.proc:Int)=x.proc∧(y.bH.map fun n:Nat=>(n:Int))=x.bH.map fun n:Nat=>(n:Int)):=fun⟨h1,h2⟩=>by
   apply h;cases y;cases x;simp only at h1 h2;rw[qy h2];congr 1;omega
  simp only[h,decide_false,oY]
  simpa using this
theorem zB (x:Is):∀ (l:List Is) (k:Nat),pb l x.proc (x.bH.map fun n:Nat=>(n:Int)) k=if x∈l then ((gA l x+k:Nat):Int) else -1
 | [],k=>by simp[pb]
 | y::r,k=>by
  have ih:=zB x r (k+1);rw[pb,Kg];by_cases h:y=x
  ·subst h;simp[gA,List.findIdx_cons]
  ·have h':¬ x=y:=fun e=>h e.symm;simp only[h,decide_false,Bool.false_eq_true,if_false,List.mem_cons,h',false_or];have:((k:Int)+1)=((k+1:Nat):Int):=by simp
   rw[this,ih];split
   ·have:gA (y::r) x=gA r x+1:=by simp[gA,List.findIdx_cons,h]
    rw[this];congr 1;omega
   ·rfl
end Go.aP
namespace Go.Proofs.YtnecpnjdonibmaaGreat
open Go.Can Go.aP
def kA (cs:List (List Int)):Ob:=⟨22,1,cs.map ints⟩
theorem lI (l:List Int):tree (ints l)=true:=by simp[ints,tree]
theorem uL (cs:List (List Int)):trees (cs.map ints)=true:=by
 induction cs with
 | nil=>rfl
 | cons a r ih=>rw[List.map_cons,trees,ih,lI];rfl
def pd (n m:Nat)(r:List Nat):Ob:=⟨34,0,[.bl 3 0 n,.bl 4 0 m,az r]⟩
def js:Ob:=⟨34,0,[.aa,.aa,.aa]⟩
@[simp] theorem Im (l:List Is)(n:Nat):(gm l).cells.all (a9 n)=true:=ah (aQ bT l) n
@[simp] theorem isOb_ltS (l:List Is)(n:Nat):aX n (gm l).cells=true:=by rw[cB];exact Im l n
@[simp] theorem isOb_rnm (ρ:Nat→Nat)(l:List Is):cc ρ (gm l)=gm l:=cU _ _ _ (aQ bT l)
@[simp] theorem I7 (l:List (List Int))(n:Nat):(kA l).cells.all (a9 n)=true:=ah (uL l) n
@[simp] theorem csOb_ltS (l:List (List Int))(n:Nat):aX n (kA l).cells=true:=by rw[cB];exact I7 l n
@[simp] theorem csOb_rnm (ρ:Nat→Nat)(l:List (List Int)):cc ρ (kA l)=kA l:=cU _ _ _ (uL l)
theorem vq (d:List Int)(n:Nat):trees (d.map I++List.replicate n (I 0))=true:=by
 rw[bC,jf,Bool.true_and]
 induction n with
 | zero=>rfl
 | succ n ih=>rw[List.replicate_succ,trees,ih];rfl
def zp (d:List Int)(n:Nat):Ob:=⟨3,1,d.map I++List.replicate n (I 0)⟩
@[simp] theorem H9 (d:List Int)(n k:Nat):(zp d n).cells.all (a9 k)=true:=ah (vq d n) k
@[simp] theorem mkOb_ltS (d:List Int)(n k:Nat):aX k (zp d n).cells=true:=by rw[cB];exact H9 d n k
theorem KF (d:List Int)(n:Nat)(v:CV):List.take d.length (d.map I++List.replicate (n+1) (I 0))++v::List.drop (d.length+1) (d.map I++List.replicate (n+1) (I 0))=d.map I++v::List.replicate n (I 0):=by
 rw[List.take_append,List.drop_append,List.take_of_length_le OU,List.drop_of_length_le OU];simp[List.replicate_succ]
structure wD (u:Un)(l:List Is):Prop where
 nd:l.Nodup
 v:∀ x∈l,pE u x
def ClH (u:Un)(l:List Is)(cs:List (List Int))(r:List Nat):List (Nat×Ob):=[(0,⟨30,0,bY u⟩),(1,js),(2,pd l.length cs.length r),(3,gm l),(4,kA cs)]
structure InvI (u:Un)(x:Is)(i:Nat)(l:List Is)(r:List Nat)(code:List In)(pc:Nat)(l':List Is)(r':List Nat)(d:List Int):Prop where
 mV:pc≤code.length
 c:wD u l'
 at_:l'[i]? = some x
 rl:r'.length≤200*(i+1)+pc
 dl:d.length=pc
 e1:(gY x code l r).1=(gY x (code.drop pc) l' r').1
 e2:(gY x code l r).2.1=d++(gY x (code.drop pc) l' r').2.1
 e3:(gY x code l r).2.2=(gY x (code.drop pc) l' r').2.2
def iE (i sites:Nat)(code:List In)(pc:Nat):List (Nat×CV):=[(9,I pc),(8,.bl 5 0 code.length),(7,.aA (code.flatMap dt) code.length),(6,I i),(5,I sites),(4,.ax 2 0),(2,.ax 1 0),(1,.ax 0 0)]
def iH (u:Un)(cs:List (List Int))(l':List Is)(r':List Nat)(d:List Int)(n:Nat):List (Nat×Ob):=[(0,⟨30,0,bY u⟩),(1,js),(2,pd l'.length cs.length r'),(3,gm l'),(4,kA cs),(5,zp d n)]
def J36i (u:Un)(x:Is)(i sites:Nat)(l:List Is)(cs:List (List Int))(r:List Nat)(code:List In)(m:Nat)(s:St):Prop:=∃ pc l' r' d,m=code.length-pc∧InvI u x i l r code pc l' r' d∧
 s=⟨iE i sites code pc,iH u cs l' r' d (code.length-pc),6⟩
def J36 (u:Un)(m:Nat)(s:St):Prop:=∃ i l cs r,m=100-i∧i≤l.length∧cs.length=i∧r.length≤200*(i+1)∧wD u l∧mC u (100-i) i l cs r=aj u∧
 s=⟨[(6,I i),(5,I ((l.take i).map fun x=>(au u x).length).sum),(4,.ax 2 0),(2,.ax 1 0),(1,.ax 0 0)],ClH u l cs r,5⟩
set_option maxHeartbeats 4000000 in
theorem Fs (u:Un)(hu:iy u):af Tryz.prog 69 [df u] (.dS [eQ (aj u),I 0]):=by
 have Pa:=aT u;have Y9:=hu.main;have hcl0:wD u [⟨u.main,[]⟩]:=⟨by simp,fun x hx=>by
  rw[List.mem_singleton] at hx;subst hx;have Ud:=hu.np;obtain⟨q,hq⟩:∃ q,u.ps[0]? = some q:=⟨_,List.getElem?_eq_getElem yA⟩;exact⟨⟨q,by simp only;rw[Y9];exact hq,by simp[(hu.p0 q hq).2]⟩,by simp⟩⟩
 have QU:tree (.dS [eQ (aj u),I 0])=true:=by
  simp only[tree,trees,eQ,cN,aD,Bool.and_true]
 refine af.aK ai Tryz.func69 rfl OV (by simp[Tryz.ntmps69]) QU fun C hC O0=>?_;rw[Tryz.ntmps69] at hC;simp only[df,bY,ints];apply aq;simp[hC];apply aq;simp[hC,bb];apply aq;simp[hC];apply aO;simp[hC];apply T.block;refine T.aH (J36 u) (n:=100) ?_ ?_
 ·have tgs:trees (u.gs.map (CV.int .i64))=true:=jf u.gs;refine ae.le (Le.trim [6,5,4,2,1] [4,3,2,1,0] 5 Sp yA) ?_;simp;refine ae.le (Le.dp (o:=3) rfl rfl) ?_;simp;refine ae.le (Le.nz [] [2]) ?_;simp;refine ae.le (Le.pO 4 1 22 1 rfl rfl) ?_;simp;refine ae.le (Le.norm [6,5,4,2,1] [(0,0),(1,1),(4,2),(2,3),(5,4)] 0 5 Ql Qk Z1 yA) ?_;simp[dj,cc,ca,dR,fF,assoc];refine ae.here ⟨0,[⟨u.main,[]⟩],[],[0],by omega,by simp,rfl,by simp,hcl0,rfl,?_⟩;simp[ClH,bY,ints,js,pd,gm,kA,cO,az]
 ·rintro n s ⟨i,l,cs,r,rfl,hi,hci,Vn,hI,hS,rfl⟩;have hl49:=ka hu hI.nd hI.v;have hsites:=CN hu hI.nd hI.v;have tgs:trees (u.gs.map (CV.int .i64))=true:=jf u.gs;have Z6:=aQ bT l;have Rg:=uL cs;simp only[ClH,bY,ints,js,pd];by_cases OX:i<l.length
  ·obtain⟨x,hx⟩:∃ x,l[i]? = some x:=⟨l[i],List.getElem?_eq_getElem OX⟩;have Yt:=hI.v x (List.mem_of_getElem? hx);obtain⟨⟨pq,PA,SF⟩,hlm⟩:=id Yt;have OY:au u x=pq.code:=by simp only[au,PA]
   have PR:=(List.getElem?_eq_some_iff.1 PA).1;have Uk:=bQ (f:=lF) (n:=5) eZ PA 4 yA;have hlen:=(hu.pr pq (List.mem_of_getElem? PA)).2.2.2.2;have Sd:=aN (f:=cO) (n:=2) fa hx;have Pd:l.take (i+1)=l.take i++[x]:=by rw[List.take_add_one,hx];rfl
   have YC:((l.take (i+1)).map fun x=>(au u x).length).sum=((l.take i).map fun x=>(au u x).length).sum+pq.code.length:=by
    rw[Pd,List.map_append,List.sum_append];simp[OY]
   have hsum2:((l.take (i+1)).map fun x=>(au u x).length).sum≤7105:=by
    have:=List.take_append_drop (i+1) l;have h2:(l.map fun x=>(au u x).length).sum=((l.take (i+1)).map fun x=>(au u x).length).sum+((l.drop (i+1)).map fun x=>(au u x).length).sum:=by
     rw[← List.sum_append,← List.map_append,this]
    omega
   generalize hG:((l.take i).map fun x=>(au u x).length).sum=sites at YC;have wi:=cC ((i:Int)+1) yA yA;have ws:=cC ((sites:Int)+(pq.code.length:Int)) yA yA;have T0:¬ (256:Int)≤(i:Int):=by omega
   have QR:¬ (8000:Int)<(sites:Int)+(pq.code.length:Int):=by omega
   apply aO;simp[hC,OX,gm];refine fB ?_;simp;apply ed;apply T.seq;refine T.rx ai follows [0,1,2,3,4,5,6,7,8,9,10,11] [] OV ?_;simp[hC,OX,Sd,cO,PR,Uk,lF];apply aq;simp[hC,ws];apply aO;simp[hC,T0,QR];refine gw ?_;simp;have Si:8*(pq.code.length:Int)≤281474976710656:=by omega
   have Qz:(pq.code.length:Int)≤9223372036854775807:=by omega
   apply aq;simp[hC,Si,Qz];apply aO;simp[hC];have Z7:=cf pq.code;have V6:mC u (100-(i+1)) (i+1) (gY x pq.code l r).1 (cs++[(gY x pq.code l r).2.1]) (gY x pq.code l r).2.2=aj u:=by
    rw[← hS];have:100-i=(100-(i+1))+1:=by omega
    rw[this,mC,hx];simp only[OY]
   obtain⟨ext,Zt⟩:=ua x pq.code l r;have Wg:(((gY x pq.code l r).1.take (i+1)).map fun x=>(au u x).length).sum=sites+pq.code.length:=by
    rw[Zt,List.take_append_of_le_length yA];exact YC
   refine T.cutL (fun s=>∃ d,(gY x pq.code l r).2.1=d∧d.length=pq.code.length∧wD u (gY x pq.code l r).1∧(gY x pq.code l r).2.2.length≤200*(i+1)+145∧i<(gY x pq.code l r).1.length∧s=⟨[(8,.bl 5 0 pq.code.length),(6,I i),(5,I (sites+pq.code.length:Nat)),(4,.ax 2 0),(2,.ax 1 0),(1,.ax 0 0)],iH u cs (gY x pq.code l r).1 (gY x pq.code l r).2.2 d 0,6⟩) ?_ ?_
   ·apply T.block;refine T.aH (J36i u x i (sites+pq.code.length) l cs r pq.code) (n:=pq.code.length) ?_ ?_
    ·have Yj:trees (List.replicate pq.code.length (CV.int .i64 0))=true:=vq [] pq.code.length;refine ae.le (Le.norm [9,8,7,6,5,4,2,1] [(0,0),(1,1),(2,2),(3,3),(4,4),(17,5)] 0 6 Ql Qk (by simp[dr,ss,pw,tree,assoc,-List.all_eq_true,-List.all_flatMap,kA,aE Rg,aE Z6,az,aE Yj]) yA) ?_;simp[dj,cc,ca,dR,fF,assoc,kA,av _ _ Rg,av _ _ Z6,az,av _ _ Yj];refine ae.here ⟨0,l,r,[],by omega,⟨by omega,hI,hx,by omega,rfl,rfl,rfl,rfl⟩,?_⟩;simp[iE,iH,js,pd,zp,gm,bY,ints,kA,az]
    ·rintro n s ⟨pc,l',r',d,rfl,hV,rfl⟩;obtain⟨v1,v2,v3,v4,v5,v6,v7,v8⟩:=hV;simp only[iE,iH];by_cases mV:pc<pq.code.length
     ·obtain⟨ins,VQ⟩:∃ ins,pq.code[pc]? = some ins:=⟨_,List.getElem?_eq_getElem mV⟩;have hdn:pq.code.drop pc=ins::pq.code.drop (pc+1):=by
       rw[List.drop_eq_getElem_cons mV,(List.getElem?_eq_some_iff.1 VQ).2]
      rw[hdn] at v6 v7 v8;have Rl:sD u x (pc:Int)=jS x ins:=by
       have:¬ (pc:Int)<0:=by omega
       simp[sD,OY,VQ,this]
      have TB:=Cs u hu x Yt pc;rw[Rl] at TB;have O3:trees [df u,.agg (cO x),I pc]=true:=by
       simp only[trees,df,tree,Pa,bT,Bool.and_self]
      have hdi':=aN (f:=cO) (n:=2) fa v3;have Xh:=(List.getElem?_eq_some_iff.1 v3).1;have YV:pc+1≤pq.code.length:=by omega
      have Sq:=cC ((pc:Int)+1) yA yA;have hl49':=ka hu v2.nd v2.v;have Ur:=aQ bT l';obtain⟨n',TS⟩:∃ n',pq.code.length-pc=n' + 1:=⟨pq.code.length-pc-1,by omega⟩;have P5:=fun v=>KF d n' v;rw[v5] at P5;have U0:(d.map I++List.replicate (n' + 1) (I 0)).length=pq.code.length:=by simp;omega
      rw[TS];simp only[zp];have tD:=vq d (n' + 1);generalize hDe:d.map I++List.replicate (n' + 1) (I 0)=D at P5 U0 tD;simp only[bY,ints,df,cO] at TB O3;simp only[bY,ints,js,pd];apply aO;simp[hC,mV];refine fB ?_;simp;apply ed;apply T.seq;refine T.rx ai follows [0,1,2,3,4,5,6,11,7,8,9,10,12,13] [(0,11),(2,11),(5,11),(11,7)] OV ?_;simp[hC,Xh,hdi',gm,cO];refine RX.call rfl rfl rfl rfl rfl O3 TB ?_
      cases V2:jS x ins with
      | none=>
       simp only[V2,gY] at v6 v7 v8;simp[zW];apply aO;simp[hC];refine fE ?_;simp;apply aq;simp[hC,mV,YV,U0,P5];apply T.exit;simp;apply aV;simp[hC,Sq];have tN:trees (d.map I++(I (-1)::List.replicate n' (I 0)))=true:=by
        simp
       refine⟨pq.code.length-(pc+1),by omega,ae.trim [9,8,7,6,5,4,2,1] [0,1,2,3,4,5] 6 (by simp[-List.all_eq_true,-List.all_flatMap,ah Ur,aW 6 _ (aD r'),ah tN]) yA ⟨pc+1,l',r',d++[-1],rfl,⟨by omega,v2,v3,by omega,by simp[v5],v6,by rw[v7];simp,v8⟩,?_⟩⟩;have R6:pq.code.length-(pc+1)=n':=by omega
       rw[R6];simp[iE,iH,js,pd,zp,gm,bY,ints]
      | some y=>
       have hyv:=C8 hu Yt (by rw[OY];exact List.mem_of_getElem? VQ) V2;simp only[V2,gY] at v6 v7 v8;simp[zW,cO];apply aO;simp[hC];refine gw ?_;simp;have hf:=xC l' yA (fun z hz=>by
        obtain⟨⟨q,hq,hl⟩,_⟩:=v2.v z hz;have:=(hu.pr q (List.mem_of_getElem? hq)).2.1;omega) cs.length (kA cs) Rg (az r') (aD r') y.proc (y.bH.map fun n:Nat=>(n:Int))
       have VT:pb l' y.proc (y.bH.map fun n:Nat=>(n:Int)) 0=if y∈l' then ((gA l' y:Nat):Int) else -1:=by simpa using zB y l' 0
       rw[← oJ,VT] at hf;refine T.le (Le.norm [10,9,8,7,6,5,4,2,1] [(0,0),(1,1),(2,2),(3,3),(4,4),(5,5),(17,6)] 0 7 Ql Qk (by simp[dr,ss,pw,tree,assoc,-List.all_eq_true,-List.all_flatMap,kA,aE Rg,aE Ur,az,aE tD]) yA) ?_;simp[dj,cc,ca,dR,fF,assoc,kA,av _ _ Rg,av _ _ Ur,az,av _ _ tD];have tny:=aC y.bH;have tnr:=aC r';refine T.cut (fun s=>s=⟨(10,.ax 6 0)::iE i (sites+pq.code.length) pq.code pc,[(0,⟨30,0,bY u⟩),(1,js),(2,pd (eR l' y).length cs.length r'),(3,gm (eR l' y)),(4,kA cs),(5,⟨3,1,D⟩),(6,⟨90,0,cO y⟩)],7⟩) ?_ ?_
       ·have RM:(⟨90,2,l'.flatMap cO⟩:Ob)=gm l':=rfl;have SM:(⟨22,1,cs.map ints⟩:Ob)=kA cs:=rfl;simp only[RM,SM];simp only[az] at hf;apply aq;simp[hC];refine TL.vZ ai [3,4] [3,4] 2 0 hf rfl (by rfl) O5 rfl rfl (by simp[bm,ev,assoc,ca,dR,cQ]) (by simp[eg,assoc,cj,cQ]) (by simp[aX,a9]) (by simp[dc]) rfl (by simp[lD,cj,cQ,dx,jD]) (TL.go' ai ?_);by_cases hym:y∈l'
        ·have ZJ:eR l' y=l':=if_pos hym;have W5:¬ ((gA l' y:Nat):Int)<0:=by omega
         simp[hC,cQ,hym,W5];refine gw ?_;simp;refine ae.trim [10,9,8,7,6,5,4,2,1] [0,1,2,3,4,5,6] 7 (by simp[-List.all_eq_true,-List.all_flatMap,ah tD]) yA ?_;rw[ZJ];simp[iE,js,pd,bY,ints,cO,az]
        ·have ZJ:eR l' y=l'++[y]:=if_neg hym;have RS:=bM (f:=cO) (n:=2) fa l';have SX:(l'.length+1)*32≤140737488355328:=by omega
         simp[hC,cQ,hym];refine fE ?_;simp;apply aV;simp[hC,gm,RS,SX,bb];have tN:trees (l'.flatMap cO++[.int .i64 y.proc,.aA (y.bH.map fun n:Nat=>I n) y.bH.length])=true:=by
          rw[bC,Ur];simp[trees,tree]
         have Pj:=aE tN;have RK:=fun ρ=>av ρ _ tN;refine ae.le (Le.norm [10,9,8,7,6,5,4,2,1] [(0,0),(1,1),(2,2),(8,3),(4,4),(5,5),(6,6)] 0 7 Ql Qk (by simp[dr,ss,pw,tree,assoc,-List.all_eq_true,-List.all_flatMap,Pj,kA,aE Rg,aE tD]) yA) ?_;simp[dj,cc,ca,dR,fF,assoc,RK,kA,av _ _ Rg,av _ _ tD];apply ae.here;rw[ZJ];simp[iE,js,pd,bY,ints,cO,az]
       ·rintro s rfl;have T6:wD u (eR l' y):=⟨mM v2.nd,Df v2.v hyv⟩;have Qj:=ka hu T6.nd T6.v;have Ty:=xC (eR l' y) yA (fun z hz=>by
         obtain⟨⟨q,hq,hl⟩,_⟩:=T6.v z hz;have:=(hu.pr q (List.mem_of_getElem? hq)).2.1;omega) cs.length (kA cs) Rg (az r') (aD r') y.proc (y.bH.map fun n:Nat=>(n:Int))
        have Xk:pb (eR l' y) y.proc (y.bH.map fun n:Nat=>(n:Int)) 0=((gA (eR l' y) y:Nat):Int):=by
         have:=zB y (eR l' y) 0;rw[if_pos (BQ l' y),Nat.add_zero] at this;exact this
        rw[← oJ,Xk] at Ty;have P8:=Lh (x:=y) v3;generalize eR l' y=L at v6 v7 v8 T6 Qj Ty Xk P8;generalize hk:gA L y=k at v6 v7 v8 Ty Xk;have VD:=aQ bT L;have tN:trees (d.map I++(I k::List.replicate n' (I 0)))=true:=by
         simp
        have hdd:List.drop pc (d.map I++(I k::List.replicate n' (I 0)))=I k::List.replicate n' (I 0):=by
         rw[← v5];have:(d.map I).length=d.length:=by simp
         rw[← this,List.drop_left]
        have We:=Ax r' k yA;have Wc:trees [az r',I k]=true:=by simp only[trees,aD,tree,Bool.and_self]
        have Vh:(gh r' k).length≤r'.length+1:=by
         unfold gh;split
         ·omega
         ·simp;omega
        simp only[iE,pd,cO,az] at Ty ⊢;have Qy:=aN (f:=dt) (n:=12) eK VQ;obtain⟨xc,Qm,_⟩:=iK ins;rw[Qm] at Qy;apply aq;simp[hC];refine TL.vZ ai [3,4] [3,4] 2 0 Ty rfl (by rfl) O5 rfl rfl (by simp[bm,ev,assoc,ca,dR,cQ]) (by simp[eg,assoc,cj,cQ]) (by simp[aX,a9]) (by simp[dc]) rfl (by simp[lD,cj,cQ,dx,jD]) (TL.go' ai ?_);simp[hC,cQ,mV,YV,U0,P5];have W2:(mU ins == 3)=sj ins:=by
         cases ins with
         | call g _ _ _=>cases g<;>rfl
         | _=>simp[jS] at V2
        have tnw:=aC (gh r' k);have R6:pq.code.length-(pc+1)=n':=by omega
        apply aq;simp[hC,mV,Qy,W2]
        cases Zp:sj ins with
        | true=>
         simp only[Zp,if_true] at v6 v7 v8;refine T.cond (b:=true) RD ?_;simp;refine T.rx ai follows [0,1,2,3,4,5,6,7,8] [] OV ?_;simp[hC,mV,hdd];simp only[az] at We Wc;refine RX.call rfl rfl rfl rfl rfl Wc We ?_;simp;apply aV;simp[hC,Sq];refine⟨pq.code.length-(pc+1),by omega,ae.trim [9,8,7,6,5,4,2,1] [0,1,2,3,4,5] 6 (by simp[-List.all_eq_true,-List.all_flatMap,ah Pa,ah tN,js]) yA ⟨pc+1,L,gh r' k,d++[(k:Int)],rfl,⟨by omega,T6,P8,by omega,by simp[v5],v6,by rw[v7];simp,v8⟩,?_⟩⟩;rw[R6];simp[iE,iH,js,pd,zp,gm,bY,ints,az]
        | false=>
         simp only[Zp,Bool.false_eq_true,if_false] at v6 v7 v8;refine T.cond (b:=false) RD (T.skip ?_);simp;apply aV;simp[hC,Sq];refine⟨pq.code.length-(pc+1),by omega,ae.trim [9,8,7,6,5,4,2,1] [0,1,2,3,4,5] 6 (by simp[-List.all_eq_true,-List.all_flatMap,ah Pa,ah tN,js]) yA ⟨pc+1,L,r',d++[(k:Int)],rfl,⟨by omega,T6,P8,by omega,by simp[v5],v6,by rw[v7];simp,v8⟩,?_⟩⟩;rw[R6];simp[iE,iH,js,pd,zp,gm,bY,ints,az]
     ·have Tc:pc=pq.code.length:=by omega
      subst Tc;rw[List.drop_length] at v6 v7 v8;simp only[gY,List.append_nil] at v6 v7 v8;have RS:=ka hu v2.nd v2.v;have Ur:=aQ bT l';have tnr:=aC r';rw[Nat.sub_self];have tD:=vq d 0;apply aO;simp[hC];refine a7 ?_;simp;apply T.exit;simp;refine ae.trim [8,6,5,4,2,1] [0,1,2,3,4,5] 6 (by simp[-List.all_eq_true,-List.all_flatMap,ah Pa,js,pd,az]) yA ?_;simp only[v6,v7,v8];refine⟨v5,v2,by omega,(List.getElem?_eq_some_iff.1 v3).1,?_⟩;simp
   ·rintro s ⟨d,hd,U0,T6,Px,Qs,rfl⟩;have Qj:=ka hu T6.nd T6.v;rw[hd] at V6;generalize (gY x pq.code l r).1=L at T6 Qs Qj V6 Wg ⊢;generalize (gY x pq.code l r).2.2=R at Px V6 ⊢;clear hd Zt;have VD:=aQ bT L;simp only[eU,iH];have tD:=vq d 0;simp only[List.replicate_zero,List.append_nil] at tD;have tkD:List.take pq.code.length (d.map I)=d.map I:=List.take_of_length_le QS;have SX:(cs.length+1)*24≤140737488355328:=by omega
    have O7:(cs.map ints).length=cs.length:=by simp
    have hints:(CV.aA (d.map I) pq.code.length)=ints d:=by rw[ints,U0]
    have tnr:=aC R;have tN:trees (cs.map ints++[ints d])=true:=by rw[bC,Rg,trees,lI];rfl
    simp only[zp,List.replicate_zero,List.append_nil];refine T.le (Le.dp (o:=5) rfl tD) ?_;simp[tkD,cI Rg,cI VD,kA,gm,pd,js,az,cI Pa];rw[hints];apply aV;simp[hC,O7,SX,bb];apply aV;simp[hC,wi];have Pj:=aE tN;have RK:=fun ρ=>av ρ _ tN;refine⟨100-(i+1),by omega,?_⟩;refine ae.le (Le.norm [6,5,4,2,1] [(0,0),(1,1),(2,2),(3,3),(7,4)] 0 5 Ql Qk (by simp[dr,ss,pw,tree,assoc,-List.all_eq_true,-List.all_flatMap,Pj,aE Pa,aE VD]) yA) ?_;simp[dj,cc,ca,dR,fF,assoc,RK,av _ _ Pa,av _ _ VD];refine ae.here ⟨i+1,L,cs++[d],R,by omega,by omega,by simp[hci],by omega,T6,V6,?_⟩;rw[Wg];simp[ClH,js,pd,gm,kA,az]
  ·have O6:i=l.length:=by omega
   have Pq:aj u=⟨l,cs,r⟩:=by
    rw[← hS];have h1:l[i]? = none:=by rw[List.getElem?_eq_none_iff];omega
    obtain⟨k,hk⟩:∃ k,100-i=k+1:=⟨99-i,by omega⟩;rw[hk,mC,h1]
   have tnr:=aC r;have Z5:List.take (l.length*2) (l.flatMap cO)=l.flatMap cO:=List.take_of_length_le (by rw[bM (f:=cO) (n:=2) fa];omega);have tkC:List.take cs.length (cs.map ints)=cs.map ints:=List.take_of_length_le OU;apply aO;simp[hC,OX,gm];refine a7 ?_;simp;apply T.exit;simp;apply aq;simp[hC];apply T.ret;rw[Pq];refine ae.le (Le.trim [3,2] [1,3,4] 5 (by simp[-List.all_eq_true,-List.all_flatMap,ah Z6,ah Rg,az,kA]) yA) ?_;simp[az];refine ae.le (Le.dp (o:=3) rfl Z6) ?_;simp[Z5,cI Rg,kA];refine ae.le (Le.dp (o:=4) rfl Rg) ?_;simp[tkC];apply ae.here;simp[eQ,cN,az]
theorem AU (l:List Int):iy (lH (D2 l)):=by
 have h:=Lv l;refine h.unit (fun f hf=>?_) fun f hf=>?_
 ·have h1:=CL (List.mem_map_of_mem (f:=fun f:Fu=>bO f.body) hf);have h2:=h.wt;omega
 ·obtain⟨k,hk,e⟩:=h.pn f hf;have h5:=congrArg List.length e;simp only[List.length_map,List.length_reverse,List.length_take,nP,List.length_cons,List.length_nil] at h5;omega
theorem JS (l:List Int)(hl:l.length≤9223372036854775807):af Tryz.prog 15 [ints l] (.dS [xJ (D2 l),df (lH (D2 l)),eQ (aj (lH (D2 l)))]):=by
 have hp:=Cv l hl;have Wm:=Ig (D2 l) (Lv l);have O7:=Fs (lH (D2 l)) (AU l);generalize lH (D2 l)=u at Wm O7;generalize D2 l=p at hp Wm;generalize aj u=c at O7;have Pa:=aT u;obtain⟨t1,t2,t3⟩:=jd p;have tp:trees (eH p)=true:=by simp only[eH,trees,t1,t2,t3];rfl
 have tc:trees (cN c)=true:=by simp only[cN,trees,tree,aD];rfl
 have QU:tree (.dS [xJ p,df u,eQ c])=true:=by simp only[tree,trees,xJ,df,eQ,tp,Pa,tc];rfl
 refine af.aK ai Tryz.func15 rfl OV (by simp[Tryz.ntmps15]) QU fun C hC O0=>?_;rw[Tryz.ntmps15] at hC;have ta1:trees [ints l]=true:=by simp only[trees,lI,Bool.and_self]
 have ta2:trees [xJ p]=true:=by simp only[trees,tree,xJ,tp,Bool.and_self]
 have ta3:trees [df u]=true:=by simp only[trees,tree,df,Pa,Bool.and_self]
 simp only[xJ,eH,df,bY,eQ,cN] at hp Wm O7 ta2 ta3 ⊢;apply aq;simp[hC];apply aq;simp[hC];refine dz ta1 hp ?_;simp[hC];apply aq;simp[hC];refine dz ta2 Wm ?_;simp[hC];apply aq;simp[hC];refine dz ta3 O7 ?_;simp[hC];apply T.seq;refine T.rx ai follows [0,1,2,3,4,5] [(1,3),(2,3),(2,4)] OV ?_;simp[hC];apply T.ret;apply ae.here;simp[Tryz.results15]
end Go.Proofs.YtnecpnjdonibmaaGreat
namespace Go.aP
open Go.Can
theorem xY {cs:List CV}(h:cs.length=11):∃ c1 c2 c3 c4 c5 c6 c7 c8 c9 Wz Wy,cs=[c1,c2,c3,c4,c5,c6,c7,c8,c9,Wz,Wy]:=by
 match cs,h with
 | [a,b,c,d,e,f,g,h,i,j,k],_=>exact⟨a,b,c,d,e,f,g,h,i,j,k,rfl⟩
end Go.aP
namespace Go.Proofs.YtnecpnjdonibmaaGreat
open Go.Can Go.aP
theorem IN (e:Ex):(bR e).all one=true:=by cases e<;>rfl
theorem Ko (o:Option Ex):one (pv o)=true:=by rw[nQ];rfl
theorem HN (q:Pl):(pN q).all one=true:=by simp only[pN,List.all_cons,List.all_nil,Ko];rfl
theorem lQ (x:In):(dt x).all one=true:=by
 cases x<;>simp only[dt,List.cons_append,List.nil_append,List.append_assoc,List.all_append,List.all_cons,List.all_nil,IN,HN,one,Bool.and_self,Bool.and_true,Bool.true_and]<;>rfl
theorem H4 (is:Is)(q:Pl)(h:q.param=true→q.index<is.bH.length):af Tryz.prog 74 [.agg (cO is),.agg (pN q)] (I (oK is q)):=by
 refine af.aK ai Tryz.func74 rfl OV (by simp[Tryz.ntmps74]) rfl fun C hC O0=>?_;rw[Tryz.ntmps74] at hC;simp only[cO,pN,az,nQ];apply aq;simp[hC]
 cases hq:q.param with
 | true=>
  have O1:=h hq;obtain⟨n,hn⟩:∃ n,is.bH[q.index]? = some n:=⟨_,List.getElem?_eq_getElem O1⟩;have OZ:=cZ hn;have W7:oK is q=n:=by simp[oK,hq,List.getD_eq_getElem?_getD,hn]
  apply aO;simp[hC,O1];refine fE ?_;simp;apply aq;simp[hC,O1,OZ];apply T.ret;apply ae.here;simp[Tryz.results74,W7]
 | false=>
  have W7:oK is q=q.index:=by simp[oK,hq]
  apply aO;simp[hC];refine gw ?_;simp;apply aq;simp[hC];apply T.ret;apply ae.here;simp[Tryz.results74,W7]
def ay (m:Mx):Nat:=if m.size=0∧m.re=false then 1 else 8
theorem uj (m:Mx):af Tryz.prog 89 [.agg (eJ m)] (I (ay m)):=by
 obtain⟨nm,re,sz⟩:=m;refine af.aK ai Tryz.func89 rfl OV (by simp[Tryz.ntmps89]) rfl fun C hC O0=>?_;rw[Tryz.ntmps89] at hC;simp only[eJ];apply aq;simp[hC];by_cases hz:sz=0
 ·subst hz
  cases re with
  | true=>
   apply aO;simp[hC];refine gw ?_;simp;apply aq;simp[hC];apply T.ret;apply ae.here;simp[Tryz.results89,ay]
  | false=>
   apply aO;simp[hC];refine fE ?_;simp;apply aq;simp[hC];apply T.ret;apply ae.here;simp[Tryz.results89,ay]
 ·apply aO;simp[hC,hz];refine gw ?_;simp;apply aq;simp[hC];apply T.ret;apply ae.here;simp[Tryz.results89,ay,hz]
theorem uh (m:Mx):af Tryz.prog 66 [.agg (eJ m)] (I (ay m)):=by
 obtain⟨nm,re,sz⟩:=m;refine af.aK ai Tryz.func66 rfl OV (by simp[Tryz.ntmps66]) rfl fun C hC O0=>?_;rw[Tryz.ntmps66] at hC;simp only[eJ];apply aq;simp[hC];by_cases hz:sz=0
 ·subst hz
  cases re with
  | true=>
   apply aO;simp[hC];refine gw ?_;simp;apply aq;simp[hC];apply T.ret;apply ae.here;simp[Tryz.results66,ay]
  | false=>
   apply aO;simp[hC];refine fE ?_;simp;apply aq;simp[hC];apply T.ret;apply ae.here;simp[Tryz.results66,ay]
 ·apply aO;simp[hC,hz];refine gw ?_;simp;apply aq;simp[hC];apply T.ret;apply ae.here;simp[Tryz.results66,ay,hz]
set_option maxHeartbeats 2000000 in
theorem Cr {u:Un}(hu:iy u){x:Is}(hx:pE u x){k:Nat}{z:In}(hz:(au u x)[k]? = some z)(m:Nat):af Tryz.prog 65 [df u,.agg (cO x),I k,I m] (I (du x m z)):=by
 obtain⟨pq,PA,OY,S0,Zl⟩:=oa hu hx hz;rw[OY] at hz;have PR:=(List.getElem?_eq_some_iff.1 PA).1;have PD:=(List.getElem?_eq_some_iff.1 hz).1;have OZ:=bQ (f:=lF) (n:=5) eZ PA 4 yA;have Qy:=aN (f:=dt) (n:=12) eK hz;have QO:=lQ z;have SP:=fW z;have Pa:=aT u;simp only[bY,ints] at Pa;obtain⟨xc,Qm,QB⟩:=iK z;obtain⟨c1,c2,c3,c4,c5,c6,c7,c8,c9,Wz,Wy,rfl⟩:=xY QB;rw[Qm] at Qy QO SP;simp only[List.all_cons,List.all_nil,Bool.and_true,Bool.and_eq_true] at QO;obtain⟨_,o1,o2,o3,o4,o5,o6,o7,o8,o9,Ym,Yl⟩:=QO;refine af.aK ai Tryz.func65 rfl OV (by simp[Tryz.ntmps65]) rfl fun C hC O0=>?_;rw[Tryz.ntmps65] at hC;simp only[df,bY,cO,ints];apply aq;simp[hC];apply aq;simp[hC,PR,OZ,lF,PD,Qy];apply ed;by_cases Zb:∃ un p,z=.lock un p
 ·obtain⟨un,p,rfl⟩:=Zb;have hp:pN p=[c7,c8,c9]:=by
   have h:=congrArg (fun l=>(l.drop 7).take 3) Qm
   simpa [dt,bR,pN] using h
  have YQ:JG u.ms u.gs.length pq.locals pq.bH p:=Zl;have hq:p.param=true→p.index<x.bH.length:=fun h=>by
   rw[S0];rcases YQ with h6 | h6
   ·exact h6.2.1
   ·rw[h] at h6;cases h6.1
  have Rj:=xB x p hq;rw[hp] at Rj;have h2:trees [c7,c8,c9]=true:=by rw[← hp];exact jV p
  have tp:trees [.agg (cO x),.agg [c7,c8,c9]]=true:=by
   rw[show trees [.agg (cO x),.agg [c7,c8,c9]]=(trees (cO x) && (trees [c7,c8,c9] && true)) from rfl,bT,h2];rfl
  simp only[cO] at Rj tp
  cases un with
  | false=>
   have O8:mU (.lock false p)=4:=rfl;rw[O8];apply aq;simp[hC];refine TL.cm O5 rfl rfl rfl rfl (bN.of rfl tp Rj) (TL.go' ai ?_);by_cases Q8:oK x p=m
   ·have hc:du x m (.lock false p)=1:=by simp[du,Q8]
    rw[hc];simp[hC,Q8];refine fE ?_;simp;apply aq;simp[hC];apply T.ret;apply ae.here;simp[Tryz.results65]
   ·have hc:du x m (.lock false p)=0:=by simp[du,Q8]
    have W9:¬ ((oK x p:Int)=(m:Int)):=by omega
    rw[hc];simp[hC];refine T.cond (b:=false) (by simp[ev,assoc,Q8]) ?_;simp;apply aq;simp[hC];refine gw ?_;simp;apply aq;simp[hC];apply T.ret;apply ae.here;simp[Tryz.results65]
  | true=>
   have O8:mU (.lock true p)=5:=rfl;rw[O8];apply aq;simp[hC];refine a7 ?_;simp;apply aq;simp[hC];refine TL.cm O5 rfl rfl rfl rfl (bN.of rfl tp Rj) (TL.go' ai ?_);by_cases Q8:oK x p=m
   ·have hc:du x m (.lock true p)=-1:=by simp[du,Q8]
    rw[hc];simp[hC,Q8];refine fE ?_;simp;apply aq;simp[hC];apply T.ret;apply ae.here;simp[Tryz.results65]
   ·have hc:du x m (.lock true p)=0:=by simp[du,Q8]
    rw[hc];simp[hC];refine T.cond (b:=false) (by simp[ev,assoc,Q8]) (T.skip ?_);simp;apply aq;simp[hC];apply T.ret;apply ae.here;simp[Tryz.results65]
 ·have Pt:(((mU z:Int) == 4)=false∧((mU z:Int) == 5)=false)∧du x m z=0:=by
   cases z with
   | lock un p=>exact (Zb ⟨un,p,rfl⟩).elim
   | call g t l ps=>cases g<;>exact⟨⟨rfl,rfl⟩,rfl⟩
   | _=>exact⟨⟨rfl,rfl⟩,rfl⟩
  obtain⟨⟨h4,h5⟩,hc⟩:=Pt;rw[hc];apply aq;simp[hC,h4];refine a7 ?_;simp;apply aq;simp[hC,h5];refine gw ?_;simp;apply aq;simp[hC];apply T.ret;apply ae.here;simp[Tryz.results65]
theorem zQ (x:Is)(m:Nat)(z:In) : -1≤du x m z∧du x m z≤1:=by
 unfold du;split
 ·split
  ·split<;>omega
  ·omega
 ·omega
theorem dD (x:Mx):ay x≤8:=by unfold ay;split<;>omega
theorem nU (x:Mx):(eJ x).length=3:=rfl
theorem Ka {u:Un}(hu:iy u){x:Is}(hx:pE u x){k:Nat}{z:In}(hz:(au u x)[k]? = some z){m:Nat}{xm:Mx}(hm:u.ms[m]? = some xm):af Tryz.prog 149 [df u,.agg (cO x),I k,I m] (az (kr (ay xm) (du x m z))):=by
 have RN:=Cr hu hx hz m;have PV:=uh xm;have VJ:=xz (ay xm) (du x m z) (dD xm) (zQ x m z).1 (zQ x m z).2;have P3:=(List.getElem?_eq_some_iff.1 hm).1;have Sc:=aN (f:=eJ) (n:=3) nU hm;have Pa:=aT u;have ti:=bT x;have t1:trees [.agg (eJ xm)]=true:=rfl;have t2:trees [df u,.agg (cO x),I k,I m]=true:=by simp only[trees,tree,df,Pa,ti,Bool.and_self]
 have t3:trees [I (ay xm),I (du x m z)]=true:=rfl;refine af.aK ai Tryz.func149 rfl OV (by simp[Tryz.ntmps149]) (aD _) fun C hC O0=>?_;rw[Tryz.ntmps149] at hC;simp only[df,bY,cO,ints] at RN t2 ⊢;apply aq;simp[hC];refine T.seq (T.rx ai follows [0,1,2,3,4,6,7,8,9,5,10,11,12] [(6,5),(7,5)] OV ?_);simp[hC,P3,Sc,eJ];simp only[eJ] at PV t1;refine RX.call rfl rfl rfl rfl rfl t1 PV ?_;simp;refine RX.call rfl rfl rfl rfl rfl t2 RN ?_;simp;refine RX.call rfl rfl rfl rfl rfl t3 VJ ?_;simp;apply T.ret;apply ae.here;simp[Tryz.results149]
end Go.Proofs.YtnecpnjdonibmaaGreat
