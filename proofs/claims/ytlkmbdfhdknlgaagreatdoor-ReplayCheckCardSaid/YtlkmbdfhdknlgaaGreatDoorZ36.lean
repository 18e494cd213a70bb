/- has, With. -/
import Derived.Test.YtlkmbdfhdknlgaaGreatDoorZ35
namespace Go.Proofs.YtlkmbdfhdknlgaaGreatDoor
open Go.Can Go.aT
def J94 (l:List Nat)(x:Nat)(m:Nat)(s:St):Prop:=∃ i:Nat,m=l.length-i∧i≤l.length∧(x∉l.take i)∧s=⟨[(5,I i),(0,aN l),(1,I x)],[],0⟩
theorem Fa (l:List Nat)(x:Nat)(hl:l.length≤100000):ae Tryz.prog 86 [aN l,I x] (.bool (decide (x∈l))):=by
 refine ae.aD af Tryz.func86 rfl lz (by simp[Tryz.ntmps86]) rfl fun C hC xJ=>?_;rw[Tryz.ntmps86] at hC;simp only[aN];apply ah;simp[hC];apply aL;simp[hC];apply T.block;refine T.aI (J94 l x) (n:=l.length) ?_ ?_
 ·refine aa.trim [5,0,1] [] 0 Nk yA ⟨0,by omega,by omega,by simp,?_⟩;simp[aN]
 ·rintro n s ⟨i,rfl,hi,hx,rfl⟩;simp only[aN];by_cases nr:i<l.length
  ·obtain⟨a,ha⟩:∃ a,l[i]? = some a:=⟨l[i],List.getElem?_eq_getElem nr⟩;have oy:=mY ha;have wi:=cm ((i:Int)+1) yA yA;have Kk:l.take (i+1)=l.take i++[a]:=by rw[List.take_add_one,ha];rfl
   apply aL;simp[hC,nr];refine gF ?_;simp;apply fw;by_cases Ow:a=x
   ·have hd:decide (x∈l)=true:=by simp only[decide_eq_true_eq];exact Ow ▸ List.mem_of_getElem? ha
    subst Ow;apply ah;simp[hC,nr,oy];refine cz ?_;simp;apply ah;simp[hC];apply T.ret;apply aa.here;rw[hd];simp[Tryz.results86]
   ·have F0:((a:Int) == (x:Int))=false:=by
     rw[beq_eq_false_iff_ne];omega
    apply ah;simp[hC,nr,oy,F0];refine dg ?_;simp;apply a8;simp[hC,wi];refine⟨l.length-(i+1),by omega,aa.trim [5,0,1] [] 0 Nk yA ⟨i+1,rfl,by omega,?_,?_⟩⟩
    ·rw[Kk,List.mem_append,List.mem_singleton,not_or];exact⟨hx,fun h=>Ow h.symm⟩
    ·simp[aN]
  ·have CW:i=l.length:=by omega
   subst CW;rw[List.take_length] at hx;have hd:decide (x∈l)=false:=by simp[hx]
   apply aL;simp[hC];refine aU ?_;simp;apply T.exit;simp;apply ah;simp[hC];apply T.ret;apply aa.here;rw[hd];simp[Tryz.results86]
theorem vI:∀ (l:List Nat) (x i:Nat),i<bW l x→∃ a,l[i]? = some a∧a<x
 | [],x,i,h=>by simp[bW] at h
 | b::r,x,i,h=>by
  simp only[bW,List.takeWhile_cons] at h;split at h
  ·rename_i hb
   cases i with
   | zero=>exact⟨b,rfl,by simpa using hb⟩
   | succ i=>
    obtain⟨a,h1,h2⟩:=vI r x i (by simp only[bW];simpa using h);exact⟨a,by simpa using h1,h2⟩
  ·simp at h
theorem sQ:∀ (l:List Nat) (x:Nat),bW l x≤l.length∧∀ a,l[bW l x]? = some a→¬ a<x
 | [],x=>⟨by simp[bW],fun a h=>by simp[bW] at h⟩
 | b::r,x=>by
  obtain⟨h1,h2⟩:=sQ r x;simp only[bW,List.takeWhile_cons] at h1 h2 ⊢;split
  ·exact⟨by simpa using h1,fun a h=>h2 a ON⟩
  ·rename_i hb;refine⟨by simp,fun a h=>?_⟩;simp only[List.length_nil,List.getElem?_cons_zero,Option.some.injEq] at h;subst h
   simpa using hb
def J61 (l:List Nat)(x:Nat)(m:Nat)(s:St):Prop:=∃ i:Nat,m=bW l x-i∧i≤bW l x∧s=⟨[(5,I i),(0,aN l),(1,I x)],[],0⟩
theorem v9 (l:List Nat)(x:Nat)(hl:l.length≤100000):ae Tryz.prog 52 [aN l,I x] (aN (eY l x)):=by
 have Wz:=Fa l x hl;have tl:=dJ l;obtain⟨N6,MX⟩:=sQ l x;refine ae.aD af Tryz.func52 rfl lz (by simp[Tryz.ntmps52]) (aP _) fun C hC xJ=>?_;rw[Tryz.ntmps52] at hC;apply ah;simp[hC];apply aL;simp[hC];have Lw:trees [aN l,I x]=true:=by simp only[trees,aP,tree,Bool.and_self]
 refine dk Lw Wz ?_;simp;by_cases hm:x∈l
 ·have hw:eY l x=l:=if_pos hm;rw[hw];refine T.cond (b:=true) (by simp[ev,assoc,hm]) ?_;simp;apply ah;simp[hC];apply T.ret;apply aa.here;simp[Tryz.results52]
 ·have hw:eY l x=l.take (bW l x)++x::l.drop (bW l x):=if_neg hm;rw[hw];refine T.cond (b:=false) (by simp[ev,assoc,hm]) (T.skip ?_);simp;apply ah;simp[hC];apply fw;refine T.aI (J61 l x) (n:=bW l x) ?_ ?_
  ·refine aa.trim [5,0,1] [] 0 (by simp[-List.all_eq_true,bq 0 _ (aP l)]) yA ⟨0,by omega,by omega,?_⟩;simp
  ·rintro n s ⟨i,rfl,hi,rfl⟩;simp only[aN];by_cases nr:i<bW l x
   ·obtain⟨a,ha,Ow⟩:=vI l x i nr;have oy:=mY ha;have MD:i<l.length:=(List.getElem?_eq_some_iff.1 ha).1;have wi:=cm ((i:Int)+1) yA yA;have WY:(a:Int)<(x:Int):=by omega
    apply aL;simp[hC,MD,oy,WY];refine gF ?_;simp;apply T.block;apply a8;simp[hC,wi];refine⟨bW l x-(i+1),by omega,aa.trim [5,0,1] [] 0 Nk yA ⟨i+1,rfl,by omega,?_⟩⟩;simp[aN]
   ·have CW:i=bW l x:=by omega
    subst CW;apply T.seq;refine T.cut (fun s=>s=⟨[(21,.bool false),(5,I (bW l x)),(0,aN l),(1,I x)],[],0⟩) ?_ ?_
    ·cases KR:l[bW l x]? with
     | none=>
      have MD:¬ bW l x<l.length:=by
       rw[List.getElem?_eq_none_iff] at KR;omega
      apply a8;simp[hC,MD];refine aa.trim [21,5,0,1] [] 0 Nk yA ?_;simp[aN]
     | some a=>
      have MD:=(List.getElem?_eq_some_iff.1 KR).1;have oy:=mY KR;have MN:¬ (a:Int)<(x:Int):=by have:=MX a KR;omega
      apply a8;simp[hC,MD,oy,MN];refine aa.trim [21,5,0,1] [] 0 Nk yA ?_;simp[aN]
    rintro s rfl;refine aU ?_;simp;apply T.exit;simp[aN];have K1:bW l x*8≤140737488355328:=by omega
    have K0:(bW l x+1)*8≤140737488355328:=by omega
    have hb3:(l.length+1)*8≤140737488355328:=by omega
    have hb4:(bW l x+1+(l.length-bW l x))*8≤140737488355328:=by omega
    apply T.seq;refine T.rx af follows [0,1,2,3,4,5,6,7,8,9,10,11,12] [(0,3),(0,6),(0,10),(3,6),(4,6),(4,10),(6,10),(7,10)] lz ?_;simp[hC,N6,K1,K0,hb4,aS];apply T.ret;have Tu:List.take (l.length-bW l x) (List.drop (bW l x) (l.map fun n:Nat=>I n))=(l.drop (bW l x)).map fun n:Nat=>I n:=by
     rw[← List.map_drop,List.take_of_length_le j5]
    have Kq:List.take (bW l x) (l.map fun n:Nat=>I n)++I x::((l.drop (bW l x)).map fun n:Nat=>I n)=(l.take (bW l x)++x::l.drop (bW l x)).map fun n:Nat=>I n:=by simp
    have hlen:bW l x+1+(l.length-bW l x)=(l.take (bW l x)++x::l.drop (bW l x)).length:=by simp;omega
    have tN:=dJ (l.take (bW l x)++x::l.drop (bW l x));simp only[Tu];rw[Kq];have Kk:List.take (l.take (bW l x)++x::l.drop (bW l x)).length ((l.take (bW l x)++x::l.drop (bW l x)).map fun n:Nat=>I n)=(l.take (bW l x)++x::l.drop (bW l x)).map fun n:Nat=>I n:=List.take_of_length_le j5;rw[hlen];generalize hL:(l.take (bW l x)++x::l.drop (bW l x))=L at tN Kk;refine aa.le (Le.trim [4] [15] 16 (by simp[-List.all_eq_true,aj tN]) yA) ?_;simp;refine aa.le (Le.dC (o:=15) rfl tN) ?_;simp[Kk];apply aa.here;simp;exact⟨by rw[← hL];simp,by rw[← hL];simp;omega⟩
end Go.Proofs.YtlkmbdfhdknlgaaGreatDoor
namespace Go.aT
open Go.Can
theorem l8 (l:List Nat):aN l=ints (l.map fun n:Nat=>(n:Int)):=by simp[aN,ints,List.map_map,Function.comp_def]
def mr (y:Is)(p:Int)(ls:List Int):Bool:=decide ((y.proc:Int)=p) && decide ((y.bx.map fun n:Nat=>(n:Int))=ls)
def mA:List Is→Int→List Int→Int→Int
 | [],_,_,_=>-1
 | y::r,p,ls,i=>if mr y p ls=true then i else mA r p ls (i+1)
end Go.aT
namespace Go.Proofs.YtlkmbdfhdknlgaaGreatDoor
open Go.Can Go.aT
set_option maxRecDepth 10000 in
theorem pJ (a b:List Int)(ha:a.length≤4611686018427387904):ae Tryz.prog 73 [ints a,ints b] (.bool (decide (a=b))):=by
 refine ae.aD af Tryz.func73 rfl lz (by simp[Tryz.ntmps73]) rfl fun C hC xJ=>?_;rw[Tryz.ntmps73] at hC;apply ah;simp[hC];apply aL;simp[hC,ints];refine T.aX rfl (fun h=>?_) (fun h=>?_)
 ·apply ah;simp[hC];apply T.ret;apply aa.here;simp[Tryz.results73];intro e;subst e;simp at h
 ·apply T.skip;have hl:a.length=b.length:=by simp at h;omega
  apply aL;simp[hC];apply T.block;refine T.aI (fun m s=>∃ i,m=a.length-i∧i≤a.length∧(∀ j,j<i→a[j]? = b[j]?)∧s=⟨[(5,.int .i64 i),(0,ints a),(1,ints b)],[],0⟩) (n:=a.length) ?_ ?_
  ·refine aa.trim [5,0,1] [] 0 rfl yA ⟨0,rfl,Nat.zero_le _,by simp,?_⟩;simp[ints]
  ·rintro n s ⟨i,rfl,hi,hj,rfl⟩;apply aL;simp[hC,ints];refine T.aX rfl (fun h=>?_) (fun h=>?_)
   ·apply T.skip;have Wx:i<a.length:=by simpa using h
    simp;have ea:a[i]? = some a[i]:=List.getElem?_eq_getElem Wx;have eb:b[i]? = some b[i]:=List.getElem?_eq_getElem yA;refine T.seq (T.block (T.seq (T.rx af follows [0,1,2,3,4,5,6,7,8] [] lz ?_)));simp[hC,Wx,← hl];refine T.aX rfl (fun h=>?_) (fun h=>?_)
    ·apply ah;simp[hC];apply T.ret;apply aa.here;simp[Tryz.results73];intro e;subst e;simp at h
    ·apply T.skip;simp;apply a8;simp[hC];refine⟨_,?_,aa.trim [5,0,1] [] 0 rfl yA ⟨i+1,rfl,Wx,?_,?_⟩⟩
     ·omega
     ·intro j Yh;by_cases e:j=i
      ·subst e;rw[ea,eb];simpa using h
      ·exact hj j yA
     ·simp;rw[cm _ yA yA]
   ·apply T.exit;simp;apply ah;simp[hC];apply T.ret;apply aa.here;simp[Tryz.results73];have:i=a.length:=by simp at h;omega
    subst this;refine List.ext_getElem? fun j=>?_;by_cases KT:j<a.length
    ·exact hj j KT
    ·rw[List.getElem?_eq_none yA,List.getElem?_eq_none yA]
def fa (l:List Is):Ob:=⟨75,2,l.flatMap cP⟩
def J33 (l:List Is)(X Y:CV)(p:Int)(ls:List Int)(n:Nat)(s:St):Prop:=∃ i:Nat,n=l.length-i∧i≤l.length∧mA l p ls 0=mA (l.drop i) p ls i∧s=⟨[(5,I i),(3,.ai 1 0),(2,.ai 0 0)],[(0,⟨34,0,[.au (l.flatMap cP) l.length,X,Y]⟩),(1,⟨75,0,[I p,ints ls]⟩)],2⟩
set_option maxHeartbeats 4000000 in
theorem rfind_ok (l:List Is)(hl:l.length≤100000)(MD:∀ x∈l,x.bx.length≤100000)(X Y:CV)(hX:tree X=true)(hY:tree Y=true)(p:Int)(ls:List Int) :
  ae Tryz.prog 51 [.agg [.au (l.flatMap cP) l.length,X,Y],.agg [I p,ints ls]] (I (mA l p ls 0)):=by
 have RV:tree (ints ls)=true:=by simp[ints,tree]
 refine ae.aD af Tryz.func51 rfl lz (by simp[Tryz.ntmps51]) rfl fun C hC xJ=>?_;rw[Tryz.ntmps51] at hC;apply ah;simp[hC];apply aL;simp[hC];apply T.block;refine T.aI (J33 l X Y p ls) (n:=l.length) ?_ ?_
 ·refine aa.trim [5,3,2] [0,1] 2 Uj yA ⟨0,by omega,by omega,rfl,?_⟩;simp
 ·rintro n s ⟨i,rfl,hi,hf,rfl⟩;by_cases nr:i<l.length
  ·obtain⟨y,hy⟩:∃ y,l[i]? = some y:=⟨l[i],List.getElem?_eq_getElem nr⟩;have hd:l.drop i=y::l.drop (i+1):=by
    rw[List.drop_eq_getElem_cons nr,(List.getElem?_eq_some_iff.1 hy).2]
   rw[hd,mA] at hf;have oy:=az (f:=cP) (n:=2) dV hy;have KU:=bb (f:=cP) (n:=2) dV hy 1 yA;have wi:=cm ((i:Int)+1) yA yA;have MJ:=pJ (y.bx.map fun n:Nat=>(n:Int)) ls (by have:=MD y (List.mem_of_getElem? hy);simp;omega);rw[← l8] at MJ;have Lw:trees [aN y.bx,ints ls]=true:=by simp only[trees,aP,RV,Bool.and_self]
   apply aL;simp[hC,nr];refine gF ?_;simp;apply fw;refine T.cut (fun s=>s=⟨(32,.bool (mr y p ls))::[(5,I i),(3,.ai 1 0),(2,.ai 0 0)],[(0,⟨34,0,[.au (l.flatMap cP) l.length,X,Y]⟩),(1,⟨75,0,[I p,ints ls]⟩)],2⟩) ?_ ?_
   ·refine T.rx af follows [0,1,2,3,4,5,6,7,8,9,10,11,12,13,14,15,16,17,18,19] [] lz ?_;by_cases hp:(y.proc:Int)=p
    ·have N0:mr y p ls=decide ((y.bx.map fun n:Nat=>(n:Int))=ls):=by simp[mr,hp]
     simp[hC,nr,oy,cP,hp];refine RX.call rfl rfl rfl rfl rfl Lw MJ ?_;simp;refine aa.trim [32,5,3,2] [0,1] 2 Uj yA ?_;simp[N0]
    ·have N0:mr y p ls=false:=by simp[mr,hp]
     have Tc:((y.proc:Int) == p)=false:=by simpa using hp
     simp[hC,nr,oy,cP,Tc];refine aa.trim [32,5,3,2] [0,1] 2 Uj yA ?_;simp[N0]
   rintro s rfl
   cases hr:mr y p ls with
   | true=>
    rw[if_pos hr] at hf;refine cz ?_;simp;apply ah;simp[hC];apply T.ret;have K7:=hf;simp;apply aa.here;simp[Tryz.results51,K7]
   | false=>
    rw[if_neg (by simp[hr])] at hf;refine dg ?_;simp;apply a8;simp[hC,wi];refine⟨l.length-(i+1),by omega,aa.trim [5,3,2] [0,1] 2 Uj yA ⟨i+1,rfl,by omega,hf,?_⟩⟩;simp
  ·have CW:i=l.length:=by omega
   rw[CW,List.drop_length,mA] at hf;have K7:=hf;apply aL;simp[hC,nr];refine aU ?_;simp;apply T.exit;simp;apply ah;simp[hC];apply T.ret;apply aa.here;simp[Tryz.results51,K7]
def J33B (l:List Is)(m:Nat)(RK:Ob)(Y:CV)(p:Int)(ls:List Int)(n:Nat)(s:St):Prop:=∃ i:Nat,n=l.length-i∧i≤l.length∧mA l p ls 0=mA (l.drop i) p ls i∧s=⟨[(5,I i),(3,.ai 3 0),(2,.ai 2 0)],[(2,⟨34,0,[.bw 0 0 l.length,.bw 1 0 m,Y]⟩),(3,⟨75,0,[I p,ints ls]⟩),(0,fa l),(1,RK)],4⟩
set_option maxHeartbeats 4000000 in
theorem te (l:List Is)(hl:l.length≤100000)(MD:∀ x∈l,x.bx.length≤100000)(m:Nat)(RK:Ob)(Qo:trees RK.cells=true)(Y:CV)(hY:tree Y=true)(p:Int)(ls:List Int) :
  Body Tryz.prog ak 51 [.agg [.bw 0 0 l.length,.bw 1 0 m,Y],.agg [I p,ints ls]] [(0,fa l),(1,RK)] 2 (jQ (I (mA l p ls 0)) [(0,fa l),(1,RK)] 2):=by
 have RV:tree (ints ls)=true:=by simp[ints,tree]
 refine Body.je Tryz.func51 rfl lz (by simp[Tryz.ntmps51]) fun C hC xJ=>?_;rw[Tryz.ntmps51] at hC;apply ah;simp[hC,fa];apply aL;simp[hC];apply T.block;refine T.aI (J33B l m RK Y p ls) (n:=l.length) ?_ ?_
 ·refine aa.trim [5,3,2] [2,3,0,1] 4 yC yA ⟨0,by omega,by omega,rfl,?_⟩;simp[fa]
 ·rintro n s ⟨i,rfl,hi,hf,rfl⟩;by_cases nr:i<l.length
  ·obtain⟨y,hy⟩:∃ y,l[i]? = some y:=⟨l[i],List.getElem?_eq_getElem nr⟩;have hd:l.drop i=y::l.drop (i+1):=by
    rw[List.drop_eq_getElem_cons nr,(List.getElem?_eq_some_iff.1 hy).2]
   rw[hd,mA] at hf;have oy:=az (f:=cP) (n:=2) dV hy;have KU:=bb (f:=cP) (n:=2) dV hy 1 yA;have wi:=cm ((i:Int)+1) yA yA;have MJ:=pJ (y.bx.map fun n:Nat=>(n:Int)) ls (by have:=MD y (List.mem_of_getElem? hy);simp;omega);rw[← l8] at MJ;have Lw:trees [aN y.bx,ints ls]=true:=by simp only[trees,aP,RV,Bool.and_self]
   apply aL;simp[hC,nr];refine gF ?_;simp;apply fw;refine T.cut (fun s=>s=⟨(32,.bool (mr y p ls))::[(5,I i),(3,.ai 3 0),(2,.ai 2 0)],[(2,⟨34,0,[.bw 0 0 l.length,.bw 1 0 m,Y]⟩),(3,⟨75,0,[I p,ints ls]⟩),(0,fa l),(1,RK)],4⟩) ?_ ?_
   ·refine T.rx af follows [0,1,2,3,4,5,6,7,8,9,10,11,12,13,14,15,16,17,18,19] [] lz ?_;by_cases hp:(y.proc:Int)=p
    ·have N0:mr y p ls=decide ((y.bx.map fun n:Nat=>(n:Int))=ls):=by simp[mr,hp]
     simp[hC,nr,oy,KU,cP,hp,fa];refine RX.call rfl rfl rfl rfl rfl Lw MJ ?_;simp;refine aa.trim [32,5,3,2] [2,3,0,1] 4 yC yA ?_;simp[N0]
    ·have N0:mr y p ls=false:=by simp[mr,hp]
     have Tc:((y.proc:Int) == p)=false:=by simpa using hp
     simp[hC,nr,oy,cP,Tc,fa];refine aa.trim [32,5,3,2] [2,3,0,1] 4 yC yA ?_;simp[N0]
   rintro s rfl
   cases hr:mr y p ls with
   | true=>
    rw[if_pos hr] at hf;refine cz ?_;simp;apply ah;simp[hC];apply T.ret;have K7:=hf;simp;refine aa.trim [4] [0,1] 2 (by simp[-List.all_eq_true,aj Qo,aj (aE bL l),fa]) yA ⟨_,?_,rfl,?_,rfl⟩
    ·simp[Tryz.results51,K7]
    ·simp[fa]
   | false=>
    rw[if_neg (by simp[hr])] at hf;refine dg ?_;simp;apply a8;simp[hC,wi];refine⟨l.length-(i+1),by omega,aa.trim [5,3,2] [2,3,0,1] 4 (by simp[-List.all_eq_true,-List.all_flatMap,bq 4 _ hY,aj (aE bL l),bq 4 _ RV,aj Qo,fa]) yA ⟨i+1,rfl,by omega,hf,?_⟩⟩;simp[fa]
  ·have CW:i=l.length:=by omega
   rw[CW,List.drop_length,mA] at hf;have K7:=hf;apply aL;simp[hC,nr];refine aU ?_;simp;apply T.exit;simp;apply ah;simp[hC];apply T.ret;refine aa.trim [4] [0,1] 2 (by simp[-List.all_eq_true,aj Qo,aj (aE bL l),fa]) yA ⟨_,?_,rfl,?_,rfl⟩
   ·simp[Tryz.results51,K7]
   ·simp[fa]
end Go.Proofs.YtlkmbdfhdknlgaaGreatDoor
