/- SameInts, Find. -/
import Derived.Test.YtlkmbdfhdknlgaaGreatDoorZ31
namespace Go.aN
open Go.Can
theorem oo (l:List Nat):aB l=ints (l.map fun n:Nat=>(n:Int)):=by simp[aB,ints,List.map_map,Function.comp_def]
def oK (y:Is)(p:Int)(ls:List Int):Bool:=decide ((y.proc:Int)=p) && decide ((y.bI.map fun n:Nat=>(n:Int))=ls)
def oP:List Is→Int→List Int→Int→Int
 | [],_,_,_=>-1
 | y::r,p,ls,i=>if oK y p ls=true then i else oP r p ls (i+1)
end Go.aN
namespace Go.Proofs.YtlkmbdfhdknlgaaGreatDoor
open Go.Can Go.aN
set_option maxRecDepth 10000 in
theorem na (a b:List Int)(ha:a.length≤4611686018427387904):ae Tryz.prog 73 [ints a,ints b] (.bool (decide (a=b))):=by
 refine ae.aH af Tryz.func73 rfl N4 (by simp[Tryz.ntmps73]) rfl fun C hC N8=>?_;rw[Tryz.ntmps73] at hC;apply ai;simp[hC];apply aL;simp[hC,ints];refine T.bg rfl (fun h=>?_) (fun h=>?_)
 ·apply ai;simp[hC];apply T.ret;apply aa.here;simp[Tryz.results73];intro e;subst e;simp at h
 ·apply T.skip;have hl:a.length=b.length:=by simp at h;omega
  apply aL;simp[hC];apply T.block;refine T.aI (fun m s=>∃ i,m=a.length-i∧i≤a.length∧(∀ j,j<i→a[j]? = b[j]?)∧s=⟨[(5,.int .i64 i),(0,ints a),(1,ints b)],[],0⟩) (n:=a.length) ?_ ?_
  ·refine aa.trim [5,0,1] [] 0 rfl yA ⟨0,rfl,Nat.zero_le _,by simp,?_⟩;simp[ints]
  ·rintro n s ⟨i,rfl,hi,hj,rfl⟩;apply aL;simp[hC,ints];refine T.bg rfl (fun h=>?_) (fun h=>?_)
   ·apply T.skip;have hib:i<a.length:=by simpa using h
    simp;have ea:a[i]? = some a[i]:=List.getElem?_eq_getElem hib;have eb:b[i]? = some b[i]:=List.getElem?_eq_getElem yA;refine T.seq (T.block (T.seq (T.rx af follows [0,1,2,3,4,5,6,7,8] [] N4 ?_)));simp[hC,hib,← hl];refine T.bg rfl (fun h=>?_) (fun h=>?_)
    ·apply ai;simp[hC];apply T.ret;apply aa.here;simp[Tryz.results73];intro e;subst e;simp at h
    ·apply T.skip;simp;apply aY;simp[hC];refine⟨_,?_,aa.trim [5,0,1] [] 0 rfl yA ⟨i+1,rfl,hib,?_,?_⟩⟩
     ·omega
     ·intro j hj';by_cases e:j=i
      ·subst e;rw[ea,eb];simpa using h
      ·exact hj j yA
     ·simp;rw[cf _ yA yA]
   ·apply T.exit;simp;apply ai;simp[hC];apply T.ret;apply aa.here;simp[Tryz.results73];have:i=a.length:=by simp at h;omega
    subst this;refine List.ext_getElem? fun j=>?_;by_cases OD:j<a.length
    ·exact hj j OD
    ·rw[List.getElem?_eq_none yA,List.getElem?_eq_none yA]
def fY (l:List Is):Ob:=⟨75,2,l.flatMap cC⟩
def J33 (l:List Is)(X Y:CV)(p:Int)(ls:List Int)(n:Nat)(s:St):Prop:=∃ i:Nat,n=l.length-i∧i≤l.length∧oP l p ls 0=oP (l.drop i) p ls i∧s=⟨[(5,I i),(3,.aq 1 0),(2,.aq 0 0)],[(0,⟨34,0,[.az (l.flatMap cC) l.length,X,Y]⟩),(1,⟨75,0,[I p,ints ls]⟩)],2⟩
set_option maxHeartbeats 4000000 in
theorem rfind_ok (l:List Is)(hl:l.length≤100000)(Re:∀ x∈l,x.bI.length≤100000)(X Y:CV)(hX:tree X=true)(hY:tree Y=true)(p:Int)(ls:List Int) :
  ae Tryz.prog 51 [.agg [.az (l.flatMap cC) l.length,X,Y],.agg [I p,ints ls]] (I (oP l p ls 0)):=by
 have Xt:tree (ints ls)=true:=by simp[ints,tree]
 refine ae.aH af Tryz.func51 rfl N4 (by simp[Tryz.ntmps51]) rfl fun C hC N8=>?_;rw[Tryz.ntmps51] at hC;apply ai;simp[hC];apply aL;simp[hC];apply T.block;refine T.aI (J33 l X Y p ls) (n:=l.length) ?_ ?_
 ·refine aa.trim [5,3,2] [0,1] 2 ZZ yA ⟨0,by omega,by omega,rfl,?_⟩;simp
 ·rintro n s ⟨i,rfl,hi,hf,rfl⟩;by_cases N6:i<l.length
  ·obtain⟨y,hy⟩:∃ y,l[i]? = some y:=⟨l[i],List.getElem?_eq_getElem N6⟩;have hd:l.drop i=y::l.drop (i+1):=by
    rw[List.drop_eq_getElem_cons N6,(List.getElem?_eq_some_iff.1 hy).2]
   rw[hd,oP] at hf;have N7:=aD (f:=cC) (n:=2) dM hy;have Pj:=a8 (f:=cC) (n:=2) dM hy 1 yA;have wi:=cf ((i:Int)+1) yA yA;have QC:=na (y.bI.map fun n:Nat=>(n:Int)) ls (by have:=Re y (List.mem_of_getElem? hy);simp;omega);rw[← oo] at QC;have Oz:trees [aB y.bI,ints ls]=true:=by simp only[trees,aE,Xt,Bool.and_self]
   apply aL;simp[hC,N6];refine fh ?_;simp;apply eG;refine T.cut (fun s=>s=⟨(32,.bool (oK y p ls))::[(5,I i),(3,.aq 1 0),(2,.aq 0 0)],[(0,⟨34,0,[.az (l.flatMap cC) l.length,X,Y]⟩),(1,⟨75,0,[I p,ints ls]⟩)],2⟩) ?_ ?_
   ·refine T.rx af follows [0,1,2,3,4,5,6,7,8,9,10,11,12,13,14,15,16,17,18,19] [] N4 ?_;by_cases hp:(y.proc:Int)=p
    ·have SC:oK y p ls=decide ((y.bI.map fun n:Nat=>(n:Int))=ls):=by simp[oK,hp]
     simp[hC,N6,N7,cC,hp];refine RX.call rfl rfl rfl rfl rfl Oz QC ?_;simp;refine aa.trim [32,5,3,2] [0,1] 2 ZZ yA ?_;simp[SC]
    ·have SC:oK y p ls=false:=by simp[oK,hp]
     have Uh:((y.proc:Int) == p)=false:=by simpa using hp
     simp[hC,N6,N7,cC,Uh];refine aa.trim [32,5,3,2] [0,1] 2 ZZ yA ?_;simp[SC]
   rintro s rfl
   cases hr:oK y p ls with
   | true=>
    rw[if_pos hr] at hf;refine cB ?_;simp;apply ai;simp[hC];apply T.ret;have PA:=hf;simp;apply aa.here;simp[Tryz.results51,PA]
   | false=>
    rw[if_neg (by simp[hr])] at hf;refine dv ?_;simp;apply aY;simp[hC,wi];refine⟨l.length-(i+1),by omega,aa.trim [5,3,2] [0,1] 2 ZZ yA ⟨i+1,rfl,by omega,hf,?_⟩⟩;simp
  ·have Oe:i=l.length:=by omega
   rw[Oe,List.drop_length,oP] at hf;have PA:=hf;apply aL;simp[hC,N6];refine aX ?_;simp;apply T.exit;simp;apply ai;simp[hC];apply T.ret;apply aa.here;simp[Tryz.results51,PA]
def J33B (l:List Is)(m:Nat)(Xg:Ob)(Y:CV)(p:Int)(ls:List Int)(n:Nat)(s:St):Prop:=∃ i:Nat,n=l.length-i∧i≤l.length∧oP l p ls 0=oP (l.drop i) p ls i∧s=⟨[(5,I i),(3,.aq 3 0),(2,.aq 2 0)],[(2,⟨34,0,[.bp 0 0 l.length,.bp 1 0 m,Y]⟩),(3,⟨75,0,[I p,ints ls]⟩),(0,fY l),(1,Xg)],4⟩
set_option maxHeartbeats 4000000 in
theorem wV (l:List Is)(hl:l.length≤100000)(Re:∀ x∈l,x.bI.length≤100000)(m:Nat)(Xg:Ob)(Vr:trees Xg.cells=true)(Y:CV)(hY:tree Y=true)(p:Int)(ls:List Int) :
  Body Tryz.prog av 51 [.agg [.bp 0 0 l.length,.bp 1 0 m,Y],.agg [I p,ints ls]] [(0,fY l),(1,Xg)] 2 (jA (I (oP l p ls 0)) [(0,fY l),(1,Xg)] 2):=by
 have Xt:tree (ints ls)=true:=by simp[ints,tree]
 refine Body.iV Tryz.func51 rfl N4 (by simp[Tryz.ntmps51]) fun C hC N8=>?_;rw[Tryz.ntmps51] at hC;apply ai;simp[hC,fY];apply aL;simp[hC];apply T.block;refine T.aI (J33B l m Xg Y p ls) (n:=l.length) ?_ ?_
 ·refine aa.trim [5,3,2] [2,3,0,1] 4 yCj yA ⟨0,by omega,by omega,rfl,?_⟩;simp[fY]
 ·rintro n s ⟨i,rfl,hi,hf,rfl⟩;by_cases N6:i<l.length
  ·obtain⟨y,hy⟩:∃ y,l[i]? = some y:=⟨l[i],List.getElem?_eq_getElem N6⟩;have hd:l.drop i=y::l.drop (i+1):=by
    rw[List.drop_eq_getElem_cons N6,(List.getElem?_eq_some_iff.1 hy).2]
   rw[hd,oP] at hf;have N7:=aD (f:=cC) (n:=2) dM hy;have Pj:=a8 (f:=cC) (n:=2) dM hy 1 yA;have wi:=cf ((i:Int)+1) yA yA;have QC:=na (y.bI.map fun n:Nat=>(n:Int)) ls (by have:=Re y (List.mem_of_getElem? hy);simp;omega);rw[← oo] at QC;have Oz:trees [aB y.bI,ints ls]=true:=by simp only[trees,aE,Xt,Bool.and_self]
   apply aL;simp[hC,N6];refine fh ?_;simp;apply eG;refine T.cut (fun s=>s=⟨(32,.bool (oK y p ls))::[(5,I i),(3,.aq 3 0),(2,.aq 2 0)],[(2,⟨34,0,[.bp 0 0 l.length,.bp 1 0 m,Y]⟩),(3,⟨75,0,[I p,ints ls]⟩),(0,fY l),(1,Xg)],4⟩) ?_ ?_
   ·refine T.rx af follows [0,1,2,3,4,5,6,7,8,9,10,11,12,13,14,15,16,17,18,19] [] N4 ?_;by_cases hp:(y.proc:Int)=p
    ·have SC:oK y p ls=decide ((y.bI.map fun n:Nat=>(n:Int))=ls):=by simp[oK,hp]
     simp[hC,N6,N7,Pj,cC,hp,fY];refine RX.call rfl rfl rfl rfl rfl Oz QC ?_;simp;refine aa.trim [32,5,3,2] [2,3,0,1] 4 yCj yA ?_;simp[SC]
    ·have SC:oK y p ls=false:=by simp[oK,hp]
     have Uh:((y.proc:Int) == p)=false:=by simpa using hp
     simp[hC,N6,N7,cC,Uh,fY];refine aa.trim [32,5,3,2] [2,3,0,1] 4 yCj yA ?_;simp[SC]
   rintro s rfl
   cases hr:oK y p ls with
   | true=>
    rw[if_pos hr] at hf;refine cB ?_;simp;apply ai;simp[hC];apply T.ret;have PA:=hf;simp;refine aa.trim [4] [0,1] 2 (by simp[-List.all_eq_true,ah Vr,ah (aO bD l),fY]) yA ⟨_,?_,rfl,?_,rfl⟩
    ·simp[Tryz.results51,PA]
    ·simp[fY]
   | false=>
    rw[if_neg (by simp[hr])] at hf;refine dv ?_;simp;apply aY;simp[hC,wi];refine⟨l.length-(i+1),by omega,aa.trim [5,3,2] [2,3,0,1] 4 (by simp[-List.all_eq_true,-List.all_flatMap,a9 4 _ hY,ah (aO bD l),a9 4 _ Xt,ah Vr,fY]) yA ⟨i+1,rfl,by omega,hf,?_⟩⟩;simp[fY]
  ·have Oe:i=l.length:=by omega
   rw[Oe,List.drop_length,oP] at hf;have PA:=hf;apply aL;simp[hC,N6];refine aX ?_;simp;apply T.exit;simp;apply ai;simp[hC];apply T.ret;refine aa.trim [4] [0,1] 2 (by simp[-List.all_eq_true,ah Vr,ah (aO bD l),fY]) yA ⟨_,?_,rfl,?_,rfl⟩
   ·simp[Tryz.results51,PA]
   ·simp[fY]
end Go.Proofs.YtlkmbdfhdknlgaaGreatDoor
