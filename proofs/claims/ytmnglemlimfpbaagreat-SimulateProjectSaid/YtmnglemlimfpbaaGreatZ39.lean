/- has, With. -/
import Derived.Test.YtmnglemlimfpbaaGreatZ38
namespace Go.Proofs.YtmnglemlimfpbaaGreat
open Go.Can Go.aX
def J94 (l:List Nat)(x:Nat)(m:Nat)(s:St):Prop:=∃ i:Nat,m=l.length-i∧i≤l.length∧(x∉l.take i)∧s=⟨[(5,I i),(0,aW l),(1,I x)],[],0⟩
theorem Ig (l:List Nat)(x:Nat)(hl:l.length≤100000):ae Tryz.prog 94 [aW l,I x] (.bool (decide (x∈l))):=by
 refine ae.aB ag Tryz.func94 rfl yAb (by simp[Tryz.ntmps94]) rfl fun C hC hC0=>?_
 rw[Tryz.ntmps94] at hC
 simp only[aW]
 apply au
 simp[hC]
 apply aJ
 simp[hC]
 apply T.block
 refine T.aL (J94 l x) (n:=l.length) ?_ ?_
 ·refine aa.trim [5,0,1] [] 0 yBc yA ⟨0,by omega,by omega,by simp,?_⟩
  simp[aW]
 ·rintro n s ⟨i,rfl,hi,hx,rfl⟩
  simp only[aW]
  by_cases hil:i<l.length
  ·obtain⟨a,ha⟩:∃ a,l[i]? = some a:=⟨l[i],List.getElem?_eq_getElem hil⟩
   have hdr:=j7 ha
   have wi:=ct ((i:Int)+1) yA yA
   have htk:l.take (i+1)=l.take i++[a]:=by rw[List.take_add_one,ha];rfl
   apply aJ
   simp[hC,hil]
   refine iv ?_
   simp
   apply fq
   by_cases hax:a=x
   ·have hd:decide (x∈l)=true:=by simp only[decide_eq_true_eq];exact hax ▸ List.mem_of_getElem? ha
    subst hax
    apply au
    simp[hC,hil,hdr]
    refine dN ?_
    simp
    apply au
    simp[hC]
    apply T.ret
    apply aa.here
    rw[hd]
    simp[Tryz.results94]
   ·have hne:((a:Int) == (x:Int))=false:=by
     rw[beq_eq_false_iff_ne]
     omega
    apply au
    simp[hC,hil,hdr,hne]
    refine e9 ?_
    simp
    apply aO
    simp[hC,wi]
    refine⟨l.length-(i+1),by omega,aa.trim [5,0,1] [] 0 yBc yA ⟨i+1,rfl,by omega,?_,?_⟩⟩
    ·rw[htk,List.mem_append,List.mem_singleton,not_or]
     exact⟨hx,fun h=>hax h.symm⟩
    ·simp[aW]
  ·have hie:i=l.length:=by omega
   subst hie
   rw[List.take_length] at hx
   have hd:decide (x∈l)=false:=by simp[hx]
   apply aJ
   simp[hC]
   refine bj ?_
   simp
   apply T.exit
   simp
   apply au
   simp[hC]
   apply T.ret
   apply aa.here
   rw[hd]
   simp[Tryz.results94]
theorem ze:∀ (l:List Nat) (x i:Nat),i<cE l x→∃ a,l[i]? = some a∧a<x
 | [],x,i,h=>by simp[cE] at h
 | b::r,x,i,h=>by
  simp only[cE,List.takeWhile_cons] at h
  split at h
  ·rename_i hb
   cases i with
   | zero=>exact⟨b,rfl,by simpa using hb⟩
   | succ i=>
    obtain⟨a,h1,h2⟩:=ze r x i (by simp only[cE];simpa using h)
    exact⟨a,by simpa using h1,h2⟩
  ·simp at h
theorem v9:∀ (l:List Nat) (x:Nat),cE l x≤l.length∧∀ a,l[cE l x]? = some a→¬ a<x
 | [],x=>⟨by simp[cE],fun a h=>by simp[cE] at h⟩
 | b::r,x=>by
  obtain⟨h1,h2⟩:=v9 r x
  simp only[cE,List.takeWhile_cons] at h1 h2 ⊢
  split
  ·exact⟨by simpa using h1,fun a h=>h2 a yAy⟩
  ·rename_i hb
   refine⟨by simp,fun a h=>?_⟩
   simp only[List.length_nil,List.getElem?_cons_zero,Option.some.injEq] at h
   subst h
   simpa using hb
def J61 (l:List Nat)(x:Nat)(m:Nat)(s:St):Prop:=∃ i:Nat,m=cE l x-i∧i≤cE l x∧s=⟨[(5,I i),(0,aW l),(1,I x)],[],0⟩
theorem FI (l:List Nat)(x:Nat)(hl:l.length≤100000):ae Tryz.prog 61 [aW l,I x] (aW (jY l x)):=by
 have hhas:=Ig l x hl
 have tl:=aP l
 obtain⟨hk1,hk2⟩:=v9 l x
 refine ae.aB ag Tryz.func61 rfl yAb (by simp[Tryz.ntmps61]) (bW _) fun C hC hC0=>?_
 rw[Tryz.ntmps61] at hC
 apply au
 simp[hC]
 apply aJ
 simp[hC]
 have targ:trees [aW l,I x]=true:=by simp only[trees,bW,tree,Bool.and_self]
 refine cH targ hhas ?_
 simp
 by_cases hm:x∈l
 ·have hw:jY l x=l:=if_pos hm
  rw[hw]
  refine T.cond (b:=true) (by simp[ev,assoc,hm]) ?_
  simp
  apply au
  simp[hC]
  apply T.ret
  apply aa.here
  simp[Tryz.results61]
 ·have hw:jY l x=l.take (cE l x)++x::l.drop (cE l x):=if_neg hm
  rw[hw]
  refine T.cond (b:=false) (by simp[ev,assoc,hm]) (T.skip ?_)
  simp
  apply au
  simp[hC]
  apply fq
  refine T.aL (J61 l x) (n:=cE l x) ?_ ?_
  ·refine aa.trim [5,0,1] [] 0 (by simp[-List.all_eq_true,a6 0 _ (bW l)]) yA ⟨0,by omega,by omega,?_⟩
   simp
  ·rintro n s ⟨i,rfl,hi,rfl⟩
   simp only[aW]
   by_cases hil:i<cE l x
   ·obtain⟨a,ha,hax⟩:=ze l x i hil
    have hdr:=j7 ha
    have hll:i<l.length:=(List.getElem?_eq_some_iff.1 ha).1
    have wi:=ct ((i:Int)+1) yA yA
    have hax':(a:Int)<(x:Int):=by omega
    apply aJ
    simp[hC,hll,hdr,hax']
    refine iv ?_
    simp
    apply T.block
    apply aO
    simp[hC,wi]
    refine⟨cE l x-(i+1),by omega,aa.trim [5,0,1] [] 0 yBc yA ⟨i+1,rfl,by omega,?_⟩⟩
    simp[aW]
   ·have hie:i=cE l x:=by omega
    subst hie
    apply T.seq
    refine T.cut (fun s=>s=⟨[(21,.bool false),(5,I (cE l x)),(0,aW l),(1,I x)],[],0⟩) ?_ ?_
    ·cases hl2:l[cE l x]? with
     | none=>
      have hll:¬ cE l x<l.length:=by
       rw[List.getElem?_eq_none_iff] at hl2
       omega
      apply aO
      simp[hC,hll]
      refine aa.trim [21,5,0,1] [] 0 yBc yA ?_
      simp[aW]
     | some a=>
      have hll:=(List.getElem?_eq_some_iff.1 hl2).1
      have hdr:=j7 hl2
      have hge:¬ (a:Int)<(x:Int):=by have:=hk2 a hl2;omega
      apply aO
      simp[hC,hll,hdr,hge]
      refine aa.trim [21,5,0,1] [] 0 yBc yA ?_
      simp[aW]
    rintro s rfl
    refine bj ?_
    simp
    apply T.exit
    simp[aW]
    have hb1:cE l x*8≤140737488355328:=by omega
    have hb2:(cE l x+1)*8≤140737488355328:=by omega
    have hb3:(l.length+1)*8≤140737488355328:=by omega
    have hb4:(cE l x+1+(l.length-cE l x))*8≤140737488355328:=by omega
    apply T.seq
    refine T.rx ag follows [0,1,2,3,4,5,6,7,8,9,10,11,12] [(0,3),(0,6),(0,10),(3,6),(4,6),(4,10),(6,10),(7,10)] yAb ?_
    simp[hC,hk1,hb1,hb2,hb4,aI]
    apply T.ret
    have hlast:List.take (l.length-cE l x) (List.drop (cE l x) (l.map fun n:Nat=>I n))=(l.drop (cE l x)).map fun n:Nat=>I n:=by
     rw[← List.map_drop,List.take_of_length_le yAa]
    have hall:List.take (cE l x) (l.map fun n:Nat=>I n)++I x::((l.drop (cE l x)).map fun n:Nat=>I n)=(l.take (cE l x)++x::l.drop (cE l x)).map fun n:Nat=>I n:=by simp
    have hlen:cE l x+1+(l.length-cE l x)=(l.take (cE l x)++x::l.drop (cE l x)).length:=by simp;omega
    have tN:=aP (l.take (cE l x)++x::l.drop (cE l x))
    simp only[hlast]
    rw[hall]
    have htk:List.take (l.take (cE l x)++x::l.drop (cE l x)).length ((l.take (cE l x)++x::l.drop (cE l x)).map fun n:Nat=>I n)=(l.take (cE l x)++x::l.drop (cE l x)).map fun n:Nat=>I n:=List.take_of_length_le yAa
    rw[hlen]
    generalize hL:(l.take (cE l x)++x::l.drop (cE l x))=L at tN htk
    refine aa.le (Le.trim [4] [15] 16 (by simp[-List.all_eq_true,aj tN]) yA) ?_
    simp
    refine aa.le (Le.cG (o:=15) rfl tN) ?_
    simp[htk]
    apply aa.here
    simp
    exact⟨by rw[← hL];simp,by rw[← hL];simp;omega⟩
end Go.Proofs.YtmnglemlimfpbaaGreat
namespace Go.aX
open Go.Can
theorem jV (l:List Nat):aW l=ints (l.map fun n:Nat=>(n:Int)):=by simp[aW,ints,List.map_map,Function.comp_def]
def me (y:Is)(p:Int)(ls:List Int):Bool:=decide ((y.proc:Int)=p) && decide ((y.bf.map fun n:Nat=>(n:Int))=ls)
def ka:List Is→Int→List Int→Int→Int
 | [],_,_,_=>-1
 | y::r,p,ls,i=>if me y p ls=true then i else ka r p ls (i+1)
end Go.aX
namespace Go.Proofs.YtmnglemlimfpbaaGreat
open Go.Can Go.aX
set_option maxRecDepth 10000 in
theorem rS (a b:List Int)(ha:a.length≤4611686018427387904):ae Tryz.prog 28 [ints a,ints b] (.bool (decide (a=b))):=by
 refine ae.aB ag Tryz.func28 rfl yAb (by simp[Tryz.ntmps28]) rfl fun C hC hC0=>?_
 rw[Tryz.ntmps28] at hC
 apply au
 simp[hC]
 apply aJ
 simp[hC,ints]
 refine T.bg rfl (fun h=>?_) (fun h=>?_)
 ·apply au
  simp[hC]
  apply T.ret
  apply aa.here
  simp[Tryz.results28]
  intro e;subst e;simp at h
 ·apply T.skip
  have hl:a.length=b.length:=by simp at h;omega
  apply aJ
  simp[hC]
  apply T.block
  refine T.aL (fun m s=>∃ i,m=a.length-i∧i≤a.length∧(∀ j,j<i→a[j]? = b[j]?)∧s=⟨[(5,.int .i64 i),(0,ints a),(1,ints b)],[],0⟩) (n:=a.length) ?_ ?_
  ·refine aa.trim [5,0,1] [] 0 rfl yA ⟨0,rfl,Nat.zero_le _,by simp,?_⟩
   simp[ints]
  ·rintro n s ⟨i,rfl,hi,hj,rfl⟩
   apply aJ
   simp[hC,ints]
   refine T.bg rfl (fun h=>?_) (fun h=>?_)
   ·apply T.skip
    have hib:i<a.length:=by simpa using h
    simp
    have ea:a[i]? = some a[i]:=List.getElem?_eq_getElem hib
    have eb:b[i]? = some b[i]:=List.getElem?_eq_getElem yA
    refine T.seq (T.block (T.seq (T.G3 ag follows [] [0,1,2,3,4,5,6,7,8] [] yAb ?_)))
    simp[hC,hib,← hl]
    refine T.bg rfl (fun h=>?_) (fun h=>?_)
    ·apply au
     simp[hC]
     apply T.ret
     apply aa.here
     simp[Tryz.results28]
     intro e;subst e;simp at h
    ·apply T.skip
     simp
     apply aO
     simp[hC]
     refine⟨_,?_,aa.trim [5,0,1] [] 0 rfl yA ⟨i+1,rfl,hib,?_,?_⟩⟩
     ·omega
     ·intro j hj'
      by_cases e:j=i
      ·subst e;rw[ea,eb];simpa using h
      ·exact hj j yA
     ·simp
      rw[ct _ yA yA]
   ·apply T.exit
    simp
    apply au
    simp[hC]
    apply T.ret
    apply aa.here
    simp[Tryz.results28]
    have:i=a.length:=by simp at h;omega
    subst this
    refine List.ext_getElem? fun j=>?_
    by_cases hjl:j<a.length
    ·exact hj j hjl
    ·rw[List.getElem?_eq_none yA,List.getElem?_eq_none yA]
def fY (l:List Is):Ob:=⟨74,2,l.flatMap fV⟩
def J33 (l:List Is)(X Y:CV)(p:Int)(ls:List Int)(n:Nat)(s:St):Prop:=∃ i:Nat,n=l.length-i∧i≤l.length∧ka l p ls 0=ka (l.drop i) p ls i∧s=⟨[(5,I i),(3,.aw 1 0),(2,.aw 0 0)],[(0,⟨34,0,[.av (l.flatMap fV) l.length,X,Y]⟩),(1,⟨74,0,[I p,ints ls]⟩)],2⟩
set_option maxHeartbeats 4000000 in
theorem FK (l:List Is)(hl:l.length≤100000)(hll:∀ x∈l,x.bf.length≤100000)(X Y:CV)(hX:tree X=true)(hY:tree Y=true)(p:Int)(ls:List Int) :
  ae Tryz.prog 33 [.agg [.av (l.flatMap fV) l.length,X,Y],.agg [I p,ints ls]] (I (ka l p ls 0)):=by
 have tls:tree (ints ls)=true:=by simp[ints,tree]
 refine ae.aB ag Tryz.func33 rfl yAb (by simp[Tryz.ntmps33]) rfl fun C hC hC0=>?_
 rw[Tryz.ntmps33] at hC
 apply au
 simp[hC]
 apply aJ
 simp[hC]
 apply T.block
 refine T.aL (J33 l X Y p ls) (n:=l.length) ?_ ?_
 ·refine aa.trim [5,3,2] [0,1] 2 yCa yA ⟨0,by omega,by omega,rfl,?_⟩
  simp
 ·rintro n s ⟨i,rfl,hi,hf,rfl⟩
  by_cases hil:i<l.length
  ·obtain⟨y,hy⟩:∃ y,l[i]? = some y:=⟨l[i],List.getElem?_eq_getElem hil⟩
   have hd:l.drop i=y::l.drop (i+1):=by
    rw[List.drop_eq_getElem_cons hil,(List.getElem?_eq_some_iff.1 hy).2]
   rw[hd,ka] at hf
   have hdr:=aE (f:=fV) (n:=2) iY hy
   have hdr1:=cB (f:=fV) (n:=2) iY hy 1 yA
   have wi:=ct ((i:Int)+1) yA yA
   have hsm:=rS (y.bf.map fun n:Nat=>(n:Int)) ls (by have:=hll y (List.mem_of_getElem? hy);simp;omega)
   rw[← jV] at hsm
   have targ:trees [aW y.bf,ints ls]=true:=by simp only[trees,bW,tls,Bool.and_self]
   apply aJ
   simp[hC,hil]
   refine iv ?_
   simp
   apply fq
   refine T.cut (fun s=>s=⟨(32,.bool (me y p ls))::[(5,I i),(3,.aw 1 0),(2,.aw 0 0)],[(0,⟨34,0,[.av (l.flatMap fV) l.length,X,Y]⟩),(1,⟨74,0,[I p,ints ls]⟩)],2⟩) ?_ ?_
   ·refine T.rx ag follows [0,1,2,3,4,5,6,7,8,9,10,11,12,13,14,15,16,17,18,19] [] yAb ?_
    by_cases hp:(y.proc:Int)=p
    ·have hraw:me y p ls=decide ((y.bf.map fun n:Nat=>(n:Int))=ls):=by simp[me,hp]
     simp[hC,hil,hdr,fV,hp]
     refine RX.call rfl rfl rfl rfl rfl targ hsm ?_
     simp
     refine aa.trim [32,5,3,2] [0,1] 2 yCa yA ?_
     simp[hraw]
    ·have hraw:me y p ls=false:=by simp[me,hp]
     have hpe:((y.proc:Int) == p)=false:=by simpa using hp
     simp[hC,hil,hdr,fV,hpe]
     refine aa.trim [32,5,3,2] [0,1] 2 yCa yA ?_
     simp[hraw]
   rintro s rfl
   cases hr:me y p ls with
   | true=>
    rw[if_pos hr] at hf
    refine dN ?_
    simp
    apply au
    simp[hC]
    apply T.ret
    have hres:=hf
    simp
    apply aa.here
    simp[Tryz.results33,hres]
   | false=>
    rw[if_neg (by simp[hr])] at hf
    refine e9 ?_
    simp
    apply aO
    simp[hC,wi]
    refine⟨l.length-(i+1),by omega,aa.trim [5,3,2] [0,1] 2 yCa yA ⟨i+1,rfl,by omega,hf,?_⟩⟩
    simp
  ·have hie:i=l.length:=by omega
   rw[hie,List.drop_length,ka] at hf
   have hres:=hf
   apply aJ
   simp[hC,hil]
   refine bj ?_
   simp
   apply T.exit
   simp
   apply au
   simp[hC]
   apply T.ret
   apply aa.here
   simp[Tryz.results33,hres]
def J33B (l:List Is)(m:Nat)(cob:Ob)(Y:CV)(p:Int)(ls:List Int)(n:Nat)(s:St):Prop:=∃ i:Nat,n=l.length-i∧i≤l.length∧ka l p ls 0=ka (l.drop i) p ls i∧s=⟨[(5,I i),(3,.aw 3 0),(2,.aw 2 0)],[(2,⟨34,0,[.bx 0 0 l.length,.bx 1 0 m,Y]⟩),(3,⟨74,0,[I p,ints ls]⟩),(0,fY l),(1,cob)],4⟩
set_option maxHeartbeats 4000000 in
theorem wM (l:List Is)(hl:l.length≤100000)(hll:∀ x∈l,x.bf.length≤100000)(m:Nat)(cob:Ob)(hcob:trees cob.cells=true)(Y:CV)(hY:tree Y=true)(p:Int)(ls:List Int) :
  Body Tryz.prog aq 33 [.agg [.bx 0 0 l.length,.bx 1 0 m,Y],.agg [I p,ints ls]] [(0,fY l),(1,cob)] 2 (kk (I (ka l p ls 0)) [(0,fY l),(1,cob)] 2):=by
 have tls:tree (ints ls)=true:=by simp[ints,tree]
 refine Body.j5 Tryz.func33 rfl yAb (by simp[Tryz.ntmps33]) fun C hC hC0=>?_
 rw[Tryz.ntmps33] at hC
 apply au
 simp[hC,fY]
 apply aJ
 simp[hC]
 apply T.block
 refine T.aL (J33B l m cob Y p ls) (n:=l.length) ?_ ?_
 ·refine aa.trim [5,3,2] [2,3,0,1] 4 yCf yA ⟨0,by omega,by omega,rfl,?_⟩
  simp[fY]
 ·rintro n s ⟨i,rfl,hi,hf,rfl⟩
  by_cases hil:i<l.length
  ·obtain⟨y,hy⟩:∃ y,l[i]? = some y:=⟨l[i],List.getElem?_eq_getElem hil⟩
   have hd:l.drop i=y::l.drop (i+1):=by
    rw[List.drop_eq_getElem_cons hil,(List.getElem?_eq_some_iff.1 hy).2]
   rw[hd,ka] at hf
   have hdr:=aE (f:=fV) (n:=2) iY hy
   have hdr1:=cB (f:=fV) (n:=2) iY hy 1 yA
   have wi:=ct ((i:Int)+1) yA yA
   have hsm:=rS (y.bf.map fun n:Nat=>(n:Int)) ls (by have:=hll y (List.mem_of_getElem? hy);simp;omega)
   rw[← jV] at hsm
   have targ:trees [aW y.bf,ints ls]=true:=by simp only[trees,bW,tls,Bool.and_self]
   apply aJ
   simp[hC,hil]
   refine iv ?_
   simp
   apply fq
   refine T.cut (fun s=>s=⟨(32,.bool (me y p ls))::[(5,I i),(3,.aw 3 0),(2,.aw 2 0)],[(2,⟨34,0,[.bx 0 0 l.length,.bx 1 0 m,Y]⟩),(3,⟨74,0,[I p,ints ls]⟩),(0,fY l),(1,cob)],4⟩) ?_ ?_
   ·refine T.rx ag follows [0,1,2,3,4,5,6,7,8,9,10,11,12,13,14,15,16,17,18,19] [] yAb ?_
    by_cases hp:(y.proc:Int)=p
    ·have hraw:me y p ls=decide ((y.bf.map fun n:Nat=>(n:Int))=ls):=by simp[me,hp]
     simp[hC,hil,hdr,hdr1,fV,hp,fY]
     refine RX.call rfl rfl rfl rfl rfl targ hsm ?_
     simp
     refine aa.trim [32,5,3,2] [2,3,0,1] 4 yCf yA ?_
     simp[hraw]
    ·have hraw:me y p ls=false:=by simp[me,hp]
     have hpe:((y.proc:Int) == p)=false:=by simpa using hp
     simp[hC,hil,hdr,fV,hpe,fY]
     refine aa.trim [32,5,3,2] [2,3,0,1] 4 yCf yA ?_
     simp[hraw]
   rintro s rfl
   cases hr:me y p ls with
   | true=>
    rw[if_pos hr] at hf
    refine dN ?_
    simp
    apply au
    simp[hC]
    apply T.ret
    have hres:=hf
    simp
    refine aa.trim [4] [0,1] 2 (by simp[-List.all_eq_true,aj hcob,aj (ai bP l),fY]) yA ⟨_,?_,rfl,?_,rfl⟩
    ·simp[Tryz.results33,hres]
    ·simp[fY]
   | false=>
    rw[if_neg (by simp[hr])] at hf
    refine e9 ?_
    simp
    apply aO
    simp[hC,wi]
    refine⟨l.length-(i+1),by omega,aa.trim [5,3,2] [2,3,0,1] 4 (by simp[-List.all_eq_true,-List.all_flatMap,a6 4 _ hY,aj (ai bP l),a6 4 _ tls,aj hcob,fY]) yA ⟨i+1,rfl,by omega,hf,?_⟩⟩
    simp[fY]
  ·have hie:i=l.length:=by omega
   rw[hie,List.drop_length,ka] at hf
   have hres:=hf
   apply aJ
   simp[hC,hil]
   refine bj ?_
   simp
   apply T.exit
   simp
   apply au
   simp[hC]
   apply T.ret
   refine aa.trim [4] [0,1] 2 (by simp[-List.all_eq_true,aj hcob,aj (ai bP l),fY]) yA ⟨_,?_,rfl,?_,rfl⟩
   ·simp[Tryz.results33,hres]
   ·simp[fY]
end Go.Proofs.YtmnglemlimfpbaaGreat
namespace Go.aX
open Go.Can
def comb (n:Nat):Nat→List (List Nat)
 | 0=>[[]]
 | k+1=>(List.range n).flatMap fun a=>(comb n k).map (a :: ·)
theorem z6 (n:Nat):∀ (l:List Nat),(∀ x∈l,x<n)→l∈comb n l.length
 | [],_=>by simp[comb]
 | a::r,h=>by
  simp only[List.length_cons,comb,List.mem_flatMap,List.mem_range,List.mem_map]
  exact⟨a,h a List.mem_cons_self,r,z6 n r fun x hx=>h x (List.mem_cons_of_mem _ hx),rfl⟩
theorem zu (c:Nat):∀ l:List Nat,(∀ x∈l,x≤c)→l.sum≤l.length*c
 | [],_=>by simp
 | a::r,h=>by
  have h1:=h a List.mem_cons_self
  have h2:=zu c r fun x hx=>h x (List.mem_cons_of_mem _ hx)
  rw[List.sum_cons,List.length_cons,Nat.succ_mul]
  omega
theorem AS (n:Nat):∀ k,(comb n k).length=n ^ k
 | 0=>by simp[comb]
 | k+1=>by
  simp only[comb,List.length_flatMap,List.length_map,AS n k]
  rw[List.map_const',List.sum_replicate_nat,List.length_range,Nat.pow_succ,Nat.mul_comm]
def vC (n:Nat):Nat→List Pr→List Is
 | _,[]=>[]
 | t,q::r=>(comb n q.bf).map (fun ls=>⟨t,ls⟩)++vC n (t+1) r
theorem z7 (n:Nat):∀ (l:List Pr) (t j:Nat) (q:Pr) (x:Is),l[j]? = some q→x.proc=t+j→x.bf.length=q.bf→(∀ a∈x.bf,a<n)→x∈vC n t l
 | [],_,_,_,_,h,_,_,_=>by simp at h
 | p::r,t,0,q,x,h,hp,hl,ha=>by
  simp only[List.getElem?_cons_zero,Option.some.injEq] at h
  subst h
  simp only[vC,List.mem_append,List.mem_map]
  refine .inl ⟨x.bf,by rw[← hl];exact z6 n _ ha,?_⟩
  cases x
  simp only at hp
  simp[hp]
 | p::r,t,j+1,q,x,h,hp,hl,ha=>by
  simp only[List.getElem?_cons_succ] at h
  simp only[vC,List.mem_append]
  exact .inr (z7 n r (t+1) j q x h yA hl ha)
theorem wZ {α:Type}(w:α→Nat):∀ (l m:List α),l.Nodup→(∀ x∈l,x∈m)→(l.map w).sum≤(m.map w).sum
 | [],_,_,_=>by simp
 | a::r,m,hn,hs=>by
  obtain⟨m1,m2,rfl⟩:=List.append_of_mem (hs a List.mem_cons_self)
  rw[List.nodup_cons] at hn
  have ih:=wZ w r (m1++m2) hn.2 fun x hx=>by
   have h1:=hs x (List.mem_cons_of_mem _ hx)
   have hne:x≠a:=fun e=>hn.1 (e ▸ hx)
   simp only[List.mem_append,List.mem_cons] at h1 ⊢
   rcases h1 with h | h | h
   ·exact .inl h
   ·exact (hne h).elim
   ·exact .inr h
  simp only[List.map_append,List.sum_append,List.map_cons,List.sum_cons] at ih ⊢
  omega
theorem Ba {u:Un}(w:Is→Nat)(c:Nat)(n:Nat)(hw:∀ x,w x≤c)(hn:n≤4):∀ (l:List Pr) (t:Nat),(∀ q∈l,q.bf≤2)→((vC n t l).map w).sum≤l.length*(16*c)
 | [],_,_=>by simp[vC]
 | q::r,t,h=>by
  have h1:=Ba (u:=u) w c n hw hn r (t+1) fun x hx=>h x (List.mem_cons_of_mem _ hx)
  have h2:=h q List.mem_cons_self
  have h3:(comb n q.bf).length≤16:=by
   rw[AS]
   calc n ^ q.bf≤4 ^ q.bf:=Nat.pow_le_pow_left hn _
    _≤4 ^ 2:=Nat.pow_le_pow_right yA h2
  have h4:(((comb n q.bf).map fun ls=>(⟨t,ls⟩:Is)).map w).sum≤16*c:=by
   refine Nat.le_trans (zu c _ fun x hx=>?_) (Nat.mul_le_mul_right c (by simpa using h3))
   simp only[List.mem_map] at hx
   obtain⟨y,_,rfl⟩:=hx
   exact hw y
  have h5:(r.length+1)*(16*c)=r.length*(16*c)+16*c:=Nat.succ_mul _ _
  simp only[vC,List.map_append,List.sum_append,List.length_cons]
  omega
theorem Ah {u:Un}(hu:l9 u)(w:Is→Nat)(c:Nat)(hw:∀ x,w x≤c){l:List Is}(hn:l.Nodup)(hv:∀ x∈l,Bn u x):(l.map w).sum≤c+48*c:=by
 have hnp:=hu.np
 have hnm:=hu.nm
 have h1:=wZ w l (vC u.ms.length 0 u.ps) hn fun x hx=>by
  obtain⟨⟨q,hq,hl⟩,hm⟩:=hv x hx
  exact z7 _ _ 0 x.proc q x hq yA hl hm
 refine Nat.le_trans h1 ?_
 cases hps:u.ps with
 | nil=>rw[hps] at hnp;simp at hnp
 | cons q0 r=>
  have h0:=hu.p0 q0 (by rw[hps];rfl)
  have hr:r.length≤3:=by rw[hps] at hnp;simp at hnp;omega
  have h2:=Ba (u:=u) w c u.ms.length hw hnm.2 r 1 fun q hq=>(hu.pr q (by rw[hps];exact List.mem_cons_of_mem _ hq)).2.1
  have h3:(vC u.ms.length 0 (q0::r))=⟨0,[]⟩ :: vC u.ms.length 1 r:=by simp[vC,h0.2,comb]
  rw[h3,List.map_cons,List.sum_cons]
  have h4:=hw ⟨0,[]⟩
  have h5:r.length*(16*c)≤48*c:=by
   calc r.length*(16*c)≤3*(16*c):=Nat.mul_le_mul_right _ hr
    _=48*c:=by omega
  omega
theorem j9 {u:Un}(hu:l9 u){l:List Is}(hn:l.Nodup)(hv:∀ x∈l,Bn u x):l.length≤49:=by
 have:=Ah hu (fun _=>1) 1 (fun _=>Nat.le_refl _) hn hv
 rw[List.map_const',List.sum_replicate_nat] at this
 omega
theorem Hf {u:Un}(hu:l9 u)(x:Is):(bX u x).length≤145:=by
 unfold bX
 cases h:u.ps[x.proc]? with
 | none=>simp
 | some q=>exact (hu.pr q (List.mem_of_getElem? h)).2.2.2.2
theorem B3 {u:Un}(hu:l9 u){l:List Is}(hn:l.Nodup)(hv:∀ x∈l,Bn u x):(l.map fun x=>(bX u x).length).sum≤7105:=
 Ah hu _ 145 (Hf hu) hn hv
theorem mN {l:List Is}{x:Is}(h:l.Nodup):(fv l x).Nodup:=by
 unfold fv
 split
 ·exact h
 ·rename_i hx
  refine List.nodup_append.2 ⟨h,by simp,fun a ha b hb e=>?_⟩
  rw[List.mem_singleton] at hb
  subst hb
  subst e
  exact hx ha
theorem Cq {u:Un}{l:List Is}{x:Is}(h:∀ y∈l,Bn u y)(hx:Bn u x):∀ y∈fv l x,Bn u y:=by
 unfold fv
 split
 ·exact h
 ·intro y hy
  rcases List.mem_append.1 hy with hy | hy
  ·exact h y hy
  ·rw[List.mem_singleton] at hy
   subst hy
   exact hx
theorem Jo {l:List Is}{x y:Is}{i:Nat}(h:l[i]? = some y):(fv l x)[i]? = some y:=by
 unfold fv
 split
 ·exact h
 ·rw[List.getElem?_append_left (List.getElem?_eq_some_iff.1 h).1]
  exact h
theorem Bc (l:List Is)(x:Is):x∈fv l x:=by
 unfold fv
 split
 ·assumption
 ·simp
theorem Bb (l:List Is)(x:Is):∃ t,fv l x=l++t:=by
 unfold fv
 split
 ·exact⟨[],by simp⟩
 ·exact⟨[x],rfl⟩
theorem qa (x:Is):∀ (c:List In) (l:List Is) (r:List Nat),∃ t,(iW x c l r).1=l++t
 | [],l,r=>⟨[],by simp[iW]⟩
 | i::c,l,r=>by
  simp only[iW]
  cases lz x i with
  | none=>exact qa x c l r
  | some y=>
   simp only
   obtain⟨t1,h1⟩:=Bb l y
   obtain⟨t2,h2⟩:=qa x c (fv l y) (if uV i=true then jY r (eF (fv l y) y) else r)
   exact⟨t1++t2,by rw[h2,h1,List.append_assoc]⟩
theorem IV {l:List Is}{x:Is}(h:x∈l):eF l x<l.length:=by
 unfold eF
 exact List.findIdx_lt_length_of_exists ⟨x,h,by simp⟩
end Go.aX
