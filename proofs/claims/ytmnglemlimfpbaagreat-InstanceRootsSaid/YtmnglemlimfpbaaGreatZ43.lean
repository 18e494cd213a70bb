/- has, With. | SameInts, Find. | A closure is small, and what its steps keep. No function of the program is mentioned here. -/
import Derived.Test.YtmnglemlimfpbaaGreatZ42
namespace Go.Proofs.YtmnglemlimfpbaaGreat
open Go.Can Go.bg
def J94 (l:List Nat)(x:Nat)(m:Nat)(s:St):Prop:=∃ i:Nat,m=l.length-i∧i≤l.length∧(x∉l.take i)∧s=⟨[(5,I i),(0,aZ l),(1,I x)],[],0⟩
theorem FZ (l:List Nat)(x:Nat)(hl:l.length≤100000):ah Tryz.prog 94 [aZ l,I x] (.bool (decide (x∈l))):=by
 refine ah.bl aa Tryz.func94 rfl (by kernel_rfl) (by simp[Tryz.ntmps94]) rfl fun C hC hC0=>?_
 rw[Tryz.ntmps94] at hC
 simp only[aZ]
 refine T.seq (T.go' aa ?_)
 simp[hC]
 refine T.seq (T.seq (T.go' aa ?_))
 simp[hC]
 refine T.block ?_
 refine T.aS (J94 l x) (n:=l.length) ?_ ?_
 ·refine ae.trim [5,0,1] [] 0 (by simp[-List.all_eq_true]) (by omega) ⟨0,by omega,by omega,by simp,?_⟩
  simp[aZ]
 ·rintro n s ⟨i,rfl,hi,hx,rfl⟩
  simp only[aZ]
  by_cases hil:i<l.length
  ·obtain⟨a,ha⟩:∃ a,l[i]? = some a:=⟨l[i],List.getElem?_eq_getElem hil⟩
   have hdr:=pX ha
   have wi:=db ((i:Int)+1) (by omega) (by omega)
   have htk:l.take (i+1)=l.take i++[a]:=by rw[List.take_add_one,ha];rfl
   refine T.seq (T.seq (T.go' aa ?_))
   simp[hC,hil]
   refine T.cond (b:=true) rfl (T.skip ?_)
   simp
   refine T.seq (T.block ?_)
   by_cases hax:a=x
   ·have hd:decide (x∈l)=true:=by simp only[decide_eq_true_eq];exact hax ▸ List.mem_of_getElem? ha
    subst hax
    refine T.seq (T.go' aa ?_)
    simp[hC,hil,hdr]
    refine T.cond (b:=true) rfl ?_
    simp
    refine T.seq (T.go' aa ?_)
    simp[hC]
    refine T.ret ?_
    refine ae.here ?_
    rw[hd]
    simp[Tryz.results94]
   ·have hne:((a:Int) == (x:Int))=false:=by
     rw[beq_eq_false_iff_ne]
     omega
    refine T.seq (T.go' aa ?_)
    simp[hC,hil,hdr,hne]
    refine T.cond (b:=false) rfl (T.skip ?_)
    simp
    refine T.go' aa ?_
    simp[hC,wi]
    refine⟨l.length-(i+1),by omega,ae.trim [5,0,1] [] 0 (by simp[-List.all_eq_true]) (by omega) ⟨i+1,rfl,by omega,?_,?_⟩⟩
    ·rw[htk,List.mem_append,List.mem_singleton,not_or]
     exact⟨hx,fun h=>hax h.symm⟩
    ·simp[aZ]
  ·have hie:i=l.length:=by omega
   subst hie
   rw[List.take_length] at hx
   have hd:decide (x∈l)=false:=by simp[hx]
   refine T.seq (T.seq (T.go' aa ?_))
   simp[hC]
   refine T.cond (b:=false) rfl ?_
   simp
   refine T.exit ?_
   simp
   refine T.seq (T.go' aa ?_)
   simp[hC]
   refine T.ret ?_
   refine ae.here ?_
   rw[hd]
   simp[Tryz.results94]
theorem xd:∀ (l:List Nat) (x i:Nat),i<bU l x→∃ a,l[i]? = some a∧a<x
 | [],x,i,h=>by simp[bU] at h
 | b::r,x,i,h=>by
  simp only[bU,List.takeWhile_cons] at h
  split at h
  ·rename_i hb
   cases i with
   | zero=>exact⟨b,rfl,by simpa using hb⟩
   | succ i=>
    obtain⟨a,h1,h2⟩:=xd r x i (by simp only[bU];simpa using h)
    exact⟨a,by simpa using h1,h2⟩
  ·simp at h
theorem ur:∀ (l:List Nat) (x:Nat),bU l x≤l.length∧∀ a,l[bU l x]? = some a→¬ a<x
 | [],x=>⟨by simp[bU],fun a h=>by simp[bU] at h⟩
 | b::r,x=>by
  obtain⟨h1,h2⟩:=ur r x
  simp only[bU,List.takeWhile_cons] at h1 h2 ⊢
  split
  ·exact⟨by simpa using h1,fun a h=>h2 a (by simpa using h)⟩
  ·rename_i hb
   refine⟨by simp,fun a h=>?_⟩
   simp only[List.length_nil,List.getElem?_cons_zero,Option.some.injEq] at h
   subst h
   simpa using hb
def J61 (l:List Nat)(x:Nat)(m:Nat)(s:St):Prop:=∃ i:Nat,m=bU l x-i∧i≤bU l x∧s=⟨[(5,I i),(0,aZ l),(1,I x)],[],0⟩
theorem Du (l:List Nat)(x:Nat)(hl:l.length≤100000):ah Tryz.prog 61 [aZ l,I x] (aZ (dM l x)):=by
 have hhas:=FZ l x hl
 have tl:=ch l
 obtain⟨hk1,hk2⟩:=ur l x
 refine ah.bl aa Tryz.func61 rfl (by kernel_rfl) (by simp[Tryz.ntmps61]) (aN _) fun C hC hC0=>?_
 rw[Tryz.ntmps61] at hC
 refine T.seq (T.go' aa ?_)
 simp[hC]
 refine T.seq (T.seq (T.go' aa ?_))
 simp[hC]
 have targ:trees [aZ l,I x]=true:=by simp only[trees,aN,tree,Bool.and_self]
 refine TL.call (by simp[hC]) rfl rfl (aI.of rfl targ hhas) (TL.go' aa ?_)
 simp
 by_cases hm:x∈l
 ·have hw:dM l x=l:=if_pos hm
  rw[hw]
  refine T.cond (b:=true) (by simp[ev,assoc,hm]) ?_
  simp
  refine T.seq (T.go' aa ?_)
  simp[hC]
  refine T.ret ?_
  refine ae.here ?_
  simp[Tryz.results61]
 ·have hw:dM l x=l.take (bU l x)++x::l.drop (bU l x):=if_neg hm
  rw[hw]
  refine T.cond (b:=false) (by simp[ev,assoc,hm]) (T.skip ?_)
  simp
  refine T.seq (T.go' aa ?_)
  simp[hC]
  refine T.seq (T.block ?_)
  refine T.aS (J61 l x) (n:=bU l x) ?_ ?_
  ·refine ae.trim [5,0,1] [] 0 (by simp[-List.all_eq_true,aB 0 _ (aN l)]) (by omega) ⟨0,by omega,by omega,?_⟩
   simp
  ·rintro n s ⟨i,rfl,hi,rfl⟩
   simp only[aZ]
   by_cases hil:i<bU l x
   ·obtain⟨a,ha,hax⟩:=xd l x i hil
    have hdr:=pX ha
    have hll:i<l.length:=(List.getElem?_eq_some_iff.1 ha).1
    have wi:=db ((i:Int)+1) (by omega) (by omega)
    have hax':(a:Int)<(x:Int):=by omega
    refine T.seq (T.seq (T.go' aa ?_))
    simp[hC,hll,hdr,hax']
    refine T.cond (b:=true) rfl (T.skip ?_)
    simp
    refine T.block ?_
    refine T.go' aa ?_
    simp[hC,wi]
    refine⟨bU l x-(i+1),by omega,ae.trim [5,0,1] [] 0 (by simp[-List.all_eq_true]) (by omega) ⟨i+1,rfl,by omega,?_⟩⟩
    simp[aZ]
   ·have hie:i=bU l x:=by omega
    subst hie
    refine T.seq ?_
    refine T.cut (fun s=>s=⟨[(21,.bool false),(5,I (bU l x)),(0,aZ l),(1,I x)],[],0⟩) ?_ ?_
    ·cases hl2:l[bU l x]? with
     | none=>
      have hll:¬ bU l x<l.length:=by
       rw[List.getElem?_eq_none_iff] at hl2
       omega
      refine T.go' aa ?_
      simp[hC,hll]
      refine ae.trim [21,5,0,1] [] 0 (by simp[-List.all_eq_true]) (by omega) ?_
      simp[aZ]
     | some a=>
      have hll:=(List.getElem?_eq_some_iff.1 hl2).1
      have hdr:=pX hl2
      have hge:¬ (a:Int)<(x:Int):=by have:=hk2 a hl2;omega
      refine T.go' aa ?_
      simp[hC,hll,hdr,hge]
      refine ae.trim [21,5,0,1] [] 0 (by simp[-List.all_eq_true]) (by omega) ?_
      simp[aZ]
    rintro s rfl
    refine T.cond (b:=false) rfl ?_
    simp
    refine T.exit ?_
    simp[aZ]
    have hb1:bU l x*8≤140737488355328:=by omega
    have hb2:(bU l x+1)*8≤140737488355328:=by omega
    have hb3:(l.length+1)*8≤140737488355328:=by omega
    have hb4:(bU l x+1+(l.length-bU l x))*8≤140737488355328:=by omega
    refine T.seq ?_
    refine T.rx aa follows [0,1,2,3,4,5,6,7,8,9,10,11,12] [(0,3),(0,6),(0,10),(3,6),(4,6),(4,10),(6,10),(7,10)] (by kernel_rfl) ?_
    simp[hC,hk1,hb1,hb2,hb4,aX]
    refine T.ret ?_
    have hlast:List.take (l.length-bU l x) (List.drop (bU l x) (l.map fun n:Nat=>I n))=(l.drop (bU l x)).map fun n:Nat=>I n:=by
     rw[← List.map_drop,List.take_of_length_le (by simp)]
    have hall:List.take (bU l x) (l.map fun n:Nat=>I n)++I x::((l.drop (bU l x)).map fun n:Nat=>I n)=(l.take (bU l x)++x::l.drop (bU l x)).map fun n:Nat=>I n:=by simp
    have hlen:bU l x+1+(l.length-bU l x)=(l.take (bU l x)++x::l.drop (bU l x)).length:=by simp;omega
    have tN:=ch (l.take (bU l x)++x::l.drop (bU l x))
    simp only[hlast]
    rw[hall]
    have htk:List.take (l.take (bU l x)++x::l.drop (bU l x)).length ((l.take (bU l x)++x::l.drop (bU l x)).map fun n:Nat=>I n)=(l.take (bU l x)++x::l.drop (bU l x)).map fun n:Nat=>I n:=List.take_of_length_le (by simp)
    rw[hlen]
    generalize hL:(l.take (bU l x)++x::l.drop (bU l x))=L at tN htk
    refine ae.le (Le.trim [4] [15] 16 (by simp[-List.all_eq_true,af tN]) (by omega)) ?_
    simp
    refine ae.le (Le.eM (o:=15) rfl tN) ?_
    simp[htk]
    refine ae.here ?_
    simp
    exact⟨by rw[← hL];simp,by rw[← hL];simp;omega⟩
end Go.Proofs.YtmnglemlimfpbaaGreat
namespace Go.bg
open Go.Can
theorem en (l:List Nat):aZ l=ints (l.map fun n:Nat=>(n:Int)):=by simp[aZ,ints,List.map_map,Function.comp_def]
def kE (y:Is)(p:Int)(ls:List Int):Bool:=decide ((y.proc:Int)=p) && decide ((y.aE.map fun n:Nat=>(n:Int))=ls)
def gN:List Is→Int→List Int→Int→Int
 | [],_,_,_=>-1
 | y::r,p,ls,i=>if kE y p ls=true then i else gN r p ls (i+1)
end Go.bg
namespace Go.Proofs.YtmnglemlimfpbaaGreat
open Go.Can Go.bg
set_option maxRecDepth 10000 in
theorem e9 (a b:List Int)(ha:a.length≤4611686018427387904):ah Tryz.prog 28 [ints a,ints b] (.bool (decide (a=b))):=by
 refine ah.bl aa Tryz.func28 rfl (by kernel_rfl) (by simp[Tryz.ntmps28]) rfl fun C hC hC0=>?_
 rw[Tryz.ntmps28] at hC
 refine T.seq (T.go' aa ?_)
 simp[hC]
 refine T.seq (T.seq (T.go' aa ?_))
 simp[hC,ints]
 refine T.bf rfl (fun h=>?_) (fun h=>?_)
 ·refine T.seq (T.go' aa ?_)
  simp[hC]
  refine T.ret ?_
  refine ae.here ?_
  simp[Tryz.results28]
  intro e;subst e;simp at h
 ·refine T.skip ?_
  have hl:a.length=b.length:=by simp at h;omega
  refine T.seq (T.seq (T.go' aa ?_))
  simp[hC]
  refine T.block ?_
  refine T.aS (fun m s=>∃ i,m=a.length-i∧i≤a.length∧(∀ j,j<i→a[j]? = b[j]?)∧s=⟨[(5,.int .i64 i),(0,ints a),(1,ints b)],[],0⟩) (n:=a.length) ?_ ?_
  ·refine ae.trim [5,0,1] [] 0 rfl (by omega) ⟨0,rfl,Nat.zero_le _,by simp,?_⟩
   simp[ints]
  ·rintro n s ⟨i,rfl,hi,hj,rfl⟩
   refine T.seq (T.seq (T.go' aa ?_))
   simp[hC,ints]
   refine T.bf rfl (fun h=>?_) (fun h=>?_)
   ·refine T.skip ?_
    have hib:i<a.length:=by simpa using h
    simp
    have ea:a[i]? = some a[i]:=List.getElem?_eq_getElem hib
    have eb:b[i]? = some b[i]:=List.getElem?_eq_getElem (by omega)
    refine T.seq (T.block (T.seq (T.Hn aa follows [] [0,1,2,3,4,5,6,7,8] [] (by kernel_rfl) ?_)))
    simp[hC,hib,← hl]
    refine T.bf rfl (fun h=>?_) (fun h=>?_)
    ·refine T.seq (T.go' aa ?_)
     simp[hC]
     refine T.ret ?_
     refine ae.here ?_
     simp[Tryz.results28]
     intro e;subst e;simp at h
    ·refine T.skip ?_
     simp
     refine T.go' aa ?_
     simp[hC]
     refine⟨_,?_,ae.trim [5,0,1] [] 0 rfl (by omega) ⟨i+1,rfl,hib,?_,?_⟩⟩
     ·omega
     ·intro j hj'
      by_cases e:j=i
      ·subst e;rw[ea,eb];simpa using h
      ·exact hj j (by omega)
     ·simp
      rw[db _ (by omega) (by omega)]
   ·refine T.exit ?_
    simp
    refine T.seq (T.go' aa ?_)
    simp[hC]
    refine T.ret ?_
    refine ae.here ?_
    simp[Tryz.results28]
    have:i=a.length:=by simp at h;omega
    subst this
    refine List.ext_getElem? fun j=>?_
    by_cases hjl:j<a.length
    ·exact hj j hjl
    ·rw[List.getElem?_eq_none (by omega),List.getElem?_eq_none (by omega)]
def cL (l:List Is):Ob:=⟨74,2,l.flatMap cg⟩
def J33 (l:List Is)(X Y:CV)(p:Int)(ls:List Int)(n:Nat)(s:St):Prop:=∃ i:Nat,n=l.length-i∧i≤l.length∧gN l p ls 0=gN (l.drop i) p ls i∧s=⟨[(5,I i),(3,.aq 1 0),(2,.aq 0 0)],[(0,⟨34,0,[.ax (l.flatMap cg) l.length,X,Y]⟩),(1,⟨74,0,[I p,ints ls]⟩)],2⟩
set_option maxHeartbeats 4000000 in
theorem Dv (l:List Is)(hl:l.length≤100000)(hll:∀ x∈l,x.aE.length≤100000)(X Y:CV)(hX:tree X=true)(hY:tree Y=true)(p:Int)(ls:List Int) :
  ah Tryz.prog 33 [.agg [.ax (l.flatMap cg) l.length,X,Y],.agg [I p,ints ls]] (I (gN l p ls 0)):=by
 have tls:tree (ints ls)=true:=by simp[ints,tree]
 refine ah.bl aa Tryz.func33 rfl (by kernel_rfl) (by simp[Tryz.ntmps33]) rfl fun C hC hC0=>?_
 rw[Tryz.ntmps33] at hC
 refine T.seq (T.go' aa ?_)
 simp[hC]
 refine T.seq (T.seq (T.go' aa ?_))
 simp[hC]
 refine T.block ?_
 refine T.aS (J33 l X Y p ls) (n:=l.length) ?_ ?_
 ·refine ae.trim [5,3,2] [0,1] 2 (by simp[-List.all_eq_true,-List.all_flatMap,aB 2 _ hX,aB 2 _ hY,aB 2 _ tls]) (by omega) ⟨0,by omega,by omega,rfl,?_⟩
  simp
 ·rintro n s ⟨i,rfl,hi,hf,rfl⟩
  by_cases hil:i<l.length
  ·obtain⟨y,hy⟩:∃ y,l[i]? = some y:=⟨l[i],List.getElem?_eq_getElem hil⟩
   have hd:l.drop i=y::l.drop (i+1):=by
    rw[List.drop_eq_getElem_cons hil,(List.getElem?_eq_some_iff.1 hy).2]
   rw[hd,gN] at hf
   have hdr:=aV (f:=cg) (n:=2) dh hy
   have hdr1:=bG (f:=cg) (n:=2) dh hy 1 (by omega)
   have wi:=db ((i:Int)+1) (by omega) (by omega)
   have hsm:=e9 (y.aE.map fun n:Nat=>(n:Int)) ls (by have:=hll y (List.mem_of_getElem? hy);simp;omega)
   rw[← en] at hsm
   have targ:trees [aZ y.aE,ints ls]=true:=by simp only[trees,aN,tls,Bool.and_self]
   refine T.seq (T.seq (T.go' aa ?_))
   simp[hC,hil]
   refine T.cond (b:=true) rfl (T.skip ?_)
   simp
   refine T.seq (T.block ?_)
   refine T.cut (fun s=>s=⟨(32,.bool (kE y p ls))::[(5,I i),(3,.aq 1 0),(2,.aq 0 0)],[(0,⟨34,0,[.ax (l.flatMap cg) l.length,X,Y]⟩),(1,⟨74,0,[I p,ints ls]⟩)],2⟩) ?_ ?_
   ·refine T.rx aa follows [0,1,2,3,4,5,6,7,8,9,10,11,12,13,14,15,16,17,18,19] [] (by kernel_rfl) ?_
    by_cases hp:(y.proc:Int)=p
    ·have hraw:kE y p ls=decide ((y.aE.map fun n:Nat=>(n:Int))=ls):=by simp[kE,hp]
     simp[hC,hil,hdr,cg,hp]
     refine RX.call rfl rfl rfl rfl rfl targ hsm ?_
     simp
     refine ae.trim [32,5,3,2] [0,1] 2 (by simp[-List.all_eq_true,-List.all_flatMap,aB 2 _ hX,aB 2 _ hY,aB 2 _ tls]) (by omega) ?_
     simp[hraw]
    ·have hraw:kE y p ls=false:=by simp[kE,hp]
     have hpe:((y.proc:Int) == p)=false:=by simpa using hp
     simp[hC,hil,hdr,cg,hpe]
     refine ae.trim [32,5,3,2] [0,1] 2 (by simp[-List.all_eq_true,-List.all_flatMap,aB 2 _ hX,aB 2 _ hY,aB 2 _ tls]) (by omega) ?_
     simp[hraw]
   rintro s rfl
   cases hr:kE y p ls with
   | true=>
    rw[if_pos hr] at hf
    refine T.cond (b:=true) rfl ?_
    simp
    refine T.seq (T.go' aa ?_)
    simp[hC]
    refine T.ret ?_
    have hres:=hf
    simp
    refine ae.here ?_
    simp[Tryz.results33,hres]
   | false=>
    rw[if_neg (by simp[hr])] at hf
    refine T.cond (b:=false) rfl (T.skip ?_)
    simp
    refine T.go' aa ?_
    simp[hC,wi]
    refine⟨l.length-(i+1),by omega,ae.trim [5,3,2] [0,1] 2 (by simp[-List.all_eq_true,-List.all_flatMap,aB 2 _ hX,aB 2 _ hY,aB 2 _ tls]) (by omega) ⟨i+1,rfl,by omega,hf,?_⟩⟩
    simp
  ·have hie:i=l.length:=by omega
   rw[hie,List.drop_length,gN] at hf
   have hres:=hf
   refine T.seq (T.seq (T.go' aa ?_))
   simp[hC,hil]
   refine T.cond (b:=false) rfl ?_
   simp
   refine T.exit ?_
   simp
   refine T.seq (T.go' aa ?_)
   simp[hC]
   refine T.ret ?_
   refine ae.here ?_
   simp[Tryz.results33,hres]
def J33B (l:List Is)(m:Nat)(cob:Ob)(Y:CV)(p:Int)(ls:List Int)(n:Nat)(s:St):Prop:=∃ i:Nat,n=l.length-i∧i≤l.length∧gN l p ls 0=gN (l.drop i) p ls i∧s=⟨[(5,I i),(3,.aq 3 0),(2,.aq 2 0)],[(2,⟨34,0,[.bw 0 0 l.length,.bw 1 0 m,Y]⟩),(3,⟨74,0,[I p,ints ls]⟩),(0,cL l),(1,cob)],4⟩
set_option maxHeartbeats 4000000 in
theorem uI (l:List Is)(hl:l.length≤100000)(hll:∀ x∈l,x.aE.length≤100000)(m:Nat)(cob:Ob)(hcob:trees cob.cells=true)(Y:CV)(hY:tree Y=true)(p:Int)(ls:List Int) :
  Body Tryz.prog aj 33 [.agg [.bw 0 0 l.length,.bw 1 0 m,Y],.agg [I p,ints ls]] [(0,cL l),(1,cob)] 2 (iR (I (gN l p ls 0)) [(0,cL l),(1,cob)] 2):=by
 have tls:tree (ints ls)=true:=by simp[ints,tree]
 refine Body.iN Tryz.func33 rfl (by kernel_rfl) (by simp[Tryz.ntmps33]) fun C hC hC0=>?_
 rw[Tryz.ntmps33] at hC
 refine T.seq (T.go' aa ?_)
 simp[hC,cL]
 refine T.seq (T.seq (T.go' aa ?_))
 simp[hC]
 refine T.block ?_
 refine T.aS (J33B l m cob Y p ls) (n:=l.length) ?_ ?_
 ·refine ae.trim [5,3,2] [2,3,0,1] 4 (by simp[-List.all_eq_true,-List.all_flatMap,aB 4 _ hY,af (ay aO l),aB 4 _ tls,af hcob]) (by omega) ⟨0,by omega,by omega,rfl,?_⟩
  simp[cL]
 ·rintro n s ⟨i,rfl,hi,hf,rfl⟩
  by_cases hil:i<l.length
  ·obtain⟨y,hy⟩:∃ y,l[i]? = some y:=⟨l[i],List.getElem?_eq_getElem hil⟩
   have hd:l.drop i=y::l.drop (i+1):=by
    rw[List.drop_eq_getElem_cons hil,(List.getElem?_eq_some_iff.1 hy).2]
   rw[hd,gN] at hf
   have hdr:=aV (f:=cg) (n:=2) dh hy
   have hdr1:=bG (f:=cg) (n:=2) dh hy 1 (by omega)
   have wi:=db ((i:Int)+1) (by omega) (by omega)
   have hsm:=e9 (y.aE.map fun n:Nat=>(n:Int)) ls (by have:=hll y (List.mem_of_getElem? hy);simp;omega)
   rw[← en] at hsm
   have targ:trees [aZ y.aE,ints ls]=true:=by simp only[trees,aN,tls,Bool.and_self]
   refine T.seq (T.seq (T.go' aa ?_))
   simp[hC,hil]
   refine T.cond (b:=true) rfl (T.skip ?_)
   simp
   refine T.seq (T.block ?_)
   refine T.cut (fun s=>s=⟨(32,.bool (kE y p ls))::[(5,I i),(3,.aq 3 0),(2,.aq 2 0)],[(2,⟨34,0,[.bw 0 0 l.length,.bw 1 0 m,Y]⟩),(3,⟨74,0,[I p,ints ls]⟩),(0,cL l),(1,cob)],4⟩) ?_ ?_
   ·refine T.rx aa follows [0,1,2,3,4,5,6,7,8,9,10,11,12,13,14,15,16,17,18,19] [] (by kernel_rfl) ?_
    by_cases hp:(y.proc:Int)=p
    ·have hraw:kE y p ls=decide ((y.aE.map fun n:Nat=>(n:Int))=ls):=by simp[kE,hp]
     simp[hC,hil,hdr,hdr1,cg,hp,cL]
     refine RX.call rfl rfl rfl rfl rfl targ hsm ?_
     simp
     refine ae.trim [32,5,3,2] [2,3,0,1] 4 (by simp[-List.all_eq_true,-List.all_flatMap,aB 4 _ hY,af (ay aO l),aB 4 _ tls,af hcob]) (by omega) ?_
     simp[hraw]
    ·have hraw:kE y p ls=false:=by simp[kE,hp]
     have hpe:((y.proc:Int) == p)=false:=by simpa using hp
     simp[hC,hil,hdr,cg,hpe,cL]
     refine ae.trim [32,5,3,2] [2,3,0,1] 4 (by simp[-List.all_eq_true,-List.all_flatMap,aB 4 _ hY,af (ay aO l),aB 4 _ tls,af hcob]) (by omega) ?_
     simp[hraw]
   rintro s rfl
   cases hr:kE y p ls with
   | true=>
    rw[if_pos hr] at hf
    refine T.cond (b:=true) rfl ?_
    simp
    refine T.seq (T.go' aa ?_)
    simp[hC]
    refine T.ret ?_
    have hres:=hf
    simp
    refine ae.trim [4] [0,1] 2 (by simp[-List.all_eq_true,af hcob,af (ay aO l),cL]) (by omega) ⟨_,?_,rfl,?_,rfl⟩
    ·simp[Tryz.results33,hres]
    ·simp[cL]
   | false=>
    rw[if_neg (by simp[hr])] at hf
    refine T.cond (b:=false) rfl (T.skip ?_)
    simp
    refine T.go' aa ?_
    simp[hC,wi]
    refine⟨l.length-(i+1),by omega,ae.trim [5,3,2] [2,3,0,1] 4 (by simp[-List.all_eq_true,-List.all_flatMap,aB 4 _ hY,af (ay aO l),aB 4 _ tls,af hcob,cL]) (by omega) ⟨i+1,rfl,by omega,hf,?_⟩⟩
    simp[cL]
  ·have hie:i=l.length:=by omega
   rw[hie,List.drop_length,gN] at hf
   have hres:=hf
   refine T.seq (T.seq (T.go' aa ?_))
   simp[hC,hil]
   refine T.cond (b:=false) rfl ?_
   simp
   refine T.exit ?_
   simp
   refine T.seq (T.go' aa ?_)
   simp[hC]
   refine T.ret ?_
   refine ae.trim [4] [0,1] 2 (by simp[-List.all_eq_true,af hcob,af (ay aO l),cL]) (by omega) ⟨_,?_,rfl,?_,rfl⟩
   ·simp[Tryz.results33,hres]
   ·simp[cL]
end Go.Proofs.YtmnglemlimfpbaaGreat
namespace Go.bg
open Go.Can
def comb (n:Nat):Nat→List (List Nat)
 | 0=>[[]]
 | k+1=>(List.range n).flatMap fun a=>(comb n k).map (a :: ·)
theorem xV (n:Nat):∀ (l:List Nat),(∀ x∈l,x<n)→l∈comb n l.length
 | [],_=>by simp[comb]
 | a::r,h=>by
  simp only[List.length_cons,comb,List.mem_flatMap,List.mem_range,List.mem_map]
  exact⟨a,h a List.mem_cons_self,r,xV n r fun x hx=>h x (List.mem_cons_of_mem _ hx),rfl⟩
theorem xu (c:Nat):∀ l:List Nat,(∀ x∈l,x≤c)→l.sum≤l.length*c
 | [],_=>by simp
 | a::r,h=>by
  have h1:=h a List.mem_cons_self
  have h2:=xu c r fun x hx=>h x (List.mem_cons_of_mem _ hx)
  rw[List.sum_cons,List.length_cons,Nat.succ_mul]
  omega
theorem yF (n:Nat):∀ k,(comb n k).length=n ^ k
 | 0=>by simp[comb]
 | k+1=>by
  simp only[comb,List.length_flatMap,List.length_map,yF n k]
  rw[List.map_const',List.sum_replicate_nat,List.length_range,Nat.pow_succ,Nat.mul_comm]
def tw (n:Nat):Nat→List Pr→List Is
 | _,[]=>[]
 | t,q::r=>(comb n q.aE).map (fun ls=>⟨t,ls⟩)++tw n (t+1) r
theorem xW (n:Nat):∀ (l:List Pr) (t j:Nat) (q:Pr) (x:Is),l[j]? = some q→x.proc=t+j→x.aE.length=q.aE→(∀ a∈x.aE,a<n)→x∈tw n t l
 | [],_,_,_,_,h,_,_,_=>by simp at h
 | p::r,t,0,q,x,h,hp,hl,ha=>by
  simp only[List.getElem?_cons_zero,Option.some.injEq] at h
  subst h
  simp only[tw,List.mem_append,List.mem_map]
  refine .inl ⟨x.aE,by rw[← hl];exact xV n _ ha,?_⟩
  cases x
  simp only at hp
  simp[hp]
 | p::r,t,j+1,q,x,h,hp,hl,ha=>by
  simp only[List.getElem?_cons_succ] at h
  simp only[tw,List.mem_append]
  exact .inr (xW n r (t+1) j q x h (by omega) hl ha)
theorem uR {α:Type}(w:α→Nat):∀ (l m:List α),l.Nodup→(∀ x∈l,x∈m)→(l.map w).sum≤(m.map w).sum
 | [],_,_,_=>by simp
 | a::r,m,hn,hs=>by
  obtain⟨m1,m2,rfl⟩:=List.append_of_mem (hs a List.mem_cons_self)
  rw[List.nodup_cons] at hn
  have ih:=uR w r (m1++m2) hn.2 fun x hx=>by
   have h1:=hs x (List.mem_cons_of_mem _ hx)
   have hne:x≠a:=fun e=>hn.1 (e ▸ hx)
   simp only[List.mem_append,List.mem_cons] at h1 ⊢
   rcases h1 with h | h | h
   ·exact .inl h
   ·exact (hne h).elim
   ·exact .inr h
  simp only[List.map_append,List.sum_append,List.map_cons,List.sum_cons] at ih ⊢
  omega
theorem yP {u:Un}(w:Is→Nat)(c:Nat)(n:Nat)(hw:∀ x,w x≤c)(hn:n≤4):∀ (l:List Pr) (t:Nat),(∀ q∈l,q.aE≤2)→((tw n t l).map w).sum≤l.length*(16*c)
 | [],_,_=>by simp[tw]
 | q::r,t,h=>by
  have h1:=yP (u:=u) w c n hw hn r (t+1) fun x hx=>h x (List.mem_cons_of_mem _ hx)
  have h2:=h q List.mem_cons_self
  have h3:(comb n q.aE).length≤16:=by
   rw[yF]
   calc n ^ q.aE≤4 ^ q.aE:=Nat.pow_le_pow_left hn _
    _≤4 ^ 2:=Nat.pow_le_pow_right (by omega) h2
  have h4:(((comb n q.aE).map fun ls=>(⟨t,ls⟩:Is)).map w).sum≤16*c:=by
   refine Nat.le_trans (xu c _ fun x hx=>?_) (Nat.mul_le_mul_right c (by simpa using h3))
   simp only[List.mem_map] at hx
   obtain⟨y,_,rfl⟩:=hx
   exact hw y
  have h5:(r.length+1)*(16*c)=r.length*(16*c)+16*c:=Nat.succ_mul _ _
  simp only[tw,List.map_append,List.sum_append,List.length_cons]
  omega
theorem ya {u:Un}(hu:ox u)(w:Is→Nat)(c:Nat)(hw:∀ x,w x≤c){l:List Is}(hn:l.Nodup)(hv:∀ x∈l,qh u x):(l.map w).sum≤c+48*c:=by
 have hnp:=hu.np
 have hnm:=hu.nm
 have h1:=uR w l (tw u.ms.length 0 u.ps) hn fun x hx=>by
  obtain⟨⟨q,hq,hl⟩,hm⟩:=hv x hx
  exact xW _ _ 0 x.proc q x hq (by omega) hl hm
 refine Nat.le_trans h1 ?_
 cases hps:u.ps with
 | nil=>rw[hps] at hnp;simp at hnp
 | cons q0 r=>
  have h0:=hu.p0 q0 (by rw[hps];rfl)
  have hr:r.length≤3:=by rw[hps] at hnp;simp at hnp;omega
  have h2:=yP (u:=u) w c u.ms.length hw hnm.2 r 1 fun q hq=>(hu.pr q (by rw[hps];exact List.mem_cons_of_mem _ hq)).2.1
  have h3:(tw u.ms.length 0 (q0::r))=⟨0,[]⟩ :: tw u.ms.length 1 r:=by simp[tw,h0.2,comb]
  rw[h3,List.map_cons,List.sum_cons]
  have h4:=hw ⟨0,[]⟩
  have h5:r.length*(16*c)≤48*c:=by
   calc r.length*(16*c)≤3*(16*c):=Nat.mul_le_mul_right _ hr
    _=48*c:=by omega
  omega
theorem dG {u:Un}(hu:ox u){l:List Is}(hn:l.Nodup)(hv:∀ x∈l,qh u x):l.length≤49:=by
 have:=ya hu (fun _=>1) 1 (fun _=>Nat.le_refl _) hn hv
 rw[List.map_const',List.sum_replicate_nat] at this
 omega
theorem kQ {u:Un}(hu:ox u)(x:Is):(aM u x).length≤145:=by
 unfold aM
 cases h:u.ps[x.proc]? with
 | none=>simp
 | some q=>exact (hu.pr q (List.mem_of_getElem? h)).2.2.2.2
theorem k9 {u:Un}(hu:ox u){l:List Is}(hn:l.Nodup)(hv:∀ x∈l,qh u x):(l.map fun x=>(aM u x).length).sum≤7105:=
 ya hu _ 145 (kQ hu) hn hv
theorem jz {l:List Is}{x:Is}(h:l.Nodup):(cK l x).Nodup:=by
 unfold cK
 split
 ·exact h
 ·rename_i hx
  refine List.nodup_append.2 ⟨h,by simp,fun a ha b hb e=>?_⟩
  rw[List.mem_singleton] at hb
  subst hb
  subst e
  exact hx ha
theorem wU {u:Un}{l:List Is}{x:Is}(h:∀ y∈l,qh u y)(hx:qh u x):∀ y∈cK l x,qh u y:=by
 unfold cK
 split
 ·exact h
 ·intro y hy
  rcases List.mem_append.1 hy with hy | hy
  ·exact h y hy
  ·rw[List.mem_singleton] at hy
   subst hy
   exact hx
theorem GW {l:List Is}{x y:Is}{i:Nat}(h:l[i]? = some y):(cK l x)[i]? = some y:=by
 unfold cK
 split
 ·exact h
 ·rw[List.getElem?_append_left (List.getElem?_eq_some_iff.1 h).1]
  exact h
theorem yR (l:List Is)(x:Is):x∈cK l x:=by
 unfold cK
 split
 ·assumption
 ·simp
theorem yQ (l:List Is)(x:Is):∃ t,cK l x=l++t:=by
 unfold cK
 split
 ·exact⟨[],by simp⟩
 ·exact⟨[x],rfl⟩
theorem oG (x:Is):∀ (c:List In) (l:List Is) (r:List Nat),∃ t,(fM x c l r).1=l++t
 | [],l,r=>⟨[],by simp[fM]⟩
 | i::c,l,r=>by
  simp only[fM]
  cases eT x i with
  | none=>exact oG x c l r
  | some y=>
   simp only
   obtain⟨t1,h1⟩:=yQ l y
   obtain⟨t2,h2⟩:=oG x c (cK l y) (if gx i=true then dM r (cM (cK l y) y) else r)
   exact⟨t1++t2,by rw[h2,h1,List.append_assoc]⟩
theorem wg {l:List Is}{x:Is}(h:x∈l):cM l x<l.length:=by
 unfold cM
 exact List.findIdx_lt_length_of_exists ⟨x,h,by simp⟩
end Go.bg
