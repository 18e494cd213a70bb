/- Elements and their mutexes. -/
import Derived.Test.YtmnglemlimfpbaaGreatZ40
import Derived.DeepKeys3
namespace Go.aX
open Go.Can
theorem fD (m:Mx):(cq m).length=3:=rfl
theorem rY (m:Mx):∀ (l:List Mx) (s:Nat),br (l++[m]) s=br l s++List.replicate (max m.size 1) (s+l.length)
 | [],s=>by simp[br]
 | a::r,s=>by
  rw[List.cons_append,br,br,rY m r (s+1),List.append_assoc,List.length_cons]
  congr 3
  omega
def xN (ms:List Mx):Prop:=ms.length≤1000∧∀ m∈ms,m.size≤1000
theorem fB:∀ (l:List Mx) (s:Nat),(∀ m∈l,m.size≤1000)→(br l s).length≤1000*l.length
 | [],_,_=>by simp[br]
 | a::r,s,h=>by
  have h1:=fB r (s+1) fun m hm=>h m (List.mem_cons_of_mem _ hm)
  have h2:=h a List.mem_cons_self
  rw[br,List.length_append,List.length_replicate,List.length_cons]
  omega
end Go.aX
namespace Go.Proofs.YtmnglemlimfpbaaGreat
open Go.Can Go.aX
def J65 (ms:List Mx)(m:Nat)(s:St):Prop:=∃ i:Nat,m=ms.length-i∧i≤ms.length∧
 s=⟨[(4,I i),(3,.bx 0 0 (br (ms.take i) 0).length),(0,.av (ms.flatMap cq) ms.length)],[(0,fC (br (ms.take i) 0))],1⟩
def J65b (ms:List Mx)(i:Nat)(n:Nat)(o:List Nat)(m:Nat)(s:St):Prop:=∃ k:Nat,m=n-k∧k≤n∧
 s=⟨[(5,I k),(4,I i),(3,.bx 0 0 (o++List.replicate k i).length),(0,.av (ms.flatMap cq) ms.length)],[(0,fC (o++List.replicate k i))],1⟩
theorem oA (ms:List Mx)(hm:xN ms):ae Tryz.prog 65 [.av (ms.flatMap cq) ms.length] (aW (aK ms)):=by
 have tms:=dp ms
 refine ae.aB ag Tryz.func65 rfl yAb (by simp[Tryz.ntmps65]) (bW _) fun C hC hC0=>?_
 rw[Tryz.ntmps65] at hC
 apply au
 simp[hC]
 apply au
 simp[hC]
 apply aJ
 simp[hC]
 apply T.block
 refine T.aL (J65 ms) (n:=ms.length) ?_ ?_
 ·refine aa.le (Le.own 3 3 1 rfl) ?_
  simp[St.own]
  refine aa.trim [4,3,0] [0] 1 yAu yA ⟨0,by omega,by omega,?_⟩
  simp[br,fC]
 ·rintro n s ⟨i,rfl,hi,rfl⟩
  have hol:=fB (ms.take i) 0 fun m h=>hm.2 m (List.mem_of_mem_take h)
  have hil2:=hm.1
  have htl:(ms.take i).length≤1000:=by simp;omega
  by_cases hil:i<ms.length
  ·obtain⟨m,hmi⟩:∃ m,ms[i]? = some m:=⟨_,List.getElem?_eq_getElem hil⟩
   have hms:=hm.2 m (List.mem_of_getElem? hmi)
   have hdi:=cB (f:=cq) (n:=3) fD hmi 2 yA
   have wi:=ct ((i:Int)+1) yA yA
   have hst:br (ms.take (i+1)) 0=br (ms.take i) 0++List.replicate (max m.size 1) i:=by
    rw[List.take_add_one,hmi,Option.toList_some,rY]
    congr 2
    simp
    omega
   generalize br (ms.take i) 0=o at hol hst
   apply aJ
   simp[hC,hil]
   refine iv ?_
   simp
   apply fq
   apply au
   simp[hC]
   apply T.block
   refine T.aL (J65b ms i (max m.size 1) o) (n:=max m.size 1) ?_ ?_
   ·refine aa.trim [5,4,3,0] [0] 1 (by simp[-List.all_eq_true,-List.all_flatMap,fC,aj (aP o)]) yA ⟨0,by omega,by omega,?_⟩
    simp[fC]
   ·rintro n s ⟨k,rfl,hk,rfl⟩
    have tO:=aP (o++List.replicate k i)
    have hOl:(o++List.replicate k i).length≤1001000:=by simp;omega
    have hnx:o++List.replicate (k+1) i=o++List.replicate k i++[i]:=by rw[List.replicate_succ',List.append_assoc]
    by_cases hkl:k<max m.size 1
    ·have wk:=ct ((k:Int)+1) yA yA
     have hcv:(k:Int)<if m.size=0 then 1 else (m.size:Int):=by split<;>omega
     have bd:(o.length+k+1)*8≤140737488355328:=by omega
     have tO1:trees ((o++List.replicate k i++[i]).map fun n:Nat=>I n)=true:=aP _
     apply aJ
     simp[hC,hil,hdi,cq]
     refine T.cond (b:=true) (by simp[ev,assoc,hcv]) (T.skip ?_)
     simp
     apply fq
     simp only[fC]
     apply aO
     simp[hC,bd,aI]
     apply aO
     simp[hC,wk]
     refine⟨max m.size 1-(k+1),by omega,?_⟩
     have tO2:trees (o.map (fun n:Nat=>I n)++(List.replicate k (I i)++[I i]))=true:=by
      have:=tO1
      simp only[List.map_append,List.map_replicate,List.map_cons,List.map_nil,List.append_assoc] at this
      exact this
     have rO2:=fun ρ=>af ρ _ tO2
     refine aa.le (Le.norm [5,4,3,0] [(2,0)] 0 1 yAl yAm (by simp[eC,vV,sh,tree,assoc,-List.all_eq_true,-List.all_flatMap,aH tO2]) yA) ?_
     simp[dF,ca,dU,gg,assoc,rO2]
     refine aa.here ⟨k+1,rfl,by omega,?_⟩
     rw[hnx]
     simp[fC,Nat.add_assoc]
    ·have hke:k=max m.size 1:=by omega
     have hcv:¬ (k:Int)<if m.size=0 then 1 else (m.size:Int):=by split<;>omega
     rw[← hke] at hst
     generalize o++List.replicate k i=L at hst tO hOl ⊢
     apply aJ
     simp[hC,hil,hdi,cq]
     refine T.cond (b:=false) (by simp[ev,assoc,hcv]) ?_
     simp
     apply T.exit
     simp
     apply aO
     simp[hC,wi]
     refine⟨ms.length-(i+1),by omega,aa.trim [4,3,0] [0] 1 (by simp[-List.all_eq_true,-List.all_flatMap,-List.all_map,fC,aj tO]) yA ⟨i+1,rfl,by omega,?_⟩⟩
     rw[hst]
     simp
  ·have hie:i=ms.length:=by omega
   subst hie
   rw[List.take_length]
   have tO:=aP (br ms 0)
   have tkO:List.take (br ms 0).length ((br ms 0).map fun n:Nat=>I n)=(br ms 0).map fun n:Nat=>I n:=List.take_of_length_le yAa
   apply aJ
   simp[hC]
   refine bj ?_
   simp
   apply T.exit
   simp
   apply au
   simp[hC]
   apply T.ret
   refine aa.le (Le.trim [2] [0] 1 (by simp[-List.all_eq_true,-List.all_flatMap,fC,aj tO]) yA) ?_
   simp
   simp only[fC]
   refine aa.le (Le.cG (o:=0) rfl tO) ?_
   simp[tkO]
   apply aa.here
   simp[aW,aK]
def J138 (o:List Nat)(m:Nat)(n:Nat)(s:St):Prop:=∃ i:Nat,n=o.length-i∧i≤o.length∧l7 o m 0=l7 (o.drop i) m i∧
 s=⟨[(6,I i),(5,aW o),(1,I m)],[],0⟩
theorem Jj (ms:List Mx)(hm:xN ms)(m:Nat):ae Tryz.prog 138 [.av (ms.flatMap cq) ms.length,I m] (I (xH ms m)):=by
 have tms:=dp ms
 have how:=oA ms hm
 have hol:=fB ms 0 hm.2
 have hml:=hm.1
 have targ:trees [.av (ms.flatMap cq) ms.length]=true:=by simp only[trees,tree,Bool.and_self]
 unfold xH
 generalize hO:aK ms=o at how
 have hol2:o.length≤1000000:=by rw[← hO,aK];omega
 refine ae.aB ag Tryz.func138 rfl yAb (by simp[Tryz.ntmps138]) rfl fun C hC hC0=>?_
 rw[Tryz.ntmps138] at hC
 apply au
 simp[hC]
 apply au
 simp[hC]
 refine cH targ how ?_
 simp[hC]
 apply aJ
 simp[hC]
 apply T.block
 refine T.aL (J138 o m) (n:=o.length) ?_ ?_
 ·refine aa.trim [6,5,1] [] 0 (by simp[a6 0 _ (bW o)]) yA ⟨0,by omega,by omega,rfl,?_⟩
  simp
 ·rintro n s ⟨i,rfl,hi,hb,rfl⟩
  simp only[aW]
  by_cases hil:i<o.length
  ·obtain⟨a,ha⟩:∃ a,o[i]? = some a:=⟨_,List.getElem?_eq_getElem hil⟩
   have hda:=j7 ha
   have wi:=ct ((i:Int)+1) yA yA
   rw[List.drop_eq_getElem_cons hil,(List.getElem?_eq_some_iff.1 ha).2,l7] at hb
   apply aJ
   simp[hC,hil]
   refine iv ?_
   simp
   apply fq
   apply au
   simp[hC,hil,hda]
   by_cases hm2:a=m
   ·rw[if_pos hm2] at hb
    subst hm2
    refine T.cond (b:=true) yAf ?_
    simp
    apply au
    simp[hC]
    apply T.ret
    apply aa.here
    simp[Tryz.results138,hb]
   ·rw[if_neg hm2] at hb
    refine T.cond (b:=false) (by simp[ev,assoc,hm2]) (T.skip ?_)
    simp
    apply aO
    simp[hC,wi]
    refine⟨o.length-(i+1),by omega,aa.trim [6,5,1] [] 0 yAa yA ⟨i+1,rfl,by omega,hb,?_⟩⟩
    simp[aW]
  ·have hie:i=o.length:=by omega
   subst hie
   rw[List.drop_length,l7] at hb
   apply aJ
   simp[hC]
   refine bj ?_
   simp
   apply T.exit
   simp
   apply au
   simp[hC]
   apply T.ret
   apply aa.here
   simp[Tryz.results138,hb]
theorem pD (ms:List Mx)(hm:xN ms)(e:Int):ae Tryz.prog 42 [.av (ms.flatMap cq) ms.length,I e] (I (fE ms e)):=by
 have how:=oA ms hm
 have targ:trees [.av (ms.flatMap cq) ms.length]=true:=by simp only[trees,tree,Bool.and_self]
 unfold fE
 generalize aK ms=o at how
 refine ae.aB ag Tryz.func42 rfl yAb (by simp[Tryz.ntmps42]) rfl fun C hC hC0=>?_
 rw[Tryz.ntmps42] at hC
 apply au
 simp[hC]
 apply au
 simp[hC]
 refine cH targ how ?_
 simp[hC,aW]
 by_cases h0:e<0
 ·apply aJ
  simp[hC,h0]
  refine T.cond (b:=true) yAf ?_
  simp
  apply au
  simp[hC]
  apply T.ret
  apply aa.here
  simp[Tryz.results42]
 ·obtain⟨k,rfl⟩:∃ k:Nat,e=k:=⟨e.toNat,by omega⟩
  by_cases hk:k<o.length
  ·obtain⟨a,ha⟩:∃ a,o[k]? = some a:=⟨_,List.getElem?_eq_getElem hk⟩
   have hda:=j7 ha
   have hng:¬ (o.length≤k):=by omega
   have hok:o[k]=a:=(List.getElem?_eq_some_iff.1 ha).2
   apply aJ
   simp[hC,h0,hng]
   refine T.cond (b:=false) yAf (T.skip ?_)
   simp
   apply au
   simp[hC,hk,hda]
   apply T.ret
   apply aa.here
   simp[Tryz.results42,hok]
  ·have hng:o.length≤k:=by omega
   apply aJ
   simp[hC,h0,hng]
   refine T.cond (b:=true) yAf ?_
   simp
   apply au
   simp[hC]
   apply T.ret
   apply aa.here
   simp[Tryz.results42]
theorem mxRe {ms:List Mx}{i:Nat}{m:Mx}(h:ms[i]? = some m):(ms.flatMap cq).drop (i*3)=cq m++(ms.drop (i+1)).flatMap cq:=aE (f:=cq) (n:=3) fD h
theorem GH (y:Ho):∀ (tb:List Ho) (e:Nat),e<tb.length→List.take (e*2) (tb.flatMap cW)++I y.o::I y.d::List.drop (e*2+2) (tb.flatMap cW)=(tb.set e y).flatMap cW
 | [],_,h=>by simp at h
 | a::r,0,_=>by simp[cW]
 | a::r,e+1,h=>by
  have ih:=GH y r e yAy
  rw[List.set_cons_succ,List.flatMap_cons,List.flatMap_cons,← ih]
  have e1:(e+1)*2=e*2+2:=by omega
  rw[e1]
  simp[cW]
theorem C5 (d:Nat):∀ (tb:List Ho) (e:Nat) (h:Ho),tb[e]? = some h→List.take (e*2+1) (tb.flatMap cW)++I d::List.drop (e*2+2) (tb.flatMap cW)=(tb.set e ⟨h.o,d⟩).flatMap cW
 | [],_,_,h=>by simp at h
 | a::r,0,h,hh=>by
  simp only[List.getElem?_cons_zero,Option.some.injEq] at hh
  subst hh
  simp[cW]
 | a::r,e+1,h,hh=>by
  have ih:=C5 d r e h (by simpa using hh)
  rw[List.set_cons_succ,List.flatMap_cons,List.flatMap_cons,← ih]
  have e1:(e+1)*2=e*2+2:=by omega
  rw[e1]
  simp[cW]
theorem C4 (o:Nat):∀ (tb:List Ho) (e:Nat) (h:Ho),tb[e]? = some h→List.take (e*2) (tb.flatMap cW)++I o::List.drop (e*2+1) (tb.flatMap cW)=(tb.set e ⟨o,h.d⟩).flatMap cW
 | [],_,_,h=>by simp at h
 | a::r,0,h,hh=>by
  simp only[List.getElem?_cons_zero,Option.some.injEq] at hh
  subst hh
  simp[cW]
 | a::r,e+1,h,hh=>by
  have ih:=C4 o r e h (by simpa using hh)
  rw[List.set_cons_succ,List.flatMap_cons,List.flatMap_cons,← ih]
  have e1:(e+1)*2=e*2+2:=by omega
  rw[e1]
  simp[cW]
theorem I1 (ms:List Mx)(hm:xN ms)(tb:List Ho)(e th:Nat)(he:e<(aK ms).length)(hl:tb.length=(aK ms).length)(ho:∀ m∈aK ms,m<ms.length)(ht:th≤1000000) :
  ae Tryz.prog 139 [.av (ms.flatMap cq) ms.length,.av (tb.flatMap cW) tb.length,I e,I th] (.bool (Au ms tb e th)):=by
 obtain⟨m,hme⟩:∃ m,(aK ms)[e]? = some m:=⟨_,List.getElem?_eq_getElem he⟩
 have hte:e<tb.length:=by omega
 obtain⟨h,hh⟩:∃ h,tb[e]? = some h:=⟨_,List.getElem?_eq_getElem hte⟩
 have hml:=ho m (List.mem_of_getElem? hme)
 obtain⟨x,hx⟩:∃ x,ms[m]? = some x:=⟨_,List.getElem?_eq_getElem hml⟩
 have hmo:=pD ms hm e
 have hmv:fE ms e=m:=by simp[fE,hme,show ¬ (e:Int)<0 by omega]
 rw[hmv] at hmo
 have hf:Au ms tb e th=(decide (h.o=0) || (decide (h.o=th+1) && x.re)):=by simp only[Au,hme,hh,hx]
 rw[hf]
 have hdh:=aE (f:=cW) (n:=2) eJ hh
 have hdx:=mxRe hx
 have targ:trees [.av (ms.flatMap cq) ms.length,I e]=true:=by simp only[trees,tree,Bool.and_self]
 have wt:=ct ((th:Int)+1) yA yA
 refine ae.aB ag Tryz.func139 rfl yAb (by simp[Tryz.ntmps139]) rfl fun C hC hC0=>?_
 rw[Tryz.ntmps139] at hC
 apply au
 simp[hC]
 apply au
 simp[hC]
 refine cH targ hmo ?_
 simp[hC]
 have hn1:¬ (m:Int)<0:=by omega
 have hn2:¬ (th:Int)<0:=by omega
 apply aJ
 simp[hC,hn1,hn2]
 refine e9 ?_
 simp
 by_cases h0:h.o=0
 ·apply au
  simp[hC,hte,hdh,cW,h0]
  refine T.ret (aa.here ?_)
  simp[Tryz.results139]
 ·by_cases h1:h.o=th+1
  ·have hz:(((th:Int)+1) == 0)=false:=by rw[beq_eq_false_iff_ne];omega
   apply au
   simp[hC,hte,hdh,cW,h1,hz,wt,hml,hdx,cq]
   refine T.ret (aa.here ?_)
   simp[Tryz.results139]
  ·have h2:((h.o:Int) == (th:Int)+1)=false:=by rw[beq_eq_false_iff_ne];omega
   apply au
   simp[hC,hte,hdh,cW,h0,h2,wt]
   refine T.ret (aa.here ?_)
   simp[Tryz.results139,h1]
theorem IH (ms:List Mx)(hm:xN ms)(tb:List Ho)(e th:Nat)(he:e<(aK ms).length)(hl:tb.length=(aK ms).length)(ho:∀ m∈aK ms,m<ms.length)(ht:th≤1000000)(hb:tb.length≤1000000)(hd:∀ h∈tb,h.d≤1000000) :
  ae Tryz.prog 100 [.av (ms.flatMap cq) ms.length,.av (tb.flatMap cW) tb.length,I e,I th] (.cr [.av ((kM ms tb e th).1.flatMap cW) (kM ms tb e th).1.length,.bool (kM ms tb e th).2]):=by
 have hte:e<tb.length:=by omega
 obtain⟨h,hh⟩:∃ h,tb[e]? = some h:=⟨_,List.getElem?_eq_getElem hte⟩
 have hhd:=hd h (List.mem_of_getElem? hh)
 have hfr:=I1 ms hm tb e th he hl ho ht
 have ttb:=ai bV tb
 have hdh:=aE (f:=cW) (n:=2) eJ hh
 have wt:=ct ((th:Int)+1) yA yA
 have wd:=ct ((h.d:Int)+1) yA yA
 have bd:tb.length*16≤140737488355328:=by omega
 have hfl:(tb.flatMap cW).length=tb.length*2:=aD (f:=cW) (n:=2) eJ tb
 refine ae.aB ag Tryz.func100 rfl yAb (by simp[Tryz.ntmps100]) rfl fun C hC hC0=>?_
 rw[Tryz.ntmps100] at hC
 apply au
 simp[hC]
 apply au
 simp[hC,bd,hfl,aI]
 have tke:List.take (tb.length*2) (tb.flatMap cW)=tb.flatMap cW:=List.take_of_length_le yA
 apply aJ
 simp[hC]
 refine TL.call yAc rfl rfl (bF.lent (ds:=[.av (ms.flatMap cq) ms.length,.av (tb.flatMap cW) tb.length,I e,I th]) rfl (by generalize tb.flatMap cW=T at ttb tke ⊢;have ttb2:=iB ttb;simp[mS,yz,assoc,if_pos ttb2,tke,tree]) hfr rfl) (TL.go' ag ?_)
 simp[hC]
 cases hf:Au ms tb e th with
 | false=>
  refine T.cond (b:=true) yAf ?_
  simp
  apply au
  simp[hC]
  apply T.ret
  refine aa.le (Le.trim [8,9] [1] 2 (by simp[-List.all_eq_true,-List.all_flatMap,aj ttb]) yA) ?_
  simp
  refine aa.le (Le.cG (o:=1) rfl ttb) ?_
  simp[tke]
  apply aa.here
  simp[kM,hf]
 | true=>
  have hlk:kM ms tb e th=(tb.set e ⟨th+1,h.d+1⟩,true):=by simp only[kM,hf,hh,if_true]
  rw[hlk]
  refine T.cond (b:=false) yAf (T.skip ?_)
  simp
  have hc1:(tb.flatMap cW)[e*2+1]? = some (I h.d):=by rw[← List.getElem?_drop,hdh];rfl
  have hb2:e*2+2≤tb.length*2:=by omega
  have hset:=GH ⟨th+1,h.d+1⟩ tb e hte
  rw[show (((th+1:Nat):Int))=(th:Int)+1 from rfl,show (((h.d+1:Nat):Int))=(h.d:Int)+1 from rfl] at hset
  have tst:=ai bV (tb.set e ⟨th+1,h.d+1⟩)
  have tks:List.take (tb.length*2) ((tb.set e ⟨th+1,h.d+1⟩).flatMap cW)=(tb.set e ⟨th+1,h.d+1⟩).flatMap cW:=List.take_of_length_le yCl
  apply au
  simp[hC,hte,hc1,hfl,wt,wd,hb2]
  rw[hset]
  apply au
  simp[hC]
  apply T.ret
  refine aa.le (Le.trim [8,9] [1] 2 yCh yA) ?_
  simp
  refine aa.le (Le.cG (o:=1) rfl tst) ?_
  simp[tks]
  apply aa.here
  simp
theorem Dz (ms:List Mx)(hm:xN ms)(tb:List Ho)(e th:Nat)(he:e<(aK ms).length)(hl:tb.length=(aK ms).length)(ht:th≤1000000)(hb:tb.length≤1000000)(hd:∀ h∈tb,h.d≤1000000∧(h.o≠0→0<h.d)) :
  ae Tryz.prog 101 [.av (ms.flatMap cq) ms.length,.av (tb.flatMap cW) tb.length,I e,I th] (.cr [.av ((fO ms tb e th).1.flatMap cW) (fO ms tb e th).1.length,.bool (fO ms tb e th).2]):=by
 have hte:e<tb.length:=by omega
 obtain⟨m,hme⟩:∃ m,(aK ms)[e]? = some m:=⟨_,List.getElem?_eq_getElem he⟩
 obtain⟨h,hh⟩:∃ h,tb[e]? = some h:=⟨_,List.getElem?_eq_getElem hte⟩
 obtain⟨hhd,hhp⟩:=hd h (List.mem_of_getElem? hh)
 have hmo:=pD ms hm e
 have hmv:fE ms e=m:=by simp[fE,hme,show ¬ (e:Int)<0 by omega]
 rw[hmv] at hmo
 have targ:trees [.av (ms.flatMap cq) ms.length,I e]=true:=by simp only[trees,tree,Bool.and_self]
 have ttb:=ai bV tb
 have hdh:=aE (f:=cW) (n:=2) eJ hh
 have wt:=ct ((th:Int)+1) yA yA
 have bd:tb.length*16≤140737488355328:=by omega
 have hfl:(tb.flatMap cW).length=tb.length*2:=aD (f:=cW) (n:=2) eJ tb
 have tke:List.take (tb.length*2) (tb.flatMap cW)=tb.flatMap cW:=List.take_of_length_le yA
 have hc0:(tb.flatMap cW)[e*2]? = some (I h.o):=by
  have:=congrArg (·[0]?) hdh
  simpa [cW] using this
 have hc1:(tb.flatMap cW)[e*2+1]? = some (I h.d):=by rw[← List.getElem?_drop,hdh];rfl
 have hn1:¬ (m:Int)<0:=by omega
 have hn2:¬ (th:Int)<0:=by omega
 have hul:fO ms tb e th=if h.o=th+1 then (tb.set e (if h.d=1 then ⟨0,0⟩ else ⟨th+1,h.d-1⟩),true) else (tb,false):=by simp only[fO,hme,hh]
 rw[hul]
 refine ae.aB ag Tryz.func101 rfl yAb (by simp[Tryz.ntmps101]) rfl fun C hC hC0=>?_
 rw[Tryz.ntmps101] at hC
 apply au
 simp[hC]
 apply au
 simp[hC,bd,hfl,aI]
 apply aJ
 simp[hC]
 refine cH targ hmo ?_
 by_cases hth:h.o=th+1
 ·rw[if_pos hth]
  have hth2:((h.o:Int) != (th:Int)+1)=false:=by rw[bne_eq_false_iff_eq];omega
  have hdp:=hhp yA
  simp[hC,hn1,hn2,hte,hc0,wt,hth2]
  refine e9 ?_
  simp
  have wd:=ct ((h.d:Int)-1) yA yA
  have hb2:e*2+2≤tb.length*2:=by omega
  have hsd:=C5 (h.d-1) tb e h hh
  rw[show (((h.d-1:Nat):Int))=(h.d:Int)-1 by omega] at hsd
  apply au
  simp[hC,hte,hc1,hfl,wd,hb2]
  rw[show e*2+1+1=e*2+2 from rfl,hsd]
  have hh2:(tb.set e ⟨h.o,h.d-1⟩)[e]? = some ⟨h.o,h.d-1⟩:=by rw[List.getElem?_set,if_pos rfl,if_pos hte]
  have hl2:(tb.set e ⟨h.o,h.d-1⟩).length=tb.length:=by simp
  have hss:(tb.set e ⟨h.o,h.d-1⟩).set e ⟨0,h.d-1⟩=tb.set e ⟨0,h.d-1⟩:=by simp
  have hho:(⟨h.o,h.d-1⟩:Ho)=⟨th+1,h.d-1⟩:=by rw[hth]
  by_cases hd1:h.d=1
  ·rw[if_pos hd1]
   generalize tb.set e ⟨h.o,h.d-1⟩=t2 at hh2 hl2 hss
   have hso:=C4 0 t2 e _ hh2
   rw[hss,show (⟨0,h.d-1⟩:Ho)=⟨0,0⟩ by rw[hd1],show (((0:Nat):Int))=0 from rfl] at hso
   have hdh2:=aE (f:=cW) (n:=2) eJ hh2
   have hc2:(t2.flatMap cW)[e*2+1]? = some (I 0):=by rw[← List.getElem?_drop,hdh2];simp[cW,hd1]
   have hfl2:(t2.flatMap cW).length=tb.length*2:=by rw[aD (f:=cW) (n:=2) eJ,hl2]
   have hb3:e*2+1≤tb.length*2:=by omega
   have tst:=ai bV (tb.set e ⟨0,0⟩)
   have tks:List.take (tb.length*2) ((tb.set e ⟨0,0⟩).flatMap cW)=(tb.set e ⟨0,0⟩).flatMap cW:=List.take_of_length_le yCl
   apply aJ
   simp[hC,hte,hc2]
   refine dN ?_
   simp
   apply aO
   simp[hC,hte,hfl2,hb3]
   rw[hso]
   apply au
   simp[hC]
   apply T.ret
   refine aa.le (Le.trim [8,9] [1] 2 yCh yA) ?_
   simp
   refine aa.le (Le.cG (o:=1) rfl tst) ?_
   simp[tks]
   apply aa.here
   simp
  ·rw[if_neg hd1]
   rw[hho] at hh2 hl2 ⊢
   have hdh2:=aE (f:=cW) (n:=2) eJ hh2
   have tst:=ai bV (tb.set e ⟨th+1,h.d-1⟩)
   have tks:List.take (tb.length*2) ((tb.set e ⟨th+1,h.d-1⟩).flatMap cW)=(tb.set e ⟨th+1,h.d-1⟩).flatMap cW:=List.take_of_length_le yCl
   have hlS:(tb.set e ⟨th+1,h.d-1⟩).length=tb.length:=by simp
   generalize tb.set e ⟨th+1,h.d-1⟩=t2 at hh2 hl2 hdh2 tst tks hlS ⊢
   have hc2:(t2.flatMap cW)[e*2+1]? = some (I (h.d-1:Nat)):=by rw[← List.getElem?_drop,hdh2];rfl
   have hnz:(((h.d-1:Nat):Int) == 0)=false:=by rw[beq_eq_false_iff_ne];omega
   apply aJ
   simp[hC,hte,hc2,hnz]
   refine T.cond (b:=false) yAf (T.skip ?_)
   simp
   apply au
   simp[hC]
   apply T.ret
   refine aa.le (Le.trim [8,9] [1] 2 yCh yA) ?_
   simp
   refine aa.le (Le.cG (o:=1) rfl tst) ?_
   simp[tks]
   apply aa.here
   simp
 ·rw[if_neg hth]
  have hth2:((h.o:Int) != (th:Int)+1)=true:=by rw[bne_iff_ne];omega
  simp[hC,hn1,hn2,hte,hc0,wt,hth2]
  refine dN ?_
  simp
  apply au
  simp[hC]
  apply T.ret
  refine aa.le (Le.trim [8,9] [1] 2 (by simp[-List.all_eq_true,-List.all_flatMap,aj ttb]) yA) ?_
  simp
  refine aa.le (Le.cG (o:=1) rfl ttb) ?_
  simp[tke]
  apply aa.here
  simp
end Go.Proofs.YtmnglemlimfpbaaGreat
namespace Go.aX
open Go.Can
theorem sr (m th:Nat):∀ (os:List Nat) (tb:List Ho) (i:Nat) (o:Nat) (h:Ho),os[i]? = some o→tb[i]? = some h→dM m th (os.take (i+1)) (tb.take (i+1))=dM m th (os.take i) (tb.take i)+(if o=m∧h.o=th+1 then h.d else 0)
 | [],_,_,_,_,h1,_=>by simp at h1
 | _::_,[],_,_,_,_,h2=>by simp at h2
 | a::r,b::q,0,o,h,h1,h2=>by
  simp only[List.getElem?_cons_zero,Option.some.injEq] at h1 h2
  subst h1
  subst h2
  simp[dM]
 | a::r,b::q,i+1,o,h,h1,h2=>by
  simp only[List.getElem?_cons_succ] at h1 h2
  rw[List.take_succ_cons,List.take_succ_cons,dM,sr m th r q i o h h1 h2,List.take_succ_cons,List.take_succ_cons,dM]
  omega
theorem xz (m th:Nat):∀ (os:List Nat) (tb:List Ho),(∀ h∈tb,h.d≤1000000)→dM m th os tb≤1000000*tb.length
 | [],_,_=>by simp[dM]
 | _::_,[],_=>by simp[dM]
 | a::r,b::q,hd=>by
  have h1:=xz m th r q fun h hh=>hd h (List.mem_cons_of_mem _ hh)
  have h2:=hd b List.mem_cons_self
  rw[dM,List.length_cons]
  split<;>omega
end Go.aX
namespace Go.Proofs.YtmnglemlimfpbaaGreat
open Go.Can Go.aX
def J40 (ms:List Mx)(tb:List Ho)(m th:Nat)(n:Nat)(s:St):Prop:=∃ i:Nat,n=(aK ms).length-i∧i≤(aK ms).length∧
 s=⟨[(11,I i),(10,aW (aK ms)),(9,I (dM m th ((aK ms).take i) (tb.take i))),(1,.av (tb.flatMap cW) tb.length),(2,I m),(3,I th)],[],0⟩
theorem AG (ms:List Mx)(hm:xN ms)(tb:List Ho)(m th:Nat)(hl:tb.length=(aK ms).length)(ht:th≤1000000)(hd:∀ h∈tb,h.d≤1000000) :
  ae Tryz.prog 40 [.av (ms.flatMap cq) ms.length,.av (tb.flatMap cW) tb.length,I m,I th] (I (dL ms tb m th)):=by
 have how:=oA ms hm
 have targ:trees [.av (ms.flatMap cq) ms.length]=true:=by simp only[trees,tree,Bool.and_self]
 have hol:=fB ms 0 hm.2
 have hml:=hm.1
 have hol2:(aK ms).length≤1000000:=by rw[aK];omega
 have wt:=ct ((th:Int)+1) yA yA
 refine ae.aB ag Tryz.func40 rfl yAb (by simp[Tryz.ntmps40]) rfl fun C hC hC0=>?_
 rw[Tryz.ntmps40] at hC
 apply au
 simp[hC]
 apply au
 simp[hC]
 refine cH targ how ?_
 simp[hC]
 apply aJ
 simp[hC]
 apply T.block
 refine T.aL (J40 ms tb m th) (n:=(aK ms).length) ?_ ?_
 ·refine aa.trim [11,10,9,1,2,3] [] 0 (by simp[a6 0 _ (bW (aK ms))]) yA ⟨0,by omega,by omega,?_⟩
  simp[dM]
 ·rintro n s ⟨i,rfl,hi,rfl⟩
  by_cases hil:i<(aK ms).length
  ·obtain⟨o,ho⟩:∃ o,(aK ms)[i]? = some o:=⟨_,List.getElem?_eq_getElem hil⟩
   have hit:i<tb.length:=by omega
   obtain⟨h,hh⟩:∃ h,tb[i]? = some h:=⟨_,List.getElem?_eq_getElem hit⟩
   have hst:=sr m th _ _ i o h ho hh
   have hsl:=xz m th ((aK ms).take (i+1)) (tb.take (i+1)) fun x hx=>hd x (List.mem_of_mem_take hx)
   have htl:(tb.take (i+1)).length≤1000000:=by simp;omega
   generalize dM m th ((aK ms).take i) (tb.take i)=D at hst
   have hdo:=j7 ho
   have hdh:=aE (f:=cW) (n:=2) eJ hh
   have wi:=ct ((i:Int)+1) yA yA
   have hhd:=hd h (List.mem_of_getElem? hh)
   simp only[aW]
   apply aJ
   simp[hC,hil]
   refine iv ?_
   simp
   apply fq
   have hn2:¬ (th:Int)<0:=by omega
   by_cases hom:o=m
   ·subst hom
    by_cases hth:h.o=th+1
    ·rw[if_pos ⟨rfl,hth⟩] at hst
     have hth2:((h.o:Int) == (th:Int)+1)=true:=by rw[beq_iff_eq];omega
     have wd:=ct ((D:Int)+h.d) yA yA
     apply au
     simp[hC,hil,hdo,hit,hdh,cW,wt,hth2]
     refine dN ?_
     simp
     apply aO
     simp[hC,hit,hdh,cW,wd]
     apply aO
     simp[hC,wi]
     refine⟨(aK ms).length-(i+1),by omega,aa.trim [11,10,9,1,2,3] [] 0 yAa yA ⟨i+1,rfl,by omega,?_⟩⟩
     rw[hst]
     simp[aW]
    ·rw[if_neg fun h=>hth h.2] at hst
     have hth2:((h.o:Int) == (th:Int)+1)=false:=by rw[beq_eq_false_iff_ne];omega
     apply au
     simp[hC,hil,hdo,hit,hdh,cW,wt,hth2]
     refine e9 ?_
     simp
     apply aO
     simp[hC,wi]
     refine⟨(aK ms).length-(i+1),by omega,aa.trim [11,10,9,1,2,3] [] 0 yAa yA ⟨i+1,rfl,by omega,?_⟩⟩
     rw[hst]
     simp[aW]
   ·rw[if_neg fun h=>hom h.1] at hst
    apply au
    simp[hC,hil,hdo,hom]
    refine e9 ?_
    simp
    apply aO
    simp[hC,wi]
    refine⟨(aK ms).length-(i+1),by omega,aa.trim [11,10,9,1,2,3] [] 0 yAa yA ⟨i+1,rfl,by omega,?_⟩⟩
    rw[hst]
    simp[aW]
  ·have hie:i=(aK ms).length:=by omega
   subst hie
   simp only[aW]
   apply aJ
   simp[hC]
   refine T.cond (b:=false) yAf ?_
   simp
   apply T.exit
   simp
   apply au
   simp[hC]
   apply T.ret
   apply aa.here
   have e1:tb.take (aK ms).length=tb:=List.take_of_length_le yA
   simp[Tryz.results40,dL,e1]
end Go.Proofs.YtmnglemlimfpbaaGreat
namespace Go.Can
open Go.RowKit
def HL (P:Program)(aq:List (Nat×TI))(f:FuncId)(args:List CV)(H:List (Nat×Ob))(n:Nat)(ks:List Nat)(R:CV→St→Prop):Prop:=
 ∃ fn c, P.funcs[f]? = some fn ∧ fn.body = some c ∧ (fn.name == "runtime.NumGoroutine") = false ∧ args.length ≤ fn.ntmps ∧
  ∀ C:Cx,C.nt=fn.ntmps→C.n0=n→(∀ k∈ks,∀ B b,C.σ0 k=some B→B.jX=some b→C.own b∨C.w0.heap.size≤b)→T P C c ⟨(enter args).env,H,n⟩ (G4 C aq fn R)
def wI:Value→Bool
 | .int .i64 n=>Aj n
 | _=>false
theorem zf {v:Value}(h:wI v=true):∃ n,v=.int .i64 n∧(Lit.int .i64 n).wf=true:=by
 unfold wI at h
 split at h
 ·rename_i n
  refine⟨n,rfl,?_⟩
  simp only[Aj,Bool.and_eq_true,decide_eq_true_eq] at h
  simp[Lit.wf,IntKind.min,IntKind.max,IntKind.signed,IntKind.bits]
  omega
 ·cases h
theorem mapM_some {α β:Type}{f:α→Option β}:∀ (l:List α),(l.mapM f).isSome=l.all fun x=>(f x).isSome
 | []=>by simp
 | x::r=>by
  rw[List.mapM_cons]
  cases h:f x with
  | none=>simp[h]
  | some y=>
   have:=mapM_some (f:=f) r
   cases h2:r.mapM f with
   | none=>simp[h,h2] at this ⊢;simpa using this
   | some z=>simp[h,h2] at this ⊢;simpa using this
theorem qk {P:Program}:∀ (d:Nat) (t:TypeId) (cs ds:List Value),cs.length=ds.length→(cs.all wI=true)→(ds.all wI=true)→(P.keyLits d t ds).isSome=true→(P.keyLits d t cs).isSome=true
 | 0,_,_,_,_,_,_,h=>by simp[Program.keyLits] at h
 | d+1,t,cs,ds,hl,hc,hd,h=>by
  have sub:∀ u n m,(P.keyLits d u ((ds.drop n).take m)).isSome=true→(P.keyLits d u ((cs.drop n).take m)).isSome=true:=fun u n m hs=>by
   refine qk d u _ _ (by simp[hl]) ?_ ?_ hs
   ·exact List.all_eq_true.2 fun x hx=>List.all_eq_true.1 hc x (List.mem_of_mem_drop (List.mem_of_mem_take hx))
   ·exact List.all_eq_true.2 fun x hx=>List.all_eq_true.1 hd x (List.mem_of_mem_drop (List.mem_of_mem_take hx))
  unfold Program.keyLits at h ⊢
  cases hu:P.underlying t with
  | none=>rw[hu] at h;simp at h
  | some u=>
   rw[hu] at h
   cases u with
   | array n e=>
    simp only[hl] at h ⊢
    split at h
    ·rename_i he
     rw[if_pos he]
     rw[Option.isSome_map,mapM_some] at h ⊢
     exact List.all_eq_true.2 fun i hi=>sub _ _ _ (List.all_eq_true.1 h i hi)
    ·cases h
   | struct fs=>
    simp only[hl] at h ⊢
    split at h
    ·rename_i he
     rw[if_pos he]
     rw[Option.isSome_map,mapM_some] at h ⊢
     exact List.all_eq_true.2 fun i hi=>sub _ _ _ (List.all_eq_true.1 h i hi)
    ·cases h
   | int q=>
    match ds,cs,hl,hc,hd,h with
    | [x],[y],_,hc,hd,h=>
     simp only[List.all_cons,List.all_nil,Bool.and_true] at hc hd
     obtain⟨n,rfl,w1⟩:=zf hd
     obtain⟨m,rfl,w2⟩:=zf hc
     simp only at h ⊢
     split at h
     ·rename_i he
      obtain⟨rfl,_⟩:=he
      rw[if_pos ⟨rfl,w2⟩]
      rfl
     ·cases h
    | [],_,_,_,_,h=>simp at h
    | _::_::_,_,_,_,_,h=>simp at h
   | bool=>
    cases ds with
    | nil=>simp at h
    | cons x r=>
     simp only[List.all_cons,Bool.and_eq_true] at hd
     obtain⟨n,rfl,_⟩:=zf hd.1
     simp at h
   | string=>
    cases ds with
    | nil=>simp at h
    | cons x r=>
     simp only[List.all_cons,Bool.and_eq_true] at hd
     obtain⟨n,rfl,_⟩:=zf hd.1
     simp at h
   | _=>simp at h
def pz (n:Nat):Value→Bool
 | .agg cs=>decide (cs.size=n) && cs.toList.all wI
 | _=>false
theorem yh {n:Nat}{v:Value}(h:pz n v=true):∃ cs,v=.agg cs∧cs.size=n∧cs.toList.all wI=true:=by
 unfold pz at h
 split at h
 ·simp only[Bool.and_eq_true,decide_eq_true_eq] at h
  exact⟨_,rfl,h⟩
 ·cases h
def xA (P:Program)(m n:Nat)(t:TypeId):Bool:=P.keyTypeAt m t && P.tiled m t && (match P.underlying t with | some (.array _ _) | some (.struct _)=>true | _=>false) && P.keyType t && (P.cellsOf t == n) && (P.keyLits (P.types.size+1) t (List.replicate n (.int .i64 0))).isSome
theorem AI {P:Program}{m n:Nat}{t:TypeId}(h:xA P m n t=true){v:Value}(hv:pz n v=true):∃ l,keyOf P t v=some l:=by
 simp only[xA,Bool.and_eq_true,beq_iff_eq] at h
 obtain⟨⟨⟨⟨⟨h1,h2⟩,h3⟩,h4⟩,h5⟩,h6⟩:=h
 obtain⟨cs,rfl,hn,hw⟩:=yh hv
 have hk:=qk (P:=P) (P.types.size+1) t cs.toList (List.replicate n (.int .i64 0)) (by simp[hn]) hw (by simp[List.all_replicate,wI,Aj]) h6
 obtain⟨L,hL⟩:=Option.isSome_iff_exists.1 hk
 have hf:(Value.agg cs).formed P t=true:=by
  unfold Value.formed
  split at h3<;>rename_i e<;>simp only[e,hn,h5,beq_self_eq_true] at h3 ⊢
  cases h3
 have hif:(if P.keyType t && (Value.agg cs).formed P t then (P.keyLits (P.types.size+1) t (Value.agg cs).cells.toList).map fun ls=>Lit.string (keyBytes ls) else none)=some (.string (keyBytes L)):=by
  rw[if_pos (by rw[h4,hf];rfl),show (Value.agg cs).cells=cs from rfl,hL]
  rfl
 refine⟨_,Eq.trans ?_ hif⟩
 unfold keyOf
 split
 ·rfl
 ·rfl
 ·exfalso
  split at h3
  ·simp_all
  ·simp_all
  ·cases h3
theorem FN {n:Nat}{v:Value}(h:pz n v=true):HR v=true:=by
 obtain⟨cs,rfl,_,hw⟩:=yh h
 simp only[HR]
 refine List.all_eq_true.2 fun x hx=>?_
 obtain⟨k,rfl,_⟩:=zf (List.all_eq_true.1 hw x hx)
 rfl
theorem Az {P:Program}{m n:Nat}{t:TypeId}(hm:m+1≤10000)(h:xA P m n t=true)(hg:P.eqGuardType P.depth t=false):EqT P t (pz n):=by
 have h':=h
 simp only[xA,Bool.and_eq_true,beq_iff_eq] at h'
 refine⟨fun w x y hx hy=>?_,hg,fun x hx=>(yh hx).imp fun _ h=>h.1⟩
 obtain⟨lx,ex⟩:=AI h hx
 obtain⟨ly,ey⟩:=AI h hy
 obtain⟨r,hr,hi⟩:=run_equal_deep w (by omega:m≤10000) h'.1.1.1.1.1 h'.1.1.1.2 ex ey
 have hq:(Op.equalIn 10000 t x y).run P w=.ok r w:=hr
 rw[hq]
 congr 1
 have hxy:r=true↔x=y:=by
  rw[hi]
  refine⟨fun e=>?_,fun e=>?_⟩
  ·subst e;exact keyOf_inj_deep h'.1.1.1.1.2 h'.1.1.1.2 ex ey
  ·subst e;rw[ex] at ey;exact Option.some.inj ey
 have hv:y6 x y=true↔x=y:=⟨qP,fun e=>by subst e;exact pX (FN hx)⟩
 cases r<;>cases hh:y6 x y<;>simp_all
end Go.Can
namespace Go.aX
open Go.Can
def jh (p:Int)(ls:List Int):List CV:=eO [I p,I ls.length,I 0,I 0,I 0,I 0,I 0,I 0] 2 (ls.map fun n:Int=>I n)
end Go.aX
namespace Go.Proofs.YtmnglemlimfpbaaGreat
open Go.Can Go.aX
theorem tM:∀ (k:Nat) (l:List CV),trees l=true→trees (l.drop k)=true
 | 0,l,h=>by simpa using h
 | k+1,[],_=>by simp
 | k+1,c::l,h=>by
  simp only[trees,Bool.and_eq_true] at h
  rw[List.drop_succ_cons]
  exact tM k l h.2
theorem Ad (p:Int)(ls:List Int)(hl:ls.length≤6):ae Tryz.prog 53 [.agg [I p,ints ls]] (.cr [.agg (jh p ls),.bool true]):=by
 have tls:tree (ints ls)=true:=by simp[ints,tree]
 have tkc:trees (jh p ls)=true:=by
  have:trees (ls.map fun n:Int=>I n)=true:=aM ls
  have hd:∀ k,trees (List.drop k [I p,I ls.length,I 0,I 0,I 0,I 0,I 0,I 0])=true:=fun k=>tM k _ rfl
  simp only[jh,eO,aC,this,hd]
  rfl
 have htr:tree (.cr [.agg (jh p ls),.bool true])=true:=by simp only[tree,trees,tkc];rfl
 have hkl:(jh p ls).length=8:=by simp[jh,eO];omega
 have htk8:(jh p ls).take 8=jh p ls:=List.take_of_length_le yA
 have dl:∀ k,((List.drop k [CV.int .i64 p,CV.int .i64 ls.length,CV.int .i64 0,CV.int .i64 0,CV.int .i64 0,CV.int .i64 0,CV.int .i64 0,CV.int .i64 0]).all (a8 3))=true:=fun k=>List.all_eq_true.2 fun x hx=>by
  have:=List.mem_of_mem_drop hx
  simp only[List.mem_cons,List.not_mem_nil,or_false] at this
  rcases this with rfl | rfl | rfl | rfl | rfl | rfl | rfl | rfl<;>rfl
 refine ae.aB ag Tryz.func53 rfl yAb (by simp[Tryz.ntmps53]) htr fun C hC hC0=>?_
 rw[Tryz.ntmps53] at hC
 simp only[ints]
 apply au
 simp[hC]
 apply au
 simp[hC]
 have h6:¬ (6:Int)<ls.length:=by omega
 apply aJ
 simp[hC,h6]
 refine T.cond (b:=false) yAf (T.skip ?_)
 simp
 have hmn:min ls.length 6=ls.length:=by omega
 have htk:(ls.map fun n:Int=>I n).take ls.length=ls.map fun n:Int=>I n:=List.take_of_length_le yAa
 have hon:(jh p ls).all one=true:=by
  simp[jh,eO,one]
  exact fun x hx=>by
   have:x∈[I p,I ls.length,I 0,I 0,I 0,I 0,I 0,I 0]:=List.mem_of_mem_drop hx
   simp only[List.mem_cons,List.not_mem_nil,or_false] at this
   rcases this with rfl | rfl | rfl | rfl | rfl | rfl | rfl | rfl<;>rfl
 refine T.cut (fun s=>s=⟨[(4,.aw 2 0),(2,.aw 1 0)],[(1,⟨121,0,[I 0,I 0,I 0,I 0,I 0,I 0,I 0,I 0]⟩),(2,⟨121,0,jh p ls⟩)],3⟩) ?_ ?_
 ·refine T.explore ag follows [0,2] yAb yAb yAa (TH.go' ?_)
  simp[hC]
  refine TX.two (i:=1) (j:=3) yAb rfl rfl (TL.go' ag ?_) (TL.go' ag ?_)
  ·simp[hC]
   refine TX.one (i:=3) yAb rfl (TL.go' ag ?_)
   simp[hC]
   refine TX.one (i:=4) yAb rfl (TL.go' ag ?_)
   simp[hC,hmn,htk]
   refine TX.end yAb ?_
   refine aa.trim [4,2] [1,2] 3 (by simp[-List.all_eq_true];exact⟨List.all_eq_true.2 fun _ _=>rfl,dl _⟩) yA ?_
   simp[jh]
  ·simp[hC]
   refine TX.one (i:=1) yAb rfl (TL.go' ag ?_)
   simp[hC]
   refine TX.one (i:=4) yAb rfl (TL.go' ag ?_)
   simp[hC,hmn,htk]
   refine TX.end yAb ?_
   refine aa.trim [4,2] [1,2] 3 (by simp[-List.all_eq_true];exact⟨List.all_eq_true.2 fun _ _=>rfl,dl _⟩) yA ?_
   simp[jh]
 ·rintro s rfl
  have hxx:(I p::I ls.length::I 0::I 0::I 0::I 0::I 0::[I 0]).length=8:=rfl
  apply au
  simp[hC,hkl,htk8,List.drop_of_length_le]
  apply T.ret
  apply aa.here
  simp[Tryz.results53,hkl,htk8]
theorem Eg (p:Int)(ls:List Int)(hl:6<ls.length):ae Tryz.prog 53 [.agg [I p,ints ls]] (.cr [.agg [I 0,I 0,I 0,I 0,I 0,I 0,I 0,I 0],.bool false]):=by
 have tls:tree (ints ls)=true:=by simp[ints,tree]
 refine ae.aB ag Tryz.func53 rfl yAb (by simp[Tryz.ntmps53]) rfl fun C hC hC0=>?_
 rw[Tryz.ntmps53] at hC
 simp only[ints]
 apply au
 simp[hC]
 apply au
 simp[hC]
 have h6:(6:Int)<ls.length:=by omega
 apply aJ
 simp[hC,h6]
 refine T.cond (b:=true) yAf ?_
 simp
 apply au
 simp[hC]
 apply T.ret
 apply aa.here
 simp[Tryz.results53]
end Go.Proofs.YtmnglemlimfpbaaGreat
namespace Go.aX
open Go.Can
theorem Gp {cs:List CV}(h:cs.length=11):∃ c1 c2 c3 c4 c5 c6 c7 c8 c9 c10 c11,cs=[c1,c2,c3,c4,c5,c6,c7,c8,c9,c10,c11]:=by
 match cs,h with
 | [a,b,c,d,e,f,g,h,i,j,k],_=>exact⟨a,b,c,d,e,f,g,h,i,j,k,rfl⟩
end Go.aX
namespace Go.Proofs.YtmnglemlimfpbaaGreat
open Go.Can Go.aX
theorem GZ (e:Ex):(aZ e).all one=true:=by cases e<;>rfl
theorem Ir (o:Option Ex):one (mZ o)=true:=by rw[nL];rfl
theorem FX (q:Pl):(gz q).all one=true:=by simp only[gz,List.all_cons,List.all_nil,Ir];rfl
theorem uW (x:In):(dv x).all one=true:=by
 cases x<;>simp only[dv,List.cons_append,List.nil_append,List.append_assoc,List.all_append,List.all_cons,List.all_nil,GZ,FX,one,Bool.and_self,Bool.and_true,Bool.true_and]<;>rfl
theorem Gb (is:Is)(q:Pl)(h:q.param=true→q.index<is.bf.length):ae Tryz.prog 29 [.agg (fV is),.agg (gz q)] (I (jW is q)):=by
 refine ae.aB ag Tryz.func29 rfl yAb (by simp[Tryz.ntmps29]) rfl fun C hC hC0=>?_
 rw[Tryz.ntmps29] at hC
 simp only[fV,gz,aW,nL]
 apply au
 simp[hC]
 cases hq:q.param with
 | true=>
  have hlt:=h hq
  obtain⟨n,hn⟩:∃ n,is.bf[q.index]? = some n:=⟨_,List.getElem?_eq_getElem hlt⟩
  have hdr:=j7 hn
  have hmu:jW is q=n:=by simp[jW,hq,List.getD_eq_getElem?_getD,hn]
  apply aJ
  simp[hC,hlt]
  refine dN ?_
  simp
  apply au
  simp[hC,hlt,hdr]
  apply T.ret
  apply aa.here
  simp[Tryz.results29,hmu]
 | false=>
  have hmu:jW is q=q.index:=by simp[jW,hq]
  apply aJ
  simp[hC]
  refine e9 ?_
  simp
  apply au
  simp[hC]
  apply T.ret
  apply aa.here
  simp[Tryz.results29,hmu]
end Go.Proofs.YtmnglemlimfpbaaGreat
