/- The table as the program reads it: the walks. -/
import Derived.Test.YtmnglemlimfpbaaGreatZ45
namespace Go.Proofs.YtmnglemlimfpbaaGreat
open Go.Can Go.aX
def gI (m:Mx):Nat:=if m.size=0∧m.re=false then 1 else 8
theorem Io (m:Mx):ae Tryz.prog 64 [.agg (cq m)] (I (gI m)):=by
 obtain⟨nm,re,sz⟩:=m
 refine ae.aB ag Tryz.func64 rfl yAb (by simp[Tryz.ntmps64]) rfl fun C hC hC0=>?_
 rw[Tryz.ntmps64] at hC
 simp only[cq]
 apply au
 simp[hC]
 by_cases hz:sz=0
 ·subst hz
  cases re with
  | true=>
   apply aJ
   simp[hC]
   refine e9 ?_
   simp
   apply au
   simp[hC]
   apply T.ret
   apply aa.here
   simp[Tryz.results64,gI]
  | false=>
   apply aJ
   simp[hC]
   refine dN ?_
   simp
   apply au
   simp[hC]
   apply T.ret
   apply aa.here
   simp[Tryz.results64,gI]
 ·apply aJ
  simp[hC,hz]
  refine e9 ?_
  simp
  apply au
  simp[hC]
  apply T.ret
  apply aa.here
  simp[Tryz.results64,gI,hz]
theorem CF (m:Mx):ae Tryz.prog 41 [.agg (cq m)] (I (gI m)):=by
 obtain⟨nm,re,sz⟩:=m
 refine ae.aB ag Tryz.func41 rfl yAb (by simp[Tryz.ntmps41]) rfl fun C hC hC0=>?_
 rw[Tryz.ntmps41] at hC
 simp only[cq]
 apply au
 simp[hC]
 by_cases hz:sz=0
 ·subst hz
  cases re with
  | true=>
   apply aJ
   simp[hC]
   refine e9 ?_
   simp
   apply au
   simp[hC]
   apply T.ret
   apply aa.here
   simp[Tryz.results41,gI]
  | false=>
   apply aJ
   simp[hC]
   refine dN ?_
   simp
   apply au
   simp[hC]
   apply T.ret
   apply aa.here
   simp[Tryz.results41,gI]
 ·apply aJ
  simp[hC,hz]
  refine e9 ?_
  simp
  apply au
  simp[hC]
  apply T.ret
  apply aa.here
  simp[Tryz.results41,gI,hz]
theorem x9 (m:Mx):ae Tryz.prog 82 [.agg (cq m)] (I (max m.size 1:Nat)):=by
 obtain⟨nm,re,sz⟩:=m
 refine ae.aB ag Tryz.func82 rfl yAb (by simp[Tryz.ntmps82]) rfl fun C hC hC0=>?_
 rw[Tryz.ntmps82] at hC
 simp only[cq]
 apply au
 simp[hC]
 apply au
 simp[hC]
 apply T.ret
 apply aa.here
 simp[Tryz.results82]
 split<;>omega
def J110 (ms:List Mx)(n:Nat)(s:St):Prop:=∃ i:Nat,n=ms.length-i∧i≤ms.length∧
 s=⟨[(8,I i),(7,I ms.length),(6,.av (ms.flatMap cq) ms.length),(3,I (ec (ms.take i)))],[],0⟩
theorem AB:∀ (ms:List Mx),(∀ m∈ms,m.size≤1000)→ec ms≤1000*ms.length
 | [],_=>by simp[ec]
 | m::r,h=>by
  have h1:=h m List.mem_cons_self
  have h2:=AB r fun x hx=>h x (List.mem_cons_of_mem _ hx)
  rw[ec,List.length_cons]
  omega
theorem AD (ms:List Mx)(hm:xN ms):ae Tryz.prog 110 [.av (ms.flatMap cq) ms.length] (I (ec ms)):=by
 have hml:=hm.1
 refine ae.aB ag Tryz.func110 rfl yAb (by simp[Tryz.ntmps110]) rfl fun C hC hC0=>?_
 rw[Tryz.ntmps110] at hC
 apply au
 simp[hC]
 apply au
 simp[hC]
 apply aJ
 simp[hC]
 apply T.block
 refine T.aL (J110 ms) (n:=ms.length) ?_ ?_
 ·refine aa.trim [8,7,6,3] [] 0 yAa yA ⟨0,by omega,by omega,?_⟩
  simp[ec]
 ·rintro n s ⟨i,rfl,hi,rfl⟩
  by_cases hil:i<ms.length
  ·obtain⟨m,hmi⟩:∃ m,ms[i]? = some m:=⟨_,List.getElem?_eq_getElem hil⟩
   have hdm:=aE (f:=cq) (n:=3) fD hmi
   have hsz:=x9 m
   have targ:trees [.agg (cq m)]=true:=rfl
   have wi:=ct ((i:Int)+1) yA yA
   have htk:ms.take (i+1)=ms.take i++[m]:=by rw[List.take_add_one,hmi];rfl
   have hel:=AB (ms.take i) fun x hx=>hm.2 x (List.mem_of_mem_take hx)
   have hel2:(ms.take i).length≤1000:=by simp;omega
   have hm2:=hm.2 m (List.mem_of_getElem? hmi)
   have wd:=ct ((ec (ms.take i):Int)+(max m.size 1:Nat)) yA yA
   apply au
   simp[hC,hil]
   refine T.seq (T.cond (b:=true) rfl (T.skip ?_))
   simp
   apply fq
   apply au
   simp[hC,hil,hdm,cq]
   apply aO
   simp[hC]
   refine cH targ hsz ?_
   simp[hC,wd]
   apply aO
   simp[hC,wi]
   refine⟨ms.length-(i+1),by omega,aa.trim [8,7,6,3] [] 0 yAa yA ⟨i+1,rfl,by omega,?_⟩⟩
   simp[htk,oD,ec]
  ·have hie:i=ms.length:=by omega
   subst hie
   apply au
   simp[hC]
   apply T.seq
   refine T.cond (b:=false) rfl (T.exit ?_)
   simp
   apply au
   simp[hC]
   apply T.ret
   apply aa.here
   simp[Tryz.results110]
theorem FZ (ms:List Mx)(hm:xN ms)(m:Nat)(x:Mx)(hx:ms[m]? = some x):ae Tryz.prog 81 [.av (ms.flatMap cq) ms.length,I m] (I (ec (ms.take m))):=by
 have hlt:=(List.getElem?_eq_some_iff.1 hx).1
 have hel:=AD (ms.take m) ⟨by have:=hm.1;simp;omega,fun y hy=>hm.2 y (List.mem_of_mem_take hy)⟩
 have targ:trees [.av ((ms.take m).flatMap cq) (ms.take m).length]=true:=by simp only[trees,tree,Bool.and_self]
 refine ae.aB ag Tryz.func81 rfl yAb (by simp[Tryz.ntmps81]) rfl fun C hC hC0=>?_
 rw[Tryz.ntmps81] at hC
 apply au
 simp[hC]
 have hlt2:¬ ((ms.length:Int)≤(m:Int)):=by omega
 apply aJ
 simp[hC]
 refine T.cond (b:=false) (by simp[ev,assoc,hlt2]) (T.skip ?_)
 simp
 refine T.seq (T.region (TL.some ag 3 ?_))
 simp[hC]
 have hkm:List.take (m*3) (ms.flatMap cq)=(ms.take m).flatMap cq:=by
  rw[← rB (f:=cq) (n:=3) fD]
 have hlm:(ms.take m).length=m:=by simp;omega
 refine lU rfl (wF ag (e:=95) (lo:=none) (cs:=ms.flatMap cq) (len:=ms.length) (l:=0) (n:=m) (m:=m) yAc rfl yAa yAa rfl rfl (by simp[du,ev,assoc]) (by simp[du,ev,assoc]) ⟨by omega,by omega,by omega⟩) (TL.go' ag ?_)
 rw[hlm] at targ hel
 simp[hkm]
 refine cH targ hel ?_
 simp[hC]
 apply T.ret
 apply aa.here
 simp[Tryz.results81]
def J80 (ms:List Mx)(e:Nat)(n:Nat)(s:St):Prop:=∃ i e':Nat,n=ms.length-i∧i≤ms.length∧IF ms e 0=IF (ms.drop i) e' i∧e'≤e∧
 s=⟨[(11,I i),(10,I ms.length),(9,.av (ms.flatMap cq) ms.length),(1,I e')],[],0⟩
theorem zR (ms:List Mx)(hm:xN ms)(e:Nat)(he:e≤1000000):ae Tryz.prog 80 [.av (ms.flatMap cq) ms.length,I e] (I (fE ms e)):=by
 have hml:=hm.1
 rw[← IE]
 refine ae.aB ag Tryz.func80 rfl yAb (by simp[Tryz.ntmps80]) rfl fun C hC hC0=>?_
 rw[Tryz.ntmps80] at hC
 apply au
 simp[hC]
 apply aJ
 simp[hC]
 refine T.cond (b:=false) yAf (T.skip ?_)
 simp
 apply aJ
 simp[hC]
 apply T.block
 refine T.aL (J80 ms e) (n:=ms.length) ?_ ?_
 ·refine aa.trim [11,10,9,1] [] 0 yAa yA ⟨0,e,by omega,by omega,by simp,by omega,?_⟩
  simp
 ·rintro n s ⟨i,e',rfl,hi,hmt,hee,rfl⟩
  by_cases hil:i<ms.length
  ·obtain⟨m,hmi⟩:∃ m,ms[i]? = some m:=⟨_,List.getElem?_eq_getElem hil⟩
   have hdm:=aE (f:=cq) (n:=3) fD hmi
   have hsz:=x9 m
   have targ:trees [.agg (cq m)]=true:=rfl
   have wi:=ct ((i:Int)+1) yA yA
   have hdr:ms.drop i=m::ms.drop (i+1):=by rw[List.drop_eq_getElem_cons hil];simp[(List.getElem?_eq_some_iff.1 hmi).2]
   rw[hdr,IF] at hmt
   apply au
   simp[hC,hil]
   refine T.seq (T.cond (b:=true) rfl (T.skip ?_))
   simp
   apply fq
   apply au
   simp[hC,hil,hdm,cq]
   apply aJ
   simp[hC]
   refine cH targ hsz ?_
   by_cases hlt:e' < max m.size 1
   ·rw[if_pos hlt] at hmt
    have hlt2:(e':Int)<((max m.size 1:Nat):Int):=by omega
    simp[hC,hlt2]
    refine dN ?_
    simp
    apply au
    simp[hC]
    apply T.ret
    apply aa.here
    simp[Tryz.results80,hmt]
   ·rw[if_neg hlt] at hmt
    have hlt2:¬ (e':Int)<((max m.size 1:Nat):Int):=by omega
    have wd:=ct ((e':Int)-((max m.size 1:Nat):Int)) yA yA
    have wd2:(e':Int)-((max m.size 1:Nat):Int)=((e' - max m.size 1:Nat):Int):=by omega
    simp[hC,hlt2]
    refine e9 ?_
    simp
    apply aO
    simp[hC]
    refine cH targ hsz ?_
    rw[wd2] at wd
    simp only[hC]
    simp[wd,wd2]
    apply aO
    simp[hC,wi]
    refine⟨ms.length-(i+1),by omega,aa.trim [11,10,9,1] [] 0 yAa yA ⟨i+1,e' - max m.size 1,rfl,by omega,hmt,by omega,?_⟩⟩
    simp
  ·have hie:i=ms.length:=by omega
   subst hie
   simp[IF] at hmt
   apply au
   simp[hC]
   apply T.seq
   refine T.cond (b:=false) rfl (T.exit ?_)
   simp
   apply au
   simp[hC]
   apply T.ret
   apply aa.here
   simp[Tryz.results80,hmt]
theorem wa (th:Nat):∀ (W:List Ho) (i:Nat) (h:Ho),W[i]? = some h→oM th (W.take (i+1))=oM th (W.take i)+(if h.o=th+1 then h.d else 0)
 | [],i,h,e=>by simp at e
 | x::W,0,h,e=>by
  simp at e
  subst e
  simp[oM]
 | x::W,i+1,h,e=>by
  simp only[List.getElem?_cons_succ] at e
  rw[List.take_succ_cons,oM,wa th W i h e,List.take_succ_cons,oM]
  omega
def J46 (W:List Ho)(th n:Nat)(s:St):Prop:=∃ i:Nat,n=W.length-i∧i≤W.length∧
 s=⟨[(41,I i),(40,I W.length),(39,.av (W.flatMap cW) W.length),(10,I (oM th (W.take i))),(3,I th)],[],0⟩
theorem wV (ms:List Mx)(hm:xN ms)(tb:List Ho)(m th:Nat)(x:Mx)(hx:ms[m]? = some x)(hl:tb.length=(aK ms).length)(_ht:th≤1000000)(hd:∀ h∈tb,h.d≤1000000∧h.o≤1000000) :
  ae Tryz.prog 46 [.av (ms.flatMap cq) ms.length,.av (tb.flatMap cW) tb.length,I m,I th] (I (dL ms tb m th)):=by
 have hlt:=(List.getElem?_eq_some_iff.1 hx).1
 have hba:=FZ ms hm m x hx
 have hsz:=x9 x
 have targ:trees [.av (ms.flatMap cq) ms.length,I m]=true:=by simp only[trees,tree,Bool.and_self]
 have targ2:trees [.agg (cq x)]=true:=rfl
 have hw:=vh m th ms 0 tb x hl yA yBo
 rw[Nat.sub_zero] at hw
 have hdx:=aE (f:=cq) (n:=3) fD hx
 have hel:ec (ms.take m)+max x.size 1≤tb.length:=by
  have h1:ms.take (m+1)=ms.take m++[x]:=by rw[List.take_add_one,hx];rfl
  have h2:=oD (ms.take (m+1)) (ms.drop (m+1))
  rw[List.take_append_drop,h1,oD] at h2
  simp only[ec] at h2
  rw[hl,aK,xw]
  omega
 have hol:=fB ms 0 hm.2
 have hml:=hm.1
 have htl:tb.length≤1000000:=by rw[hl,aK];omega
 have hdl:dL ms tb m th=oM th ((tb.drop (ec (ms.take m))).take (max x.size 1)):=hw
 rw[hdl]
 have hfl:List.take (max x.size 1*2) (List.drop (ec (ms.take m)*2) (tb.flatMap cW))=((tb.drop (ec (ms.take m))).take (max x.size 1)).flatMap cW:=by
  rw[rC eJ,rB eJ]
 have hWl:((tb.drop (ec (ms.take m))).take (max x.size 1)).length=max x.size 1:=by simp;omega
 have hWd:∀ h∈(tb.drop (ec (ms.take m))).take (max x.size 1),h.d≤1000000∧h.o≤1000000:=fun h hh=>hd h (List.mem_of_mem_drop (List.mem_of_mem_take hh))
 generalize (tb.drop (ec (ms.take m))).take (max x.size 1)=W at hfl hWl hWd ⊢
 generalize ec (ms.take m)=b at hba hel hfl
 have wb:=ct ((b:Int)+((max x.size 1:Nat):Int)) yA yA
 refine ae.aB ag Tryz.func46 rfl yAb (by simp[Tryz.ntmps46]) rfl fun C hC hC0=>?_
 rw[Tryz.ntmps46] at hC
 apply au
 simp[hC]
 apply au
 simp[hC]
 refine cH targ hba ?_
 simp[hC]
 apply aJ
 simp[hC]
 refine T.cond (b:=false) yAf (T.skip ?_)
 simp
 apply au
 simp[hC]
 apply au
 simp[hC,hlt,hdx,cq]
 refine cH targ2 hsz ?_
 generalize hM:max x.size 1=M at hsz hel hfl hWl wb
 have hsum:(b:Int)+(M:Int)=((b+M:Nat):Int):=by omega
 have hmn:¬ (tb.length:Int)<((b+M:Nat):Int):=by omega
 have hmm:¬ ((b+M:Nat):Int)<(b:Int):=by omega
 rw[hsum] at wb
 simp only[hC]
 simp[-Int.natCast_add,hsum,wb,hmn]
 refine T.seq (T.seq (T.region (TL.some ag 6 ?_)))
 simp[-Int.natCast_add,hC,hmm]
 refine lU rfl (wF ag (e:=156) (cs:=tb.flatMap cW) (len:=tb.length) (l:=b) (n:=b+M) (m:=b+M) yAc rfl yAa yAa rfl (by simp[du,ev,assoc]) (by simp[-Int.natCast_add,du,ev,assoc]) (by simp[-Int.natCast_add,du,ev,assoc]) ⟨by omega,by omega,by omega⟩) (TL.go' ag ?_)
 rw[show b+M-b=M by omega]
 simp[-Int.natCast_add,hC,hfl]
 apply T.block
 rw[← hWl]
 have tW:trees (W.flatMap cW)=true:=ai bV _
 refine T.aL (J46 W th) (n:=W.length) ?_ ?_
 ·refine aa.trim [41,40,39,10,3] [] 0 yAa yA ⟨0,by omega,by omega,?_⟩
  simp[oM]
 ·rintro n s ⟨i,rfl,hi,rfl⟩
  by_cases hil:i<W.length
  ·obtain⟨h,hh⟩:∃ h,W[i]? = some h:=⟨_,List.getElem?_eq_getElem hil⟩
   have hst:=wa th W i h hh
   have hsl:=Ct th (W.take (i+1)) fun y hy=>(hWd y (List.mem_of_mem_take hy)).1
   have hWt:(W.take (i+1)).length≤1000000:=by simp;omega
   generalize oM th (W.take i)=D at hst
   have hdh:=aE (f:=cW) (n:=2) eJ hh
   have wi:=ct ((i:Int)+1) yA yA
   have hho:=(hWd h (List.mem_of_getElem? hh)).2
   have wo:=ct ((h.o:Int)-1) yA yA
   apply au
   simp[hC,hil]
   refine T.seq (T.cond (b:=true) rfl (T.skip ?_))
   simp
   apply fq
   apply au
   simp[hC,hil,hdh,cW]
   by_cases hth:h.o=th+1
   ·rw[if_pos hth] at hst
    have hth2:((h.o:Int)-1 == (th:Int))=true:=by rw[beq_iff_eq];omega
    have wd:=ct ((D:Int)+h.d) yA yA
    apply au
    simp[hC,wo,hth2]
    refine dN ?_
    simp
    apply aO
    simp[hC,wd]
    apply aO
    simp[hC,wi]
    refine⟨W.length-(i+1),by omega,aa.trim [41,40,39,10,3] [] 0 yAa yA ⟨i+1,rfl,by omega,?_⟩⟩
    simp[hst]
   ·rw[if_neg hth] at hst
    have hth2:((h.o:Int)-1 == (th:Int))=false:=by rw[beq_eq_false_iff_ne];omega
    apply au
    simp[hC,wo,hth2]
    refine e9 ?_
    simp
    apply aO
    simp[hC,wi]
    refine⟨W.length-(i+1),by omega,aa.trim [41,40,39,10,3] [] 0 yAa yA ⟨i+1,rfl,by omega,?_⟩⟩
    simp[hst]
  ·have hie:i=W.length:=by omega
   subst hie
   apply au
   simp[hC]
   apply T.seq
   refine T.cond (b:=false) yAf ?_
   simp
   apply T.exit
   simp
   apply au
   simp[hC]
   apply T.ret
   apply aa.here
   simp[Tryz.results46]
end Go.Proofs.YtmnglemlimfpbaaGreat
namespace Go.aX
open Go.Can
def yD (p:Int)(ls:List Int):List Int:=[p,ls.length]++ls++List.replicate (6-ls.length) 0
theorem yE (p:Int)(ls:List Int)(h:ls.length≤6):jh p ls=(yD p ls).map fun n:Int=>I n:=by
 match ls,h with
 | [],_=>rfl
 | [_],_=>rfl
 | [_,_],_=>rfl
 | [_,_,_],_=>rfl
 | [_,_,_,_],_=>rfl
 | [_,_,_,_,_],_=>rfl
 | [_,_,_,_,_,_],_=>rfl
 | _::_::_::_::_::_::_::_,h=>simp at h
theorem Ae {p p':Int}{ls ls':List Int}:yD p ls=yD p' ls'↔p=p'∧ls=ls':=by
 refine⟨fun h=>?_,fun⟨h1,h2⟩=>by rw[h1,h2]⟩
 simp only[yD,List.cons_append,List.nil_append,List.cons.injEq] at h
 obtain⟨h1,h2,h3⟩:=h
 refine⟨h1,?_⟩
 have hl:ls.length=ls'.length:=by omega
 have:=congrArg (List.take ls.length) h3
 rwa [List.take_left,hl,List.take_left] at this
def BZ (p:Int)(ls:List Int):Value:=.agg ((yD p ls).map fun n:Int=>Value.int .i64 n).toArray
theorem G8 (l:List Int):Lb (l.map fun n:Int=>I n)=some (l.map fun n:Int=>Value.int .i64 n):=by
 induction l with
 | nil=>rfl
 | cons a r ih=>simp only[List.map_cons,Lb,cv1,ih]
theorem xB (p:Int)(ls:List Int)(h:ls.length≤6):kg (.agg (jh p ls))=some (BZ p ls):=by
 rw[yE p ls h]
 simp only[kg,G8,BZ]
theorem wv:∀ (a b:List Int),tv (a.map fun n:Int=>Value.int .i64 n) (b.map fun n:Int=>Value.int .i64 n)=decide (a=b)
 | [],[]=>rfl
 | [],_::_=>rfl
 | _::_,[]=>rfl
 | x::a,y::b=>by
  simp only[List.map_cons,tv,wv a b,zh]
  by_cases h:x=y<;>simp[h]
theorem HU (p p':Int)(ls ls':List Int):y6 (BZ p ls) (BZ p' ls')=(decide (p=p') && decide (ls=ls')):=by
 simp only[BZ,y6,wv]
 by_cases h:yD p ls=yD p' ls'
 ·have:=Ae.1 h
  simp[this.1,this.2]
 ·have h2:¬ (p=p'∧ls=ls'):=fun e=>h (Ae.2 e)
  rw[decide_eq_false h]
  by_cases e:p=p'<;>simp_all
theorem zI (p:Int)(ls:List Int)(h:ls.length≤6)(hp:Aj p=true)(hls:∀ n∈ls,Aj n=true):pz 8 (BZ p ls)=true:=by
 have h2:Aj (ls.length:Int)=true:=by simp only[Aj,Bool.and_eq_true,decide_eq_true_eq];omega
 simp only[pz,BZ,Bool.and_eq_true,decide_eq_true_eq]
 refine⟨by simp[yD];omega,List.all_eq_true.2 fun v hv=>?_⟩
 simp only[List.mem_map,yD,List.mem_append,List.mem_cons,List.not_mem_nil,or_false,List.mem_replicate] at hv
 obtain⟨n,hn,rfl⟩:=hv
 simp only[wI]
 rcases hn with ((rfl | rfl) | hn) | ⟨_,rfl⟩
 ·exact hp
 ·exact h2
 ·exact hls n hn
 ·rfl
theorem xq (p:Int)(ls:List Int)(hls:6<ls.length):∀ (l:List Is) (i:Int),(∀ x∈l,x.bf.length≤6)→ka l p ls i=-1
 | [],_,_=>rfl
 | y::r,i,h=>by
  have hy:=h y List.mem_cons_self
  rw[ka,if_neg,xq p ls hls r (i+1) fun x hx=>h x (List.mem_cons_of_mem _ hx)]
  simp only[me,Bool.and_eq_true,decide_eq_true_eq]
  rintro⟨_,e⟩
  rw[← e] at hls
  simp at hls
  omega
end Go.aX
namespace Go.Proofs.YtmnglemlimfpbaaGreat
open Go.Can Go.aX
theorem IK:xA Tryz.prog 3 8 121=true:=by kernel_rfl
theorem keyEq:EqT Tryz.prog 121 (pz 8):=Az yA IK yAb
theorem keyEI:Jq Tryz.prog [⟨121,pz 8⟩]:=fun x hx=>by
 simp only[List.mem_cons,List.not_mem_nil,or_false] at hx
 subst hx
 exact keyEq
theorem G0 {C:Cx}{s:St}{o:Oper}{x y:Operand}{q:TypeId}{cx cy:CV}{vx vy:Value}(hd:aU C.nt o.dst=true)(ho:o.op=.binOp .eql 121 x y q)(hx:ev s x=some cx)(hy:ev s y=some cy)(h1:kg cx=some vx)(h2:kg cy=some vy)(k1:pz 8 vx=true)(k2:pz 8 vy=true):pQ Tryz.prog C o s (s.put o.dst (.bool (y6 vx vy))):=
 vf keyEI hd (by simp only[Ay,ho,hx,hy,h1,h2,K4,if_true,k1,k2,and_self])
theorem Af (p:Int)(ls:List Int)(h:ls.length≤6):(jh p ls).length=8:=by simp[jh,eO];omega
theorem xi (p:Int)(ls:List Int)(h:ls.length≤6):(jh p ls).all one=true:=by
 rw[yE p ls h]
 exact List.all_eq_true.2 fun x hx=>by
  obtain⟨n,_,rfl⟩:=List.mem_map.1 hx
  rfl
theorem uT (p:Int)(ls:List Int)(h:ls.length≤6):trees (jh p ls)=true:=by
 rw[yE p ls h]
 exact aM _
def J31 (l:List Is)(p:Int)(ls:List Int)(n:Nat)(s:St):Prop:=∃ i:Nat,n=l.length-i∧i≤l.length∧ka l p ls 0=ka (l.drop i) p ls i∧
 s=⟨[(21,I i),(20,I l.length),(19,.av (l.flatMap fV) l.length),(5,.aw 2 0)],[(2,⟨121,0,jh p ls⟩)],3⟩
set_option maxHeartbeats 4000000 in
theorem GF (l:List Is)(hl:l.length≤100000)(hll:∀ x∈l,x.bf.length≤6∧Aj x.proc=true∧∀ n∈x.bf,Aj (n:Int)=true)(X Y:CV)(_hX:tree X=true)(_hY:tree Y=true)(p:Int)(ls:List Int)(hp:Aj p=true)(hls:∀ n∈ls,Aj n=true) :
  ae Tryz.prog 31 [.agg [.av (l.flatMap fV) l.length,X,Y],.agg [I p,ints ls]] (I (ka l p ls 0)):=by
 have tls:tree (ints ls)=true:=by simp[ints,tree]
 have targ:trees [.agg [I p,ints ls]]=true:=by simp only[trees,tree,tls,Bool.and_self]
 refine ae.aB ag Tryz.func31 rfl yAb (by simp[Tryz.ntmps31]) rfl fun C hC hC0=>?_
 rw[Tryz.ntmps31] at hC
 apply au
 simp[hC]
 by_cases h6:ls.length≤6
 ·have hkl:=Af p ls h6
  have hko:=xi p ls h6
  have htk8:(jh p ls).take 8=jh p ls:=List.take_of_length_le yA
  have tkc:=uT p ls h6
  apply au
  simp[hC]
  refine cH targ (Ad p ls h6) ?_
  simp[hC,hkl]
  apply aJ
  simp[hC]
  refine e9 ?_
  simp
  apply aJ
  simp[hC]
  apply T.block
  refine T.aL (J31 l p ls) (n:=l.length) ?_ ?_
  ·refine aa.trim [21,20,19,5] [2] 3 (by simp[-List.all_eq_true,-List.all_flatMap,aj tkc]) yA ⟨0,by omega,by omega,rfl,?_⟩
   simp
  ·rintro n s ⟨i,rfl,hi,hf,rfl⟩
   by_cases hil:i<l.length
   ·obtain⟨y,hy⟩:∃ y,l[i]? = some y:=⟨l[i],List.getElem?_eq_getElem hil⟩
    have hd:l.drop i=y::l.drop (i+1):=by
     rw[List.drop_eq_getElem_cons hil,(List.getElem?_eq_some_iff.1 hy).2]
    rw[hd,ka] at hf
    have hdr:=aE (f:=fV) (n:=2) iY hy
    have wi:=ct ((i:Int)+1) yA yA
    obtain⟨hy6,hyp,hyl⟩:=hll y (List.mem_of_getElem? hy)
    have hy6':(y.bf.map fun n:Nat=>(n:Int)).length≤6:=by simpa using hy6
    have hyls:∀ n∈(y.bf.map fun n:Nat=>(n:Int)),Aj n=true:=fun n hn=>by
     obtain⟨m,hm,rfl⟩:=List.mem_map.1 hn
     exact hyl m hm
    have targ2:trees [.agg [I y.proc,aW y.bf]]=true:=by simp only[trees,tree,bW,Bool.and_self]
    have hkey:=Ad y.proc _ hy6'
    rw[← jV] at hkey
    have hkl2:=Af y.proc _ hy6'
    have htk82:(jh y.proc (y.bf.map fun n:Nat=>(n:Int))).take 8=jh y.proc (y.bf.map fun n:Nat=>(n:Int)):=List.take_of_length_le yA
    have tkc2:=uT y.proc _ hy6'
    have hko2:=xi y.proc _ hy6'
    have hcv:=xB p ls h6
    have hcv2:=xB y.proc _ hy6'
    have hre:=zI p ls h6 hp hls
    have hre2:=zI y.proc _ hy6' hyp hyls
    have hveq:=HU y.proc p (y.bf.map fun n:Nat=>(n:Int)) ls
    have hraw:me y p ls=(decide ((y.proc:Int)=p) && decide ((y.bf.map fun n:Nat=>(n:Int))=ls)):=rfl
    generalize (y.bf.map fun n:Nat=>(n:Int))=yl at hraw hkey hkl2 htk82 tkc2 hko2 hcv2 hre2 hveq
    apply au
    simp[hC,hil]
    refine T.seq (T.cond (b:=true) rfl (T.skip ?_))
    simp
    apply fq
    apply au
    simp[hC,hil,hdr,fV]
    apply au
    simp[hC]
    refine cH targ2 hkey ?_
    simp[hC,hkl2]
    refine T.seq (T.region (TL.some ag 2 ?_))
    simp[hC,hkl,htk8,hkl2,htk82]
    refine lU rfl (G0 (x:=.tmp 31) (y:=.tmp 32) (cx:=.agg (jh y.proc yl)) (cy:=.agg (jh p ls)) yAc rfl yAa yAa hcv2 hcv hre2 hre) ?_
    rw[hveq,← hraw]
    refine TL.go' ag ?_
    simp
    cases hr:me y p ls with
    | true=>
     rw[if_pos hr] at hf
     refine dN ?_
     simp
     apply au
     simp[hC]
     apply T.ret
     apply aa.here
     simp[Tryz.results31,hf]
    | false=>
     rw[if_neg (by simp[hr])] at hf
     refine e9 ?_
     simp
     apply aO
     simp[hC,wi]
     refine⟨l.length-(i+1),by omega,aa.trim [21,20,19,5] [2] 3 (by simp[-List.all_eq_true,-List.all_flatMap,aj tkc]) yA ⟨i+1,rfl,by omega,hf,?_⟩⟩
     simp
   ·have hie:i=l.length:=by omega
    rw[hie,List.drop_length,ka] at hf
    have hres:=hf
    apply au
    simp[hC,hil]
    refine T.seq (T.cond (b:=false) rfl ?_)
    simp
    apply T.exit
    simp
    apply au
    simp[hC]
    apply T.ret
    apply aa.here
    simp[Tryz.results31,hres]
 ·have h6':6<ls.length:=by omega
  have hres:=xq p ls h6' l 0 fun x hx=>(hll x hx).1
  apply au
  simp[hC]
  refine cH targ (Eg p ls h6') ?_
  simp[hC]
  apply aJ
  simp[hC]
  refine dN ?_
  simp
  apply au
  simp[hC]
  apply T.ret
  apply aa.here
  simp[Tryz.results31,hres]
theorem rZ {u:Un}{e:Nat}(h:e<(aK u.ms).length):fE u.ms e=(hU u.ms e:Int):=by
 rw[fE,if_neg yA,Int.toNat_natCast,List.getElem?_eq_getElem h,hU,List.getD_eq_getElem?_getD,List.getElem?_eq_getElem h]
 rfl
def J45 (u:Un)(f:Fr)(n:Nat)(s:St):Prop:=∃ i:Nat,n=f.ck.length-i∧i≤f.ck.length∧
 s=⟨[(14,I i),(13,I f.ck.length),(12,.av (f.ck.map fun n:Nat=>I n) f.ck.length),(5,.aw 3 0),(4,.aw 2 0),(2,.aw 0 0)],[(4,fC ((f.ck.take i).map (hU u.ms))),(3,⟨74,0,[I f.proc,.bx 4 0 i]⟩),(2,⟨74,0,[I 0,.ah]⟩),(0,⟨30,0,fy u⟩)],5⟩
set_option maxHeartbeats 2000000 in
theorem xn {u:Un}(hu:l9 u)(f:Fr)(hl:f.ck.length≤1000)(he:∀ e∈f.ck,e<(aK u.ms).length):ae Tryz.prog 45 [cS u,.agg (e8 f)] (.agg (fV (jt u.ms f))):=by
 have hmb:=kE hu
 have hol:=xS hu
 have tE:=aP f.ck
 have tV:=aM f.az
 have tug:trees (u.gs.map bM)=true:=aM u.gs
 have tum:=dp u.ms
 have cr:trees (u.ps.flatMap oR)=true:=ai gN u.ps
 have htr:tree (.agg (fV (jt u.ms f)))=true:=by simp only[tree,bP]
 refine ae.aB ag Tryz.func45 rfl yAb (by simp[Tryz.ntmps45]) htr fun C hC hC0=>?_
 rw[Tryz.ntmps45] at hC
 simp only[cS,fy,e8,ints,aW]
 apply au
 simp[hC]
 apply au
 simp[hC]
 apply aJ
 simp[hC]
 apply T.block
 refine T.aL (J45 u f) (n:=f.ck.length) ?_ ?_
 ·refine aa.le (Le.kz 3 1 3 1 rfl rfl) ?_
  simp
  refine aa.trim [14,13,12,5,4,2] [4,3,2,0] 5 yAt yA ⟨0,by omega,by omega,?_⟩
  simp[fC,fy,ints]
 ·rintro n s ⟨i,rfl,hi,rfl⟩
  simp only[fC,fy,ints]
  by_cases hil:i<f.ck.length
  ·obtain⟨a,hai⟩:∃ a,f.ck[i]? = some a:=⟨_,List.getElem?_eq_getElem hil⟩
   have hea:=he a (List.mem_of_getElem? hai)
   have hda:=j7 hai
   have hmu:=zR u.ms hmb a yA
   rw[rZ hea] at hmu
   have targ:trees [.av (u.ms.flatMap cq) u.ms.length,I a]=true:=by simp only[trees,tree,Bool.and_self]
   have wi:=ct ((i:Int)+1) yA yA
   have htk:(f.ck.take (i+1)).map (hU u.ms)=(f.ck.take i).map (hU u.ms)++[hU u.ms a]:=by
    rw[List.take_add_one,hai]
    simp
   have hl1:((f.ck.take i).map (hU u.ms)).length=i:=by simp;omega
   generalize (f.ck.take i).map (hU u.ms)=B at hl1 htk
   have bd:(i+1)*8≤140737488355328:=by omega
   apply au
   simp[hC,hil]
   refine T.seq (T.cond (b:=true) rfl (T.skip ?_))
   simp
   apply fq
   apply au
   simp[hC,hil,hda]
   refine T.rx ag follows [0,1,2,3,4,5,6,7,8,9] [(1,5),(1,6)] yAb ?_
   simp[hC]
   refine RX.call rfl rfl rfl rfl rfl targ hmu ?_
   simp[hl1,bd,aI]
   apply aO
   simp[hC,wi]
   refine⟨f.ck.length-(i+1),by omega,?_⟩
   have tBa:trees (B.map (fun n:Nat=>I n)++[I (hU u.ms a)])=true:=by rw[aC,aP];rfl
   have rBa:=fun ρ=>af ρ _ tBa
   have r1:=fun ρ=>af ρ _ tE
   have r2:=fun ρ=>af ρ _ tug
   have r3:=fun ρ=>af ρ _ tum
   have r4:=fun ρ=>af ρ _ cr
   refine aa.le (Le.norm [14,13,12,5,4,2] [(15,4),(3,3),(2,2),(0,0)] 0 5 yAl yAm yBq yA) ?_
   simp[dF,ca,bu,dU,gg,assoc,rBa]
   refine aa.here ⟨i+1,rfl,by omega,?_⟩
   rw[htk]
   simp[fC,fy,ints]
  ·have hie:i=f.ck.length:=by omega
   subst hie
   rw[List.take_length]
   have tO:=aP (f.ck.map (hU u.ms))
   have tkO:List.take f.ck.length ((f.ck.map (hU u.ms)).map fun n:Nat=>I n)=(f.ck.map (hU u.ms)).map fun n:Nat=>I n:=List.take_of_length_le yAa
   generalize hW:f.ck.map (hU u.ms)=W at tO tkO ⊢
   have hWl:W.length=f.ck.length:=by rw[← hW];simp
   apply au
   simp[hC]
   apply T.seq
   refine T.cond (b:=false) yAf ?_
   simp
   apply T.exit
   simp
   apply au
   simp[hC]
   apply T.ret
   refine aa.le (Le.trim [4] [2,4] 5 (by simp[-List.all_eq_true,-List.all_flatMap,-List.all_map,aj tO]) yA) ?_
   simp
   refine aa.le (Le.cG (o:=4) rfl tO) ?_
   simp[tkO]
   apply aa.here
   simp[fV,jt,aW,hW,hWl]
set_option maxHeartbeats 4000000 in
set_option maxRecDepth 100000 in
theorem Fp (u:Un)(s:Sy)(t:Nat)(l0:List Fr)(f:Fr)(q:Pr)(k:Nat)(gl:Bool)(e:Ex)(hk:if gl=true then k<s.gs.length else k<f.az.length)(he:vH s.gs.length f.az.length e)(hl:s.ts[t]? = some (l0++[f]))(hf0:s.fault=0)(hq:u.ps[f.proc]? = some q)(hc:q.code[f.pc]? = some (.set k gl e))(hfr:sO u s)
  (h1:s.gs.length≤1000000) (h2:s.tb.length≤1000000) (h3:s.ts.length≤1000000) (h4:∀ l∈s.ts,l.length≤1000000) (h5:f.az.length≤1000000) (h6:f.pc≤1000000) :
  ae Tryz.prog 63 [cS u,cf s,I t] (.cr [cf (seS s t l0 f k gl e),.bool true]):=by
 have hin:=cQ u s t ⟨h3,h4⟩ hfr
 have hll:=h4 _ (List.mem_of_getElem? hl)
 have hll2:l0.length≤1000000:=by simp at hll;omega
 have htop:cT s t=some f:=by simp[cT,hl,hf0]
 have hins:dX u s t=some (.set k gl e):=by simp[dX,htop,hq,hc]
 rw[hins] at hin
 have hco:=gV s t l0 f hl h1 h2 h3 hll2 h5
 have targ:trees [cS u,cf s,I t]=true:=by
  have:=bR u
  simp only[trees,tree,cf,ed,cS,this,ints,Bool.and_self]
 have htr:tree (.cr [cf (seS s t l0 f k gl e),.bool true])=true:=by
  simp only[cf,ed,tree,trees,bQ,Bool.and_self]
 refine ae.aB ag Tryz.func63 rfl yAb yBi htr fun C hC hC0=>?_
 rw[Tryz.ntmps63] at hC
 have hev:=mw s.gs f.az e he
 have hfa:=gU s (bI s.gs f.az e).2
 have tfa:trees [cf s,I (bI s.gs f.az e).2]=true:=by simp only[trees,tree,cf,ed,ints,Bool.and_self]
 have hse:seS s t l0 f k gl e=if (bI s.gs f.az e).2=0 then
  (if gl=true then { s with gs:=s.gs.set k (bI s.gs f.az e).1,ts:=s.ts.set t (l0++[{ f with pc:=f.pc+1 }]) }
   else { s with ts:=s.ts.set t (l0++[{ f with pc:=f.pc+1,az:=f.az.set k (bI s.gs f.az e).1 }]) })
  else { s with fault:=(bI s.gs f.az e).2 }:=rfl
 rw[hse]
 generalize bI s.gs f.az e=va at hev hfa tfa ⊢
 obtain⟨v,fa⟩:=va
 have tev:trees [.agg (aZ e),ints s.gs,ints f.az]=true:=by simp only[trees,tree,aN,bQ,Bool.and_self]
 obtain⟨e1,e2,e3,e4,e5,hec,tec⟩:=gE e
 simp only[jw,dv,hec,oz,List.cons_append,List.nil_append] at hin
 rw[hec] at hev tev
 simp only[cf,ed,cS,fy,ints] at hin hco targ hev hfa tfa tev ⊢
 apply au
 simp[hC]
 apply au
 simp[hC]
 refine cH targ hin ?_
 simp[hC]
 apply aJ
 simp[hC]
 refine e9 ?_
 simp
 apply au
 simp[hC]
 have tG:trees (s.gs.map bM)=true:=aM s.gs
 have tT:trees (s.tb.flatMap cW)=true:=ai bV _
 have tL:trees (l0.flatMap e8)=true:=ai dr _
 have tV:trees (f.az.map bM)=true:=aM f.az
 have tE:=aP f.ck
 have tA1:trees ((s.ts.take t).flatMap dt)=true:=ai a9 _
 have tA2:trees ((s.ts.drop (t+1)).flatMap dt)=true:=ai a9 _
 have rG:=fun ρ=>af ρ _ tG
 have rT:=fun ρ=>af ρ _ tT
 have rL:=fun ρ=>af ρ _ tL
 have rV:=fun ρ=>af ρ _ tV
 have r1:=fun ρ=>af ρ _ tA1
 have r2:=fun ρ=>af ρ _ tA2
 have rE:=fun ρ=>af ρ _ tE
 have ra:∀ ρ (a b:List CV),bu ρ (a++b)=bu ρ a++bu ρ b:=fun ρ a b=>by rw[b9,b9,b9,List.map_append]
 have tco:aQ 0 [.agg [.av (s.gs.map bM) s.gs.length,.av (s.tb.flatMap cW) s.tb.length,.av (s.ts.flatMap dt) s.ts.length,I s.fault],I t]=true:=by
  have tS:trees (s.ts.flatMap dt)=true:=ai a9 _
  simp only[a7,List.all_cons,List.all_nil,Bool.and_true]
  rw[a6 0 _ yBm]
  rfl
 refine TL.n8 ag [] [] 0 6 (hco) rfl (by rfl) yAc rfl rfl yAk yAk yBk yAk yAk (TL.go' ag ?_)
 simp[hC,bT,ca,bu,dU,cI,rG,rT,rL,rV,r1,r2,ra,aW]
 generalize hA:(s.ts.take t).flatMap dt=A at tA1 r1 ⊢
 generalize hB:(s.ts.drop (t+1)).flatMap dt=B at tA2 r2 ⊢
 generalize hD:l0.flatMap e8=D at tL rL ⊢
 have htl:=(List.getElem?_eq_some_iff.1 hl).1
 have lA:A.length=t:=by rw[← hA,dn,List.length_map,List.length_take];omega
 have lD:D.length=l0.length*4:=by rw[← hD];exact aD eK l0
 have dA:∀ r:List CV,(A++r).drop t=r:=fun r=>by rw[← lA];simp
 have dD:∀ r:List CV,(D++r).drop (l0.length*4)=r:=fun r=>by rw[← lD];simp
 have dD1:∀ (r:List CV) (k:Nat),(D++r).drop (l0.length*4+k)=r.drop k:=fun r k=>by rw[← lD,List.drop_append];simp
 have tD1:∀ (r:List CV) (k:Nat),(D++r).take (l0.length*4+k)=D++r.take k:=fun r k=>by rw[← lD,List.take_append,List.take_of_length_le yA];simp
 have dD2:∀ (r:List CV),(D++r).drop (l0.length*4+1+1)=r.drop 2:=fun r=>dD1 r 2
 have w1:=ct (l0.length:Int) yA yA
 have w2:(l0.length:Int)<(l0.length:Int)+1:=by omega
 have w3:=ct ((f.pc:Int)+1) yA yA
 refine T.le (Le.trim [10,8,7,6,4,3,2] [10,4,5,6,7,8,3,2,1,0] 11 yBf yA) ?_
 simp
 apply au
 simp[hC,htl,dA]
 apply au
 simp[hC,w1,w2]
 apply au
 simp[hC,w3,lD,dD1,tD1,dD2]
 repeat first
  | apply T.seq
  | (apply aO;simp[hC])
  | (refine T.cond (b:=false) ?_ ?_;(first | rfl | (simp[ev,assoc];done));simp)
  | (refine T.cond (b:=true) ?_ ?_;(first | rfl | (simp[ev,assoc,lD];done));simp)
  | (apply T.skip;simp)
  | apply T.block
 refine T.G3 ag follows [] [0,1,2,3,4,5,6,7,8,9,10,11,12,13] [] yAb ?_
 have kV0:List.take f.az.length (f.az.map bM)=f.az.map bM:=List.take_of_length_le yAa
 simp[hC,dD1]
 refine TH.call rfl rfl rfl rfl (bF.lent rfl (by simp[mS,yz,assoc,kV0]) hev rfl) (TH.go' ?_)
 simp[hC]
 by_cases hf:fa=0
 ·subst hf
  cases gl with
  | true=>
   have hkg:k<s.gs.length:=hk
   have hkg2:k+1≤s.gs.length:=hkg
   have eG:List.take k (s.gs.map bM)++I v::List.drop (k+1) (s.gs.map bM)=(s.gs.set k v).map bM:=by
    rw[List.map_set,List.set_eq_take_append_cons_drop,if_pos (by simpa using hkg)]
   have hWl:(s.gs.set k v).length=s.gs.length:=by simp
   generalize s.gs.set k v=W at eG hWl ⊢
   repeat first
    | apply T.seq
    | (apply aO;simp[hC,hkg,hkg2,eG])
    | (refine T.cond (b:=false) ?_ ?_;(first | rfl | (simp[ev,assoc];done));simp)
    | (refine T.cond (b:=true) ?_ ?_;(first | rfl | (simp[ev,assoc,lD,hkg,hkg2,dD,dD1,tD1,dD2,eG];done));simp)
    | (apply T.skip;simp)
    | apply T.block
   have tG2:trees ((W).map bM)=true:=aM _
   apply T.ret
   refine aa.le (Le.trim [7,6] [2,4,5,6,7,8] 11 (by simp[-List.all_eq_true,-List.all_flatMap,-List.all_map,aj tG2,aj tT,aj tL,aj tV,aj tA1,aj tA2]) yA) ?_
   simp
   have kG:List.take s.gs.length ((W).map bM)=(W).map bM:=List.take_of_length_le (by simp[hWl])
   have kT:List.take (s.tb.length*2) (s.tb.flatMap cW)=s.tb.flatMap cW:=List.take_of_length_le yBn
   have kV:List.take f.az.length ((f.az).map bM)=(f.az).map bM:=List.take_of_length_le yAa
   refine aa.le (Le.cG (o:=8) rfl tV) ?_
   simp[kV,ak tG2,ak tT,ak tL,ak tA1,ak tA2]
   refine aa.le (Le.cG (o:=4) rfl tG2) ?_
   simp[kG,ak tT,ak tL,ak tA1,ak tA2]
   refine aa.le (Le.cG (o:=5) rfl tT) ?_
   simp[kT,ak tL,ak tA1,ak tA2]
   have tF:trees (D++[I f.proc,I ((f.pc:Int)+1),.av ((f.az).map bM) f.az.length,.av (f.ck.map fun n:Nat=>I n) f.ck.length])=true:=by
    rw[aC,tL]
    simp only[trees,tree,Bool.and_self]
   have kF:∀ a b c d:CV,List.take ((l0.length+1)*4) (D++[a,b,c,d])=D++[a,b,c,d]:=fun a b c d=>List.take_of_length_le yAg
   refine aa.le (Le.cG (o:=7) rfl tF) ?_
   simp[kF,ak tA1,ak tA2]
   have tH:trees (A++.av (D++[I f.proc,I ((f.pc:Int)+1),.av ((f.az).map bM) f.az.length,.av (f.ck.map fun n:Nat=>I n) f.ck.length]) (l0.length+1)::B)=true:=by
    simp only[aC,tA1,trees,tA2,tree,Bool.and_self]
   have lB:B.length=s.ts.length-(t+1):=by rw[← hB,dn,List.length_map,List.length_drop]
   have kH:∀ x:CV,List.take s.ts.length (A++x::B)=A++x::B:=fun x=>List.take_of_length_le yAg
   refine aa.le (Le.cG (o:=6) rfl tH) ?_
   simp[kH]
   apply aa.here
   have hset:(s.ts.set t (l0++[{ f with pc:=f.pc+1 }])).flatMap dt=A++.av (D++[I f.proc,I ((f.pc:Int)+1),.av ((f.az).map bM) f.az.length,.av (f.ck.map fun n:Nat=>I n) f.ck.length]) (l0.length+1)::B:=by
    rw[List.set_eq_take_append_cons_drop,if_pos htl,List.flatMap_append,List.flatMap_cons,hA,hB]
    simp[dt,e8,hD,ints,aW]
   simp[hset,hWl]
  | false=>
   have hkl:k<f.az.length:=hk
   have hkl2:k+1≤f.az.length:=hkl
   have eV:List.take k (f.az.map bM)++I v::List.drop (k+1) (f.az.map bM)=(f.az.set k v).map bM:=by
    rw[List.map_set,List.set_eq_take_append_cons_drop,if_pos (by simpa using hkl)]
   have hWl:(f.az.set k v).length=f.az.length:=by simp
   generalize f.az.set k v=W at eV hWl ⊢
   repeat first
    | apply T.seq
    | (apply aO;simp[hC])
    | (refine T.cond (b:=false) ?_ ?_;(first | rfl | (simp[ev,assoc];done));simp)
    | (refine T.cond (b:=true) ?_ ?_;(first | rfl | (simp[ev,assoc,lD,hkl,dD,dD1,tD1,dD2];done));simp)
    | (apply T.skip;simp)
    | apply T.block
   refine T.G3 ag follows [] [0,1,2,3,4,5,6,7] [8] yAb ?_
   simp[hC,hkl,hkl2,dD1,eV]
   repeat first
    | apply T.seq
    | (apply aO;simp[hC])
    | (refine T.cond (b:=false) ?_ ?_;(first | rfl | (simp[ev,assoc,lD];done));simp)
    | (refine T.cond (b:=true) ?_ ?_;(first | rfl | (simp[ev,assoc,lD];done));simp)
    | (apply T.skip;simp)
    | apply T.block
   have tV2:trees ((W).map bM)=true:=aM _
   apply T.ret
   refine aa.le (Le.trim [7,6] [2,4,5,6,7,8] 11 (by simp[-List.all_eq_true,-List.all_flatMap,-List.all_map,aj tG,aj tT,aj tL,aj tV2,aj tA1,aj tA2]) yA) ?_
   simp
   have kG:List.take s.gs.length ((s.gs).map bM)=(s.gs).map bM:=List.take_of_length_le yAa
   have kT:List.take (s.tb.length*2) (s.tb.flatMap cW)=s.tb.flatMap cW:=List.take_of_length_le yBn
   have kV:List.take f.az.length ((W).map bM)=(W).map bM:=List.take_of_length_le (by simp[hWl])
   refine aa.le (Le.cG (o:=8) rfl tV2) ?_
   simp[kV,ak tG,ak tT,ak tL,ak tA1,ak tA2]
   refine aa.le (Le.cG (o:=4) rfl tG) ?_
   simp[kG,ak tT,ak tL,ak tA1,ak tA2]
   refine aa.le (Le.cG (o:=5) rfl tT) ?_
   simp[kT,ak tL,ak tA1,ak tA2]
   have tF:trees (D++[I f.proc,I ((f.pc:Int)+1),.av ((W).map bM) f.az.length,.av (f.ck.map fun n:Nat=>I n) f.ck.length])=true:=by
    rw[aC,tL]
    simp only[trees,tree,Bool.and_self]
   have kF:∀ a b c d:CV,List.take ((l0.length+1)*4) (D++[a,b,c,d])=D++[a,b,c,d]:=fun a b c d=>List.take_of_length_le yAg
   refine aa.le (Le.cG (o:=7) rfl tF) ?_
   simp[kF,ak tA1,ak tA2]
   have tH:trees (A++.av (D++[I f.proc,I ((f.pc:Int)+1),.av ((W).map bM) f.az.length,.av (f.ck.map fun n:Nat=>I n) f.ck.length]) (l0.length+1)::B)=true:=by
    simp only[aC,tA1,trees,tA2,tree,Bool.and_self]
   have lB:B.length=s.ts.length-(t+1):=by rw[← hB,dn,List.length_map,List.length_drop]
   have kH:∀ x:CV,List.take s.ts.length (A++x::B)=A++x::B:=fun x=>List.take_of_length_le yAg
   refine aa.le (Le.cG (o:=6) rfl tH) ?_
   simp[kH]
   apply aa.here
   have hset:(s.ts.set t (l0++[{ f with pc:=f.pc+1,az:=W }])).flatMap dt=A++.av (D++[I f.proc,I ((f.pc:Int)+1),.av ((W).map bM) f.az.length,.av (f.ck.map fun n:Nat=>I n) f.ck.length]) (l0.length+1)::B:=by
    rw[List.set_eq_take_append_cons_drop,if_pos htl,List.flatMap_append,List.flatMap_cons,hA,hB]
    simp[dt,e8,hD,ints,aW,hWl]
   simp[hset]
 ·have hf2:((fa:Int) != 0)=true:=by rw[bne_iff_ne];omega
  repeat first
   | apply T.seq
   | (apply aO;simp[hC,hf2])
   | (refine T.cond (b:=false) ?_ ?_;(first | rfl | (simp[ev,assoc];done));simp)
   | (refine T.cond (b:=true) ?_ ?_;(first | rfl | (simp[ev,assoc,hf2];done));simp)
   | (apply T.skip;simp)
   | apply T.block
  refine cH tfa hfa ?_
  simp[hC]
  apply T.ret
  refine aa.le (Le.trim [7,6] [2] 11 yAt yA) ?_
  simp
  apply aa.here
  simp[hf]
end Go.Proofs.YtmnglemlimfpbaaGreat
