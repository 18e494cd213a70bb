/- The last frame, the instruction, a fault. -/
import Derived.Test.YtmnglemlimfpbaaGreatZ42
import Derived.Test.YtmnglemlimfpbaaGreatZ41
namespace Go.Proofs.YtmnglemlimfpbaaGreat
open Go.Can Go.aX
theorem DD {ts:List (List Fr)}{i:Nat}{l:List Fr}(h:ts[i]? = some l):(ts.flatMap dt).drop i=dt l++(ts.drop (i+1)).flatMap dt:=by
 have:=aE (f:=dt) (n:=1) xX h
 simpa using this
theorem Bx (s:Sy)(t:Int)(hb:s.ts.length≤1000000∧∀ l∈s.ts,l.length≤1000000):ae Tryz.prog 83 [cf s,I t] (sC (cT s t)):=by
 have htr:tree (sC (cT s t))=true:=by
  cases cT s t<;>rfl
 refine ae.aB ag Tryz.func83 rfl yAb (by simp[Tryz.ntmps83]) htr fun C hC hC0=>?_
 rw[Tryz.ntmps83] at hC
 simp only[cf,ed,ints]
 apply au
 simp[hC]
 by_cases h0:t<0
 ·have hn:cT s t=none:=by simp[cT,h0]
  rw[hn]
  apply aJ
  simp[hC,h0]
  refine T.cond (b:=true) yAf ?_
  simp
  apply au
  simp[hC]
  apply T.ret
  refine aa.le (Le.trim [4,5] [1] 2 yAa yA) ?_
  simp
  refine aa.le (Le.nz [] [1]) ?_
  apply aa.here
  simp[sC,K3]
 ·obtain⟨k,rfl⟩:∃ k:Nat,t=k:=⟨t.toNat,by omega⟩
  by_cases hk:k<s.ts.length
  ·obtain⟨l,hl⟩:∃ l,s.ts[k]? = some l:=⟨_,List.getElem?_eq_getElem hk⟩
   have hdl:=DD hl
   have hng:¬ (s.ts.length≤k):=by omega
   have hlb:=hb.2 l (List.mem_of_getElem? hl)
   by_cases hl0:l=[]
   ·have hn:cT s k=none:=by simp[cT,hl,hl0]
    rw[hn]
    subst hl0
    apply aJ
    simp[hC,h0,hng,hk,hdl,dt]
    refine T.cond (b:=true) yAf ?_
    simp
    apply au
    simp[hC]
    apply T.ret
    refine aa.le (Le.trim [4,5] [1] 2 yAa yA) ?_
    simp
    refine aa.le (Le.nz [] [1]) ?_
    apply aa.here
    simp[sC,K3]
   ·have hlp:0<l.length:=List.length_pos_iff.2 hl0
    have hlz:((l.length:Int) == 0)=false:=by rw[beq_eq_false_iff_ne];omega
    by_cases hf:s.fault=0
    ·obtain⟨f,hfl⟩:∃ f,l[l.length-1]? = some f:=⟨_,List.getElem?_eq_getElem yA⟩
     have hn:cT s k=some f:=by simp[cT,hl,hf,List.getLast?_eq_getElem?,hfl]
     rw[hn]
     have hdf:=aE (f:=e8) (n:=4) eK hfl
     have wl:=ct ((l.length-1:Nat):Int) yA yA
     have hc1:((l.length:Int)-1)=((l.length-1:Nat):Int):=by omega
     have hlt:l.length-1<l.length:=by omega
     apply aJ
     simp[hC,h0,hng,hk,hdl,dt,hlz,hf]
     refine e9 ?_
     simp
     apply au
     simp[hC,hk,hdl,dt]
     apply au
     simp[hC,hc1,wl,hlt,hdf,e8]
     apply T.ret
     refine aa.le (Le.trim [4,5] [1] 2 (by simp[a6 2 _ (bW f.ck)]) yA) ?_
     simp
     apply aa.here
     simp[sC,e8]
    ·have hn:cT s k=none:=by simp[cT,hf]
     rw[hn]
     have hf2:((s.fault:Int) != 0)=true:=by rw[bne_iff_ne];omega
     apply aJ
     simp[hC,h0,hng,hk,hdl,dt,hlz,hf2]
     refine T.cond (b:=true) yAf ?_
     simp
     apply au
     simp[hC]
     apply T.ret
     refine aa.le (Le.trim [4,5] [1] 2 yAa yA) ?_
     simp
     refine aa.le (Le.nz [] [1]) ?_
     apply aa.here
     simp[sC,K3]
  ·have hn:cT s k=none:=by simp[cT,List.getElem?_eq_none (Nat.le_of_not_lt hk)]
   have hng:s.ts.length≤k:=by omega
   rw[hn]
   apply aJ
   simp[hC,h0,hng]
   refine T.cond (b:=true) yAf ?_
   simp
   apply au
   simp[hC]
   apply T.ret
   refine aa.le (Le.trim [4,5] [1] 2 yAa yA) ?_
   simp
   refine aa.le (Le.nz [] [1]) ?_
   apply aa.here
   simp[sC,K3]
theorem gU (s:Sy)(n:Nat):ae Tryz.prog 97 [cf s,I n] (.cr [cf { s with fault:=n },.bool true]):=by
 refine ae.aB ag Tryz.func97 rfl yAb (by simp[Tryz.ntmps97]) rfl fun C hC hC0=>?_
 rw[Tryz.ntmps97] at hC
 simp only[cf,ed,ints]
 apply au
 simp[hC]
 apply au
 simp[hC]
 apply au
 simp[hC]
 apply T.ret
 apply aa.here
 simp[Tryz.results97]
def jw:Option In→CV
 | some i=>.cr [.agg (dv i),.bool true]
 | none=>.cr [.agg [I 0,I 0,.bool false,I 0,I 0,.str eS,.av [] 0,.bool false,I 0,.av [] 0,.av [] 0,.av [] 0],.bool false]
theorem xT (n:Nat){cs:List CV}(h:trees cs=true):∀ c∈cs,a8 n c=true:=fun c hc=>a6 n c (iB h c hc)
def sO (u:Un)(s:Sy):Prop:=∀ l∈s.ts,∀ f∈l,∃ q,u.ps[f.proc]? = some q∧f.pc<q.code.length
theorem zp {s:Sy}{t:Int}{f:Fr}(h:cT s t=some f):∃ l∈s.ts,f∈l:=by
 unfold cT at h
 split at h
 ·cases h
 ·split at h
  ·rename_i l hl
   exact⟨l,List.mem_of_getElem? hl,List.mem_of_getLast? h⟩
  ·cases h
theorem cQ (u:Un)(s:Sy)(t:Int)(hb:s.ts.length≤1000000∧∀ l∈s.ts,l.length≤1000000)(hf:sO u s):ae Tryz.prog 47 [cS u,cf s,I t] (jw (dX u s t)):=by
 have htp:=Bx s t hb
 have htr:tree (jw (dX u s t))=true:=by
  cases dX u s t with
  | none=>rfl
  | some i=>simp only[jw,tree,trees,iA,Bool.and_self]
 have tun:=bR u
 simp only[fy,ints] at tun
 have tsy:trees [cf s,I t]=true:=by simp only[trees,tree,cf,ed,ints,Bool.and_self]
 refine ae.aB ag Tryz.func47 rfl yAb (by simp[Tryz.ntmps47]) htr fun C hC hC0=>?_
 rw[Tryz.ntmps47] at hC
 simp only[cf,ed,cS,fy,ints] at htp tsy ⊢
 apply au
 simp[hC]
 apply au
 simp[hC]
 refine cH tsy htp ?_
 cases hto:cT s t with
 | none=>
  have hn:dX u s t=none:=by simp[dX,hto]
  rw[hn]
  simp[hC,sC,K3]
  apply aJ
  simp[hC]
  refine dN ?_
  simp
  apply au
  simp[hC]
  apply T.ret
  refine aa.le (Le.trim [6,7] [2] 3 yAa yA) ?_
  simp
  refine aa.le (Le.nz [] [2]) ?_
  apply aa.here
  simp[jw,eS]
 | some f=>
  obtain⟨l,hl1,hl2⟩:=zp hto
  obtain⟨q,hq,ln⟩:=hf l hl1 f hl2
  obtain⟨z,hz⟩:∃ z,q.code[f.pc]? = some z:=⟨_,List.getElem?_eq_getElem ln⟩
  have hn:dX u s t=some z:=by simp[dX,hto,hq,hz]
  rw[hn]
  have hpl:=(List.getElem?_eq_some_iff.1 hq).1
  have hdr:=cB (f:=oR) (n:=5) kJ hq 4 yA
  have hdc:=aE (f:=dv) (n:=12) jI hz
  have hon:=uW z
  have tin:=iA z
  obtain⟨zc,hzc,hzl⟩:=uX z
  obtain⟨c1,c2,c3,c4,c5,c6,c7,c8,c9,c10,c11,rfl⟩:=Gp hzl
  rw[hzc] at hdc hon tin
  simp only[List.all_cons,List.all_nil,Bool.and_true,Bool.and_eq_true] at hon
  obtain⟨_,o1,o2,o3,o4,o5,o6,o7,o8,o9,o10,o11⟩:=hon
  simp[hC,sC,e8]
  apply aJ
  simp[hC]
  refine e9 ?_
  simp
  refine T.seq (T.rx ag follows [0,1,2,3,4,5,6,7,8,9,10,11,12] [] yAb ?_)
  simp[hC,hpl,hdr,oR,ln,hdc]
  apply T.ret
  refine aa.le (Le.trim [6,7] [2] 17 (by simp[-List.all_eq_true,xT 17 tin]) yA) ?_
  simp
  apply aa.here
  simp[jw,hzc]
def bD (u:Un)(s:Sy)(t:Int)(p:Pl):Int×Nat:=match cT s t with
 | none=>(0,0)
 | some f=>if p.param=true then (((f.ck.getD p.index 0:Nat):Int),0) else
   if (gC u.ms s.gs f.az p).2=0 then (wr (xH u.ms p.index+(gC u.ms s.gs f.az p).1),0) else (0,(gC u.ms s.gs f.az p).2)
theorem GA (ms:List Mx)(gs ls:List Int)(L:Nat)(p:Pl)(hv:vF ms gs.length ls.length L p):ae Tryz.prog 137 [.agg (gz p),.av (ms.flatMap cq) ms.length,ints gs,ints ls] (.cr [I (gC ms gs ls p).1,I (gC ms gs ls p).2]):=by
 obtain⟨par,ix,at_⟩:=p
 match at_,hv with
 | none,_=>
  refine ae.aB ag Tryz.func137 rfl yAb (by simp[Tryz.ntmps137]) rfl fun C hC hC0=>?_
  rw[Tryz.ntmps137] at hC
  simp only[gz,mZ]
  apply au
  simp[hC]
  apply aJ
  simp[hC]
  refine dN ?_
  simp
  apply au
  simp[hC]
  apply T.ret
  apply aa.here
  simp[Tryz.results137,gC]
 | some e,hv=>
  have hx:∃ m,ms[ix]? = some m∧vH gs.length ls.length e:=by
   rcases hv with ⟨_,_,h⟩ | ⟨_,m,hm,h⟩
   ·cases h
   ·rcases h with ⟨h,_⟩ | ⟨e',he,h⟩
    ·cases h
    ·cases he
     exact⟨m,hm,h.2⟩
  obtain⟨m,hm,he⟩:=hx
  have hev:=mw gs ls e he
  have hdm:=aE (f:=cq) (n:=3) fD hm
  have hlt:ix<ms.length:=(List.getElem?_eq_some_iff.1 hm).1
  have targ:trees [.agg (aZ e),ints gs,ints ls]=true:=by simp only[trees,tree,aN,bQ,Bool.and_self]
  simp only[gC,hm]
  generalize hva:bI gs ls e=va at hev
  obtain⟨v,f⟩:=va
  simp only at hev ⊢
  refine ae.aB ag Tryz.func137 rfl yAb (by simp[Tryz.ntmps137]) rfl fun C hC hC0=>?_
  rw[Tryz.ntmps137] at hC
  simp only[gz,mZ]
  apply au
  simp[hC]
  apply aJ
  simp[hC]
  refine e9 ?_
  simp
  apply au
  simp[hC]
  refine cH targ hev ?_
  simp[hC]
  by_cases hf:f=0
  ·subst hf
   apply aJ
   simp[hC]
   refine e9 ?_
   simp
   by_cases h0:v<0
   ·apply aJ
    simp[hC,h0]
    refine T.cond (b:=true) yAf ?_
    simp
    apply au
    simp[hC]
    apply T.ret
    apply aa.here
    simp[Tryz.results137]
   ·by_cases h1:(m.size:Int)≤v
    ·apply aJ
     simp[hC,h0,hlt,hdm,cq,h1]
     refine T.cond (b:=true) yAf ?_
     simp
     apply au
     simp[hC]
     apply T.ret
     apply aa.here
     simp[Tryz.results137]
    ·apply aJ
     simp[hC,h0,hlt,hdm,cq,h1]
     refine T.cond (b:=false) yAf (T.skip ?_)
     simp
     apply au
     simp[hC]
     apply T.ret
     apply aa.here
     simp[Tryz.results137]
  ·have hf2:((f:Int) != 0)=true:=by rw[bne_iff_ne];omega
   apply aJ
   simp[hC,hf2]
   refine T.cond (b:=true) yAf ?_
   simp
   apply au
   simp[hC]
   apply T.ret
   apply aa.here
   simp[Tryz.results137,hf]
theorem pK (u:Un)(s:Sy)(t:Int)(p:Pl)(hm:xN u.ms)(hb:s.ts.length≤1000000∧∀ l∈s.ts,l.length≤1000000)(_hp:p.index≤1000000)
  (hv:∀ f,cT s t=some f→vF u.ms s.gs.length f.az.length f.ck.length p):ae Tryz.prog 99 [cS u,cf s,I t,.agg (gz p)] (.cr [I (bD u s t p).1,I (bD u s t p).2]):=by
 have htp:=Bx s t hb
 have targ:trees [cf s,I t]=true:=by simp only[trees,tree,cf,ed,ints,Bool.and_self]
 have tix:∀ (f:Fr),trees [.agg (gz p),.av (u.ms.flatMap cq) u.ms.length,ints s.gs,ints f.az]=true:=fun f=>by
  simp only[trees,tree,cV,bQ,Bool.and_self]
 have tba:trees [.av (u.ms.flatMap cq) u.ms.length,I p.index]=true:=by simp only[trees,tree,Bool.and_self]
 cases htl:cT s t with
 | none=>
  rw[htl] at htp
  refine ae.aB ag Tryz.func99 rfl yAb (by simp[Tryz.ntmps99]) rfl fun C hC hC0=>?_
  rw[Tryz.ntmps99] at hC
  simp only[cf,ed,cS,fy,gz,ints] at *
  apply au
  simp[hC]
  apply au
  simp[hC]
  refine cH targ htp ?_
  simp[hC,sC,K3]
  apply aJ
  simp[hC]
  refine dN ?_
  simp
  apply au
  simp[hC]
  apply T.ret
  apply aa.here
  simp[Tryz.results99,bD,htl]
 | some f=>
  rw[htl] at htp
  have hpv:=hv f htl
  have hix:=GA u.ms s.gs f.az f.ck.length p hpv
  have tix':=tix f
  have hba:=Jj u.ms hm p.index
  have hel:bD u s t p=if p.param=true then (((f.ck.getD p.index 0:Nat):Int),0) else
   if (gC u.ms s.gs f.az p).2=0 then (wr (xH u.ms p.index+(gC u.ms s.gs f.az p).1),0) else (0,(gC u.ms s.gs f.az p).2):=by
   simp only[bD,htl]
  rw[hel]
  generalize gC u.ms s.gs f.az p=x at hix ⊢
  obtain⟨v,g⟩:=x
  refine ae.aB ag Tryz.func99 rfl yAb (by simp[Tryz.ntmps99]) rfl fun C hC hC0=>?_
  rw[Tryz.ntmps99] at hC
  simp only[cf,ed,cS,fy,gz,ints] at *
  apply au
  simp[hC]
  apply au
  simp[hC]
  refine cH targ htp ?_
  simp[hC,sC,e8]
  apply aJ
  simp[hC]
  refine e9 ?_
  simp
  cases hpp:p.param with
  | true=>
   have hpi:p.index<f.ck.length:=by
    rcases hpv with h | h
    ·exact h.2.1
    ·rw[hpp] at h
     cases h.1
   obtain⟨a,ha⟩:∃ a,f.ck[p.index]? = some a:=⟨_,List.getElem?_eq_getElem hpi⟩
   have hda:=j7 ha
   apply aJ
   simp[hC]
   refine dN ?_
   simp
   apply au
   simp[hC,aW,hpi,hda]
   apply T.ret
   apply aa.here
   simp[Tryz.results99,(List.getElem?_eq_some_iff.1 ha).2]
  | false=>
   apply aJ
   simp[hC]
   refine e9 ?_
   simp
   apply au
   simp[hC,ints]
   rw[hpp] at hix tix'
   refine cH tix' hix ?_
   simp[hC]
   by_cases hg:g=0
   ·subst hg
    apply aJ
    simp[hC]
    refine e9 ?_
    simp
    apply au
    simp[hC]
    refine cH tba hba ?_
    simp[hC]
    apply T.ret
    apply aa.here
    simp[Tryz.results99,wr]
   ·have hg2:((g:Int) != 0)=true:=by rw[bne_iff_ne];omega
    apply aJ
    simp[hC,hg2]
    refine T.cond (b:=true) yAf ?_
    simp
    apply au
    simp[hC]
    apply T.ret
    apply aa.here
    simp[Tryz.results99,hg]
theorem dn (l:List (List Fr)):l.flatMap dt=l.map fun x=>.av (x.flatMap e8) x.length:=by
 induction l with
 | nil=>rfl
 | cons a r ih=>rw[List.flatMap_cons,ih];rfl
set_option maxHeartbeats 2000000 in
set_option maxRecDepth 100000 in
theorem gV (s:Sy)(t:Nat)(l0:List Fr)(f:Fr)(hl:s.ts[t]? = some (l0++[f]))(h1:s.gs.length≤1000000)(h2:s.tb.length≤1000000)(h3:s.ts.length≤1000000)(h4:l0.length≤1000000)(h5:f.az.length≤1000000) :
  Body Tryz.prog aq 95 [cf s,I t] [] 0 (kk (.agg [.bx 0 0 s.gs.length,.bx 1 0 s.tb.length,.bx 2 0 s.ts.length,I s.fault])
   [(0,⟨3,1,s.gs.map bM⟩),(1,⟨156,2,s.tb.flatMap cW⟩),(2,⟨98,1,(s.ts.take t).flatMap dt++.bx 3 0 (l0.length+1)::(s.ts.drop (t+1)).flatMap dt⟩),
    (3,⟨100,4,l0.flatMap e8++[I f.proc,I f.pc,.bx 4 0 f.az.length,aW f.ck]⟩),(4,⟨3,1,f.az.map bM⟩),(5,⟨40,0,[.bx 0 0 s.gs.length,.bx 1 0 s.tb.length,.bx 2 0 s.ts.length,I s.fault]⟩)] 6):=by
 have hd:=DD hl
 have htl:=(List.getElem?_eq_some_iff.1 hl).1
 refine Body.j5 Tryz.func95 rfl yAb (by simp[Tryz.ntmps95]) fun C hC hC0=>?_
 rw[Tryz.ntmps95] at hC
 simp only[cf,ed,ints]
 have b1:s.gs.length*8≤140737488355328:=by omega
 have b2:s.tb.length*16≤140737488355328:=by omega
 have b3:s.ts.length*24≤140737488355328:=by omega
 apply au
 simp[hC]
 refine T.seq (T.rx ag follows [0,1,2,3,4,5,6,7,8,9,10,11,12,13,14,15,16] [(0,2),(0,4),(0,6),(0,8),(0,10),(0,13),(0,15),(2,4),(2,8),(2,15),(3,4),(3,6),(3,8),(3,10),(3,13),(3,15),(4,6),(4,8),(4,10),(4,13),(4,15),(6,8),(6,15),(7,8),(7,10),(7,13),(7,15),(8,10),(8,13),(8,15),(10,15),(11,13),(11,15),(13,15)] yAb ?_)
 simp[hC,b1,b2,b3,-List.length_flatMap,aD eJ,aD xX,aI]
 have tG:trees (s.gs.map bM)=true:=aM s.gs
 have tT:trees (s.tb.flatMap cW)=true:=ai bV _
 have tL:trees (l0.flatMap e8)=true:=ai dr _
 have tV:trees (f.az.map bM)=true:=aM f.az
 have tS:trees (s.ts.flatMap dt)=true:=ai a9 _
 refine T.le (Le.trim [5,4,2,1] [17,21,20,19,1,0] 22 (by simp[-List.all_eq_true,-List.all_flatMap,-List.all_map,aj tT,aj tG,aj tS,a7]) yA) ?_
 simp
 have b4:(l0.length+1)*64≤140737488355328:=by omega
 have e1:l0.length*4+4=(l0.length+1)*4:=by omega
 apply au
 simp[hC,htl,hd,dt,b4,e1,e8,aI,-List.length_flatMap,aD eK]
 have b5:f.az.length*8≤140737488355328:=by omega
 have w1:=ct (l0.length:Int) yA yA
 have w2:(l0.length:Int)<(l0.length:Int)+1:=by omega
 have hfl:=aD eK l0
 have gA:∀ (r:List CV) (k:Nat),(l0.flatMap e8++r)[l0.length*4+k]? = r[k]?:=fun r k=>by rw[List.getElem?_append_right yA,hfl];congr 1;omega
 have dA:∀ (r:List CV) (k:Nat),(l0.flatMap e8++r).drop (l0.length*4+k)=r.drop k:=fun r k=>by rw[List.drop_append,hfl,List.drop_eq_nil_of_le yA];simp
 have sA:∀ (r:List CV) (k:Nat) (x:CV),(l0.flatMap e8++r).set (l0.length*4+k) x=l0.flatMap e8++r.set k x:=fun r k x=>by rw[List.set_append_right _ _ yA,hfl];congr 2;omega
 apply au
 simp[hC,w1,w2,b5,aI,-List.length_flatMap,aD eK,dA,ints]
 have tA:∀ (r:List CV),(l0.flatMap e8++r).take (l0.length*4+2)=l0.flatMap e8++r.take 2:=fun r=>by rw[List.take_append,hfl,List.take_of_length_le yA];simp
 have dA3:∀ (r:List CV),(l0.flatMap e8++r).drop (l0.length*4+2+1)=r.drop 3:=fun r=>dA r 3
 have tS1:(s.ts.flatMap dt).take t=(s.ts.take t).flatMap dt:=by
  rw[dn,dn,List.map_take]
 have tS2:(s.ts.flatMap dt).drop (t+1)=(s.ts.drop (t+1)).flatMap dt:=by
  rw[dn,dn,List.map_drop]
 rw[tA,dA3]
 refine T.le (Le.trim [6,5,4,1] [25,23,17,21,20,19,1] 26 (by simp[-List.all_eq_true,-List.all_flatMap,-List.all_map,aj tT,aj tG,aj tS,aj tL,aj tV,a6 26 _ (bW f.ck),a7]) yA) ?_
 simp
 have e2:t+1≤s.ts.length:=by omega
 apply au
 simp[hC,htl,e2,-List.length_flatMap,aD xX,tS1,tS2]
 apply au
 simp[hC]
 apply T.ret
 have tA1:trees ((s.ts.take t).flatMap dt)=true:=ai a9 _
 have tA2:trees ((s.ts.drop (t+1)).flatMap dt)=true:=ai a9 _
 have rG:=fun ρ=>af ρ _ tG
 have rT:=fun ρ=>af ρ _ tT
 have rL:=fun ρ=>af ρ _ tL
 have rV:=fun ρ=>af ρ _ tV
 have r1:=fun ρ=>af ρ _ tA1
 have r2:=fun ρ=>af ρ _ tA2
 have ra:∀ ρ (a b:List CV),bu ρ (a++b)=bu ρ a++bu ρ b:=fun ρ a b=>by rw[b9,b9,b9,List.map_append]
 have tE:=aP f.ck
 have rE:=fun ρ=>af ρ _ tE
 refine aa.le (Le.norm [4] [(19,0),(20,1),(21,2),(23,3),(25,4),(1,5)] 0 6 yAl yAm (by simp[eC,vV,sh,tree,assoc,-List.all_eq_true,-List.all_flatMap,aH tG,aH tT,aH tL,aH tV,aH tA1,aH tA2,aW]) yA) ?_
 simp[dF,ca,bu,dU,gg,assoc,rG,rT,rL,rV,r1,r2,aW,ra]
 exact aa.here ⟨_,rfl,rfl,rfl,rfl⟩
def brS (s:Sy)(t:Nat)(l0:List Fr)(f:Fr)(g:Nat)(e:Ex):Sy:=
 if (bI s.gs f.az e).2=0 then { s with ts:=s.ts.set t (l0++[{ f with pc:=if (bI s.gs f.az e).1=0 then g else f.pc+1 }]) } else { s with fault:=(bI s.gs f.az e).2 }
set_option maxHeartbeats 4000000 in
set_option maxRecDepth 100000 in
theorem zx (u:Un)(s:Sy)(t:Nat)(l0:List Fr)(f:Fr)(q:Pr)(g:Nat)(e:Ex)(he:vH s.gs.length f.az.length e)(hl:s.ts[t]? = some (l0++[f]))(hf0:s.fault=0)(hq:u.ps[f.proc]? = some q)(hc:q.code[f.pc]? = some (.branch g e))(hfr:sO u s)
  (h1:s.gs.length≤1000000) (h2:s.tb.length≤1000000) (h3:s.ts.length≤1000000) (h4:∀ l∈s.ts,l.length≤1000000) (h5:f.az.length≤1000000) (h6:f.pc≤1000000) :
  ae Tryz.prog 63 [cS u,cf s,I t] (.cr [cf (brS s t l0 f g e),.bool true]):=by
 have hin:=cQ u s t ⟨h3,h4⟩ hfr
 have hll:=h4 _ (List.mem_of_getElem? hl)
 have hll2:l0.length≤1000000:=by simp at hll;omega
 have htop:cT s t=some f:=by simp[cT,hl,hf0]
 have hins:dX u s t=some (.branch g e):=by simp[dX,htop,hq,hc]
 rw[hins] at hin
 have hco:=gV s t l0 f hl h1 h2 h3 hll2 h5
 have targ:trees [cS u,cf s,I t]=true:=by
  have:=bR u
  simp only[trees,tree,cf,ed,cS,this,ints,Bool.and_self]
 have htr:tree (.cr [cf (brS s t l0 f g e),.bool true])=true:=by
  simp only[cf,ed,tree,trees,bQ,Bool.and_self]
 refine ae.aB ag Tryz.func63 rfl yAb yBi htr fun C hC hC0=>?_
 rw[Tryz.ntmps63] at hC
 have hev:=mw s.gs f.az e he
 have hfa:=gU s (bI s.gs f.az e).2
 have tfa:trees [cf s,I (bI s.gs f.az e).2]=true:=by simp only[trees,tree,cf,ed,ints,Bool.and_self]
 have hbr:brS s t l0 f g e=if (bI s.gs f.az e).2=0 then { s with ts:=s.ts.set t (l0++[{ f with pc:=if (bI s.gs f.az e).1=0 then g else f.pc+1 }]) } else { s with fault:=(bI s.gs f.az e).2 }:=rfl
 rw[hbr]
 generalize bI s.gs f.az e=va at hev hfa tfa ⊢
 obtain⟨v,fa⟩:=va
 have tev:trees [.agg (aZ e),ints s.gs,ints f.az]=true:=by simp only[trees,tree,aN,bQ,Bool.and_self]
 obtain⟨e1,e2,e3,e4,e5,hec,tec⟩:=gE e
 simp only[jw,dv,hec,oz,List.cons_append,List.nil_append] at hin
 rw[hec] at hev tev
 simp only[cf,ed,cS,fy,ints] at hin hco targ hev hfa tfa tev ⊢
 apply au
 simp[hC]
 apply au
 simp[hC]
 refine cH targ hin ?_
 simp[hC]
 apply aJ
 simp[hC]
 refine e9 ?_
 simp
 apply au
 simp[hC]
 have tG:trees (s.gs.map bM)=true:=aM s.gs
 have tT:trees (s.tb.flatMap cW)=true:=ai bV _
 have tL:trees (l0.flatMap e8)=true:=ai dr _
 have tV:trees (f.az.map bM)=true:=aM f.az
 have tE:=aP f.ck
 have tA1:trees ((s.ts.take t).flatMap dt)=true:=ai a9 _
 have tA2:trees ((s.ts.drop (t+1)).flatMap dt)=true:=ai a9 _
 have rG:=fun ρ=>af ρ _ tG
 have rT:=fun ρ=>af ρ _ tT
 have rL:=fun ρ=>af ρ _ tL
 have rV:=fun ρ=>af ρ _ tV
 have r1:=fun ρ=>af ρ _ tA1
 have r2:=fun ρ=>af ρ _ tA2
 have rE:=fun ρ=>af ρ _ tE
 have ra:∀ ρ (a b:List CV),bu ρ (a++b)=bu ρ a++bu ρ b:=fun ρ a b=>by rw[b9,b9,b9,List.map_append]
 have tco:aQ 0 [.agg [.av (s.gs.map bM) s.gs.length,.av (s.tb.flatMap cW) s.tb.length,.av (s.ts.flatMap dt) s.ts.length,I s.fault],I t]=true:=by
  have tS:trees (s.ts.flatMap dt)=true:=ai a9 _
  simp only[a7,List.all_cons,List.all_nil,Bool.and_true]
  rw[a6 0 _ yBm]
  rfl
 refine TL.n8 ag [] [] 0 6 (hco) rfl (by rfl) yAc rfl rfl yAk yAk yBk yAk yAk (TL.go' ag ?_)
 simp[hC,bT,ca,bu,dU,cI,rG,rT,rL,rV,r1,r2,ra,aW]
 generalize hA:(s.ts.take t).flatMap dt=A at tA1 r1 ⊢
 generalize hB:(s.ts.drop (t+1)).flatMap dt=B at tA2 r2 ⊢
 generalize hD:l0.flatMap e8=D at tL rL ⊢
 have htl:=(List.getElem?_eq_some_iff.1 hl).1
 have lA:A.length=t:=by rw[← hA,dn,List.length_map,List.length_take];omega
 have lD:D.length=l0.length*4:=by rw[← hD];exact aD eK l0
 have dA:∀ r:List CV,(A++r).drop t=r:=fun r=>by rw[← lA];simp
 have dD:∀ r:List CV,(D++r).drop (l0.length*4)=r:=fun r=>by rw[← lD];simp
 have dD1:∀ (r:List CV) (k:Nat),(D++r).drop (l0.length*4+k)=r.drop k:=fun r k=>by rw[← lD,List.drop_append];simp
 have tD1:∀ (r:List CV) (k:Nat),(D++r).take (l0.length*4+k)=D++r.take k:=fun r k=>by rw[← lD,List.take_append,List.take_of_length_le yA];simp
 have dD2:∀ (r:List CV),(D++r).drop (l0.length*4+1+1)=r.drop 2:=fun r=>dD1 r 2
 have w1:=ct (l0.length:Int) yA yA
 have w2:(l0.length:Int)<(l0.length:Int)+1:=by omega
 have w3:=ct ((f.pc:Int)+1) yA yA
 refine T.le (Le.trim [10,8,7,6,4,3,2] [10,4,5,6,7,8,3,2,1,0] 11 yBf yA) ?_
 simp
 apply au
 simp[hC,htl,dA]
 apply au
 simp[hC,w1,w2]
 apply au
 simp[hC,w3,lD,dD1,tD1,dD2]
 have kV:List.take f.az.length (f.az.map bM)=f.az.map bM:=List.take_of_length_le yAa
 refine T.le (Le.cG (o:=8) rfl tV) ?_
 simp[kV,ak tG,ak tT,ak tL,ak tA1,ak tA2]
 repeat first
  | apply T.seq
  | (apply aO;simp[hC])
  | (refine T.cond (b:=false) ?_ ?_;(first | rfl | (simp[ev,assoc];done));simp)
  | (refine T.cond (b:=true) ?_ ?_;(first | rfl | (simp[ev,assoc,lD];done));simp)
  | (apply T.skip;simp)
  | apply T.block
 refine T.rx ag follows [0,1,2,3,4,5,6,7,8,9,10,11,12,13] [] yAb ?_
 simp[hC,dD1]
 refine RX.call rfl rfl rfl rfl rfl tev hev ?_
 simp
 by_cases hf:fa=0
 ·subst hf
  by_cases hv:v=0
  ·subst hv
   repeat first
    | apply T.seq
    | (apply aO;simp[hC,lD,tD1,dD2])
    | (refine T.cond (b:=false) ?_ ?_;(first | rfl | (simp[ev,assoc];done));simp)
    | (refine T.cond (b:=true) ?_ ?_;(first | rfl | (simp[ev,assoc,lD,dD,dD1,tD1,dD2];done));simp)
    | (apply T.skip;simp)
    | apply T.block
   apply T.ret
   refine aa.le (Le.trim [7,6] [2,4,5,6,7] 11 yCn yA) ?_
   simp
   have kG:List.take s.gs.length (s.gs.map bM)=s.gs.map bM:=List.take_of_length_le yAa
   have kT:List.take (s.tb.length*2) (s.tb.flatMap cW)=s.tb.flatMap cW:=List.take_of_length_le yBn
   refine aa.le (Le.cG (o:=4) rfl tG) ?_
   simp[kG,ak tT,ak tL,ak tA1,ak tA2]
   refine aa.le (Le.cG (o:=5) rfl tT) ?_
   simp[kT,ak tL,ak tA1,ak tA2]
   have tF:trees (D++[I f.proc,I g,.av (f.az.map bM) f.az.length,.av (f.ck.map fun n:Nat=>I n) f.ck.length])=true:=by
    rw[aC,tL]
    simp only[trees,tree,Bool.and_self]
   have kF:∀ a b c d:CV,List.take ((l0.length+1)*4) (D++[a,b,c,d])=D++[a,b,c,d]:=fun a b c d=>List.take_of_length_le yAg
   refine aa.le (Le.cG (o:=7) rfl tF) ?_
   simp[kF,ak tA1,ak tA2]
   have tH:trees (A++.av (D++[I f.proc,I g,.av (f.az.map bM) f.az.length,.av (f.ck.map fun n:Nat=>I n) f.ck.length]) (l0.length+1)::B)=true:=by
    simp only[aC,tA1,trees,tA2,tree,Bool.and_self]
   have lB:B.length=s.ts.length-(t+1):=by rw[← hB,dn,List.length_map,List.length_drop]
   have kH:∀ x:CV,List.take s.ts.length (A++x::B)=A++x::B:=fun x=>List.take_of_length_le yAg
   refine aa.le (Le.cG (o:=6) rfl tH) ?_
   simp[kH]
   apply aa.here
   have hset:(s.ts.set t (l0++[{ f with pc:=g }])).flatMap dt=A++.av (D++[I f.proc,I g,.av (f.az.map bM) f.az.length,.av (f.ck.map fun n:Nat=>I n) f.ck.length]) (l0.length+1)::B:=by
    rw[List.set_eq_take_append_cons_drop,if_pos htl,List.flatMap_append,List.flatMap_cons,hA,hB]
    simp[dt,e8,hD,ints,aW]
   simp[hset]
  ·have hv1:(v == 0)=false:=by simp[hv]
   repeat first
    | apply T.seq
    | (apply aO;simp[hC,hv,hv1])
    | (refine T.cond (b:=false) ?_ ?_;(first | rfl | (simp[ev,assoc,lD,dD,dD1,tD1,dD2,hv,hv1];done));simp)
    | (refine T.cond (b:=true) ?_ ?_;(first | rfl | (simp[ev,assoc,lD,dD,dD1,tD1,dD2,hv,hv1];done));simp)
    | (apply T.skip;simp)
    | apply T.block
   apply T.ret
   refine aa.le (Le.trim [7,6] [2,4,5,6,7] 11 yCn yA) ?_
   simp
   have kG:List.take s.gs.length (s.gs.map bM)=s.gs.map bM:=List.take_of_length_le yAa
   have kT:List.take (s.tb.length*2) (s.tb.flatMap cW)=s.tb.flatMap cW:=List.take_of_length_le yBn
   refine aa.le (Le.cG (o:=4) rfl tG) ?_
   simp[kG,ak tT,ak tL,ak tA1,ak tA2]
   refine aa.le (Le.cG (o:=5) rfl tT) ?_
   simp[kT,ak tL,ak tA1,ak tA2]
   have tF:trees (D++[I f.proc,I ((f.pc:Int)+1),.av (f.az.map bM) f.az.length,.av (f.ck.map fun n:Nat=>I n) f.ck.length])=true:=by
    rw[aC,tL]
    simp only[trees,tree,Bool.and_self]
   have kF:∀ a b c d:CV,List.take ((l0.length+1)*4) (D++[a,b,c,d])=D++[a,b,c,d]:=fun a b c d=>List.take_of_length_le yAg
   refine aa.le (Le.cG (o:=7) rfl tF) ?_
   simp[kF,ak tA1,ak tA2]
   have tH:trees (A++.av (D++[I f.proc,I ((f.pc:Int)+1),.av (f.az.map bM) f.az.length,.av (f.ck.map fun n:Nat=>I n) f.ck.length]) (l0.length+1)::B)=true:=by
    simp only[aC,tA1,trees,tA2,tree,Bool.and_self]
   have lB:B.length=s.ts.length-(t+1):=by rw[← hB,dn,List.length_map,List.length_drop]
   have kH:∀ x:CV,List.take s.ts.length (A++x::B)=A++x::B:=fun x=>List.take_of_length_le yAg
   refine aa.le (Le.cG (o:=6) rfl tH) ?_
   simp[kH]
   apply aa.here
   have hset:(s.ts.set t (l0++[{ f with pc:=f.pc+1 }])).flatMap dt=A++.av (D++[I f.proc,I ((f.pc:Int)+1),.av (f.az.map bM) f.az.length,.av (f.ck.map fun n:Nat=>I n) f.ck.length]) (l0.length+1)::B:=by
    rw[List.set_eq_take_append_cons_drop,if_pos htl,List.flatMap_append,List.flatMap_cons,hA,hB]
    simp[dt,e8,hD,ints,aW]
   simp[hset]
 ·have hf2:((fa:Int) != 0)=true:=by rw[bne_iff_ne];omega
  repeat first
   | apply T.seq
   | (apply aO;simp[hC,hf2])
   | (refine T.cond (b:=false) ?_ ?_;(first | rfl | (simp[ev,assoc];done));simp)
   | (refine T.cond (b:=true) ?_ ?_;(first | rfl | (simp[ev,assoc,hf2];done));simp)
   | (apply T.skip;simp)
   | apply T.block
  refine cH tfa hfa ?_
  simp[hC]
  apply T.ret
  refine aa.le (Le.trim [7,6] [2] 11 yAt yA) ?_
  simp
  apply aa.here
  simp[hf]
set_option maxHeartbeats 4000000 in
set_option maxRecDepth 100000 in
theorem step_ret (u:Un)(s:Sy)(t:Nat)(l0:List Fr)(f:Fr)(q:Pr)(hl:s.ts[t]? = some (l0++[f]))(hf0:s.fault=0)(hq:u.ps[f.proc]? = some q)(hc:q.code[f.pc]? = some .ret)(hfr:sO u s)
  (h1:s.gs.length≤1000000) (h2:s.tb.length≤1000000) (h3:s.ts.length≤1000000) (h4:∀ l∈s.ts,l.length≤1000000) (h5:f.az.length≤1000000) (h6:f.pc≤1000000) :
  ae Tryz.prog 63 [cS u,cf s,I t] (.cr [cf { s with ts:=s.ts.set t l0 },.bool true]):=by
 have hin:=cQ u s t ⟨h3,h4⟩ hfr
 have hll:=h4 _ (List.mem_of_getElem? hl)
 have hll2:l0.length≤1000000:=by simp at hll;omega
 have htop:cT s t=some f:=by simp[cT,hl,hf0]
 have hins:dX u s t=some .ret:=by simp[dX,htop,hq,hc]
 rw[hins] at hin
 have hco:=gV s t l0 f hl h1 h2 h3 hll2 h5
 have targ:trees [cS u,cf s,I t]=true:=by
  have:=bR u
  simp only[trees,tree,cf,ed,cS,this,ints,Bool.and_self]
 have htr:tree (.cr [cf { s with ts:=s.ts.set t l0 },.bool true])=true:=by
  simp only[cf,ed,tree,trees,bQ,Bool.and_self]
 refine ae.aB ag Tryz.func63 rfl yAb yBi htr fun C hC hC0=>?_
 rw[Tryz.ntmps63] at hC
 simp only[cf,ed,cS,fy,ints] at hin hco targ ⊢
 apply au
 simp[hC]
 apply au
 simp[hC]
 refine cH targ hin ?_
 simp[hC,jw,dv,aZ,oz]
 apply aJ
 simp[hC]
 refine e9 ?_
 simp
 apply au
 simp[hC]
 have tG:trees (s.gs.map bM)=true:=aM s.gs
 have tT:trees (s.tb.flatMap cW)=true:=ai bV _
 have tL:trees (l0.flatMap e8)=true:=ai dr _
 have tV:trees (f.az.map bM)=true:=aM f.az
 have tE:=aP f.ck
 have tA1:trees ((s.ts.take t).flatMap dt)=true:=ai a9 _
 have tA2:trees ((s.ts.drop (t+1)).flatMap dt)=true:=ai a9 _
 have rG:=fun ρ=>af ρ _ tG
 have rT:=fun ρ=>af ρ _ tT
 have rL:=fun ρ=>af ρ _ tL
 have rV:=fun ρ=>af ρ _ tV
 have r1:=fun ρ=>af ρ _ tA1
 have r2:=fun ρ=>af ρ _ tA2
 have rE:=fun ρ=>af ρ _ tE
 have ra:∀ ρ (a b:List CV),bu ρ (a++b)=bu ρ a++bu ρ b:=fun ρ a b=>by rw[b9,b9,b9,List.map_append]
 have tco:aQ 0 [.agg [.av (s.gs.map bM) s.gs.length,.av (s.tb.flatMap cW) s.tb.length,.av (s.ts.flatMap dt) s.ts.length,I s.fault],I t]=true:=by
  have tS:trees (s.ts.flatMap dt)=true:=ai a9 _
  simp only[a7,List.all_cons,List.all_nil,Bool.and_true]
  rw[a6 0 _ yBm]
  rfl
 refine TL.n8 ag [] [] 0 6 (hco) rfl (by rfl) yAc rfl rfl yAk yAk yBk yAk yAk (TL.go' ag ?_)
 simp[hC,bT,ca,bu,dU,cI,rG,rT,rL,rV,r1,r2,ra,aW]
 generalize hA:(s.ts.take t).flatMap dt=A at tA1 r1 ⊢
 generalize hB:(s.ts.drop (t+1)).flatMap dt=B at tA2 r2 ⊢
 generalize hD:l0.flatMap e8=D at tL rL ⊢
 have htl:=(List.getElem?_eq_some_iff.1 hl).1
 have lA:A.length=t:=by rw[← hA,dn,List.length_map,List.length_take];omega
 have lD:D.length=l0.length*4:=by rw[← hD];exact aD eK l0
 have dA:∀ r:List CV,(A++r).drop t=r:=fun r=>by rw[← lA];simp
 have dD:∀ r:List CV,(D++r).drop (l0.length*4)=r:=fun r=>by rw[← lD];simp
 have dD1:∀ (r:List CV) (k:Nat),(D++r).drop (l0.length*4+k)=r.drop k:=fun r k=>by rw[← lD,List.drop_append];simp
 have tD1:∀ (r:List CV) (k:Nat),(D++r).take (l0.length*4+k)=D++r.take k:=fun r k=>by rw[← lD,List.take_append,List.take_of_length_le yA];simp
 have dD2:∀ (r:List CV),(D++r).drop (l0.length*4+1+1)=r.drop 2:=fun r=>dD1 r 2
 have w1:=ct (l0.length:Int) yA yA
 have w2:(l0.length:Int)<(l0.length:Int)+1:=by omega
 have w3:=ct ((f.pc:Int)+1) yA yA
 refine T.le (Le.trim [10,8,7,6,4,3,2] [10,4,5,6,7,8,3,2,1,0] 11 yBf yA) ?_
 simp
 apply au
 simp[hC,htl,dA]
 apply au
 simp[hC,w1,w2]
 apply au
 simp[hC,w3,lD,dD1,tD1,dD2]
 repeat first
  | apply T.seq
  | (apply aO;simp[hC])
  | (refine T.cond (b:=false) ?_ ?_;(first | rfl | (simp[ev,assoc,lD];done));simp)
  | (refine T.cond (b:=true) ?_ ?_;(first | rfl | (simp[ev,assoc,lD];done));simp)
  | (apply T.skip;simp)
  | apply T.block
 refine T.rx ag follows [0,1,2,3,4,5,6,7,8,9,10] [] yAb ?_
 have dA1:∀ (x:CV) (r:List CV),(A++x::r).drop (t+1)=r:=fun x r=>by rw[← lA,List.drop_append];simp
 simp[hC,lA,dA1,htl,w1]
 repeat first
  | apply T.seq
  | (apply aO;simp[hC])
  | (refine T.cond (b:=false) ?_ ?_;rfl;simp)
  | (refine T.cond (b:=true) ?_ ?_;rfl;simp)
  | (apply T.skip;simp)
  | apply T.block
 apply T.ret
 refine aa.le (Le.trim [7,6] [2,4,5,6,7,8] 11 yBf yA) ?_
 simp
 have kG:List.take s.gs.length (s.gs.map bM)=s.gs.map bM:=List.take_of_length_le yAa
 have kT:List.take (s.tb.length*2) (s.tb.flatMap cW)=s.tb.flatMap cW:=List.take_of_length_le yBn
 have kV:List.take f.az.length (f.az.map bM)=f.az.map bM:=List.take_of_length_le yAa
 refine aa.le (Le.cG (o:=8) rfl tV) ?_
 simp[kV,ak tG,ak tT,ak tL,ak tA1,ak tA2]
 refine aa.le (Le.cG (o:=4) rfl tG) ?_
 simp[kG,ak tT,ak tL,ak tA1,ak tA2]
 refine aa.le (Le.cG (o:=5) rfl tT) ?_
 simp[kT,ak tL,ak tA1,ak tA2]
 have tF:trees (D++[I f.proc,I ((f.pc:Int)+1),.av (f.az.map bM) f.az.length,.av (f.ck.map fun n:Nat=>I n) f.ck.length])=true:=by
  rw[aC,tL]
  simp only[trees,tree,Bool.and_self]
 have kF:∀ r:List CV,List.take (l0.length*4) (D++r)=D:=fun r=>by rw[← lD];simp
 refine aa.le (Le.cG (o:=7) rfl tF) ?_
 simp[kF,ak tA1,ak tA2]
 have tH:trees (A++.av D l0.length::B)=true:=by
  simp only[aC,tA1,trees,tA2,tree,Bool.and_self]
 have lB:B.length=s.ts.length-(t+1):=by rw[← hB,dn,List.length_map,List.length_drop]
 have kH:∀ x:CV,List.take s.ts.length (A++x::B)=A++x::B:=fun x=>List.take_of_length_le yAg
 refine aa.le (Le.cG (o:=6) rfl tH) ?_
 simp[kH]
 apply aa.here
 have hset:(s.ts.set t l0).flatMap dt=A++.av D l0.length::B:=by
  rw[List.set_eq_take_append_cons_drop,if_pos htl,List.flatMap_append,List.flatMap_cons,hA,hB]
  simp[dt,hD]
 simp[hset]
def iK (u:Un):Sy:=⟨u.gs,List.replicate (aK u.ms).length ⟨0,0⟩,[[⟨u.main,0,List.replicate (match u.ps[u.main]? with
 | some q=>q.locals
 | none=>0) 0,[]⟩]],0⟩
theorem Eu (n:Nat):aI [I 0,I 0] n=(List.replicate n (⟨0,0⟩:Ho)).flatMap cW:=by
 induction n with
 | zero=>rfl
 | succ n ih=>rw[aI,ih,List.replicate_succ,List.flatMap_cons];rfl
theorem tJ (n:Nat):trees (List.replicate n (I 0))=true:=by
 induction n with
 | zero=>rfl
 | succ n ih=>rw[List.replicate_succ,trees,ih];rfl
set_option maxHeartbeats 2000000 in
set_option maxRecDepth 100000 in
theorem KN (u:Un)(hm:xN u.ms)(hg:u.gs.length≤1000000)(q:Pr)(hq:u.ps[u.main]? = some q)(hql:q.locals≤1000000):ae Tryz.prog 62 [cS u] (cf (iK u)):=by
 have how:=oA u.ms hm
 have hol:=fB u.ms 0 hm.2
 have hpl:=(List.getElem?_eq_some_iff.1 hq).1
 have hdr:=aE (f:=oR) (n:=5) kJ hq
 have targ:trees [.av (u.ms.flatMap cq) u.ms.length]=true:=by
  have:=dp u.ms
  simp only[trees,tree,Bool.and_self]
 have hn:iK u=⟨u.gs,List.replicate (aK u.ms).length ⟨0,0⟩,[[⟨u.main,0,List.replicate q.locals 0,[]⟩]],0⟩:=by simp only[iK,hq]
 rw[hn]
 have htr:tree (cf ⟨u.gs,List.replicate (aK u.ms).length ⟨0,0⟩,[[⟨u.main,0,List.replicate q.locals 0,[]⟩]],0⟩)=true:=by
  simp only[cf,ed,tree,trees,bQ,Bool.and_self]
 have bd1:List.length (aK u.ms)≤1099511627776:=by
  have:=hm.1
  rw[aK]
  omega
 generalize aK u.ms=o at how bd1 htr ⊢
 refine ae.aB ag Tryz.func62 rfl yAb (by simp[Tryz.ntmps62]) htr fun C hC hC0=>?_
 rw[Tryz.ntmps62] at hC
 simp only[cS,fy,ints]
 apply au
 simp[hC]
 refine T.seq (T.rx ag follows [0,1,2,3,4,5,9,10,11,12,13,14,15,16,17,18,19,20,21,22,6,7,8,23,24] [(0,2),(0,5),(0,10),(0,12),(0,14),(0,17),(0,18),(0,20),(0,22),(2,18),(2,20),(2,22),(3,5),(3,10),(3,12),(3,14),(3,17),(3,18),(3,20),(3,22),(5,18),(5,20),(5,22),(10,18),(10,6),(10,8),(12,6),(12,8),(14,6),(14,8),(17,6),(17,8),(18,6),(18,8),(20,6),(20,8),(22,6),(22,8)] yAb ?_)
 have b1:u.gs.length*8≤140737488355328:=by omega
 have b2:8*(q.locals:Int)≤281474976710656:=by omega
 have b3:(q.locals:Int)≤9223372036854775807:=by omega
 simp (config:={ maxSteps:=2000000 }) [hC,hpl,hdr,oR,b1,b2,b3]
 refine RX.call rfl rfl rfl rfl rfl targ how ?_
 have b4:16*(o.length:Int)≤281474976710656:=by omega
 have b5:(o.length:Int)≤9223372036854775807:=by omega
 simp[aW,b4,b5]
 rw[Eu]
 have tT:trees ((List.replicate o.length (⟨0,0⟩:Ho)).flatMap cW)=true:=ai bV _
 have tG:trees (u.gs.map bM)=true:=aM u.gs
 have tV:trees (List.replicate q.locals (I 0))=true:=tJ _
 have kT:List.take (o.length*2) ((List.replicate o.length (⟨0,0⟩:Ho)).flatMap cW)=(List.replicate o.length (⟨0,0⟩:Ho)).flatMap cW:=List.take_of_length_le (by rw[aD eJ,List.length_replicate];omega)
 have kG:List.take u.gs.length (u.gs.map bM)=u.gs.map bM:=List.take_of_length_le yAa
 have kV:List.take q.locals (List.replicate q.locals (I 0))=List.replicate q.locals (I 0):=List.take_of_length_le yAa
 apply T.ret
 refine aa.le (Le.trim [2] [1,10,24,22,20,27] 28 (by simp[-List.all_eq_true,-List.all_flatMap,-List.all_map,-List.all_replicate,aj tT,aj tG,aj tV,aI]) yA) ?_
 simp[aI]
 refine aa.le (Le.cG (o:=27) rfl tG) ?_
 simp[kG,ak tT,ak tV]
 refine aa.le (Le.cG (o:=20) rfl tV) ?_
 simp[kV,ak tT]
 refine aa.le (Le.cG (o:=10) rfl tT) ?_
 simp[kT]
 refine aa.le (Le.nz [] [22]) ?_
 simp
 have tF:trees [I u.main,I 0,.av (List.replicate q.locals (I 0)) q.locals,.av [] 0]=true:=by simp only[trees,tree,Bool.and_self]
 refine aa.le (Le.cG (o:=22) rfl tF) ?_
 simp
 have tH:trees [.av [I u.main,I 0,.av (List.replicate q.locals (I 0)) q.locals,.av [] 0] 1]=true:=by simp only[trees,tree,Bool.and_self]
 refine aa.le (Le.cG (o:=24) rfl tH) ?_
 simp
 apply aa.here
 simp[cf,ed,ints,dt,e8,aW]
end Go.Proofs.YtmnglemlimfpbaaGreat
