/- Events. -/
import Derived.Test.YtmnglemlimfpbaaGreatZ48
import Derived.Test.YtmnglemlimfpbaaGreatZ50
import Derived.Test.YtmnglemlimfpbaaGreatZ51
namespace Go.Proofs.YtmnglemlimfpbaaGreat
open Go.Can Go.aX
def nk (un:Bool)(d c:Nat):Nat:=if un=true then (if d=0 then 2 else 0) else if c≤d then (if c=1 then 3 else 4) else 0
def Ax (u:Un)(s:Sy)(t:Int):Nat×Nat:=match cT s t,dX u s t with
 | some f,some (.lock un p)=>match u.ms[jW (jt u.ms f) p]? with
  | some x=>if nk un (dL u.ms s.tb (jW (jt u.ms f) p) t.toNat) (gI x)=0 then (0,0) else (nk un (dL u.ms s.tb (jW (jt u.ms f) p) t.toNat) (gI x),jW (jt u.ms f) p)
  | none=>(0,0)
 | _,_=>(0,0)
theorem td {u:Un}{s:Sy}{t:Int}(h:∀ un p,dX u s t≠some (.lock un p)):Ax u s t=(0,0):=by
 unfold Ax
 split
 ·rename_i un p _ h2
  exact (h un p h2).elim
 ·rfl
theorem CN {z:In}(h:∀ un p,z≠.lock un p):((Bi z == 4)=false)∧((Bi z == 5)=false):=by
 cases z with
 | lock un p=>exact (h un p rfl).elim
 | call g t l ps=>cases g<;>exact⟨rfl,rfl⟩
 | _=>exact⟨rfl,rfl⟩
theorem vq (x:Mx):(x.size=0∧x.re=false∧gI x=1)∨(¬ (x.size=0∧x.re=false)∧gI x=8):=by
 unfold gI
 split
 ·rename_i h
  exact .inl ⟨h.1,h.2,rfl⟩
 ·rename_i h
  exact .inr ⟨h,rfl⟩
theorem uR {u:Un}(hu:l9 u){k:Nat}{s:Sy}(hs:pW u k s){t:Int}{un:Bool}{p:Pl}(hi:dX u s t=some (.lock un p)):∃ (n:Nat) (l0:List Fr) (f:Fr) (q:Pr) (xm:Mx),t=n∧cT s t=some f∧s.ts[n]? = some (l0++[f])∧HK u f∧u.ps[f.proc]? = some q∧
  (p.param=true→p.index<(jt u.ms f).bf.length)∧jW (jt u.ms f) p<u.ms.length∧u.ms[jW (jt u.ms f) p]? = some xm∧(ch u).is[eF (ch u).is (jt u.ms f)]? = some (jt u.ms f)∧∃ d:Nat,g9 u s n 0=some (d,(l0++[f]).map (oQ u)):=by
 cases ht:cT s t with
 | none=>simp[dX,ht] at hi
 | some f=>
  obtain⟨n,l0,rfl,hl,hf0,_⟩:=xW ht
  obtain⟨o1,o2,_,_⟩:=hs.fj hl
  obtain⟨q,hq,ln,hvl,hel⟩:=o2.q
  simp only[dX,ht,hq] at hi
  have hiv:=(hu.pc q (List.mem_of_getElem? hq)).2 _ (List.mem_of_getElem? hi)
  have hpv:vF u.ms u.gs.length q.locals q.bf p:=hiv
  have hisl:(jt u.ms f).bf.length=q.bf:=by simp[jt,hel]
  have hm:=Gc ((AU hu).1.v _ o2.ic).m hisl hpv
  obtain⟨x0,hx0⟩:∃ x,u.ms[0]? = some x:=⟨_,List.getElem?_eq_getElem (by have:=hu.nm;omega)⟩
  refine⟨n,l0,f,q,_,rfl,rfl,hl,o2,hq,fun h=>?_,hm,List.getElem?_eq_getElem hm,IW o2.ic,min (dL u.ms s.tb 0 n) (gI x0),by simp[g9,hl,hx0]⟩
  rw[hisl]
  rcases hpv with h6 | h6
  ·exact h6.2.1
  ·rw[h] at h6
   cases h6.1
theorem IU {u:Un}(hu:l9 u){s:Sy}{t:Int}{z:In}(hi:dX u s t=some z):(iL z).length≤1000∧(iQ z).length≤1000:=by
 unfold dX at hi
 split at hi
 ·rename_i f hf
  split at hi
  ·rename_i q hq
   have hiv:=(hu.pc q (List.mem_of_getElem? hq)).2 _ (List.mem_of_getElem? hi)
   cases z with
   | call go tg es ps=>
    obtain⟨c1,_,_⟩:=hiv
    rw[List.getElem?_map,Option.map_eq_some_iff] at c1
    obtain⟨qq,hqq,c4⟩:=c1
    simp only[Prod.mk.injEq] at c4
    have:=hu.pr qq (List.mem_of_getElem? hqq)
    simp only[iL,iQ]
    omega
   | _=>simp[iL,iQ]
  ·cases hi
 ·cases hi
set_option maxHeartbeats 4000000 in
theorem wU {u:Un}(hu:l9 u){k:Nat}(hk:k≤1000){s:Sy}(hs:pW u k s)(t:Int):ae Tryz.prog 18 [cS u,mU (ch u),cf s,I t] (.cr [I (Ax u s t).1,I (Ax u s t).2]):=by
 obtain⟨h1,h2,h3,h4,h5⟩:=hs.bounds hu hk
 have hmb:=kE hu
 have hin:=DZ u s t ⟨h3,h4⟩ hs.frs fun z hz=>IU hu hz
 have tG:trees (s.gs.map bM)=true:=aM s.gs
 have tT:trees (s.tb.flatMap cW)=true:=ai bV _
 have tS:trees (s.ts.flatMap dt)=true:=ai a9 _
 have tis:=ai bP (ch u).is
 have tcs:=gj (ch u).calls
 have trs:=aP (ch u).roots
 have targ:trees [cS u,cf s,I t]=true:=by
  have:=bR u
  simp only[trees,tree,cf,ed,cS,this,ints,Bool.and_self]
 refine ae.aB ag Tryz.func18 rfl yAb (by simp[Tryz.ntmps18]) rfl fun C hC hC0=>?_
 rw[Tryz.ntmps18] at hC
 simp only[cf,ed,cS,fy,mU,oW,ints,aW] at hin targ ⊢
 apply au
 simp[hC]
 apply au
 simp[hC]
 refine cH targ hin ?_
 cases hi:dX u s t with
 | none=>
  have hz:Ax u s t=(0,0):=td fun un p h=>by rw[hi] at h;cases h
  rw[hz]
  simp[hC,jw]
  apply aJ
  simp[hC]
  refine T.cond (b:=true) yAf ?_
  simp
  apply au
  simp[hC]
  apply T.ret
  apply aa.here
  simp[Tryz.results18]
 | some z=>
  by_cases hlk:∀ un p,z≠.lock un p
  ·have hz:Ax u s t=(0,0):=td fun un p h=>by rw[hi] at h;cases h;exact hlk un p rfl
   obtain⟨n4,n5⟩:=CN hlk
   rw[hz]
   obtain⟨zc,hzc,hzl⟩:=uX z
   obtain⟨c1,c2,c3,c4,c5,c6,c7,c8,c9,c10,c11,rfl⟩:=Gp hzl
   have n4':(Bi z != 4)=true:=by simp only[bne,n4,Bool.not_false]
   have n5':(Bi z != 5)=true:=by simp only[bne,n5,Bool.not_false]
   have hon:=uW z
   rw[hzc] at hon
   simp only[List.all_cons,List.all_nil,Bool.and_true,Bool.and_eq_true] at hon
   obtain⟨_,o1,o2,o3,o4,o5,o6,o7,o8,o9,o10,o11⟩:=hon
   simp[hC,jw,hzc]
   apply aJ
   simp[hC,n4',n5']
   refine T.cond (b:=true) yAf ?_
   simp
   apply au
   simp[hC]
   apply T.ret
   apply aa.here
   simp[Tryz.results18]
  ·obtain⟨un,p,rfl⟩:∃ un p,z=.lock un p:=by
    by_cases h:∃ un p,z=.lock un p
    ·exact h
    ·exact (hlk fun un p e=>h ⟨un,p,e⟩).elim
   obtain⟨n,l0,f,q,xm,rfl,htop,hl,hfv,hq,hpv,hm,hxm,hix,d0,hpr2⟩:=uR hu hs hi
   have hev:Ax u s n=if nk un (dL u.ms s.tb (jW (jt u.ms f) p) n) (gI xm)=0 then (0,0) else (nk un (dL u.ms s.tb (jW (jt u.ms f) p) n) (gI xm),jW (jt u.ms f) p):=by
    simp only[Ax,htop,hi,hxm,Int.toNat_natCast]
   rw[hev]
   have hdf:((l0++[f]).flatMap e8).drop (l0.length*4)=e8 f:=by
    have h6:(l0++[f])[l0.length]? = some f:=by simp
    have h7:=aE (f:=e8) (n:=4) eK h6
    rw[h7,List.drop_of_length_le yAa]
    simp
   have hdl:=DD hl
   have htl:=(List.getElem?_eq_some_iff.1 hl).1
   have hPl:(l0++[f]).length=l0.length+1:=by simp
   have hl0:=h4 _ (List.mem_of_getElem? hl)
   simp only[List.length_append,List.length_singleton] at hl0
   have tP:trees ((l0++[f]).flatMap e8)=true:=ai dr _
   obtain⟨q',hq',_,_,hel'⟩:=hfv.q
   have hqv':=hu.pr q' (List.mem_of_getElem? hq')
   have hio:=xn hu f yA hfv.el
   have tio:trees [cS u,.agg (e8 f)]=true:=by
    have:=bR u
    simp only[trees,tree,cS,this,dr,Bool.and_self]
   generalize l0++[f]=P at hdf hPl tP hdl
   have hmu:=Gb (jt u.ms f) p hpv
   have tmu:trees [.agg (fV (jt u.ms f)),.agg (gz p)]=true:=by simp only[trees,tree,bP,cV,Bool.and_self]
   have hde:=wV u.ms hmb s.tb (jW (jt u.ms f) p) n xm hxm hs.tb yA fun h hh=>⟨by have:=(hs.hd h hh).1;omega,by have:=hs.ho h hh;omega⟩
   have tde:trees [.av (u.ms.flatMap cq) u.ms.length,.av (s.tb.flatMap cW) s.tb.length,I (jW (jt u.ms f) p),I n]=true:=by simp only[trees,tree,Bool.and_self]
   have hdm:=aE (f:=cq) (n:=3) fD hxm
   have hc18:=vq xm
   generalize jW (jt u.ms f) p=mu at *
   generalize dL u.ms s.tb mu n=dd at *
   obtain⟨i1,i2,i3,hisc,tis2⟩:∃ p ls n,fV (jt u.ms f)=[I p,.av ls n]∧trees ls=true:=⟨_,_,_,rfl,aP _⟩
   rw[hisc] at hio hmu tmu
   simp only[cS,fy,ints,aW,e8] at hio tio hdf
   obtain⟨p1,p2,p3,p4,ln,tpc⟩:=nI p
   rw[ln] at hmu tmu
   have w1:=ct (l0.length:Int) yA yA
   have w2:(((l0.length+1:Nat):Int)-1)=(l0.length:Int):=by omega
   have w3:(l0.length:Int)<(l0.length:Int)+1:=by omega
   generalize hcap:gI xm=cap at *
   have hK1:nk true dd cap=if dd=0 then 2 else 0:=by simp[nk]
   have hK2:nk false dd cap=if cap≤dd then (if cap=1 then 3 else 4) else 0:=by simp[nk]
   simp only[hC,jw,dv,aZ,ln,List.cons_append,List.nil_append]
   cases un with
   | true=>
    simp
    apply aJ
    simp[hC]
    refine T.cond (b:=false) yAf (T.skip ?_)
    simp
    apply au
    simp[hC,htl,hdl,dt]
    refine T.seq (T.rx ag follows [0,1,2,3,4,5,6,8,9,7,10,11] [(9,7)] yAb ?_)
    simp[hC,hPl,w1,w3,hdf]
    refine RX.call rfl rfl rfl rfl rfl tio hio ?_
    simp
    refine RX.call rfl rfl rfl rfl rfl tmu hmu ?_
    simp
    apply au
    simp[hC]
    refine cH tde hde ?_
    simp[hC]
    by_cases hd0:dd=0
    ·subst hd0
     have hK:nk true 0 cap=2:=by simp[nk]
     rcases hc18 with ⟨z1,z2,hc1⟩ | ⟨z1,hc8⟩
     ·repeat first
       | apply T.seq
       | (apply aO;simp[hC,hm,hdm,cq,z1,z2])
       | (refine T.cond (b:=false) ?_ ?_;(first | rfl | (simp[ev,assoc];done));simp)
       | (refine T.cond (b:=true) ?_ ?_;(first | rfl | (simp[ev,assoc,hm,hdm,cq,z1,z2];done));simp)
       | (apply T.skip;simp)
       | apply T.block
      apply T.ret
      apply aa.here
      simp[Tryz.results18,hK]
     ·by_cases z2:xm.size=0
      ·have z3:xm.re=true:=by
        cases hr:xm.re with
        | true=>rfl
        | false=>exact (z1 ⟨z2,hr⟩).elim
       repeat first
        | apply T.seq
        | (apply aO;simp[hC,hm,hdm,cq,z2,z3])
        | (refine T.cond (b:=false) ?_ ?_;(first | rfl | (simp[ev,assoc];done));simp)
        | (refine T.cond (b:=true) ?_ ?_;(first | rfl | (simp[ev,assoc,hm,hdm,cq,z2,z3];done));simp)
        | (apply T.skip;simp)
        | apply T.block
       apply T.ret
       apply aa.here
       simp[Tryz.results18,hK]
      ·repeat first
        | apply T.seq
        | (apply aO;simp[hC,hm,hdm,cq,z2])
        | (refine T.cond (b:=false) ?_ ?_;(first | rfl | (simp[ev,assoc];done));simp)
        | (refine T.cond (b:=true) ?_ ?_;(first | rfl | (simp[ev,assoc,hm,hdm,cq,z2];done));simp)
        | (apply T.skip;simp)
        | apply T.block
       apply T.ret
       apply aa.here
       simp[Tryz.results18,hK]
    ·have hK:nk true dd cap=0:=by simp[nk,hd0]
     rcases hc18 with ⟨z1,z2,hc1⟩ | ⟨z1,hc8⟩
     ·repeat first
       | apply T.seq
       | (apply aO;simp[hC,hm,hdm,cq,z1,z2,hd0])
       | (refine T.cond (b:=false) ?_ ?_;(first | rfl | (simp[ev,assoc];done));simp)
       | (refine T.cond (b:=true) ?_ ?_;(first | rfl | (simp[ev,assoc,hm,hdm,cq,z1,z2,hd0];done));simp)
       | (apply T.skip;simp)
       | apply T.block
      apply T.ret
      apply aa.here
      simp[Tryz.results18,hK]
     ·by_cases z2:xm.size=0
      ·have z3:xm.re=true:=by
        cases hr:xm.re with
        | true=>rfl
        | false=>exact (z1 ⟨z2,hr⟩).elim
       repeat first
        | apply T.seq
        | (apply aO;simp[hC,hm,hdm,cq,z2,z3,hd0])
        | (refine T.cond (b:=false) ?_ ?_;(first | rfl | (simp[ev,assoc];done));simp)
        | (refine T.cond (b:=true) ?_ ?_;(first | rfl | (simp[ev,assoc,hm,hdm,cq,z2,z3,hd0];done));simp)
        | (apply T.skip;simp)
        | apply T.block
       apply T.ret
       apply aa.here
       simp[Tryz.results18,hK]
      ·repeat first
        | apply T.seq
        | (apply aO;simp[hC,hm,hdm,cq,z2,hd0])
        | (refine T.cond (b:=false) ?_ ?_;(first | rfl | (simp[ev,assoc];done));simp)
        | (refine T.cond (b:=true) ?_ ?_;(first | rfl | (simp[ev,assoc,hm,hdm,cq,z2,hd0];done));simp)
        | (apply T.skip;simp)
        | apply T.block
       apply T.ret
       apply aa.here
       simp[Tryz.results18,hK]
   | false=>
    simp
    apply aJ
    simp[hC]
    refine T.cond (b:=false) yAf (T.skip ?_)
    simp
    apply au
    simp[hC,htl,hdl,dt]
    refine T.seq (T.rx ag follows [0,1,2,3,4,5,6,8,9,7,10,11] [(9,7)] yAb ?_)
    simp[hC,hPl,w1,w3,hdf]
    refine RX.call rfl rfl rfl rfl rfl tio hio ?_
    simp
    refine RX.call rfl rfl rfl rfl rfl tmu hmu ?_
    simp
    apply au
    simp[hC]
    refine cH tde hde ?_
    simp[hC]
    rcases hc18 with ⟨z1,z2,hc1⟩ | ⟨z1,hc8⟩
    ·subst hc1
     by_cases hd0:dd=0
     ·subst hd0
      have hK:nk false 0 1=0:=by simp[nk]
      repeat first
       | apply T.seq
       | (apply aO;simp[hC,hm,hdm,cq,z1,z2])
       | (refine T.cond (b:=false) ?_ ?_;(first | rfl | (simp[ev,assoc,hm,hdm,cq,z1,z2];done));simp)
       | (refine T.cond (b:=true) ?_ ?_;(first | rfl | (simp[ev,assoc,hm,hdm,cq,z1,z2];done));simp)
       | (apply T.skip;simp)
       | apply T.block
      apply T.ret
      apply aa.here
      simp[Tryz.results18,hK]
     ·have hd1:0<dd:=by omega
      have hK:nk false dd 1=3:=by simp[nk];omega
      repeat first
       | apply T.seq
       | (apply aO;simp[hC,hm,hdm,cq,z1,z2,hd1])
       | (refine T.cond (b:=false) ?_ ?_;(first | rfl | (simp[ev,assoc];done));simp)
       | (refine T.cond (b:=true) ?_ ?_;(first | rfl | (simp[ev,assoc,hm,hdm,cq,z1,z2,hd1];done));simp)
       | (apply T.skip;simp)
       | apply T.block
      apply T.ret
      apply aa.here
      simp[Tryz.results18,hK]
    ·subst hc8
     by_cases hd8:8≤dd
     ·have hd1:(8:Int)≤(dd:Int):=by omega
      have hK:nk false dd 8=4:=by simp[nk];omega
      by_cases z2:xm.size=0
      ·have z3:xm.re=true:=by
        cases hr:xm.re with
        | true=>rfl
        | false=>exact (z1 ⟨z2,hr⟩).elim
       repeat first
        | apply T.seq
        | (apply aO;simp[hC,hm,hdm,cq,z2,z3,hd1])
        | (refine T.cond (b:=false) ?_ ?_;(first | rfl | (simp[ev,assoc];done));simp)
        | (refine T.cond (b:=true) ?_ ?_;(first | rfl | (simp[ev,assoc,hm,hdm,cq,z2,z3,hd1];done));simp)
        | (apply T.skip;simp)
        | apply T.block
       apply T.ret
       apply aa.here
       simp[Tryz.results18,hK]
      ·repeat first
        | apply T.seq
        | (apply aO;simp[hC,hm,hdm,cq,z2,hd1])
        | (refine T.cond (b:=false) ?_ ?_;(first | rfl | (simp[ev,assoc];done));simp)
        | (refine T.cond (b:=true) ?_ ?_;(first | rfl | (simp[ev,assoc,hm,hdm,cq,z2,hd1];done));simp)
        | (apply T.skip;simp)
        | apply T.block
       apply T.ret
       apply aa.here
       simp[Tryz.results18,hK]
     ·have hd1:¬ (8:Int)≤(dd:Int):=by omega
      have hK:nk false dd 8=0:=by simp[nk];omega
      by_cases z2:xm.size=0
      ·have z3:xm.re=true:=by
        cases hr:xm.re with
        | true=>rfl
        | false=>exact (z1 ⟨z2,hr⟩).elim
       repeat first
        | apply T.seq
        | (apply aO;simp[hC,hm,hdm,cq,z2,z3,hd1])
        | (refine T.cond (b:=false) ?_ ?_;(first | rfl | (simp[ev,assoc,hm,hdm,cq,z2,z3,hd1];done));simp)
        | (refine T.cond (b:=true) ?_ ?_;(first | rfl | (simp[ev,assoc,hm,hdm,cq,z2,z3,hd1];done));simp)
        | (apply T.skip;simp)
        | apply T.block
       apply T.ret
       apply aa.here
       simp[Tryz.results18,hK]
      ·repeat first
        | apply T.seq
        | (apply aO;simp[hC,hm,hdm,cq,z2,hd1])
        | (refine T.cond (b:=false) ?_ ?_;(first | rfl | (simp[ev,assoc,hm,hdm,cq,z2,hd1];done));simp)
        | (refine T.cond (b:=true) ?_ ?_;(first | rfl | (simp[ev,assoc,hm,hdm,cq,z2,hd1];done));simp)
        | (apply T.skip;simp)
        | apply T.block
       apply T.ret
       apply aa.here
       simp[Tryz.results18,hK]
end Go.Proofs.YtmnglemlimfpbaaGreat
namespace Go.Can
mutual
def nj:CV→CV
 | .ah=>.av [] 0
 | .agg cs=>.agg (pB cs)
 | .av cs n=>.av (pB cs) n
 | .cr cs=>.cr (pB cs)
 | .int k n=>.int k n
 | .bool b=>.bool b
 | .str s=>.str s
 | .cM cs=>.cM cs
 | .bm=>.bm
 | .fn f cs=>.fn f cs
 | .iface f cs=>.iface f cs
 | .cw=>.cw
 | .iter k s p=>.iter k s p
 | .mp k es=>.mp k es
 | .bx o f n=>.bx o f n
 | .aw o f=>.aw o f
 | .any=>.any
def pB:List CV→List CV
 | []=>[]
 | c::cs=>nj c::pB cs
end
theorem CO (c:CV):one (nj c)=one c:=by cases c<;>simp only[nj,one]
theorem zS:∀ cs:List CV,(pB cs).all one=cs.all one
 | []=>by simp only[pB]
 | c::cs=>by simp only[pB,List.all_cons,CO,zS cs]
theorem F8 {cs:List CV}(h:cs=[]):pB cs=[]:=by rw[h,pB]
mutual
theorem bY.nj {w:World}{F:Nat→Prop}:∀ (c:CV) (v:Value),bY w F c v→bY w F (nj c) v
 | .ah,v,h=>by
  simp only[bY] at h
  subst h
  simp only[Can.nj,bY]
  exact⟨none,0,rfl,Nat.le_refl _,Nat.zero_le _,.inl ⟨trivial,trivial⟩⟩
 | .agg cs,v,h=>by
  simp only[bY] at h
  obtain⟨vs,h1,h2,h3⟩:=h
  simp only[Can.nj,bY]
  exact⟨vs,h1,bJ.nj cs vs h2,by rw[zS];exact h3⟩
 | .av cs n,v,h=>by
  simp only[bY] at h
  obtain⟨A,cap,h1,h2,h3,h4⟩:=h
  simp only[Can.nj,bY]
  refine⟨A,cap,h1,h2,h3,?_⟩
  rcases h4 with ⟨h4,h5⟩ | ⟨ad,h4,h5⟩
  ·exact .inl ⟨h4,F8 h5⟩
  ·exact .inr ⟨ad,h4,fw.nj cs ad h5⟩
 | .cr cs,v,h=>by
  simp only[bY] at h
  obtain⟨vs,h1,h2⟩:=h
  simp only[Can.nj,bY]
  exact⟨vs,h1,bJ.nj cs vs h2⟩
 | .int _ _,_,h=>by simpa only[Can.nj] using h
 | .bool _,_,h=>by simpa only[Can.nj] using h
 | .str _,_,h=>by simpa only[Can.nj] using h
 | .cM _,_,h=>by simpa only[Can.nj] using h
 | .bm,_,h=>by simpa only[Can.nj] using h
 | .fn _ _,_,h=>by simpa only[Can.nj] using h
 | .iface _ _,_,h=>by simpa only[Can.nj] using h
 | .cw,_,h=>by simpa only[Can.nj] using h
 | .iter _ _ _,_,h=>by simpa only[Can.nj] using h
 | .mp _ _,_,h=>by simpa only[Can.nj] using h
 | .bx _ _ _,_,h=>by simpa only[Can.nj] using h
 | .aw _ _,_,h=>by simpa only[Can.nj] using h
 | .any,_,h=>by simpa only[Can.nj] using h
theorem bJ.nj {w:World}{F:Nat→Prop}:∀ (cs:List CV) (vs:List Value),bJ w F cs vs→bJ w F (pB cs) vs
 | [],_,h=>by simpa only[pB] using h
 | c::cs,vs,h=>by
  simp only[bJ] at h
  obtain⟨v,r,h1,h2,h3⟩:=h
  simp only[pB,bJ]
  exact⟨v,r,h1,bY.nj c v h2,bJ.nj cs r h3⟩
theorem fw.nj {w:World}{F:Nat→Prop}:∀ (cs:List CV) (ad:Addr),fw w F cs ad→fw w F (pB cs) ad
 | [],_,_=>by simp only[pB,fw]
 | c::cs,ad,h=>by
  simp only[fw] at h
  obtain⟨⟨u,h1,h2,h3⟩,h4,h5⟩:=h
  simp only[pB,fw]
  exact⟨⟨u,h1,h2,bY.nj c u h3⟩,by rw[CO];exact h4,fw.nj cs _ h5⟩
end
theorem ae.nj {P:Program}{f:FuncId}{args:List CV}{r:CV}(h:ae P f args r):ae P f args (Can.nj r):=
 ⟨h.1,fun F vs w hF hv=>(h.2 F vs w hF hv).mono fun _e _w' ⟨v,h1,h2,h3⟩=>⟨v,h1,h2,bY.nj r v h3⟩⟩
end Go.Can
namespace Go.Proofs.YtmnglemlimfpbaaGreat
open Go.Can Go.aX
def qF:Un:=⟨[],[⟨⟨#[97]⟩,false,0⟩],[⟨⟨#[109,97,105,110]⟩,0,0,0,[.call false 1 [] [⟨false,0,none⟩],.ret]⟩,⟨⟨#[102]⟩,0,1,0,[.lock false ⟨true,0,none⟩,.lock false ⟨true,0,none⟩,.ret]⟩],0⟩
theorem xL:l9 qF:=by
 refine⟨by decide,by decide,by decide,(fun g hg=>by cases hg),?_,rfl,?_,?_,?_⟩
 ·intro m hm
  simp only[qF,List.mem_cons,List.not_mem_nil,or_false] at hm
  subst hm
  simp
 ·intro q hq
  simp only[qF,List.getElem?_cons_zero,Option.some.injEq] at hq
  subst hq
  simp
 ·intro q hq
  simp only[qF,List.mem_cons,List.not_mem_nil,or_false] at hq
  rcases hq with rfl | rfl<;>simp
 ·intro q hq
  simp only[qF,List.mem_cons,List.not_mem_nil,or_false] at hq
  rcases hq with rfl | rfl
  ·refine⟨⟨[.call false 1 [] [⟨false,0,none⟩]],rfl⟩,fun i hi=>?_⟩
   simp only[List.mem_cons,List.not_mem_nil,or_false] at hi
   rcases hi with rfl | rfl
   ·exact⟨rfl,(fun e he=>by cases he),fun p hp=>by rw[List.mem_singleton.1 hp];exact .inr ⟨rfl,_,rfl,.inl ⟨rfl,rfl⟩⟩⟩
   ·trivial
  ·refine⟨⟨[.lock false ⟨true,0,none⟩,.lock false ⟨true,0,none⟩],rfl⟩,fun i hi=>?_⟩
   simp only[List.mem_cons,List.not_mem_nil,or_false] at hi
   rcases hi with rfl | rfl | rfl
   ·exact .inl ⟨rfl,by decide,rfl⟩
   ·exact .inl ⟨rfl,by decide,rfl⟩
   ·trivial
theorem Lr:ae Tryz.prog 35 Bt (.cr [cS qF,I 0,I 0,I 0]):=by
 have h:=J7.nj
 have e:nj E7=.cr [cS qF,I 0,I 0,I 0]:=by rfl
 rwa [e] at h
def Ls:Sy:=q8 qF [0,0] (iK qF)
theorem JU:pW qF 2 Ls:=BH xL [0,0] (BV xL)
theorem as_pr:g9 qF Ls (0:Int) 0=some (1,[(0,1),(1,1)]):=by kernel_rfl
theorem as_ev:Ax qF Ls (0:Int)=(3,0):=by kernel_rfl
theorem I3 {C:Cx}{s:St}{o:Oper}{x y:Operand}{q:TypeId}{p:Nat×Nat}(hd:aU C.nt o.dst=true)(ho:o.op=.binOp .eql 103 x y q)(hx:ev s x=some (.agg (pV p)))(hy:ev s y=some (.agg (pV p)))(h1:p.1≤1000000)(h2:p.2≤1000000):pQ Tryz.prog C o s (s.put o.dst (.bool true)):=by
 have hc:kg (.agg (pV p))=some (LV p):=rfl
 have hk:pz 2 (LV p)=true:=by
  simp[pz,LV,wI,Aj]
  omega
 have hv:y6 (LV p) (LV p)=true:=by simp[LV,y6,tv,zh]
 refine vf ptEI hd ?_
 simp only[Ay,ho,hx,hy,hc,K4,if_true,hk,and_self,hv]
set_option maxRecDepth 100000 in
theorem as_ok:ae Tryz.prog 17 [] (.bool true):=by
 obtain⟨ga,gb,hg1,hg2,tga,tgb⟩:∃ ga gb:List CV,E6=.cr [.agg [.ah,.av ga 1,.av gb 2],I 72,I 0]∧Bt=[.agg [.ah,.av ga 1,.av gb 2]]∧trees ga=true∧trees gb=true:=⟨_,_,rfl,rfl,rfl,rfl⟩
 have hte:=J6
 have hlo:=Lr
 rw[hg1] at hte
 rw[hg2] at hlo
 have tpg:trees [.agg [.ah,.av ga 1,.av gb 2]]=true:=by simp only[trees,tree,Bool.and_self]
 have hcl:=wP qF xL
 have hru:=FJ xL [0,0] yAa
 have hpr:=zQ xL yA JU 0 0 yAe
 have hev:=wU xL yA JU 0
 rw[as_pr] at hpr
 rw[as_ev] at hev
 change ae Tryz.prog 37 [cS qF,ints [0,0]] (.cr [cf Ls,I (runN qF [0,0] (iK qF))]) at hru
 generalize runN qF [0,0] (iK qF)=rn at hru
 have tun:=bR qF
 have tis:=ai bP (ch qF).is
 have tcs:=gj (ch qF).calls
 have trs:=aP (ch qF).roots
 have ta1:trees [cS qF]=true:=by simp only[trees,tree,cS,tun,Bool.and_self]
 have ta2:trees [cS qF,ints [0,0]]=true:=by simp only[trees,tree,cS,tun,bQ,Bool.and_self]
 have ta3:trees [cS qF,mU (ch qF),cf Ls,I 0,I 0]=true:=by
  simp only[trees,tree,cS,tun,mU,oW,aW,cf,ed,ints,Bool.and_self]
 have ta4:trees [cS qF,mU (ch qF),cf Ls,I 0]=true:=by
  simp only[trees,tree,cS,tun,mU,oW,aW,cf,ed,ints,Bool.and_self]
 simp only[Hk,Hl] at hpr
 generalize qF=u at *
 generalize Ls=y at *
 simp only[cS,fy,mU,oW,cf,ed,ints,aW] at hlo hcl hru hpr hev ta1 ta2 ta3 ta4
 refine ae.aB ag Tryz.func17 rfl yAb (by simp[Tryz.ntmps17]) rfl fun C hC hC0=>?_
 rw[Tryz.ntmps17] at hC
 apply au
 simp[hC]
 refine T.seq (T.region (TL.some ag 1 ?_))
 simp[hC]
 refine lU rfl (CZ ag yAc rfl rfl yA rfl rfl rfl rfl) ?_
 simp[GV]
 refine cH rfl hte ?_
 simp[hC]
 refine T.le (Le.trim [0,1] [1] 2 yBc yA) ?_
 simp
 apply au
 simp[hC]
 refine cH tpg hlo ?_
 simp[hC]
 apply au
 simp[hC]
 refine cH ta1 hcl ?_
 simp[hC]
 refine T.seq (T.region (TL.some ag 2 ?_))
 simp[hC,aI]
 refine TL.le (Le.cG (o:=4) rfl rfl) ?_
 simp
 refine cH ta2 hru ?_
 simp[hC]
 apply au
 simp[hC]
 refine cH ta3 hpr ?_
 simp[hC,pV]
 apply au
 simp[hC]
 refine cH ta4 hev ?_
 simp[hC]
 refine T.seq (T.region (TL.some ag 18 ?_))
 simp[hC]
 refine lU rfl (I3 (p:=(1,1)) yAc rfl (by simp[pV]) (by simp[pV]) yAa yAa) (TL.go' ag ?_)
 simp[hC]
 apply T.ret
 apply aa.here
 simp[Tryz.results17]
theorem ME {u:Un}(hu:l9 u){k:Nat}(hk:k≤1000){s:Sy}(hs:pW u k s){t:Int}{m:Nat}{d:Nat}{l:List (Nat×Nat)}(h:g9 u s t m=some (d,l)):l.length≤1000000∧∀ p∈l,p.1≤1000000∧p.2≤1000000:=by
 obtain⟨_,_,_,h4,h5⟩:=hs.bounds hu hk
 unfold g9 at h
 split at h
 ·cases h
 ·split at h
  ·cases h
  ·rename_i fs hfs
   split at h
   ·cases h
   ·simp only[Option.some.injEq,Prod.mk.injEq] at h
    obtain⟨_,rfl⟩:=h
    have hm:=List.mem_of_getElem? hfs
    refine⟨by rw[List.length_map];exact h4 _ hm,fun p hp=>?_⟩
    rw[List.mem_map] at hp
    obtain⟨f,hf,rfl⟩:=hp
    have h6:=IV (hs.fr _ hm f hf).ic
    have h7:=(I9 hu).1
    have h8:=(h5 _ hm f hf).2
    exact⟨by simp only[oQ];omega,h8⟩
theorem MC {u:Un}{s:Sy}{j m:Nat}(hj:j<s.ts.length)(hm:m<u.ms.length):∃ d l,g9 u s j m=some (d,l):=by
 simp[g9,List.getElem?_eq_getElem hj,List.getElem?_eq_getElem hm]
theorem MB (x:Int)(n:Nat)(h:0<n):∃ i:Nat,x % (n:Int)=i∧i<n:=by
 have h1:=Int.emod_nonneg x (show (n:Int)≠0 by omega)
 have h2:=Int.emod_lt_of_pos x (show (0:Int)<n by omega)
 exact⟨(x % n).toNat,by omega,by omega⟩
set_option maxHeartbeats 4000000 in
theorem c3_ok (l pk:List Int)(hl:l.length≤9223372036854775807)(hpk:pk.length≤9223372036854775807)(t m:Int)(raw:Bool):ae Tryz.prog 3 [ints l,ints pk,I t,I m,.bool raw] (.bool true):=by
 have hun:=HV l hl
 have huv:=z4 l
 generalize lI (Bj l)=u at hun huv
 have hst:=Fv huv pk hpk
 have hyv:=BH huv (cK pk 60) (BV huv)
 have hk:0+(cK pk 60).length≤1000:=by rw[gB];omega
 generalize q8 u (cK pk 60) (iK u)=y at hst hyv
 generalize 0+(cK pk 60).length=k at hyv hk
 have hnm:=huv.nm
 have hth:=DC y hyv.ts.1 (by have:=hyv.ts.2;omega) t
 have hmu:=MD u yA yA m
 obtain⟨mi,hmi,hmil⟩:=MB m u.ms.length yA
 obtain⟨tj,htj,htjl⟩:=MB t y.ts.length (by have:=hyv.ts.1;omega)
 rw[hmi] at hmu
 rw[htj] at hth
 have haw:=as_ok
 have hpp:=fun t=>zQ huv hk hyv t mi hmil
 have hrp:=fun t=>zE huv hk hyv t mi hmil
 have hps:=MC (u:=u) (s:=y) htjl hmil
 have hpb:=fun (t:Int) d l h=>ME huv hk hyv (t:=t) (m:=mi) (d:=d) (l:=l) h
 have tun:=bR u
 have tis:=ai bP (ch u).is
 have tcs:=gj (ch u).calls
 have trs:=aP (ch u).roots
 obtain⟨t1,t2,t3⟩:=gY (Bj l)
 have ta1:trees [ints l]=true:=by simp only[trees,bQ,Bool.and_self]
 have ta2:trees [cS u,ints pk]=true:=by simp only[trees,tree,cS,tun,bQ,Bool.and_self]
 have ta3:trees [cf y,I t]=true:=by simp only[trees,tree,cf,ed,ints,Bool.and_self]
 have ta6:trees [cS u,I m]=true:=by simp only[trees,tree,cS,tun,Bool.and_self]
 have ta4:∀ t:Int,trees [cS u,mU (ch u),cf y,I t,I mi]=true:=fun t=>by
  simp only[trees,tree,cS,tun,mU,oW,aW,cf,ed,ints,Bool.and_self]
 generalize Bj l=pg at hun t1 t2 t3
 cases raw with
 | true=>
  have hpp':=hpp t
  have hrp':=hrp t
  have ta5:=ta4 t
  have hpb':=hpb t
  obtain⟨d,P,ok,hcf,hsm⟩:∃ (d:Nat) (P:List (Nat×Nat)) (ok:Bool),Hk (g9 u y t mi)=.cr [.agg (Hl d P),.bool ok]∧ae Tryz.prog 16 [.agg (Hl d P),.agg (Hl d P)] (.bool true):=by
   cases ho:g9 u y t mi with
   | none=>exact⟨0,[],false,rfl,MA 0 [] yAa (fun p hp=>by cases hp)⟩
   | some x=>
    obtain⟨b1,b2⟩:=hpb' x.1 x.2 ho
    exact⟨x.1,x.2,true,rfl,MA x.1 x.2 b1 b2⟩
  rw[hcf] at hpp' hrp'
  have tP:trees (P.flatMap pV)=true:=ai jR _
  have ta7:trees [.agg (Hl d P),.agg (Hl d P)]=true:=by simp only[trees,tree,Hl,Bool.and_self]
  refine ae.aB ag Tryz.func3 rfl yAb (by simp[Tryz.ntmps3]) rfl fun C hC hC0=>?_
  rw[Tryz.ntmps3] at hC
  simp only[wT,eH,cS,fy,mU,oW,cf,ed,ints,aW,Hl] at *
  apply au
  simp[hC]
  apply au
  simp[hC]
  refine cH ta1 hun ?_
  simp[hC]
  apply au
  simp[hC]
  refine cH ta2 hst ?_
  simp[hC]
  apply aJ
  simp[hC]
  refine e9 ?_
  simp
  apply au
  simp[hC]
  refine cH ta6 hmu ?_
  simp[hC]
  apply au
  simp[hC]
  refine cH ta5 hpp' ?_
  simp[hC]
  apply au
  simp[hC]
  refine cH ta5 hrp' ?_
  simp[hC]
  apply au
  simp[hC]
  refine TL.cC yAc rfl rfl rfl rfl (bF.of rfl ta7 hsm) (TL.go' ag ?_)
  simp[hC]
  refine TL.cC yAc rfl rfl rfl rfl (bF.of rfl yAd (haw)) (TL.go' ag ?_)
  simp[hC]
  apply T.ret
  apply aa.here
  simp[Tryz.results3]
 | false=>
  obtain⟨d,P,ho⟩:=hps
  obtain⟨b1,b2⟩:=hpb tj d P ho
  have hsm:=MA d P b1 b2
  have hpp':=hpp tj
  have hrp':=hrp tj
  have ta5:=ta4 tj
  rw[ho] at hpp' hrp'
  have tP:trees (P.flatMap pV)=true:=ai jR _
  have ta7:trees [.agg (Hl d P),.agg (Hl d P)]=true:=by simp only[trees,tree,Hl,Bool.and_self]
  refine ae.aB ag Tryz.func3 rfl yAb (by simp[Tryz.ntmps3]) rfl fun C hC hC0=>?_
  rw[Tryz.ntmps3] at hC
  simp only[wT,eH,cS,fy,mU,oW,cf,ed,ints,aW,Hk,Hl] at *
  apply au
  simp[hC]
  apply au
  simp[hC]
  refine cH ta1 hun ?_
  simp[hC]
  apply au
  simp[hC]
  refine cH ta2 hst ?_
  simp[hC]
  apply aJ
  simp[hC]
  refine dN ?_
  simp
  apply aO
  simp[hC]
  refine cH ta3 hth ?_
  simp[hC]
  apply au
  simp[hC]
  refine cH ta6 hmu ?_
  simp[hC]
  apply au
  simp[hC]
  refine cH ta5 hpp' ?_
  simp[hC]
  apply au
  simp[hC]
  refine cH ta5 hrp' ?_
  simp[hC]
  apply au
  simp[hC]
  refine TL.cC yAc rfl rfl rfl rfl (bF.of rfl ta7 hsm) (TL.go' ag ?_)
  simp[hC]
  refine TL.cC yAc rfl rfl rfl rfl (bF.of rfl yAd (haw)) (TL.go' ag ?_)
  simp[hC]
  apply T.ret
  apply aa.here
  simp[Tryz.results3]
end Go.Proofs.YtmnglemlimfpbaaGreat
