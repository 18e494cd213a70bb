/- The frame of a call. -/
import Derived.Test.YtmnglemlimfpbaaGreatZ43
namespace Go.Proofs.YtmnglemlimfpbaaGreat
open Go.Can Go.aX
def gF (gs ls:List Int):List Ex→List Int×Nat
 | []=>([],0)
 | e::r=>if (bI gs ls e).2=0 then ((bI gs ls e).1::(gF gs ls r).1,(gF gs ls r).2) else ([],(bI gs ls e).2)
def gG (u:Un)(s:Sy)(t:Int):List Pl→List Nat×Nat
 | []=>([],0)
 | p::r=>if (bD u s t p).2=0 then ((bD u s t p).1.toNat::(gG u s t r).1,(gG u s t r).2) else ([],(bD u s t p).2)
def gK (u:Un)(s:Sy)(t:Int)(f:Fr)(tg n:Nat)(es:List Ex)(ps:List Pl):Fr×Nat:=
 if (gF s.gs f.az es).2=0 then
  (if (gG u s t ps).2=0 then (⟨tg,0,(gF s.gs f.az es).1++List.replicate (n-es.length) 0,(gG u s t ps).1⟩,0)
   else (⟨tg,0,(gF s.gs f.az es).1,(gG u s t ps).1⟩,(gG u s t ps).2))
 else (⟨tg,0,(gF s.gs f.az es).1,[]⟩,(gF s.gs f.az es).2)
def sK (u:Un)(s:Sy)(f:Fr)(ko:Int)(tg:Nat)(es:List Ex)(ps:List Pl):List (Nat×Ob):=
 [(4,⟨100,0,[I f.proc,I f.pc,.av (f.az.map bM) f.az.length,.av (f.ck.map fun n:Nat=>I n) f.ck.length]⟩),(3,⟨100,0,[I 0,I 0,.ah,.ah]⟩),
  (2,⟨69,0,[I ko,I tg,.bool false,I 0,I 0,.str eS,.av [] 0,.bool false,I 0,.av [] 0,.av (es.flatMap aZ) es.length,.av (ps.flatMap gz) ps.length]⟩),
  (1,⟨40,0,[.av (s.gs.map bM) s.gs.length,.av (s.tb.flatMap cW) s.tb.length,.av (s.ts.flatMap dt) s.ts.length,I s.fault]⟩),
  (0,⟨30,0,[.av (u.gs.map bM) u.gs.length,.av (u.ms.flatMap cq) u.ms.length,.av (u.ps.flatMap oR) u.ps.length,I u.main]⟩)]
def AA (t:Int):List (Nat×CV):=[(12,.aw 5 0),(10,.aw 4 0),(9,I 0),(8,.aw 3 0),(7,.aw 2 0),(5,.aw 1 0),(4,.aw 0 0),(2,I t)]
def J98 (u:Un)(s:Sy)(t:Int)(f:Fr)(ko:Int)(tg:Nat)(es:List Ex)(ps:List Pl)(n:Nat)(σ:St):Prop:=∃ (i:Nat) (G:List Int),n=es.length-i∧i≤es.length∧G.length=i∧
 gF s.gs f.az es=(G++(gF s.gs f.az (es.drop i)).1,(gF s.gs f.az (es.drop i)).2)∧
 σ=⟨(13,I i)::AA t,(6,⟨3,1,G.map bM⟩)::(5,⟨100,0,[I tg,I 0,.bx 6 0 i,.ah]⟩)::sK u s f ko tg es ps,7⟩
def J98b (u:Un)(s:Sy)(t:Int)(f:Fr)(ko:Int)(tg:Nat)(es:List Ex)(ps:List Pl)(G:List Int)(n:Nat)(σ:St):Prop:=∃ (k:Nat) (L:List Nat),n=ps.length-k∧k≤ps.length∧L.length=k∧
 gG u s t ps=(L++(gG u s t (ps.drop k)).1,(gG u s t (ps.drop k)).2)∧
 σ=⟨(16,I k)::AA t,(7,⟨3,1,L.map fun n:Nat=>I n⟩)::(6,⟨3,1,G.map bM⟩)::(5,⟨100,0,[I tg,I 0,.bx 6 0 es.length,.bx 7 0 k]⟩)::sK u s f ko tg es ps,8⟩
def J98c (u:Un)(s:Sy)(f:Fr)(ko:Int)(tg m:Nat)(es:List Ex)(ps:List Pl)(G:List Int)(L:List Nat)(n:Nat)(σ:St):Prop:=∃ j:Nat,n=m-es.length-j∧j≤m-es.length∧
 σ=⟨[(12,.aw 5 0),(9,I 0),(8,.aw 3 0),(7,.aw 2 0),(4,.aw 0 0)],(7,⟨3,1,L.map fun n:Nat=>I n⟩)::(6,⟨3,1,G.map bM++List.replicate j (I 0)⟩)::(5,⟨100,0,[I tg,I 0,.bx 6 0 (es.length+j),.bx 7 0 ps.length]⟩)::sK u s f ko tg es ps,8⟩
theorem pN (i m:Nat)(h:i≠m)(L:List Nat):∀ (n j:Nat),l7 (List.replicate n i++L) m j=l7 L m (j+n)
 | 0,j=>by simp
 | n+1,j=>by
  rw[List.replicate_succ,List.cons_append,l7,if_neg h,pN i m h L n (j+1)]
  congr 1
  omega
theorem xJ (m:Nat):∀ (ms:List Mx) (i j:Nat) (x:Mx),i≤m→ms[m-i]? = some x→∃ k:Nat,l7 (br ms i) m j=k∧k+max x.size 1≤j+(br ms i).length
 | [],i,j,x,_,h=>by simp at h
 | y::r,i,j,x,hi,h=>by
  rw[br]
  by_cases he:i=m
  ·subst he
   simp at h
   subst h
   refine⟨j,?_,by simp⟩
   obtain⟨n,hn⟩:∃ n,max y.size 1=n+1:=⟨max y.size 1-1,by omega⟩
   rw[hn,List.replicate_succ,List.cons_append,l7,if_pos rfl]
  ·rw[pN i m he]
   have h2:r[m-(i+1)]? = some x:=by
    have:m-i=(m-(i+1))+1:=by omega
    rw[this,List.getElem?_cons_succ] at h
    exact h
   obtain⟨k,h3,h4⟩:=xJ m r (i+1) (j+max y.size 1) x yA h2
   exact⟨k,h3,by simp;omega⟩
theorem jK (u:Un)(s:Sy)(t:Int)(p:Pl)(hm:xN u.ms)(f:Fr)(ht:cT s t=some f)(hv:vF u.ms s.gs.length f.az.length f.ck.length p):∃ n:Nat,(bD u s t p).1=n:=by
 unfold bD
 rw[ht]
 by_cases hp:p.param=true
 ·exact⟨f.ck.getD p.index 0,by simp only[if_pos hp]⟩
 simp only[if_neg hp]
 split
 ·rename_i hf
  rcases hv with h | ⟨_,m,hmm,h⟩
  ·exact (hp h.1).elim
  obtain⟨k,hk,hkl⟩:=xJ p.index u.ms 0 0 m yA (by simpa using hmm)
  have hol:=fB u.ms 0 hm.2
  have hm1:=hm.1
  obtain⟨j,hj,hjl⟩:∃ j:Nat,(gC u.ms s.gs f.az p).1=j∧j≤max m.size 1:=by
   unfold gC at hf ⊢
   rcases h with ⟨h,_⟩ | ⟨e,h,_⟩
   ·rw[h]
    exact⟨0,rfl,by omega⟩
   ·rw[h] at hf ⊢
    simp only[hmm] at hf ⊢
    split
    ·rename_i h1
     rw[if_pos h1] at hf
     split
     ·exact⟨0,rfl,by omega⟩
     ·rename_i h2
      exact⟨(bI s.gs f.az e).1.toNat,by simp only;omega,by omega⟩
    ·exact⟨0,rfl,by omega⟩
  refine⟨k+j,?_⟩
  rw[show xH u.ms p.index=(k:Int) from hk,hj,wr,ct _ yA yA]
  omega
 ·exact⟨0,rfl⟩
set_option maxHeartbeats 2000000 in
set_option maxRecDepth 100000 in
theorem pt (u:Un)(s:Sy)(t:Int)(f:Fr)(go:Bool)(tg:Nat)(q:Pr)(es:List Ex)(ps:List Pl)(hm:xN u.ms)(hb:s.ts.length≤1000000∧∀ l∈s.ts,l.length≤1000000)(ht:cT s t=some f)
  (hq:u.ps[tg]? = some q) (he:∀ e∈es,vH s.gs.length f.az.length e) (hel:es.length≤1000) (hp:∀ p∈ps,p.index≤1000000∧vF u.ms s.gs.length f.az.length f.ck.length p) (hpl:ps.length≤1000) (hq1:q.ints=es.length) (hq2:q.locals≤1000000) :
  ae Tryz.prog 98 [cS u,cf s,I t,.agg (dv (.call go tg es ps))] (.cr [.agg (e8 (gK u s t f tg q.locals es ps).1),I (gK u s t f tg q.locals es ps).2]):=by
 have htp:=Bx s t hb
 rw[ht] at htp
 have targ:trees [cf s,I t]=true:=by simp only[trees,tree,cf,ed,ints,Bool.and_self]
 have htr:tree (.cr [.agg (e8 (gK u s t f tg q.locals es ps).1),I (gK u s t f tg q.locals es ps).2])=true:=by
  simp only[tree,trees,dr,Bool.and_self]
 refine ae.aB ag Tryz.func98 rfl yAb (by simp[Tryz.ntmps98]) htr fun C hC hC0=>?_
 rw[Tryz.ntmps98] at hC
 simp only[cf,ed,cS,fy,ints] at *
 generalize hKo:(if go=true then (3:Int) else 2)=ko
 simp only[dv,aZ,oz,List.cons_append,List.nil_append]
 apply au
 simp[hC]
 apply au
 simp[hC]
 refine cH targ htp ?_
 simp[hC,sC,e8]
 apply au
 simp[hC]
 apply aJ
 simp[hC]
 apply T.block
 have tes:trees (es.flatMap aZ)=true:=ai aN es
 have tps:trees (ps.flatMap gz)=true:=ai cV ps
 have tG:trees (s.gs.map bM)=true:=aM s.gs
 have tT:trees (s.tb.flatMap cW)=true:=ai bV _
 have tS:trees (s.ts.flatMap dt)=true:=ai a9 _
 have tV:trees (f.az.map bM)=true:=aM f.az
 have tE:=aP f.ck
 have tug:trees (u.gs.map bM)=true:=aM u.gs
 have tum:=dp u.ms
 have cr:trees (u.ps.flatMap oR)=true:=ai gN u.ps
 refine T.aL (J98 u s t f ko tg es ps) (n:=es.length) ?_ ?_
 ·refine aa.le (Le.kz 5 2 3 1 rfl rfl) ?_
  simp
  refine aa.trim [13,12,10,9,8,7,5,4,2] [6,5,4,3,2,1,0] 7 (by simp[-List.all_eq_true,-List.all_flatMap,-List.all_map,ints,aW,a7]) yA ⟨0,[],by omega,by omega,rfl,by simp,?_⟩
  simp[AA,sK,ints,aW,hKo]
 ·rintro n σ ⟨i,G,rfl,hi,hGl,hev,rfl⟩
  simp only[AA,sK]
  by_cases hil:i<es.length
  ·obtain⟨e,hei⟩:∃ e,es[i]? = some e:=⟨_,List.getElem?_eq_getElem hil⟩
   have hxe:=mw s.gs f.az e (he e (List.mem_of_getElem? hei))
   have hde:=aE (f:=aZ) (n:=4) bk hei
   have hdr:es.drop i=e::es.drop (i+1):=by rw[List.drop_eq_getElem_cons hil];simp[(List.getElem?_eq_some_iff.1 hei).2]
   have wi:=ct ((i:Int)+1) yA yA
   have b1:(i+1)*8≤140737488355328:=by omega
   have targ2:trees [.agg (aZ e),ints s.gs,ints f.az]=true:=by simp only[trees,tree,aN,bQ,Bool.and_self]
   simp only[ints] at hxe targ2
   rw[hdr] at hev
   simp only[gF] at hev
   generalize bI s.gs f.az e=va at hxe hev
   obtain⟨v,fa⟩:=va
   apply aJ
   simp[hC,hil]
   refine iv ?_
   simp
   apply fq
   refine T.seq (T.rx ag follows [0,1,2,3,4,5,6,7,8,9,10,11,12,13,14] [] yAb ?_)
   simp[hC,hil,hde]
   refine RX.call rfl rfl rfl rfl rfl targ2 hxe ?_
   simp
   by_cases hf:fa=0
   ·subst hf
    apply aJ
    simp[hC]
    refine e9 ?_
    simp
    apply aO
    simp[hC,b1,hGl]
    apply aO
    simp[hC,wi]
    refine⟨es.length-(i+1),by omega,?_⟩
    have tGv:trees (G.map bM++[I v])=true:=by rw[aC,aM];rfl
    have rGv:=fun ρ=>af ρ _ tGv
    have rs1:=fun ρ=>af ρ _ tV
    have rs2:=fun ρ=>af ρ _ tE
    have rs3:=fun ρ=>af ρ _ tes
    have rs4:=fun ρ=>af ρ _ tps
    have rs5:=fun ρ=>af ρ _ tG
    have rs6:=fun ρ=>af ρ _ tT
    have rs7:=fun ρ=>af ρ _ tS
    have rs8:=fun ρ=>af ρ _ tug
    have rs9:=fun ρ=>af ρ _ tum
    have rs10:=fun ρ=>af ρ _ cr
    refine aa.le (Le.norm [13,12,10,9,8,7,5,4,2] [(23,6),(5,5),(4,4),(3,3),(2,2),(1,1),(0,0)] 0 7 yAl yAm (by simp[eC,vV,sh,tree,assoc,-List.all_eq_true,-List.all_flatMap,aH tGv]) yA) ?_
    simp[dF,ca,bu,dU,gg,assoc,rGv]
    refine aa.here ⟨i+1,G++[v],rfl,by omega,by simp[hGl],?_,?_⟩
    ·rw[hev]
     simp
    ·simp[AA,sK]
   ·have hf2:((fa:Int) != 0)=true:=by rw[bne_iff_ne];omega
    apply aJ
    simp[hC,hf2]
    refine dN ?_
    simp
    apply au
    simp[hC]
    apply T.ret
    simp only[if_neg hf,List.append_nil] at hev
    have hact:gK u s t f tg q.locals es ps=(⟨tg,0,G,[]⟩,fa):=by simp[gK,hev,hf]
    rw[hact]
    have tGG:trees (G.map bM)=true:=aM G
    have tkG:List.take i (G.map bM)=G.map bM:=List.take_of_length_le (by simp[hGl])
    refine aa.le (Le.trim [9,8] [3,6] 24 (by simp[-List.all_eq_true,-List.all_flatMap,-List.all_map,aj tGG]) yA) ?_
    simp
    refine aa.le (Le.cG (o:=6) rfl tGG) ?_
    simp[tkG]
    refine aa.le (Le.nz [] [3]) ?_
    apply aa.here
    simp[ints,aW,hGl]
  ·have hie:i=es.length:=by omega
   subst hie
   rw[List.drop_length,gF,List.append_nil] at hev
   apply aJ
   simp[hC]
   refine T.cond (b:=false) yAf ?_
   simp
   apply T.exit
   simp
   apply aJ
   simp[hC]
   apply T.block
   have tGG:trees (G.map bM)=true:=aM G
   refine T.aL (J98b u s t f ko tg es ps G) (n:=ps.length) ?_ ?_
   ·refine aa.le (Le.kz 5 3 3 1 rfl rfl) ?_
    simp
    refine aa.trim [16,12,10,9,8,7,5,4,2] [7,6,5,4,3,2,1,0] 8 (by simp[-List.all_eq_true,-List.all_flatMap,-List.all_map,aj tGG,a7]) yA ⟨0,[],by omega,by omega,rfl,by simp,?_⟩
    simp[AA,sK]
   ·rintro n σ ⟨k,L,rfl,hk,hLl,hel2,rfl⟩
    simp only[AA,sK]
    by_cases hkl:k<ps.length
    ·obtain⟨p,hpi⟩:∃ p,ps[k]? = some p:=⟨_,List.getElem?_eq_getElem hkl⟩
     obtain⟨hpx,hpv⟩:=hp p (List.mem_of_getElem? hpi)
     have hxe:=pK u s t p hm hb hpx (fun f' h'=>by rw[ht] at h';cases h';exact hpv)
     have hde:=aE (f:=gz) (n:=3) kK hpi
     have hdr:ps.drop k=p::ps.drop (k+1):=by rw[List.drop_eq_getElem_cons hkl];simp[(List.getElem?_eq_some_iff.1 hpi).2]
     have wi:=ct ((k:Int)+1) yA yA
     have b1:(k+1)*8≤140737488355328:=by omega
     obtain⟨n0,hn0⟩:=jK u s t p hm f ht hpv
     have targ2:trees [cS u,cf s,I t,.agg (gz p)]=true:=by
      have:=bR u
      simp only[trees,tree,cV,cf,ed,cS,this,ints,Bool.and_self]
     rw[hdr] at hel2
     simp only[gG] at hel2
     generalize bD u s t p=va at hxe hel2 hn0
     obtain⟨v,fa⟩:=va
     simp only at hn0
     subst hn0
     simp only[cS,fy,cf,ed,ints,gz] at hxe targ2
     apply aJ
     simp[hC,hkl]
     refine iv ?_
     simp
     apply fq
     refine T.seq (T.rx ag follows [0,1,2,3,4,5,6,7,8,9,10,11,12,13] [] yAb ?_)
     simp[hC,hkl,hde,gz]
     refine RX.call rfl rfl rfl rfl rfl targ2 hxe ?_
     simp
     by_cases hf:fa=0
     ·subst hf
      apply aJ
      simp[hC]
      refine e9 ?_
      simp
      apply aO
      simp[hC,b1,hLl]
      apply aO
      simp[hC,wi]
      refine⟨ps.length-(k+1),by omega,?_⟩
      have tLv:trees ((L.map fun n:Nat=>I n)++[I n0])=true:=by rw[aC,aP];rfl
      have rLv:=fun ρ=>af ρ _ tLv
      have rs0:=fun ρ=>af ρ _ tGG
      have rs1:=fun ρ=>af ρ _ tV
      have rs2:=fun ρ=>af ρ _ tE
      have rs3:=fun ρ=>af ρ _ tes
      have rs4:=fun ρ=>af ρ _ tps
      have rs5:=fun ρ=>af ρ _ tG
      have rs6:=fun ρ=>af ρ _ tT
      have rs7:=fun ρ=>af ρ _ tS
      have rs8:=fun ρ=>af ρ _ tug
      have rs9:=fun ρ=>af ρ _ tum
      have rs10:=fun ρ=>af ρ _ cr
      refine aa.le (Le.norm [16,12,10,9,8,7,5,4,2] [(23,7),(6,6),(5,5),(4,4),(3,3),(2,2),(1,1),(0,0)] 0 8 yAl yAm (by simp[eC,vV,sh,tree,assoc,-List.all_eq_true,-List.all_flatMap,aH tLv,aH tGG]) yA) ?_
      simp[dF,ca,bu,dU,gg,assoc,rLv,rs0]
      refine aa.here ⟨k+1,L++[n0],rfl,by omega,by simp[hLl],?_,?_⟩
      ·rw[hel2]
       simp
      ·simp[AA,sK]
     ·have hf2:((fa:Int) != 0)=true:=by rw[bne_iff_ne];omega
      apply aJ
      simp[hC,hf2]
      refine dN ?_
      simp
      apply au
      simp[hC]
      apply T.ret
      simp only[if_neg hf,List.append_nil] at hel2
      have hact:gK u s t f tg q.locals es ps=(⟨tg,0,G,L⟩,fa):=by simp[gK,hev,hel2,hf]
      rw[hact]
      have tLL:=aP L
      have tkG:List.take es.length (G.map bM)=G.map bM:=List.take_of_length_le (by simp[hGl])
      have tkL:List.take k (L.map fun n:Nat=>I n)=L.map fun n:Nat=>I n:=List.take_of_length_le (by simp[hLl])
      refine aa.le (Le.trim [9,8] [3,6,7] 25 (by simp[-List.all_eq_true,-List.all_flatMap,-List.all_map,aj tGG,aj tLL]) yA) ?_
      simp
      refine aa.le (Le.cG (o:=6) rfl tGG) ?_
      simp[tkG,ak tLL]
      refine aa.le (Le.cG (o:=7) rfl tLL) ?_
      simp[tkL]
      apply aa.here
      simp[ints,aW,hGl,hLl]
    ·have hke:k=ps.length:=by omega
     subst hke
     rw[List.drop_length,gG,List.append_nil] at hel2
     apply aJ
     simp[hC]
     refine T.cond (b:=false) yAf ?_
     simp
     apply T.exit
     simp
     apply fq
     have tLL:=aP L
     have hpq:=(List.getElem?_eq_some_iff.1 hq).1
     have hdr:=aE (f:=oR) (n:=5) kJ hq
     refine T.aL (J98c u s f ko tg q.locals es ps G L) (n:=q.locals-es.length) ?_ ?_
     ·refine aa.trim [12,9,8,7,4] [7,6,5,4,3,2,1,0] 8 (by simp[-List.all_eq_true,-List.all_flatMap,-List.all_map,aj tLL,aj tGG,a7]) yA ⟨0,by omega,by omega,?_⟩
      simp[sK]
     ·rintro n σ ⟨j,rfl,hj,rfl⟩
      simp only[sK]
      have tGj:trees (G.map bM++List.replicate j (I 0))=true:=by rw[aC,tGG,tJ];rfl
      by_cases hjl:es.length+j<q.locals
      ·have b2:(es.length+j+1)*8≤140737488355328:=by omega
       refine T.seq (T.seq (T.rx ag follows [0,1,2,3,4,5,6,7,8,9,10] [] yAb ?_))
       simp[hC,hpq,hdr,oR]
       have hlen:(G.map bM++List.replicate j (I 0)).length=es.length+j:=by simp[hGl]
       refine T.cond (b:=true) (by simp[ev,assoc];omega) (T.skip ?_)
       simp
       apply T.block
       generalize hX:G.map bM++List.replicate j (I 0)=X at hlen tGj ⊢
       apply aO
       simp[hC,b2,hlen]
       refine⟨q.locals-es.length-(j+1),by omega,?_⟩
       have tX1:trees (X++[I 0])=true:=by rw[aC,tGj];rfl
       have rX1:=fun ρ=>af ρ _ tX1
       have rs0:=fun ρ=>af ρ _ tLL
       have rs1:=fun ρ=>af ρ _ tV
       have rs2:=fun ρ=>af ρ _ tE
       have rs3:=fun ρ=>af ρ _ tes
       have rs4:=fun ρ=>af ρ _ tps
       have rs5:=fun ρ=>af ρ _ tG
       have rs6:=fun ρ=>af ρ _ tT
       have rs7:=fun ρ=>af ρ _ tS
       have rs8:=fun ρ=>af ρ _ tug
       have rs9:=fun ρ=>af ρ _ tum
       have rs10:=fun ρ=>af ρ _ cr
       refine aa.le (Le.norm [12,9,8,7,4] [(7,7),(20,6),(5,5),(4,4),(3,3),(2,2),(1,1),(0,0)] 0 8 yAl yAm (by simp[eC,vV,sh,tree,assoc,-List.all_eq_true,-List.all_flatMap,aH tX1,aH tLL]) yA) ?_
       simp[dF,ca,bu,dU,gg,assoc,rX1,rs0]
       refine aa.here ⟨j+1,rfl,by omega,?_⟩
       rw[← hX]
       simp[sK,List.replicate_succ',Nat.add_assoc]
      ·have hje:j=q.locals-es.length:=by omega
       subst hje
       have hge:¬ ((es.length:Int)+((q.locals-es.length:Nat):Int)<(q.locals:Int)):=by omega
       refine T.seq (T.seq (T.rx ag follows [0,1,2,3,4,5,6,7,8,9,10] [] yAb ?_))
       simp[hC,hpq,hdr,oR]
       refine T.cond (b:=false) (by simp[ev,assoc];omega) ?_
       simp
       apply T.exit
       simp
       apply au
       simp[hC]
       apply T.ret
       have hact:gK u s t f tg q.locals es ps=(⟨tg,0,G++List.replicate (q.locals-es.length) 0,L⟩,0):=by simp[gK,hev,hel2]
       rw[hact]
       have hlen:(G.map bM++List.replicate (q.locals-es.length) (I 0)).length=es.length+(q.locals-es.length):=by simp[hGl]
       have tkG:List.take (es.length+(q.locals-es.length)) (G.map bM++List.replicate (q.locals-es.length) (I 0))=G.map bM++List.replicate (q.locals-es.length) (I 0):=List.take_of_length_le yA
       have tkL:List.take ps.length (L.map fun n:Nat=>I n)=L.map fun n:Nat=>I n:=List.take_of_length_le (by simp[hLl])
       refine aa.le (Le.trim [9,8] [3,6,7] 19 (by simp[-List.all_eq_true,-List.all_flatMap,-List.all_map,-List.all_append,aj tGj,aj tLL]) yA) ?_
       simp
       refine aa.le (Le.cG (o:=6) rfl tGj) ?_
       simp[tkG,ak tLL]
       refine aa.le (Le.cG (o:=7) rfl tLL) ?_
       simp[tkL]
       apply aa.here
       simp[ints,aW,hGl,hLl]
def II (u:Un)(s:Sy)(t:Nat)(l0:List Fr)(f:Fr)(p:Pl):Sy×Bool:=
 if (bD u s t p).2=0 then
  (if (kM u.ms s.tb (bD u s t p).1.toNat t).2=true then ({ s with tb:=(kM u.ms s.tb (bD u s t p).1.toNat t).1,ts:=s.ts.set t (l0++[{ f with pc:=f.pc+1 }]) },true) else (s,false))
 else ({ s with fault:=(bD u s t p).2 },true)
set_option maxHeartbeats 4000000 in
set_option maxRecDepth 100000 in
theorem DI (u:Un)(s:Sy)(t:Nat)(l0:List Fr)(f:Fr)(q:Pr)(p:Pl)(hm:xN u.ms)(hpx:p.index≤1000000)(hpv:vF u.ms s.gs.length f.az.length f.ck.length p)(hel:∀ n:Nat,bD u s t p=((n:Int),0)→n<(aK u.ms).length)(htb:s.tb.length=(aK u.ms).length)(hoL:∀ m∈aK u.ms,m<u.ms.length)(hd:∀ h∈s.tb,h.d≤1000000)(hl:s.ts[t]? = some (l0++[f]))(hf0:s.fault=0)(hq:u.ps[f.proc]? = some q)(hc:q.code[f.pc]? = some (.lock false p))(hfr:sO u s)
  (h1:s.gs.length≤1000000) (h2:s.tb.length≤1000000) (h3:s.ts.length≤1000000) (h4:∀ l∈s.ts,l.length≤1000000) (h5:f.az.length≤1000000) (h6:f.pc≤1000000) :
  ae Tryz.prog 63 [cS u,cf s,I t] (.cr [cf (II u s t l0 f p).1,.bool (II u s t l0 f p).2]):=by
 have hin:=cQ u s t ⟨h3,h4⟩ hfr
 have hll:=h4 _ (List.mem_of_getElem? hl)
 have hll2:l0.length≤1000000:=by simp at hll;omega
 have htop:cT s t=some f:=by simp[cT,hl,hf0]
 have hins:dX u s t=some (.lock false p):=by simp[dX,htop,hq,hc]
 rw[hins] at hin
 have hco:=gV s t l0 f hl h1 h2 h3 hll2 h5
 have targ:trees [cS u,cf s,I t]=true:=by
  have:=bR u
  simp only[trees,tree,cf,ed,cS,this,ints,Bool.and_self]
 have htr:tree (.cr [cf (II u s t l0 f p).1,.bool (II u s t l0 f p).2])=true:=by
  simp only[cf,ed,tree,trees,bQ,Bool.and_self]
 refine ae.aB ag Tryz.func63 rfl yAb yBi htr fun C hC hC0=>?_
 rw[Tryz.ntmps63] at hC
 obtain⟨n,hn⟩:=jK u s t p hm f htop hpv
 have hxe:=pK u s t p hm ⟨h3,h4⟩ hpx (fun f' h'=>by rw[htop] at h';cases h';exact hpv)
 have hfa:=gU s (bD u s t p).2
 have tfa:trees [cf s,I (bD u s t p).2]=true:=by simp only[trees,tree,cf,ed,ints,Bool.and_self]
 have txe:trees [cS u,cf s,I t,.agg (gz p)]=true:=by
  have:=bR u
  simp only[trees,tree,cV,cf,ed,cS,this,ints,Bool.and_self]
 obtain⟨p1,p2,p3,p4,ln,tpc⟩:=nI p
 simp only[jw,dv,aZ,ln,List.cons_append,List.nil_append] at hin
 rw[ln] at hxe txe
 simp only[cf,ed,cS,fy,ints] at hin hco targ hxe txe hfa tfa ⊢
 apply au
 simp[hC]
 apply au
 simp[hC]
 refine cH targ hin ?_
 simp[hC]
 apply aJ
 simp[hC]
 refine e9 ?_
 simp
 apply au
 simp[hC]
 have tG:trees (s.gs.map bM)=true:=aM s.gs
 have tT:trees (s.tb.flatMap cW)=true:=ai bV _
 have tL:trees (l0.flatMap e8)=true:=ai dr _
 have tV:trees (f.az.map bM)=true:=aM f.az
 have tE:=aP f.ck
 have tA1:trees ((s.ts.take t).flatMap dt)=true:=ai a9 _
 have tA2:trees ((s.ts.drop (t+1)).flatMap dt)=true:=ai a9 _
 have rG:=fun ρ=>af ρ _ tG
 have rT:=fun ρ=>af ρ _ tT
 have rL:=fun ρ=>af ρ _ tL
 have rV:=fun ρ=>af ρ _ tV
 have r1:=fun ρ=>af ρ _ tA1
 have r2:=fun ρ=>af ρ _ tA2
 have rE:=fun ρ=>af ρ _ tE
 have ra:∀ ρ (a b:List CV),bu ρ (a++b)=bu ρ a++bu ρ b:=fun ρ a b=>by rw[b9,b9,b9,List.map_append]
 have tco:aQ 0 [.agg [.av (s.gs.map bM) s.gs.length,.av (s.tb.flatMap cW) s.tb.length,.av (s.ts.flatMap dt) s.ts.length,I s.fault],I t]=true:=by
  have tS:trees (s.ts.flatMap dt)=true:=ai a9 _
  simp only[a7,List.all_cons,List.all_nil,Bool.and_true]
  rw[a6 0 _ yBm]
  rfl
 refine TL.n8 ag [] [] 0 6 (hco) rfl (by rfl) yAc rfl rfl yAk yAk yBk yAk yAk (TL.go' ag ?_)
 simp[hC,bT,ca,bu,dU,cI,rG,rT,rL,rV,r1,r2,ra,aW]
 generalize hA:(s.ts.take t).flatMap dt=A at tA1 r1 ⊢
 generalize hB:(s.ts.drop (t+1)).flatMap dt=B at tA2 r2 ⊢
 generalize hD:l0.flatMap e8=D at tL rL ⊢
 have htl:=(List.getElem?_eq_some_iff.1 hl).1
 have lA:A.length=t:=by rw[← hA,dn,List.length_map,List.length_take];omega
 have lD:D.length=l0.length*4:=by rw[← hD];exact aD eK l0
 have dA:∀ r:List CV,(A++r).drop t=r:=fun r=>by rw[← lA];simp
 have dD:∀ r:List CV,(D++r).drop (l0.length*4)=r:=fun r=>by rw[← lD];simp
 have dD1:∀ (r:List CV) (k:Nat),(D++r).drop (l0.length*4+k)=r.drop k:=fun r k=>by rw[← lD,List.drop_append];simp
 have tD1:∀ (r:List CV) (k:Nat),(D++r).take (l0.length*4+k)=D++r.take k:=fun r k=>by rw[← lD,List.take_append,List.take_of_length_le yA];simp
 have dD2:∀ (r:List CV),(D++r).drop (l0.length*4+1+1)=r.drop 2:=fun r=>dD1 r 2
 have w1:=ct (l0.length:Int) yA yA
 have w2:(l0.length:Int)<(l0.length:Int)+1:=by omega
 have w3:=ct ((f.pc:Int)+1) yA yA
 refine T.le (Le.trim [10,8,7,6,4,3,2] [10,4,5,6,7,8,3,2,1,0] 11 yBf yA) ?_
 simp
 apply au
 simp[hC,htl,dA]
 apply au
 simp[hC,w1,w2]
 apply au
 simp[hC,w3,lD,dD1,tD1,dD2]
 repeat first
  | apply T.seq
  | (apply aO;simp[hC])
  | (refine T.cond (b:=false) ?_ ?_;(first | rfl | (simp[ev,assoc];done));simp)
  | (refine T.cond (b:=true) ?_ ?_;(first | rfl | (simp[ev,assoc,lD];done));simp)
  | (apply T.skip;simp)
  | apply T.block
 refine cH txe hxe ?_
 simp[hC]
 by_cases hf:(bD u s t p).2=0
 ·have hE:bD u s t p=((n:Int),0):=Prod.ext hn hf
  have hlk:=IH u.ms hm s.tb n t (hel n hE) htb hoL yA h2 hd
  have tlk:trees [.av (u.ms.flatMap cq) u.ms.length,.av (s.tb.flatMap cW) s.tb.length,I n,I t]=true:=by simp only[trees,tree,Bool.and_self]
  have hlo:II u s t l0 f p=if (kM u.ms s.tb n t).2=true then ({ s with tb:=(kM u.ms s.tb n t).1,ts:=s.ts.set t (l0++[{ f with pc:=f.pc+1 }]) },true) else (s,false):=by simp[II,hE]
  rw[hlo,hE]
  generalize kM u.ms s.tb n t=y at hlk ⊢
  obtain⟨tb',ok⟩:=y
  have tK:trees (tb'.flatMap cW)=true:=ai bV _
  repeat first
   | apply T.seq
   | (apply aO;simp[hC])
   | (refine T.cond (b:=false) ?_ ?_;(first | rfl | (simp[ev,assoc];done));simp)
   | (refine T.cond (b:=true) ?_ ?_;(first | rfl | (simp[ev,assoc,lD];done));simp)
   | (apply T.skip;simp)
   | apply T.block
  refine cH tlk hlk ?_
  simp[hC]
  cases ok with
  | true=>
   repeat first
    | apply T.seq
    | (apply aO;simp[hC])
    | (refine T.cond (b:=false) ?_ ?_;(first | rfl | (simp[ev,assoc,lD];done));simp)
    | (refine T.cond (b:=true) ?_ ?_;(first | rfl | (simp[ev,assoc,lD];done));simp)
    | (apply T.skip;simp)
    | apply T.block
   apply T.ret
   refine aa.le (Le.trim [7,6] [2,4,6,7,8] 11 yCo yA) ?_
   simp
   have kG:List.take s.gs.length (s.gs.map bM)=s.gs.map bM:=List.take_of_length_le yAa
   have kV:List.take f.az.length (f.az.map bM)=f.az.map bM:=List.take_of_length_le yAa
   refine aa.le (Le.cG (o:=8) rfl tV) ?_
   simp[kV,ak tG,ak tL,ak tA1,ak tA2]
   refine aa.le (Le.cG (o:=4) rfl tG) ?_
   simp[kG,ak tL,ak tA1,ak tA2]
   have tF:trees (D++[I f.proc,I ((f.pc:Int)+1),.av (f.az.map bM) f.az.length,.av (f.ck.map fun n:Nat=>I n) f.ck.length])=true:=by
    rw[aC,tL]
    simp only[trees,tree,Bool.and_self]
   have kF:∀ a b c d:CV,List.take ((l0.length+1)*4) (D++[a,b,c,d])=D++[a,b,c,d]:=fun a b c d=>List.take_of_length_le yAg
   refine aa.le (Le.cG (o:=7) rfl tF) ?_
   simp[kF,ak tA1,ak tA2]
   have tH:trees (A++.av (D++[I f.proc,I ((f.pc:Int)+1),.av (f.az.map bM) f.az.length,.av (f.ck.map fun n:Nat=>I n) f.ck.length]) (l0.length+1)::B)=true:=by
    simp only[aC,tA1,trees,tA2,tree,Bool.and_self]
   have lB:B.length=s.ts.length-(t+1):=by rw[← hB,dn,List.length_map,List.length_drop]
   have kH:∀ x:CV,List.take s.ts.length (A++x::B)=A++x::B:=fun x=>List.take_of_length_le yAg
   refine aa.le (Le.cG (o:=6) rfl tH) ?_
   simp[kH]
   apply aa.here
   have hset:(s.ts.set t (l0++[{ f with pc:=f.pc+1 }])).flatMap dt=A++.av (D++[I f.proc,I ((f.pc:Int)+1),.av (f.az.map bM) f.az.length,.av (f.ck.map fun n:Nat=>I n) f.ck.length]) (l0.length+1)::B:=by
    rw[List.set_eq_take_append_cons_drop,if_pos htl,List.flatMap_append,List.flatMap_cons,hA,hB]
    simp[dt,e8,hD,ints,aW]
   simp[hset]
  | false=>
   repeat first
    | apply T.seq
    | (apply aO;simp[hC])
    | (refine T.cond (b:=false) ?_ ?_;(first | rfl | (simp[ev,assoc];done));simp)
    | (refine T.cond (b:=true) ?_ ?_;(first | rfl | (simp[ev,assoc,lD];done));simp)
    | (apply T.skip;simp)
    | apply T.block
   apply T.ret
   have tS:trees (s.ts.flatMap dt)=true:=ai a9 _
   refine aa.le (Le.trim [7,6] [2] 11 yAt yA) ?_
   simp
   apply aa.here
   simp
 ·have hf2:(((bD u s t p).2:Int) != 0)=true:=by rw[bne_iff_ne];omega
  repeat first
   | apply T.seq
   | (apply aO;simp[hC,hf2])
   | (refine T.cond (b:=false) ?_ ?_;(first | rfl | (simp[ev,assoc];done));simp)
   | (refine T.cond (b:=true) ?_ ?_;(first | rfl | (simp[ev,assoc,hf2];done));simp)
   | (apply T.skip;simp)
   | apply T.block
  refine cH tfa hfa ?_
  simp[hC]
  apply T.ret
  refine aa.le (Le.trim [7,6] [2] 11 yAt yA) ?_
  simp
  apply aa.here
  simp[II,hf]
def HX (u:Un)(s:Sy)(t:Nat)(l0:List Fr)(f:Fr)(p:Pl):Sy×Bool:=
 if (bD u s t p).2=0 then
  (if (fO u.ms s.tb (bD u s t p).1.toNat t).2=true then ({ s with tb:=(fO u.ms s.tb (bD u s t p).1.toNat t).1,ts:=s.ts.set t (l0++[{ f with pc:=f.pc+1 }]) },true) else ({ s with fault:=3 },true))
 else ({ s with fault:=(bD u s t p).2 },true)
set_option maxHeartbeats 4000000 in
set_option maxRecDepth 100000 in
theorem zw (u:Un)(s:Sy)(t:Nat)(l0:List Fr)(f:Fr)(q:Pr)(p:Pl)(hm:xN u.ms)(hpx:p.index≤1000000)(hpv:vF u.ms s.gs.length f.az.length f.ck.length p)(hel:∀ n:Nat,bD u s t p=((n:Int),0)→n<(aK u.ms).length)(htb:s.tb.length=(aK u.ms).length)(hd:∀ h∈s.tb,h.d≤1000000∧(h.o≠0→0<h.d))(hl:s.ts[t]? = some (l0++[f]))(hf0:s.fault=0)(hq:u.ps[f.proc]? = some q)(hc:q.code[f.pc]? = some (.lock true p))(hfr:sO u s)
  (h1:s.gs.length≤1000000) (h2:s.tb.length≤1000000) (h3:s.ts.length≤1000000) (h4:∀ l∈s.ts,l.length≤1000000) (h5:f.az.length≤1000000) (h6:f.pc≤1000000) :
  ae Tryz.prog 63 [cS u,cf s,I t] (.cr [cf (HX u s t l0 f p).1,.bool (HX u s t l0 f p).2]):=by
 have hin:=cQ u s t ⟨h3,h4⟩ hfr
 have hll:=h4 _ (List.mem_of_getElem? hl)
 have hll2:l0.length≤1000000:=by simp at hll;omega
 have htop:cT s t=some f:=by simp[cT,hl,hf0]
 have hins:dX u s t=some (.lock true p):=by simp[dX,htop,hq,hc]
 rw[hins] at hin
 have hco:=gV s t l0 f hl h1 h2 h3 hll2 h5
 have targ:trees [cS u,cf s,I t]=true:=by
  have:=bR u
  simp only[trees,tree,cf,ed,cS,this,ints,Bool.and_self]
 have htr:tree (.cr [cf (HX u s t l0 f p).1,.bool (HX u s t l0 f p).2])=true:=by
  simp only[cf,ed,tree,trees,bQ,Bool.and_self]
 refine ae.aB ag Tryz.func63 rfl yAb yBi htr fun C hC hC0=>?_
 rw[Tryz.ntmps63] at hC
 obtain⟨n,hn⟩:=jK u s t p hm f htop hpv
 have hxe:=pK u s t p hm ⟨h3,h4⟩ hpx (fun f' h'=>by rw[htop] at h';cases h';exact hpv)
 have hf3:=gU s 3
 have tf3:trees [cf s,I (3:Nat)]=true:=by simp only[trees,tree,cf,ed,ints,Bool.and_self]
 have hfa:=gU s (bD u s t p).2
 have tfa:trees [cf s,I (bD u s t p).2]=true:=by simp only[trees,tree,cf,ed,ints,Bool.and_self]
 have txe:trees [cS u,cf s,I t,.agg (gz p)]=true:=by
  have:=bR u
  simp only[trees,tree,cV,cf,ed,cS,this,ints,Bool.and_self]
 obtain⟨p1,p2,p3,p4,ln,tpc⟩:=nI p
 simp only[jw,dv,aZ,ln,List.cons_append,List.nil_append] at hin
 rw[ln] at hxe txe
 simp only[cf,ed,cS,fy,ints] at hin hco targ hxe txe hfa tfa hf3 tf3 ⊢
 apply au
 simp[hC]
 apply au
 simp[hC]
 refine cH targ hin ?_
 simp[hC]
 apply aJ
 simp[hC]
 refine e9 ?_
 simp
 apply au
 simp[hC]
 have tG:trees (s.gs.map bM)=true:=aM s.gs
 have tT:trees (s.tb.flatMap cW)=true:=ai bV _
 have tL:trees (l0.flatMap e8)=true:=ai dr _
 have tV:trees (f.az.map bM)=true:=aM f.az
 have tE:=aP f.ck
 have tA1:trees ((s.ts.take t).flatMap dt)=true:=ai a9 _
 have tA2:trees ((s.ts.drop (t+1)).flatMap dt)=true:=ai a9 _
 have rG:=fun ρ=>af ρ _ tG
 have rT:=fun ρ=>af ρ _ tT
 have rL:=fun ρ=>af ρ _ tL
 have rV:=fun ρ=>af ρ _ tV
 have r1:=fun ρ=>af ρ _ tA1
 have r2:=fun ρ=>af ρ _ tA2
 have rE:=fun ρ=>af ρ _ tE
 have ra:∀ ρ (a b:List CV),bu ρ (a++b)=bu ρ a++bu ρ b:=fun ρ a b=>by rw[b9,b9,b9,List.map_append]
 have tco:aQ 0 [.agg [.av (s.gs.map bM) s.gs.length,.av (s.tb.flatMap cW) s.tb.length,.av (s.ts.flatMap dt) s.ts.length,I s.fault],I t]=true:=by
  have tS:trees (s.ts.flatMap dt)=true:=ai a9 _
  simp only[a7,List.all_cons,List.all_nil,Bool.and_true]
  rw[a6 0 _ yBm]
  rfl
 refine TL.n8 ag [] [] 0 6 (hco) rfl (by rfl) yAc rfl rfl yAk yAk yBk yAk yAk (TL.go' ag ?_)
 simp[hC,bT,ca,bu,dU,cI,rG,rT,rL,rV,r1,r2,ra,aW]
 generalize hA:(s.ts.take t).flatMap dt=A at tA1 r1 ⊢
 generalize hB:(s.ts.drop (t+1)).flatMap dt=B at tA2 r2 ⊢
 generalize hD:l0.flatMap e8=D at tL rL ⊢
 have htl:=(List.getElem?_eq_some_iff.1 hl).1
 have lA:A.length=t:=by rw[← hA,dn,List.length_map,List.length_take];omega
 have lD:D.length=l0.length*4:=by rw[← hD];exact aD eK l0
 have dA:∀ r:List CV,(A++r).drop t=r:=fun r=>by rw[← lA];simp
 have dD:∀ r:List CV,(D++r).drop (l0.length*4)=r:=fun r=>by rw[← lD];simp
 have dD1:∀ (r:List CV) (k:Nat),(D++r).drop (l0.length*4+k)=r.drop k:=fun r k=>by rw[← lD,List.drop_append];simp
 have tD1:∀ (r:List CV) (k:Nat),(D++r).take (l0.length*4+k)=D++r.take k:=fun r k=>by rw[← lD,List.take_append,List.take_of_length_le yA];simp
 have dD2:∀ (r:List CV),(D++r).drop (l0.length*4+1+1)=r.drop 2:=fun r=>dD1 r 2
 have w1:=ct (l0.length:Int) yA yA
 have w2:(l0.length:Int)<(l0.length:Int)+1:=by omega
 have w3:=ct ((f.pc:Int)+1) yA yA
 refine T.le (Le.trim [10,8,7,6,4,3,2] [10,4,5,6,7,8,3,2,1,0] 11 yBf yA) ?_
 simp
 apply au
 simp[hC,htl,dA]
 apply au
 simp[hC,w1,w2]
 apply au
 simp[hC,w3,lD,dD1,tD1,dD2]
 repeat first
  | apply T.seq
  | (apply aO;simp[hC])
  | (refine T.cond (b:=false) ?_ ?_;(first | rfl | (simp[ev,assoc];done));simp)
  | (refine T.cond (b:=true) ?_ ?_;(first | rfl | (simp[ev,assoc,lD];done));simp)
  | (apply T.skip;simp)
  | apply T.block
 refine cH txe hxe ?_
 simp[hC]
 by_cases hf:(bD u s t p).2=0
 ·have hE:bD u s t p=((n:Int),0):=Prod.ext hn hf
  have hlk:=Dz u.ms hm s.tb n t (hel n hE) htb yA h2 hd
  have tlk:trees [.av (u.ms.flatMap cq) u.ms.length,.av (s.tb.flatMap cW) s.tb.length,I n,I t]=true:=by simp only[trees,tree,Bool.and_self]
  have hlo:HX u s t l0 f p=if (fO u.ms s.tb n t).2=true then ({ s with tb:=(fO u.ms s.tb n t).1,ts:=s.ts.set t (l0++[{ f with pc:=f.pc+1 }]) },true) else ({ s with fault:=3 },true):=by simp[HX,hE]
  rw[hlo,hE]
  generalize fO u.ms s.tb n t=y at hlk ⊢
  obtain⟨tb',ok⟩:=y
  have tK:trees (tb'.flatMap cW)=true:=ai bV _
  repeat first
   | apply T.seq
   | (apply aO;simp[hC])
   | (refine T.cond (b:=false) ?_ ?_;(first | rfl | (simp[ev,assoc,lD];done));simp)
   | (refine T.cond (b:=true) ?_ ?_;(first | rfl | (simp[ev,assoc,lD];done));simp)
   | (apply T.skip;simp)
   | apply T.block
  refine cH tlk hlk ?_
  simp[hC]
  cases ok with
  | true=>
   repeat first
    | apply T.seq
    | (apply aO;simp[hC])
    | (refine T.cond (b:=false) ?_ ?_;(first | rfl | (simp[ev,assoc,lD];done));simp)
    | (refine T.cond (b:=true) ?_ ?_;(first | rfl | (simp[ev,assoc,lD];done));simp)
    | (apply T.skip;simp)
    | apply T.block
   apply T.ret
   refine aa.le (Le.trim [7,6] [2,4,6,7,8] 11 yCo yA) ?_
   simp
   have kG:List.take s.gs.length (s.gs.map bM)=s.gs.map bM:=List.take_of_length_le yAa
   have kV:List.take f.az.length (f.az.map bM)=f.az.map bM:=List.take_of_length_le yAa
   refine aa.le (Le.cG (o:=8) rfl tV) ?_
   simp[kV,ak tG,ak tL,ak tA1,ak tA2]
   refine aa.le (Le.cG (o:=4) rfl tG) ?_
   simp[kG,ak tL,ak tA1,ak tA2]
   have tF:trees (D++[I f.proc,I ((f.pc:Int)+1),.av (f.az.map bM) f.az.length,.av (f.ck.map fun n:Nat=>I n) f.ck.length])=true:=by
    rw[aC,tL]
    simp only[trees,tree,Bool.and_self]
   have kF:∀ a b c d:CV,List.take ((l0.length+1)*4) (D++[a,b,c,d])=D++[a,b,c,d]:=fun a b c d=>List.take_of_length_le yAg
   refine aa.le (Le.cG (o:=7) rfl tF) ?_
   simp[kF,ak tA1,ak tA2]
   have tH:trees (A++.av (D++[I f.proc,I ((f.pc:Int)+1),.av (f.az.map bM) f.az.length,.av (f.ck.map fun n:Nat=>I n) f.ck.length]) (l0.length+1)::B)=true:=by
    simp only[aC,tA1,trees,tA2,tree,Bool.and_self]
   have lB:B.length=s.ts.length-(t+1):=by rw[← hB,dn,List.length_map,List.length_drop]
   have kH:∀ x:CV,List.take s.ts.length (A++x::B)=A++x::B:=fun x=>List.take_of_length_le yAg
   refine aa.le (Le.cG (o:=6) rfl tH) ?_
   simp[kH]
   apply aa.here
   have hset:(s.ts.set t (l0++[{ f with pc:=f.pc+1 }])).flatMap dt=A++.av (D++[I f.proc,I ((f.pc:Int)+1),.av (f.az.map bM) f.az.length,.av (f.ck.map fun n:Nat=>I n) f.ck.length]) (l0.length+1)::B:=by
    rw[List.set_eq_take_append_cons_drop,if_pos htl,List.flatMap_append,List.flatMap_cons,hA,hB]
    simp[dt,e8,hD,ints,aW]
   simp[hset]
  | false=>
   repeat first
    | apply T.seq
    | (apply aO;simp[hC])
    | (refine T.cond (b:=false) ?_ ?_;(first | rfl | (simp[ev,assoc];done));simp)
    | (refine T.cond (b:=true) ?_ ?_;(first | rfl | (simp[ev,assoc,lD];done));simp)
    | (apply T.skip;simp)
    | apply T.block
   refine cH tf3 hf3 ?_
   simp[hC]
   apply T.ret
   refine aa.le (Le.trim [7,6] [2] 11 yAt yA) ?_
   simp
   apply aa.here
   simp
 ·have hf2:(((bD u s t p).2:Int) != 0)=true:=by rw[bne_iff_ne];omega
  repeat first
   | apply T.seq
   | (apply aO;simp[hC,hf2])
   | (refine T.cond (b:=false) ?_ ?_;(first | rfl | (simp[ev,assoc];done));simp)
   | (refine T.cond (b:=true) ?_ ?_;(first | rfl | (simp[ev,assoc,hf2];done));simp)
   | (apply T.skip;simp)
   | apply T.block
  refine cH tfa hfa ?_
  simp[hC]
  apply T.ret
  refine aa.le (Le.trim [7,6] [2] 11 yAt yA) ?_
  simp
  apply aa.here
  simp[HX,hf]
end Go.Proofs.YtmnglemlimfpbaaGreat
