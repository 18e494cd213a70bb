/- inner, Height, shape, ValidExpr. -/
import Derived.Test.YtmnglemlimfpbaaGreatZ28
namespace Go.Proofs.YtmnglemlimfpbaaGreat
open Go.Can Go.aX
theorem Iq (e:Ex):e.op=(e.lP:Int):=by cases e<;>simp[Ex.op,Ex.lP]
theorem fZ {ns:List ByteArray}:∀ {d:Nat} {e:Ex},fM ns d e→e.lP≤17
 | _,.num _,_=>by simp[Ex.lP]
 | _,.nm _,_=>by simp[Ex.lP]
 | d+1,.un k e,h=>by simp only[fM] at h;simp only[Ex.lP];omega
 | d+1,.bin k a b,h=>by simp only[fM] at h;simp only[Ex.lP];omega
 | 0,.un _ _,h=>h.elim
 | 0,.bin _ _ _,h=>h.elim
 | 0,.zero,h=>h.elim
 | 0,.loc _,h=>h.elim
 | 0,.ji _,h=>h.elim
 | _+1,.zero,h=>h.elim
 | _+1,.loc _,h=>h.elim
 | _+1,.ji _,h=>h.elim
theorem Ai (e:Ex)(i:Nat)(x:Ex)(h:e.args[i]? = some x)(hx:x.lP≤17)(he:e.lP≤17):ae Tryz.prog 161 [.agg (aZ e),I i] (.bool (decide (x.st<e.st) || (decide (x.st=e.st) && decide (i=1)))):=by
 have hlt:i<e.args.length:=(List.getElem?_eq_some_iff.1 h).1
 have hdr:(e.args.flatMap aZ).drop (i*4)=aZ x++(e.args.drop (i+1)).flatMap aZ:=aE (f:=aZ) (n:=4) bk h
 have hcx:=fA _ hx
 have hce:=fA _ he
 have e1:=bL e
 have e2:=bL x
 rw[Iq] at e1 e2
 rw[e2] at hdr
 rw[e1]
 clear e1 e2
 unfold Ex.st
 generalize ny x.lP=sx at *
 generalize ny e.lP=se at *
 refine ae.aB ag Tryz.func161 rfl yAb (by simp[Tryz.ntmps161]) rfl fun C hC hC0=>?_
 rw[Tryz.ntmps161] at hC
 apply au
 simp[hC]
 apply T.seq
 refine T.rx ag follows [0,1,2,3,4,5,7,8,6,9,10,11] [(8,6)] yAb ?_
 simp[hC,hlt,hdr]
 refine RX.call rfl yAa rfl rfl rfl yAd (hcx) ?_
 simp
 refine RX.call rfl yAa rfl rfl rfl yAd (hce) ?_
 simp
 apply T.seq
 by_cases h1:sx<se
 ·apply aO
  simp[hC,h1]
  apply T.ret
  apply aa.here
  simp[Tryz.results161]
 ·by_cases h2:sx=se
  ·subst h2
   apply aO
   simp[hC]
   apply T.ret
   apply aa.here
   simp[Tryz.results161]
  ·have h2':((sx:Int) == se)=false:=by simp;omega
   apply aO
   simp[hC,h1,h2']
   apply T.ret
   apply aa.here
   simp[Tryz.results161,h2]
def pF (e x:Ex)(i:Nat):Bool:=decide (x.st<e.st) || (decide (x.st=e.st) && decide (i=1))
def HP (e:Ex)(ht:Ex→Nat):Nat→List Ex→Nat→Nat
 | _,[],h=>h
 | i,x::r,h=>HP e ht (i+1) r (max h (ht x+if pF e x i=true then 1 else 0))
theorem GG (e:Ex)(ht:Ex→Nat)(B:Nat):∀ (l:List Ex) (i h:Nat),(∀ x∈l,ht x+1≤B)→h≤B→HP e ht i l h≤B
 | [],_,_,_,h=>h
 | x::r,i,h,hx,hh=>by
  rw[HP]
  have:=hx x List.mem_cons_self
  refine GG e ht B r _ _ (fun y hy=>hx y (List.mem_cons_of_mem _ hy)) ?_
  split<;>omega
def J152 (ht:Ex→Nat)(e:Ex)(H:Nat)(m:Nat)(s:St):Prop:=∃ i h:Nat,m=e.args.length-i∧i≤e.args.length∧h≤101∧HP e ht i (e.args.drop i) h=H∧s=⟨[(4,I i),(3,I h),(1,.aw 0 0)],[(0,⟨64,0,[I e.lP,I e.n,.str e.name,.av (e.args.flatMap aZ) e.args.length]⟩)],1⟩
theorem kO (ht:Ex→Nat)(e:Ex)(he:e.lP≤17)(hlen:e.args.length≤2)(ha:∀ x∈e.args,x.lP≤17∧ht x≤100∧ae Tryz.prog 152 [.agg (aZ x)] (I (ht x))) :
  ae Tryz.prog 152 [.agg (aZ e)] (I ((HP e ht 0 e.args 0+if ny e.lP=5 then 1 else 0:Nat))):=by
 have hop:=fA _ he
 have hin:=fun (i:Nat) (x:Ex) (h:e.args[i]? = some x)=>Ai e i x h (ha x (List.mem_of_getElem? h)).1 he
 have hflat:=fun (i:Nat) (x:Ex) (h:e.args[i]? = some x)=>aE (f:=aZ) (n:=4) bk (m:=e.args) h
 have hB:=GG e ht 101 e.args 0 0 (fun x hx=>by have:=(ha x hx).2.1;omega) yA
 obtain⟨H,hH⟩:∃ H,HP e ht 0 e.args 0=H:=⟨_,rfl⟩
 rw[hH] at hB ⊢
 rw[bL,Iq] at hin ⊢
 refine ae.aB ag Tryz.func152 rfl yAb (by simp[Tryz.ntmps152]) rfl fun C hC hC0=>?_
 rw[Tryz.ntmps152] at hC
 apply au
 simp[hC]
 apply au
 simp[hC]
 refine T.cut (fun s=>s=⟨[(3,I H),(1,.aw 0 0)],[(0,⟨64,0,[I e.lP,I e.n,.str e.name,.av (e.args.flatMap aZ) e.args.length]⟩)],1⟩) ?_ ?_
 ·apply au
  simp[hC]
  apply T.block
  refine T.aL (J152 ht e H) (n:=e.args.length) ?_ ?_
  ·refine aa.le (Le.env [4,3,1]) (aa.here ⟨0,0,by omega,by omega,by omega,hH,?_⟩)
   simp
  ·rintro n s ⟨i,h,rfl,hil,hh,hhA,rfl⟩
   by_cases hi:i<e.args.length
   ·obtain⟨x,hx⟩:∃ x,e.args[i]? = some x:=⟨e.args[i],List.getElem?_eq_getElem hi⟩
    have hdr:=hflat i x hx
    have hd:e.args.drop i=x::e.args.drop (i+1):=by
     rw[List.drop_eq_getElem_cons hi,(List.getElem?_eq_some_iff.1 hx).2]
    rw[hd,HP] at hhA
    obtain⟨x1,x2,x3⟩:=ha x (List.mem_of_getElem? hx)
    have hix:=hin i x hx
    rw[show (decide (x.st<e.st) || (decide (x.st=e.st) && decide (i=1)))=pF e x i from rfl] at hix
    have wi:=ct ((i:Int)+1) yA yA
    have wh:=ct ((ht x:Int)+1) yA yA
    apply aJ
    simp[hC,hi]
    refine iv ?_
    simp
    apply fq
    apply au
    simp[hC,hi,hdr]
    refine cH yBp (x3) ?_
    simp[hC]
    refine T.cut (fun s=>s=⟨[(5,I ((ht x+if pF e x i=true then 1 else 0:Nat))),(4,I i),(3,I h),(1,.aw 0 0)],[(0,⟨64,0,[I e.lP,I e.n,.str e.name,.av (e.args.flatMap aZ) e.args.length]⟩)],1⟩) ?_ ?_
    ·apply au
     simp[hC]
     refine cH yAd (hix) ?_
     simp
     refine T.bg rfl (fun h=>?_) (fun h=>?_)
     ·have h1:pF e x i=true:=by simpa using h
      apply aO
      simp[hC,wh]
      refine aa.le (Le.env [5,4,3,1]) (aa.here ?_)
      simp[h1]
     ·have h1:pF e x i=false:=by simpa using h
      apply T.skip
      simp
      refine aa.le (Le.env [5,4,3,1]) (aa.here ?_)
      simp[h1]
    rintro s rfl
    obtain⟨g,hg⟩:∃ g,(ht x+if pF e x i=true then 1 else 0)=g:=⟨_,rfl⟩
    rw[hg] at hhA ⊢
    have hg2:g≤101:=by rw[← hg];split<;>omega
    have hmx:(if h<g then (g:Int) else h)=((max h g:Nat):Int):=by
     split<;>omega
    apply aO
    simp[hC,hmx]
    apply aO
    simp[hC,wi]
    refine⟨e.args.length-(i+1),by omega,?_⟩
    refine aa.le (Le.env [4,3,1]) (aa.here ⟨i+1,max h g,rfl,by omega,by omega,hhA,?_⟩)
    simp
   ·have hie:i=e.args.length:=by omega
    rw[hie,List.drop_length,HP] at hhA
    apply aJ
    simp[hC,hi]
    refine bj ?_
    simp
    apply T.exit
    simp
    refine aa.le (Le.env [3,1]) (aa.here ?_)
    simp[hhA]
 ·rintro s rfl
  have wH:=ct ((H:Int)+1) yA yA
  refine T.cut (fun s=>s=⟨[(3,I ((H+if ny e.lP=5 then 1 else 0:Nat)))],[],1⟩) ?_ ?_
  ·apply au
   simp[hC]
   refine cH yAd (hop) ?_
   simp[hC]
   refine T.bg rfl (fun h=>?_) (fun h=>?_)
   ·have h1:ny e.lP=5:=by simp at h;omega
    apply aO
    simp[hC,wH]
    refine aa.trim [3] [] 1 yAa yA ?_
    simp[h1]
   ·have h1:¬ ny e.lP=5:=by simp at h;omega
    apply T.skip
    simp
    refine aa.trim [3] [] 1 yAa yA ?_
    simp[h1]
  ·rintro s rfl
   apply au
   simp[hC]
   apply T.ret
   apply aa.here
   simp[Tryz.results152]
def C3:Ex→Nat
 | .un k x=>HP (.un k x) (fun _=>C3 x) 0 [x] 0+1
 | .bin k a b=>max (max 0 (C3 a+if pF (.bin k a b) a 0=true then 1 else 0)) (C3 b+if pF (.bin k a b) b 1=true then 1 else 0)
 | _=>0
theorem oC {ns:List ByteArray}:∀ (d:Nat) (e:Ex),d≤5→fM ns d e→C3 e≤2*d∧ae Tryz.prog 152 [.agg (aZ e)] (I (C3 e))
 | d,.num n,_,hw=>⟨by simp[C3],by
  have h:=kO C3 (.num n) (fZ hw) yAv yAv
  exact h⟩
 | d,.nm n,_,hw=>⟨by simp[C3],by
  have h:=kO C3 (.nm n) (fZ hw) yAv yAv
  exact h⟩
 | d+1,.un k x,hd,hw=>by
  have hw':=hw
  simp only[fM] at hw'
  obtain⟨i1,i2⟩:=oC d x yA hw'.2
  have h:=kO C3 (.un k x) (fZ hw) yAv (by
   intro y hy
   simp only[Ex.args,List.mem_singleton] at hy
   subst hy
   exact⟨fZ hw'.2,by omega,i2⟩)
  have h5:ny (Ex.un k x).lP=5:=by
   simp only[Ex.lP]
   have:=hw'.1
   have:∀ k,k<2→ny (3+k)=5:=by decide
   exact this k hw'.1
  rw[if_pos h5] at h
  refine⟨?_,h⟩
  simp only[C3,HP]
  split<;>omega
 | d+1,.bin k a b,hd,hw=>by
  have hw':=hw
  simp only[fM] at hw'
  obtain⟨i1,i2⟩:=oC d a yA hw'.2.1
  obtain⟨j1,j2⟩:=oC d b yA hw'.2.2
  have h:=kO C3 (.bin k a b) (fZ hw) yAv (by
   intro y hy
   simp only[Ex.args,List.mem_cons,List.not_mem_nil,or_false] at hy
   rcases hy with rfl | rfl
   ·exact⟨fZ hw'.2.1,by omega,i2⟩
   ·exact⟨fZ hw'.2.2,by omega,j2⟩)
  have h5:¬ ny (Ex.bin k a b).lP=5:=by
   simp only[Ex.lP]
   have:=hw'.1
   have:∀ k,k<13→¬ ny (5+k)=5:=by decide
   exact this k hw'.1
  rw[if_neg h5] at h
  refine⟨?_,h⟩
  simp only[C3]
  split<;>split<;>omega
 | 0,.un _ _,_,h=>h.elim
 | 0,.bin _ _ _,_,h=>h.elim
 | 0,.zero,_,h=>h.elim
 | 0,.loc _,_,h=>h.elim
 | 0,.ji _,_,h=>h.elim
 | _+1,.zero,_,h=>h.elim
 | _+1,.loc _,_,h=>h.elim
 | _+1,.ji _,_,h=>h.elim
def mO (s:ByteArray):Prop:=dm s∧bs s∉q9
theorem DP (n:Nat)(hn:n<4611686018427387904):ae Tryz.prog 151 [.agg (aZ (.num n))] (.bool true):=by
 have hop:ae Tryz.prog 160 [I (1:Nat)] (I 6):=fA 1 yA
 refine ae.aB ag Tryz.func151 rfl yAb (by simp[Tryz.ntmps151]) rfl fun C hC hC0=>?_
 rw[Tryz.ntmps151] at hC
 apply au
 simp[hC]
 apply au
 simp[hC]
 refine T.cut (fun s=>s=⟨[(3,.int .i64 0),(1,.aw 0 0)],[(0,⟨64,0,aZ (.num n)⟩)],1⟩) ?_ ?_
 ·apply au
  simp[hC,aZ,eS]
  refine cH yAd (hop) ?_
  simp
  apply T.block
  apply au
  simp[hC]
  refine dN ?_
  simp
  apply au
  simp[hC]
  apply T.seq
  have hn0:(0:Int)≤n:=by omega
  refine T.rx ag follows [0,1,2,3,4,5,6,7,8,9,10,11,12,13,14,15,16,17,18,19,20,21,22,23,24,25,26,27] [(10,24)] yAb ?_
  simp[hC,hn0,iC]
  apply au
  simp[hC]
  refine bj ?_
  simp
  apply T.skip
  simp
  refine aa.trim [3,1] [0] 1 yAa yA ?_
  simp
 ·rintro s rfl
  apply aJ
  simp[hC,aZ,eS]
  refine bj ?_
  simp
  apply T.skip
  simp
  apply aJ
  simp[hC]
  apply T.block
  refine T.aL (fun m s=>s=⟨[(6,.int .i64 0),(3,.int .i64 0),(1,.aw 0 0)],[(0,⟨64,0,aZ (.num n)⟩)],1⟩) (n:=0) ?_ ?_
  ·refine aa.trim [6,3,1] [0] 1 yAa yA ?_
   simp[aZ,eS]
  ·rintro m s rfl
   apply aJ
   simp[hC]
   refine bj ?_
   simp
   apply T.exit
   simp
   apply au
   simp[hC]
   apply T.ret
   apply aa.here
   simp[Tryz.results151]
theorem FD (x:ByteArray)(hx:mO x):ae Tryz.prog 151 [.agg (aZ (.nm x))] (.bool true):=by
 have hop:ae Tryz.prog 160 [I (2:Nat)] (I 6):=fA 2 yA
 have hnm:=jH x hx.1 hx.2
 refine ae.aB ag Tryz.func151 rfl yAb (by simp[Tryz.ntmps151]) rfl fun C hC hC0=>?_
 rw[Tryz.ntmps151] at hC
 apply au
 simp[hC]
 apply au
 simp[hC]
 refine T.cut (fun s=>s=⟨[(3,.int .i64 0),(1,.aw 0 0)],[(0,⟨64,0,aZ (.nm x)⟩)],1⟩) ?_ ?_
 ·apply au
  simp[hC,aZ]
  refine cH yAd (hop) ?_
  simp
  apply T.block
  apply au
  simp[hC]
  refine dN ?_
  simp
  apply au
  simp[hC]
  apply T.seq
  refine T.rx ag follows [0,1,2,3,4,5,6,7,8,9,10,11,12,13,14,15,16,17,18,19,20,21,22,23,24,25,26,27] [(10,24)] yAb ?_
  simp[hC]
  refine RX.call rfl yAa rfl rfl rfl yAd (hnm) ?_
  simp
  apply au
  simp[hC]
  refine bj ?_
  simp
  apply T.skip
  simp
  refine aa.trim [3,1] [0] 1 yAa yA ?_
  simp
 ·rintro s rfl
  apply aJ
  simp[hC,aZ]
  refine bj ?_
  simp
  apply T.skip
  simp
  apply aJ
  simp[hC]
  apply T.block
  refine T.aL (fun m s=>s=⟨[(6,.int .i64 0),(3,.int .i64 0),(1,.aw 0 0)],[(0,⟨64,0,aZ (.nm x)⟩)],1⟩) (n:=0) ?_ ?_
  ·refine aa.trim [6,3,1] [0] 1 yAa yA ?_
   simp[aZ]
  ·rintro m s rfl
   apply aJ
   simp[hC]
   refine bj ?_
   simp
   apply T.exit
   simp
   apply au
   simp[hC]
   apply T.ret
   apply aa.here
   simp[Tryz.results151]
theorem uh (e:Ex)(st:Nat)(he:e.lP≤17)(hst:ny e.lP=st)(h6:st≤5)(hn:e.n=0)(hnm:e.name=eS)(hlen:e.args.length=if st=5 then 1 else 2)(ha:∀ x∈e.args,ae Tryz.prog 151 [.agg (aZ x)] (.bool true)):ae Tryz.prog 151 [.agg (aZ e)] (.bool true):=by
 have hop:=fA _ he
 rw[hst] at hop
 have hflat:=fun (i:Nat) (x:Ex) (h:e.args[i]? = some x)=>aE (f:=aZ) (n:=4) bk (m:=e.args) h
 rw[bL,Iq,hn,hnm]
 obtain⟨al,hal⟩:∃ al,e.args.length=al:=⟨_,rfl⟩
 rw[hal] at hlen
 have h6':¬ (st:Int)=6:=by omega
 refine ae.aB ag Tryz.func151 rfl yAb (by simp[Tryz.ntmps151]) rfl fun C hC hC0=>?_
 rw[Tryz.ntmps151] at hC
 apply au
 simp[hC]
 apply au
 simp[hC]
 refine T.cut (fun s=>s=⟨[(3,I al),(1,.aw 0 0)],[(0,⟨64,0,[I e.lP,I 0,.str eS,.av (e.args.flatMap aZ) al]⟩)],1⟩) ?_ ?_
 ·apply au
  simp[hC,hal]
  refine cH yAd (hop) ?_
  simp
  apply T.block
  apply au
  simp[hC]
  refine T.bg rfl (fun h=>?_) (fun h=>?_)
  ·simp at h;omega
  apply au
  simp[hC]
  refine T.bg rfl (fun h=>?_) (fun h=>?_)
  ·have h5:st=5:=by simp at h;omega
   rw[if_pos h5] at hlen
   apply aO
   simp[hC]
   refine aa.trim [3,1] [0] 1 yAa yA ?_
   simp[hlen]
  ·have h5:¬ st=5:=by simp at h;omega
   rw[if_neg h5] at hlen
   apply T.skip
   simp
   refine aa.trim [3,1] [0] 1 yAa yA ?_
   simp[hlen]
 ·rintro s rfl
  have hap:0<al:=by rw[hlen];split<;>omega
  have hal2:al≤2:=by rw[hlen];split<;>omega
  apply aJ
  simp[hC,hap,eS,jS]
  refine bj ?_
  simp
  apply T.skip
  simp
  apply aJ
  simp[hC]
  apply T.block
  refine T.aL (fun m s=>∃ i:Nat,m=al-i∧i≤al∧s=⟨[(6,I i),(3,I al),(1,.aw 0 0)],[(0,⟨64,0,[I e.lP,I 0,.str ⟨#[]⟩,.av (e.args.flatMap aZ) al]⟩)],1⟩) (n:=al) ?_ ?_
  ·refine aa.trim [6,3,1] [0] 1 yAa yA ⟨0,by omega,by omega,?_⟩
   simp
  ·rintro m s ⟨i,rfl,hi,rfl⟩
   by_cases hil:i<al
   ·obtain⟨x,hx⟩:∃ x,e.args[i]? = some x:=⟨e.args[i],List.getElem?_eq_getElem yA⟩
    have hdr:=hflat i x hx
    have hcx:=ha x (List.mem_of_getElem? hx)
    have wi:=ct ((i:Int)+1) yA yA
    apply aJ
    simp[hC,hil]
    refine iv ?_
    simp
    apply fq
    apply au
    simp[hC,hil,hdr]
    refine cH yBp (hcx) ?_
    simp[hC]
    refine bj ?_
    simp
    apply T.skip
    simp
    apply aO
    simp[hC,wi]
    refine⟨al-(i+1),by omega,?_⟩
    refine aa.trim [6,3,1] [0] 1 yAa yA ⟨i+1,rfl,by omega,?_⟩
    simp
   ·apply aJ
    simp[hC,hil]
    refine bj ?_
    simp
    apply T.exit
    simp
    apply au
    simp[hC]
    apply T.ret
    apply aa.here
    simp[Tryz.results151]
theorem qc {ns:List ByteArray}(hns:∀ s∈ns,mO s):∀ (d:Nat) (e:Ex),fM ns d e→ae Tryz.prog 151 [.agg (aZ e)] (.bool true)
 | _,.num n,hw=>DP n (by simpa [fM] using hw)
 | _,.nm s,hw=>FD s (hns s (by simpa [fM] using hw))
 | d+1,.un k x,hw=>by
  have hw':=hw
  simp only[fM] at hw'
  have h5:ny (Ex.un k x).lP=5:=(by decide:∀ k,k<2→ny (3+k)=5) k hw'.1
  refine uh (.un k x) 5 (fZ hw) h5 yA rfl rfl rfl ?_
  intro y hy
  simp only[Ex.args,List.mem_singleton] at hy
  subst hy
  exact qc hns d _ hw'.2
 | d+1,.bin k a b,hw=>by
  have hw':=hw
  simp only[fM] at hw'
  have h5:ny (Ex.bin k a b).lP≤4:=(by decide:∀ k,k<13→ny (5+k)≤4) k hw'.1
  refine uh (.bin k a b) _ (fZ hw) rfl yA rfl rfl ?_ ?_
  ·rw[if_neg yA];rfl
  ·intro y hy
   simp only[Ex.args,List.mem_cons,List.not_mem_nil,or_false] at hy
   rcases hy with rfl | rfl
   ·exact qc hns d _ hw'.2.1
   ·exact qc hns d _ hw'.2.2
 | 0,.un _ _,h=>h.elim
 | 0,.bin _ _ _,h=>h.elim
 | 0,.zero,h=>h.elim
 | 0,.loc _,h=>h.elim
 | 0,.ji _,h=>h.elim
 | _+1,.zero,h=>h.elim
 | _+1,.loc _,h=>h.elim
 | _+1,.ji _,h=>h.elim
theorem fN {ns:List ByteArray}(hns:∀ s∈ns,mO s)(d:Nat)(e:Ex)(hd:d≤5)(hw:fM ns d e):ae Tryz.prog 124 [.agg (aZ e)] (.bool true):=by
 obtain⟨h1,h2⟩:=oC d e hd hw
 have h3:=qc hns d e hw
 have h4:(C3 e:Int)≤24:=by omega
 refine ae.aB ag Tryz.func124 rfl yAb (by simp[Tryz.ntmps124]) rfl fun C hC hC0=>?_
 rw[Tryz.ntmps124] at hC
 apply au
 simp[hC]
 apply au
 simp[hC]
 refine cH yBp (h3) ?_
 simp[hC]
 refine TL.cC yAc rfl rfl rfl rfl (bF.of rfl yBp (h2)) (TL.go' ag ?_)
 simp[hC,h4]
 apply T.ret
 apply aa.here
 simp[Tryz.results124]
theorem pa (n:Int)(h:0≤n∧n<18446744073709551616):IntKind.u64.wrap n=n:=by
 exact IntWalk.u64_in n ⟨h.1,by omega⟩
def AF (m:Nat)(s:ByteArray):ByteArray:=if m=0 then s else kf m++s
theorem B9 (n:Nat):kf n=AF (n / 10) (eg (48+n % 10)):=by
 unfold AF
 rw[kf]
 split
 ·rename_i h
  rw[if_pos yA,Nat.mod_eq_of_lt h]
 ·rw[if_neg yA]
theorem Et (m:Nat)(s:ByteArray)(h:0<m):AF m s=AF (m / 10) (eg (48+m % 10)++s):=by
 unfold AF
 rw[if_neg yA,kf]
 split
 ·rename_i h1
  rw[if_pos yA,Nat.mod_eq_of_lt h1]
 ·rw[if_neg yA,ByteArray.append_assoc]
def J153 (T:ByteArray)(m:Nat)(s:St):Prop:=∃ x:ByteArray,x.size+m≤9223372036854775807∧AF m x=T∧s=⟨[(3,.str x),(0,.int .u64 m)],[],0⟩
theorem xy (n:Nat)(hn:n<9223372036854775808):ae Tryz.prog 153 [.int .u64 n] (.str (kf n)):=by
 rw[B9]
 obtain⟨X,hT⟩:∃ X,AF (n / 10) (eg (48+n % 10))=X:=⟨_,rfl⟩
 rw[hT]
 have m1:(n:Int).tmod 10=((n % 10:Nat):Int):=by rw[Int.tmod_eq_emod_of_nonneg yA];omega
 have d1:(n:Int).tdiv 10=((n / 10:Nat):Int):=by rw[Int.tdiv_eq_ediv_of_nonneg yA];omega
 refine ae.aB ag Tryz.func153 rfl yAb (by simp[Tryz.ntmps153]) rfl fun C hC hC0=>?_
 rw[Tryz.ntmps153] at hC
 apply au
 simp[hC]
 obtain⟨q,hq⟩:∃ q,n % 10=q:=⟨_,rfl⟩
 have hq9:q<10:=by omega
 have m2:(n:Int) % 10=(q:Int):=by omega
 have w1:=pa (48+(q:Int)) yA
 have w1b:=pa (q:Int) yA
 have w2:IntKind.u8.wrap (48+(q:Int))=48+(q:Int):=IntWalk.u8_in _ yA
 have w3:(0:Int)≤48+(q:Int)∧48+(q:Int)<256:=by omega
 have w4:(48+(q:Int)).toNat=48+q:=by omega
 refine T.seq (T.Bl ag ?_)
 simp[hC,m1,hq,w1,w2,w3,w4]
 refine T.le (Le.trim [3,0] [] 0 yAa yA) ?_
 simp
 have hch:(⟨#[48+UInt8.ofNat q]⟩:ByteArray)=eg (48+q):=by simp[eg]
 rw[hch]
 have wd:=pa ((n / 10:Nat):Int) yA
 have d2:(n:Int) / 10=((n / 10:Nat):Int):=by omega
 obtain⟨m0,hm0⟩:∃ m0,n / 10=m0:=⟨_,rfl⟩
 rw[hm0] at d1 d2 wd hT
 rw[hq] at hT
 apply aJ
 simp[hC,d1,wd]
 apply T.block
 refine T.aL (J153 X) (n:=m0) ?_ ?_
 ·refine aa.trim [3,0] [] 0 yAa yA ⟨eg (48+q),?_,hT,?_⟩
  ·have:(eg (48+q)).size=1:=rfl
   omega
  ·simp
 ·rintro m s ⟨x,hx,hX,rfl⟩
  by_cases hm:0<m
  ·have hm':(0:Int)<m:=by omega
   rw[Et m x hm] at hX
   obtain⟨r,hr⟩:∃ r,m % 10=r:=⟨_,rfl⟩
   have hr9:r<10:=by omega
   have m1:(m:Int).tmod 10=(r:Int):=by rw[Int.tmod_eq_emod_of_nonneg yA];omega
   have m2:(m:Int) % 10=(r:Int):=by omega
   have v1:=pa (48+(r:Int)) yA
   have v1b:=pa (r:Int) yA
   have v2:IntKind.u8.wrap (48+(r:Int))=48+(r:Int):=IntWalk.u8_in _ yA
   have v3:(0:Int)≤48+(r:Int)∧48+(r:Int)<256:=by omega
   have v4:(48+(r:Int)).toNat=48+r:=by omega
   have e1:(m:Int).tdiv 10=((m / 10:Nat):Int):=by rw[Int.tdiv_eq_ediv_of_nonneg yA];omega
   have e2:(m:Int) / 10=((m / 10:Nat):Int):=by omega
   have ve:=pa ((m / 10:Nat):Int) yA
   rw[hr] at hX
   have hch2:(⟨#[48+UInt8.ofNat r]⟩:ByteArray)=eg (48+r):=by simp[eg]
   have hsz:(eg (48+r)).size=1:=rfl
   have so:=ax (eg (48+r)) x yA
   obtain⟨m',hm'⟩:∃ m',m / 10=m':=⟨_,rfl⟩
   rw[hm'] at e1 e2 ve hX
   apply aJ
   simp[hC,hm]
   refine iv ?_
   simp
   apply fq
   refine T.Bl ag ?_
   simp[hC,m1,v1,v2,v3,v4,hch2,so]
   apply aO
   simp[hC,e1,ve]
   refine⟨m',by omega,?_⟩
   refine aa.trim [3,0] [] 0 yAa yA ⟨eg (48+r)++x,?_,hX,?_⟩
   ·rw[ByteArray.size_append];omega
   ·simp
  ·have hm0:m=0:=by omega
   subst hm0
   have hxT:x=X:=by simpa [AF] using hX
   apply aJ
   simp[hC]
   refine bj ?_
   simp
   apply T.exit
   simp
   apply au
   simp[hC]
   apply T.ret
   apply aa.here
   simp[Tryz.results153,hxT]
theorem pC (n:Int)(h1 : -1000≤n)(h2:n<9223372036854775808):ae Tryz.prog 128 [I n] (.str (lg n)):=by
 refine ae.aB ag Tryz.func128 rfl yAb (by simp[Tryz.ntmps128]) rfl fun C hC hC0=>?_
 rw[Tryz.ntmps128] at hC
 apply au
 simp[hC]
 apply aJ
 simp[hC]
 refine T.bg rfl (fun h=>?_) (fun h=>?_)
 ·have hn:n<0:=by simpa using h
  obtain⟨m,hm⟩:∃ m:Nat,n=-(m:Int):=⟨(-n).toNat,by omega⟩
  subst hm
  have hcd:=xy m yA
  have w1:=ct (-(m:Int)+1) yA yA
  have w2:=ct (-(-(m:Int)+1)) yA yA
  have w3:=pa (-(-(m:Int)+1)) yA
  have w4:=pa (-(-(m:Int)+1)+1) yA
  have e5 : -(-(m:Int)+1)+1=(m:Int):=by omega
  have w5:=pa (m:Int) yA
  have hsz:(kf m).size≤19:=by
   have:=(yN m).2.2.2 18 yA
   rw[lE] at this
   exact this
  have so:=ax ⟨#[45]⟩ (kf m) (by have:(⟨#[45]⟩:ByteArray).size=1:=rfl;omega)
  refine T.seq (T.Bl ag ?_)
  simp[hC,w1,w2,w3,e5,w5]
  refine cH yAd (hcd) ?_
  simp[hC,so]
  apply T.ret
  apply aa.here
  have hnT:lg (-(m:Int))=⟨#[45]⟩++kf m:=by
   unfold lg
   rw[if_pos hn]
   simp
  rw[hnT]
  simp[Tryz.results128]
 ·have hn:¬ n<0:=by simpa using h
  obtain⟨m,hm⟩:∃ m:Nat,n=(m:Int):=⟨n.toNat,by omega⟩
  subst hm
  have hcd:=xy m yA
  have w5:=pa (m:Int) yA
  apply T.skip
  simp
  refine T.seq (T.Bl ag ?_)
  simp[hC,w5]
  refine cH yAd (hcd) ?_
  simp[hC]
  apply T.ret
  apply aa.here
  have hnT:lg (m:Int)=kf m:=by
   unfold lg
   rw[if_neg hn]
   simp
  rw[hnT]
  simp[Tryz.results128]
def tY (e x:Ex)(i:Nat):ByteArray:=sI (pF e x i) (ja x)
theorem D1 (b:Bool)(x:ByteArray):(sI b x).size≤x.size+2:=by
 unfold sI
 split
 ·rw[ByteArray.size_append,ByteArray.size_append]
  have h1:(⟨#[40]⟩:ByteArray).size=1:=rfl
  have h2:(⟨#[41]⟩:ByteArray).size=1:=rfl
  omega
 ·omega
def J154 (e:Ex)(tl:List ByteArray)(n:Nat)(s:St):Prop:=∃ i:Nat,n=e.args.length-i∧i≤e.args.length∧s=⟨[(4,I i),(3,.bx 1 0 i),(1,.aw 0 0)],[(0,⟨64,0,[I e.lP,I e.n,.str e.name,.av (e.args.flatMap aZ) e.args.length]⟩),(1,bb (tl.take i))],2⟩
theorem KZ:∀ k,k<13→ny (5+k)≤4∧∃ i,i<(uF (ny (5+k))).2.length∧(uF (ny (5+k))).1.length=(uF (ny (5+k))).2.length∧(uF (ny (5+k))).2[i]? = some ((5+k:Nat):Int)∧(uF (ny (5+k))).1[i]? = some (Cm.getD k ⟨#[]⟩)∧(uF (ny (5+k))).2.length≤6∧∀ j,j<i→∀ o,(uF (ny (5+k))).2[j]? = some o→o≠((5+k:Nat):Int)
 | 0,_=>⟨by decide,0,by decide,rfl,rfl,rfl,by decide,by decide⟩
 | 1,_=>⟨by decide,1,by decide,rfl,rfl,rfl,by decide,by decide⟩
 | 2,_=>⟨by decide,2,by decide,rfl,rfl,rfl,by decide,by decide⟩
 | 3,_=>⟨by decide,0,by decide,rfl,rfl,rfl,by decide,by decide⟩
 | 4,_=>⟨by decide,1,by decide,rfl,rfl,rfl,by decide,by decide⟩
 | 5,_=>⟨by decide,2,by decide,rfl,rfl,rfl,by decide,by decide⟩
 | 6,_=>⟨by decide,3,by decide,rfl,rfl,rfl,by decide,by decide⟩
 | 7,_=>⟨by decide,4,by decide,rfl,rfl,rfl,by decide,by decide⟩
 | 8,_=>⟨by decide,5,by decide,rfl,rfl,rfl,by decide,by decide⟩
 | 9,_=>⟨by decide,0,by decide,rfl,rfl,rfl,by decide,by decide⟩
 | 10,_=>⟨by decide,1,by decide,rfl,rfl,rfl,by decide,by decide⟩
 | 11,_=>⟨by decide,0,by decide,rfl,rfl,rfl,by decide,by decide⟩
 | 12,_=>⟨by decide,0,by decide,rfl,rfl,rfl,by decide,by decide⟩
 | _+13,h=>absurd h yA
theorem oo (e:Ex)(tl:List ByteArray)(htl:tl.length=e.args.length)(he:e.lP≤17)(hal:e.args.length≤2)(R:ByteArray)
  (ha:∀ i x,e.args[i]? = some x→x.lP≤17∧ae Tryz.prog 154 [.agg (aZ x)] (.str (ja x))∧(ja x).size≤100000∧tl[i]? = some (tY e x i))
  (hR:(∃ n:Nat,e=.num n∧n<4611686018427387904∧R=kf n)∨(∃ x,e=.nm x∧R=x)∨(∃ k x,e=.un k x∧k<2∧R=(if k=0 then ⟨#[45]⟩ else ⟨#[33]⟩)++tl.getD 0 eS)∨(∃ k a b,e=.bin k a b∧k<13∧R=tl.getD 0 eS++⟨#[32]⟩++Cm.getD k ⟨#[]⟩++⟨#[32]⟩++tl.getD 1 eS)):ae Tryz.prog 154 [.agg (aZ e)] (.str R):=by
 have hflat:=fun (i:Nat) (x:Ex) (h:e.args[i]? = some x)=>aE (f:=aZ) (n:=4) bk (m:=e.args) h
 have hin:=fun (i:Nat) (x:Ex) (h:e.args[i]? = some x)=>Ai e i x h (ha i x h).1 he
 have hts:∀ x∈tl,x.size≤100002:=by
  intro x hx
  obtain⟨i,hi⟩:=List.getElem?_of_mem hx
  have hil:i<e.args.length:=by rw[← htl];exact (List.getElem?_eq_some_iff.1 hi).1
  obtain⟨y,hy⟩:∃ y,e.args[i]? = some y:=⟨e.args[i],List.getElem?_eq_getElem hil⟩
  obtain⟨_,_,h3,h4⟩:=ha i y hy
  rw[hi] at h4
  cases h4
  have:=D1 (pF e y i) (ja y)
  unfold tY
  omega
 rw[bL,Iq] at hin ⊢
 refine ae.aB ag Tryz.func154 rfl yAb (by simp[Tryz.ntmps154]) rfl fun C hC hC0=>?_
 rw[Tryz.ntmps154] at hC
 apply au
 simp[hC]
 apply au
 simp[hC]
 refine T.cut (fun s=>s=⟨[(3,.bx 1 0 e.args.length),(1,.aw 0 0)],[(0,⟨64,0,[I e.lP,I e.n,.str e.name,.av (e.args.flatMap aZ) e.args.length]⟩),(1,bb tl)],2⟩) ?_ ?_
 ·apply au
  simp[hC]
  apply T.block
  refine T.aL (J154 e tl) (n:=e.args.length) ?_ ?_
  ·refine aa.le (Le.own 3 9 1 rfl) ?_
   simp
   refine aa.trim [4,3,1] [0,1] 2 yAa yA ⟨0,by omega,by omega,?_⟩
   simp[bb]
  ·rintro n s ⟨i,rfl,hil,rfl⟩
   by_cases hi:i<e.args.length
   ·obtain⟨x,hx⟩:∃ x,e.args[i]? = some x:=⟨e.args[i],List.getElem?_eq_getElem hi⟩
    have hdr:=hflat i x hx
    obtain⟨x1,x2,x3,x4⟩:=ha i x hx
    have hix:=hin i x hx
    rw[show (decide (x.st<e.st) || (decide (x.st=e.st) && decide (i=1)))=pF e x i from rfl] at hix
    have wi:=ct ((i:Int)+1) yA yA
    apply aJ
    simp[hC,hi]
    refine iv ?_
    simp
    apply fq
    apply au
    simp[hC,hi,hdr]
    refine cH yBp (x2) ?_
    simp[hC]
    refine T.cut (fun s=>s=⟨[(5,.str (tY e x i)),(4,I i),(3,.bx 1 0 i),(1,.aw 0 0)],[(0,⟨64,0,[I e.lP,I e.n,.str e.name,.av (e.args.flatMap aZ) e.args.length]⟩),(1,bb (tl.take i))],2⟩) ?_ ?_
    ·apply au
     simp[hC]
     refine cH yAd (hix) ?_
     simp
     refine T.bg rfl (fun h=>?_) (fun h=>?_)
     ·have h1:pF e x i=true:=by simpa using h
      have s1:=ax ⟨#[40]⟩ (ja x) (by have:(⟨#[40]⟩:ByteArray).size=1:=rfl;omega)
      have s2:=ax (⟨#[40]⟩++ja x) ⟨#[41]⟩ (by rw[ByteArray.size_append];have:(⟨#[40]⟩:ByteArray).size=1:=rfl;have:(⟨#[41]⟩:ByteArray).size=1:=rfl;omega)
      apply aO
      simp[hC,s1,s2]
      refine aa.trim [5,4,3,1] [0,1] 2 yAa yA ?_
      simp[tY,sI,h1]
     ·have h1:pF e x i=false:=by simpa using h
      apply T.skip
      simp
      refine aa.trim [5,4,3,1] [0,1] 2 yAa yA ?_
      simp[tY,sI,h1]
    rintro s rfl
    have hb1:(i+1)*16≤140737488355328:=by omega
    have hwl:(bb (tl.take i)).cells.length=i:=by simp[bb];omega
    have hws:(bb (tl.take i)).sz=1:=rfl
    have hwe:(bb (tl.take i)).elem=9:=rfl
    apply aO
    simp[hC,hb1,hwl,hws,hwe,aI]
    apply aO
    simp[hC,wi]
    refine⟨e.args.length-(i+1),by omega,?_⟩
    refine aa.le (Le.trim [4,3,1] [0,3] 4 yBc yA) ?_
    simp
    refine aa.le (Le.oP 3 1 rfl rfl yA yAa yAa yBc) ?_
    simp
    refine aa.trim [4,3,1] [0,1] 2 yBc yA ⟨i+1,rfl,by omega,?_⟩
    have htk:tl.take (i+1)=tl.take i++[tY e x i]:=by rw[List.take_add_one,x4];rfl
    rw[htk]
    simp[bb]
   ·have hie:i=e.args.length:=by omega
    apply aJ
    simp[hC,hi]
    refine bj ?_
    simp
    apply T.exit
    simp
    refine aa.trim [3,1] [0,1] 2 yAa yA ?_
    rw[hie,← htl,List.take_length]
    simp
 ·rintro s rfl
  rcases hR with ⟨n,rfl,hn,rfl⟩ | ⟨x,rfl,rfl⟩ | ⟨k,x,rfl,hk,rfl⟩ | ⟨k,a,b,rfl,hk,rfl⟩
  ·have hcn:=pC n yA yA
   have hnT:lg (n:Int)=kf n:=by
    unfold lg
    rw[if_neg yA]
    simp
   rw[hnT] at hcn
   apply fq
   apply au
   simp[hC,Ex.lP,Ex.n,Ex.name,Ex.args]
   refine dN ?_
   simp
   apply au
   simp[hC]
   refine cH yAd (hcn) ?_
   simp[hC]
   apply T.ret
   apply aa.here
   simp[Tryz.results154]
  ·apply fq
   apply au
   simp[hC,Ex.lP,Ex.n,Ex.name,Ex.args]
   refine bj ?_
   simp
   apply au
   simp[hC]
   refine dN ?_
   simp
   apply au
   simp[hC]
   apply T.ret
   apply aa.here
   simp[Tryz.results154]
  ·have h1:tl.length=1:=htl
   have hdr:=jg (ns:=tl) (i:=0) yA
   rw[List.drop_zero] at hdr
   have hnm:(bb tl).cells=.str (tl.getD 0 eS)::(tl.map CV.str).drop 1:=hdr
   have hns:(bb tl).sz=1:=rfl
   have hsz:=hts (tl.getD 0 eS) (jk yA eS)
   generalize tl.getD 0 eS=t0 at hnm hsz
   have s45:(⟨#[45]⟩:ByteArray).size=1:=rfl
   have s33:(⟨#[33]⟩:ByteArray).size=1:=rfl
   apply fq
   match k,hk with
   | 0,_=>
    have so:=ax ⟨#[45]⟩ t0 yA
    apply au
    simp[hC,Ex.lP,Ex.n,Ex.name,Ex.args]
    refine bj ?_
    simp
    apply au
    simp[hC]
    refine bj ?_
    simp
    apply au
    simp[hC]
    refine dN ?_
    simp
    apply au
    simp[hC,hnm,so]
    apply T.ret
    apply aa.here
    simp[Tryz.results154]
   | 1,_=>
    have so:=ax ⟨#[33]⟩ t0 yA
    apply au
    simp[hC,Ex.lP,Ex.n,Ex.name,Ex.args]
    refine bj ?_
    simp
    apply au
    simp[hC]
    refine bj ?_
    simp
    apply au
    simp[hC]
    refine bj ?_
    simp
    apply au
    simp[hC]
    refine dN ?_
    simp
    apply au
    simp[hC,hnm,so]
    apply T.ret
    apply aa.here
    simp[Tryz.results154]
  ·have h1:tl.length=2:=htl
   have hdr:=jg (ns:=tl) (i:=0) yA
   have hdr1:=jg (ns:=tl) (i:=1) yA
   rw[List.drop_zero,hdr1] at hdr
   have hnm:(bb tl).cells=[.str (tl.getD 0 eS),.str (tl.getD 1 eS)]:=by
    have e3:(tl.map CV.str).drop (1+1)=[]:=List.drop_eq_nil_of_le yAg
    rw[e3] at hdr
    exact hdr
   have hns:(bb tl).sz=1:=rfl
   have hsz0:=hts (tl.getD 0 eS) (jk yA eS)
   have hsz1:=hts (tl.getD 1 eS) (jk yA eS)
   generalize tl.getD 0 eS=t0 at hnm hsz0
   generalize tl.getD 1 eS=t1 at hnm hsz1
   obtain⟨hst4,ix,hix,hsl,hio,hso,h6,hmiss⟩:=KZ k hk
   have hbz:(Cm.getD k ⟨#[]⟩).size≤2:=(by decide:∀ k,k<13→(Cm.getD k ⟨#[]⟩).size≤2) k hk
   have hcs:=fA (5+k) yA
   have hcg:=FA _ hst4
   generalize Cm.getD k ⟨#[]⟩=bo at hso hbz
   generalize ny (5+k)=sk at hcs hcg hix hsl hio hso h6 hmiss hst4
   generalize hsg:(uF sk).1=sl at *
   generalize hog:(uF sk).2=ol at *
   have n1:((5+k:Nat):Int)=5+(k:Int):=by omega
   rw[n1] at hcs hio hmiss
   have k1:((5:Int)+k == 1)=false:=by simp;omega
   have k2:((5:Int)+k == 2)=false:=by simp;omega
   have k3:((5:Int)+k == 3)=false:=by simp;omega
   have k4:((5:Int)+k == 4)=false:=by simp;omega
   apply fq
   apply au
   simp[hC,Ex.lP,Ex.n,Ex.name,Ex.args,k1]
   refine bj ?_
   simp
   apply au
   simp[hC,k2]
   refine bj ?_
   simp
   apply au
   simp[hC,k3]
   refine bj ?_
   simp
   apply au
   simp[hC,k4]
   refine bj ?_
   simp
   apply T.skip
   simp
   refine T.le (Le.trim [3,1] [0,1] 2 yAa yA) ?_
   simp
   apply au
   simp[hC]
   refine cH yAd (hcs) ?_
   simp
   refine cH yAd (hcg) ?_
   simp[hC]
   have q1:(⟨#[32]⟩:ByteArray).size=1:=rfl
   have s1:=ax t0 ⟨#[32]⟩ yA
   have s2:=ax (t0++⟨#[32]⟩) bo (by rw[ByteArray.size_append];omega)
   have s3:=ax (t0++⟨#[32]⟩++bo) ⟨#[32]⟩ (by rw[ByteArray.size_append,ByteArray.size_append];omega)
   have s4:=ax (t0++⟨#[32]⟩++bo++⟨#[32]⟩) t1 (by rw[ByteArray.size_append,ByteArray.size_append,ByteArray.size_append];omega)
   obtain⟨X,hX⟩:∃ X,t0++⟨#[32]⟩++bo++⟨#[32]⟩++t1=X:=⟨_,rfl⟩
   rw[hX] at s4 ⊢
   refine T.le (Le.trim [7,6,3,1] [0,1] 2 (by simp[strs,ints]) yA) ?_
   simp
   apply aJ
   simp[hC]
   apply T.block
   refine T.aL (fun n s=>∃ i:Nat,n=ix-i∧i≤ix∧s=⟨[(8,I i),(7,ints ol),(6,strs sl),(3,.bx 1 0 2),(1,.aw 0 0)],[(0,⟨64,0,[I (5+k),I 0,.str eS,.av (aZ a++aZ b) 2]⟩),(1,bb tl)],2⟩) (n:=ix) ?_ ?_
   ·refine aa.trim [8,7,6,3,1] [0,1] 2 (by simp[strs,ints]) yA ⟨0,by omega,by omega,?_⟩
    simp
   ·rintro n s ⟨i,rfl,hi,rfl⟩
    have hil:i<ol.length:=by omega
    obtain⟨o,ho⟩:∃ o,ol[i]? = some o:=⟨ol[i],List.getElem?_eq_getElem hil⟩
    have hdo:(ol.map bM).drop i=I o::(ol.map bM).drop (i+1):=by
     rw[List.drop_eq_getElem_cons (by simpa using hil)]
     have:=(List.getElem?_eq_some_iff.1 ho).2
     simp[bM,this]
    have wi:=ct ((i:Int)+1) yA yA
    apply aJ
    simp[hC,ints,strs,hil]
    refine iv ?_
    simp
    apply fq
    apply T.seq
    refine T.rx ag follows [0,1,2,3,4,5,6] [] yAb ?_
    simp[hC,hil,hdo]
    by_cases hie:i=ix
    ·subst hie
     rw[hio] at ho
     have hoe:o=5+(k:Int):=by simpa using ho.symm
     have hsd:(sl.map CV.str).drop i=.str bo::(sl.map CV.str).drop (i+1):=by
      have:=jg (ns:=sl) (i:=i) yA
      rw[this]
      simp[List.getD,hso]
     have hisl:i<sl.length:=by omega
     refine T.bg rfl (fun h=>?_) (fun h=>?_)
     ·apply T.seq
      refine T.rx ag follows [0,1,2,3,4,5,6,7,8,9,10,11,12,13,14] [] yAb ?_
      simp[hC,hnm,hisl,hsd,s1,s2,s3,s4]
      apply T.ret
      apply aa.here
      simp[Tryz.results154]
     ·simp[hoe] at h
    ·have hne:=hmiss i yA o ho
     refine T.bg rfl (fun h=>?_) (fun h=>?_)
     ·simp at h;exact absurd h hne
     apply T.skip
     simp
     apply aO
     simp[hC,wi]
     refine⟨ix-(i+1),by omega,?_⟩
     refine aa.trim [8,7,6,3,1] [0,1] 2 yAa yA ⟨i+1,rfl,by omega,?_⟩
     simp
end Go.Proofs.YtmnglemlimfpbaaGreat
