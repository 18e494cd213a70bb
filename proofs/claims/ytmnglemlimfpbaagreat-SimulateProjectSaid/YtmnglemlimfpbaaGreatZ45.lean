/- A step at a call. -/
import Derived.Test.YtmnglemlimfpbaaGreatZ44
namespace Go.Proofs.YtmnglemlimfpbaaGreat
open Go.Can Go.aX
def caS (u:Un)(s:Sy)(t:Nat)(l0:List Fr)(f:Fr)(tg n:Nat)(es:List Ex)(ps:List Pl):Sy:=
 if (gK u s t f tg n es ps).2=0 then { s with ts:=s.ts.set t (l0++[{ f with pc:=f.pc+1 },(gK u s t f tg n es ps).1]) } else { s with fault:=(gK u s t f tg n es ps).2 }
set_option maxHeartbeats 4000000 in
set_option maxRecDepth 100000 in
theorem DK (u:Un)(s:Sy)(t:Nat)(l0:List Fr)(f:Fr)(q:Pr)(tg:Nat)(es:List Ex)(ps:List Pl)(qq:Pr)(hm:xN u.ms)(hqq:u.ps[tg]? = some qq)(he:∀ e∈es,vH s.gs.length f.az.length e)(hel:es.length≤1000)(hp:∀ p∈ps,p.index≤1000000∧vF u.ms s.gs.length f.az.length f.ck.length p)(hpl:ps.length≤1000)(hq1:qq.ints=es.length)(hq2:qq.locals≤1000000)(hl:s.ts[t]? = some (l0++[f]))(hf0:s.fault=0)(hq:u.ps[f.proc]? = some q)(hc:q.code[f.pc]? = some (.call false tg es ps))(hfr:sO u s)
  (h1:s.gs.length≤1000000) (h2:s.tb.length≤1000000) (h3:s.ts.length≤1000000) (h4:∀ l∈s.ts,l.length≤1000000) (h5:f.az.length≤1000000) (h6:f.pc≤1000000) :
  ae Tryz.prog 63 [cS u,cf s,I t] (.cr [cf (caS u s t l0 f tg qq.locals es ps),.bool true]):=by
 have hin:=cQ u s t ⟨h3,h4⟩ hfr
 have hll:=h4 _ (List.mem_of_getElem? hl)
 have hll2:l0.length≤1000000:=by simp at hll;omega
 have htop:cT s t=some f:=by simp[cT,hl,hf0]
 have hins:dX u s t=some (.call false tg es ps):=by simp[dX,htop,hq,hc]
 rw[hins] at hin
 have hco:=gV s t l0 f hl h1 h2 h3 hll2 h5
 have targ:trees [cS u,cf s,I t]=true:=by
  have:=bR u
  simp only[trees,tree,cf,ed,cS,this,ints,Bool.and_self]
 have htr:tree (.cr [cf (caS u s t l0 f tg qq.locals es ps),.bool true])=true:=by
  simp only[cf,ed,tree,trees,bQ,Bool.and_self]
 refine ae.aB ag Tryz.func63 rfl yAb yBi htr fun C hC hC0=>?_
 rw[Tryz.ntmps63] at hC
 have hac:=pt u s t f false tg qq es ps hm ⟨h3,h4⟩ htop hqq he hel hp hpl hq1 hq2
 have hca:caS u s t l0 f tg qq.locals es ps=if (gK u s t f tg qq.locals es ps).2=0 then { s with ts:=s.ts.set t (l0++[{ f with pc:=f.pc+1 },(gK u s t f tg qq.locals es ps).1]) } else { s with fault:=(gK u s t f tg qq.locals es ps).2 }:=rfl
 rw[hca]
 have hfa:=gU s (gK u s t f tg qq.locals es ps).2
 have tfa:trees [cf s,I (gK u s t f tg qq.locals es ps).2]=true:=by simp only[trees,tree,cf,ed,ints,Bool.and_self]
 have tac:trees [cS u,cf s,I t,.agg (dv (.call false tg es ps))]=true:=by
  have:=bR u
  simp only[trees,tree,iA,cf,ed,cS,this,ints,Bool.and_self]
 generalize gK u s t f tg qq.locals es ps=y at hac hfa tfa ⊢
 obtain⟨z,fa⟩:=y
 simp only[cf,ed,cS,fy,ints,jw,dv,aZ,oz,List.cons_append,List.nil_append,e8] at hin hco targ hac tac hfa tfa ⊢
 apply au
 simp[hC]
 apply au
 simp[hC]
 refine cH targ hin ?_
 simp[hC]
 apply aJ
 simp[hC]
 refine e9 ?_
 simp
 apply au
 simp[hC]
 have tG:trees (s.gs.map bM)=true:=aM s.gs
 have tT:trees (s.tb.flatMap cW)=true:=ai bV _
 have tL:trees (l0.flatMap e8)=true:=ai dr _
 have tV:trees (f.az.map bM)=true:=aM f.az
 have tE:=aP f.ck
 have tA1:trees ((s.ts.take t).flatMap dt)=true:=ai a9 _
 have tA2:trees ((s.ts.drop (t+1)).flatMap dt)=true:=ai a9 _
 have rG:=fun ρ=>af ρ _ tG
 have rT:=fun ρ=>af ρ _ tT
 have rL:=fun ρ=>af ρ _ tL
 have rV:=fun ρ=>af ρ _ tV
 have r1:=fun ρ=>af ρ _ tA1
 have r2:=fun ρ=>af ρ _ tA2
 have rE:=fun ρ=>af ρ _ tE
 have ra:∀ ρ (a b:List CV),bu ρ (a++b)=bu ρ a++bu ρ b:=fun ρ a b=>by rw[b9,b9,b9,List.map_append]
 have tco:aQ 0 [.agg [.av (s.gs.map bM) s.gs.length,.av (s.tb.flatMap cW) s.tb.length,.av (s.ts.flatMap dt) s.ts.length,I s.fault],I t]=true:=by
  have tS:trees (s.ts.flatMap dt)=true:=ai a9 _
  simp only[a7,List.all_cons,List.all_nil,Bool.and_true]
  rw[a6 0 _ yBm]
  rfl
 refine TL.n8 ag [] [] 0 6 (hco) rfl (by rfl) yAc rfl rfl yAk yAk yBk yAk yAk (TL.go' ag ?_)
 simp[hC,bT,ca,bu,dU,cI,rG,rT,rL,rV,r1,r2,ra,aW]
 generalize hA:(s.ts.take t).flatMap dt=A at tA1 r1 ⊢
 generalize hB:(s.ts.drop (t+1)).flatMap dt=B at tA2 r2 ⊢
 generalize hD:l0.flatMap e8=D at tL rL ⊢
 have htl:=(List.getElem?_eq_some_iff.1 hl).1
 have lA:A.length=t:=by rw[← hA,dn,List.length_map,List.length_take];omega
 have lD:D.length=l0.length*4:=by rw[← hD];exact aD eK l0
 have dA:∀ r:List CV,(A++r).drop t=r:=fun r=>by rw[← lA];simp
 have dD:∀ r:List CV,(D++r).drop (l0.length*4)=r:=fun r=>by rw[← lD];simp
 have dD1:∀ (r:List CV) (k:Nat),(D++r).drop (l0.length*4+k)=r.drop k:=fun r k=>by rw[← lD,List.drop_append];simp
 have tD1:∀ (r:List CV) (k:Nat),(D++r).take (l0.length*4+k)=D++r.take k:=fun r k=>by rw[← lD,List.take_append,List.take_of_length_le yA];simp
 have dD2:∀ (r:List CV),(D++r).drop (l0.length*4+1+1)=r.drop 2:=fun r=>dD1 r 2
 have w1:=ct (l0.length:Int) yA yA
 have w2:(l0.length:Int)<(l0.length:Int)+1:=by omega
 have w3:=ct ((f.pc:Int)+1) yA yA
 refine T.le (Le.trim [10,8,7,6,4,3,2] [10,4,5,6,7,8,3,2,1,0] 11 yBf yA) ?_
 simp
 apply au
 simp[hC,htl,dA]
 apply au
 simp[hC,w1,w2]
 apply au
 simp[hC,w3,lD,dD1,tD1,dD2]
 repeat first
  | apply T.seq
  | (apply aO;simp[hC])
  | (refine T.cond (b:=false) ?_ ?_;(first | rfl | (simp[ev,assoc];done));simp)
  | (refine T.cond (b:=true) ?_ ?_;(first | rfl | (simp[ev,assoc,lD];done));simp)
  | (apply T.skip;simp)
  | apply T.block
 refine cH tac hac ?_
 simp[hC]
 by_cases hf:fa=0
 ·subst hf
  have b2:l0.length*4+4=(l0.length+1)*4:=by omega
  have b1:(l0.length+1+1)*64≤140737488355328:=by omega
  have dA1:∀ (x:CV) (r:List CV),(A++x::r).drop (t+1)=r:=fun x r=>by rw[← lA,List.drop_append];simp
  repeat first
   | apply T.seq
   | (apply aO;simp[hC])
   | (refine T.cond (b:=false) ?_ ?_;(first | rfl | (simp[ev,assoc];done));simp)
   | (refine T.cond (b:=true) ?_ ?_;(first | rfl | (simp[ev,assoc,lD];done));simp)
   | (apply T.skip;simp)
   | apply T.block
  refine T.rx ag follows [0,1,2,3,4,5,6,7,8,9] [(1,5),(1,6)] yAb ?_
  simp[hC,lD,lA,dA1,htl,b1,b2,aI]
  have tZv:trees (z.az.map bM)=true:=aM z.az
  have tZe:=aP z.ck
  repeat first
   | apply T.seq
   | (apply aO;simp[hC])
   | (refine T.cond (b:=false) ?_ ?_;(first | rfl | (simp[ev,assoc,lD];done));simp)
   | (refine T.cond (b:=true) ?_ ?_;(first | rfl | (simp[ev,assoc,lD];done));simp)
   | (apply T.skip;simp)
   | apply T.block
  apply T.ret
  refine aa.le (Le.trim [7,6] [2,4,5,6,22,8] 23 yCm yA) ?_
  simp
  have kG:List.take s.gs.length (s.gs.map bM)=s.gs.map bM:=List.take_of_length_le yAa
  have kT:List.take (s.tb.length*2) (s.tb.flatMap cW)=s.tb.flatMap cW:=List.take_of_length_le yBn
  have kV:List.take f.az.length (f.az.map bM)=f.az.map bM:=List.take_of_length_le yAa
  refine aa.le (Le.cG (o:=8) rfl tV) ?_
  simp[kV,ak tG,ak tT,ak tL,aW,ak tA1,ak tA2]
  refine aa.le (Le.cG (o:=4) rfl tG) ?_
  simp[kG,ak tT,ak tL,ak tA1,ak tA2]
  refine aa.le (Le.cG (o:=5) rfl tT) ?_
  simp[kT,ak tL,ak tA1,ak tA2]
  have tF:trees (D++[I f.proc,I ((f.pc:Int)+1),.av (f.az.map bM) f.az.length,.av (f.ck.map fun n:Nat=>I n) f.ck.length,I z.proc,I z.pc,.av (z.az.map bM) z.az.length,.av (z.ck.map fun n:Nat=>I n) z.ck.length])=true:=by
   rw[aC,tL]
   simp only[trees,tree,Bool.and_self]
  have kF:∀ a b c d a' b' c' d':CV,List.take ((l0.length+1+1)*4) (D++[a,b,c,d,a',b',c',d'])=D++[a,b,c,d,a',b',c',d']:=fun a b c d a' b' c' d'=>List.take_of_length_le yAg
  refine aa.le (Le.cG (o:=22) rfl tF) ?_
  simp[kF,ak tA1,ak tA2]
  have tH:trees (A++.av (D++[I f.proc,I ((f.pc:Int)+1),.av (f.az.map bM) f.az.length,.av (f.ck.map fun n:Nat=>I n) f.ck.length,I z.proc,I z.pc,.av (z.az.map bM) z.az.length,.av (z.ck.map fun n:Nat=>I n) z.ck.length]) (l0.length+1+1)::B)=true:=by
   simp only[aC,tA1,trees,tA2,tree,Bool.and_self]
  have lB:B.length=s.ts.length-(t+1):=by rw[← hB,dn,List.length_map,List.length_drop]
  have kH:∀ x:CV,List.take s.ts.length (A++x::B)=A++x::B:=fun x=>List.take_of_length_le yAg
  refine aa.le (Le.cG (o:=6) rfl tH) ?_
  simp[kH]
  apply aa.here
  have hset:(s.ts.set t (l0++[{ f with pc:=f.pc+1 },z])).flatMap dt=A++.av (D++[I f.proc,I ((f.pc:Int)+1),.av (f.az.map bM) f.az.length,.av (f.ck.map fun n:Nat=>I n) f.ck.length,I z.proc,I z.pc,.av (z.az.map bM) z.az.length,.av (z.ck.map fun n:Nat=>I n) z.ck.length]) (l0.length+1+1)::B:=by
   rw[List.set_eq_take_append_cons_drop,if_pos htl,List.flatMap_append,List.flatMap_cons,hA,hB]
   simp[dt,e8,hD,ints,aW]
  simp[hset]
 ·have hf1:((fa:Int) == 0)=false:=by rw[beq_eq_false_iff_ne];omega
  have hf2:((fa:Int) != 0)=true:=by rw[bne_iff_ne];omega
  repeat first
   | apply T.seq
   | (apply aO;simp[hC,hf1,hf2])
   | (refine T.cond (b:=false) ?_ ?_;(first | rfl | (simp[ev,assoc];done));simp)
   | (refine T.cond (b:=true) ?_ ?_;(first | rfl | (simp[ev,assoc,hf1,hf2];done));simp)
   | (apply T.skip;simp)
   | apply T.block
  refine cH tfa hfa ?_
  simp[hC]
  apply T.ret
  refine aa.le (Le.trim [7,6] [2] 12 yAt yA) ?_
  simp
  apply aa.here
  simp[hf]
def seS (s:Sy)(t:Nat)(l0:List Fr)(f:Fr)(k:Nat)(gl:Bool)(e:Ex):Sy:=
 if (bI s.gs f.az e).2=0 then
  (if gl=true then { s with gs:=s.gs.set k (bI s.gs f.az e).1,ts:=s.ts.set t (l0++[{ f with pc:=f.pc+1 }]) }
   else { s with ts:=s.ts.set t (l0++[{ f with pc:=f.pc+1,az:=f.az.set k (bI s.gs f.az e).1 }]) })
 else { s with fault:=(bI s.gs f.az e).2 }
def goS (u:Un)(s:Sy)(t:Nat)(l0:List Fr)(f:Fr)(tg n:Nat)(es:List Ex)(ps:List Pl):Sy:=
 if (gK u s t f tg n es ps).2=0 then
  (if 32≤s.ts.length then { s with fault:=4 } else { s with ts:=s.ts.set t (l0++[{ f with pc:=f.pc+1 }])++[[(gK u s t f tg n es ps).1]] })
 else { s with fault:=(gK u s t f tg n es ps).2 }
def z9 (u:Un)(tg:Nat):Nat:=match u.ps[tg]? with
 | some q=>q.locals
 | none=>0
def rP (u:Un)(s:Sy)(t:Nat)(l0:List Fr)(f:Fr):In→Sy×Bool
 | .set k gl e=>(seS s t l0 f k gl e,true)
 | .call go tg es ps=>(if go=true then goS u s t l0 f tg (z9 u tg) es ps else caS u s t l0 f tg (z9 u tg) es ps,true)
 | .lock un p=>if un=true then HX u s t l0 f p else II u s t l0 f p
 | .branch g e=>(brS s t l0 f g e,true)
 | .jump g=>({ s with ts:=s.ts.set t (l0++[{ f with pc:=g }]) },true)
 | .ret=>({ s with ts:=s.ts.set t l0 },true)
def lL (u:Un)(s:Sy)(t:Int):Sy×Bool:=match cT s t with
 | none=>(s,false)
 | some f=>match dX u s t with
  | none=>(s,false)
  | some i=>rP u s t.toNat ((s.ts.getD t.toNat []).dropLast) f i
def hU (ms:List Mx)(e:Nat):Nat:=(aK ms).getD e 0
def jt (ms:List Mx)(f:Fr):Is:=⟨f.proc,f.ck.map (hU ms)⟩
structure HK (u:Un)(f:Fr):Prop where
 q:∃ q,u.ps[f.proc]? = some q∧f.pc<q.code.length∧f.az.length=q.locals∧f.ck.length=q.bf
 el:∀ e∈f.ck,e<(aK u.ms).length
 ic:jt u.ms f∈(ch u).is
structure pW (u:Un)(k:Nat)(s:Sy):Prop where
 gs:s.gs.length=u.gs.length
 tb:s.tb.length=(aK u.ms).length
 hd:∀ h∈s.tb,h.d≤k∧(h.o≠0→0<h.d)
 ho:∀ h∈s.tb,h.o≤32
 ts:1≤s.ts.length∧s.ts.length≤32
 fl:∀ l∈s.ts,l.length≤k+1
 fr:∀ l∈s.ts,∀ f∈l,HK u f
theorem kE {u:Un}(h:l9 u):xN u.ms:=⟨by have:=h.nm;omega,fun m hm=>by have:=(h.mz m hm).1;omega⟩
theorem uC:∀ (l:List Mx) (s:Nat),(∀ m∈l,m.size≤3)→(br l s).length≤3*l.length
 | [],s,_=>by simp[br]
 | m::r,s,h=>by
  have h1:=h m List.mem_cons_self
  have h2:=uC r (s+1) fun x hx=>h x (List.mem_cons_of_mem _ hx)
  simp only[br,List.length_append,List.length_replicate,List.length_cons]
  omega
theorem xS {u:Un}(h:l9 u):(aK u.ms).length≤12:=by
 have h1:=uC u.ms 0 fun m hm=>(h.mz m hm).1
 have:=h.nm
 rw[aK]
 omega
theorem uB:∀ (l:List Mx) (s:Nat),∀ m∈br l s,m<s+l.length
 | [],s,m,h=>by simp[br] at h
 | x::r,s,m,h=>by
  rw[br,List.mem_append] at h
  rcases h with h | h
  ·have:=List.eq_of_mem_replicate h
   rw[List.length_cons]
   omega
  ·have:=uB r (s+1) m h
   rw[List.length_cons]
   omega
theorem D2 (ms:List Mx):∀ m∈aK ms,m<ms.length:=fun m h=>by simpa using uB ms 0 m h
theorem xI (m:Nat):∀ (ms:List Mx) (i j:Nat) (x:Mx),i≤m→ms[m-i]? = some x→∃ k:Nat,l7 (br ms i) m j=((j+k:Nat):Int)∧∀ d,d<max x.size 1→(br ms i)[k+d]? = some m
 | [],i,j,x,_,h=>by simp at h
 | y::r,i,j,x,hi,h=>by
  rw[br]
  by_cases he:i=m
  ·subst he
   simp at h
   subst h
   refine⟨0,?_,fun d hd=>?_⟩
   ·obtain⟨n,hn⟩:∃ n,max y.size 1=n+1:=⟨max y.size 1-1,by omega⟩
    rw[hn,List.replicate_succ,List.cons_append,l7,if_pos rfl]
    simp
   ·rw[List.getElem?_append_left yAg,Nat.zero_add,List.getElem?_replicate,if_pos hd]
  ·rw[pN i m he]
   have h2:r[m-(i+1)]? = some x:=by
    have:m-i=(m-(i+1))+1:=by omega
    rw[this,List.getElem?_cons_succ] at h
    exact h
   obtain⟨k,h3,h4⟩:=xI m r (i+1) (j+max y.size 1) x yA h2
   refine⟨max y.size 1+k,by rw[h3];congr 1;omega,fun d hd=>?_⟩
   rw[List.getElem?_append_right yAg]
   rw[List.length_replicate,show max y.size 1+k+d-max y.size 1=k+d by omega]
   exact h4 d hd
theorem qw {u:Un}(hu:l9 u){s:Sy}{t:Int}{p:Pl}{f:Fr}(ht:cT s t=some f)(hf:HK u f)(hv:vF u.ms s.gs.length f.az.length f.ck.length p){n:Nat}(he:bD u s t p=((n:Int),0)) :
  n<(aK u.ms).length∧hU u.ms n=jW (jt u.ms f) p:=by
 unfold bD at he
 rw[ht] at he
 simp only at he
 rcases hv with ⟨h1,h2,h3⟩ | ⟨h1,m,hm,h3⟩
 ·rw[if_pos h1] at he
  simp only[Prod.mk.injEq,and_true] at he
  have hg:f.ck[p.index]? = some f.ck[p.index]:=List.getElem?_eq_getElem h2
  have hn:f.ck[p.index]=n:=by
   have:f.ck.getD p.index 0=f.ck[p.index]:=by simp[List.getD_eq_getElem?_getD,hg]
   omega
  refine⟨by rw[← hn];exact hf.el _ (List.getElem_mem h2),?_⟩
  simp only[jW,h1,if_true,jt]
  rw[List.getD_eq_getElem?_getD,List.getElem?_map,hg,← hn]
  rfl
 ·rw[if_neg (by rw[h1];decide)] at he
  split at he
  ·rename_i h0
   simp only[Prod.mk.injEq,and_true] at he
   obtain⟨k,hk,ho⟩:=xI p.index u.ms 0 0 m yA (by simpa using hm)
   obtain⟨j,hj,hjl⟩:∃ j:Nat,(gC u.ms s.gs f.az p).1=j∧j<max m.size 1:=by
    unfold gC at h0 ⊢
    rcases h3 with ⟨h,hz⟩ | ⟨e,h,hz,_⟩
    ·rw[h]
     exact⟨0,rfl,by omega⟩
    ·rw[h] at h0 ⊢
     simp only[hm] at h0 ⊢
     split
     ·rename_i h5
      rw[if_pos h5] at h0
      split
      ·rename_i h6
       rw[if_pos h6] at h0
       cases h0
      ·rename_i h6
       exact⟨(bI s.gs f.az e).1.toNat,by simp only;omega,by omega⟩
     ·rename_i h5
      rw[if_neg h5] at h0
      exact (h5 h0).elim
   have hol:=xS hu
   have hlt:=(List.getElem?_eq_some_iff.1 (ho j hjl)).1
   rw[aK] at hol
   rw[show xH u.ms p.index=((0+k:Nat):Int) from hk,hj,wr,ct _ yA yA] at he
   have hn:n=k+j:=by omega
   subst hn
   refine⟨hlt,?_⟩
   simp only[jW,h1,Bool.false_eq_true,if_false,hU]
   rw[List.getD_eq_getElem?_getD,aK,ho j hjl]
   rfl
  ·rename_i h0
   simp only[Prod.mk.injEq] at he
   exact (h0 he.2).elim
theorem vc (gs ls:List Int):∀ es:List Ex,(gF gs ls es).2=0→(gF gs ls es).1.length=es.length
 | [],_=>rfl
 | e::r,h=>by
  unfold gF at h ⊢
  split
  ·rename_i h1
   rw[if_pos h1] at h
   simp[vc gs ls r h]
  ·rename_i h1
   rw[if_neg h1] at h
   exact (h1 h).elim
theorem vg {u:Un}(hu:l9 u){s:Sy}{t:Int}{f:Fr}(ht:cT s t=some f)(hf:HK u f):∀ ps:List Pl,(∀ p∈ps,vF u.ms s.gs.length f.az.length f.ck.length p)→(gG u s t ps).2=0 →
  (∀ e∈(gG u s t ps).1,e<(aK u.ms).length)∧(gG u s t ps).1.map (hU u.ms)=ps.map (jW (jt u.ms f))
 | [],_,_=>⟨(fun e he=>by cases he),rfl⟩
 | p::r,hv,h=>by
  unfold gG at h ⊢
  split
  ·rename_i h1
   rw[if_pos h1] at h
   obtain⟨n,hn⟩:=jK u s t p (kE hu) f ht (hv p List.mem_cons_self)
   obtain⟨k1,k2⟩:=qw hu ht hf (hv p List.mem_cons_self) (n:=n) (Prod.ext hn h1)
   obtain⟨k3,k4⟩:=vg hu ht hf r (fun q hq=>hv q (List.mem_cons_of_mem _ hq)) h
   have hz:(bD u s t p).1.toNat=n:=by omega
   refine⟨fun e he=>?_,?_⟩
   ·simp only[List.mem_cons] at he
    rcases he with rfl | he
    ·rw[hz];exact k1
    ·exact k3 e he
   ·simp only[List.map_cons,k4,hz,k2]
  ·rename_i h1
   rw[if_neg h1] at h
   exact (h1 h).elim
theorem HK.pc {u:Un}{f:Fr}(h:HK u f){q:Pr}(hq:u.ps[f.proc]? = some q){g:Nat}(hg:g<q.code.length):HK u { f with pc:=g }:=by
 obtain⟨q',h1,_,h3,h4⟩:=h.q
 rw[hq] at h1;cases h1
 exact⟨⟨q,hq,hg,h3,h4⟩,h.el,h.ic⟩
theorem sX {u:Un}(hu:l9 u){f:Fr}{q:Pr}(hq:u.ps[f.proc]? = some q){i:In}(hi:q.code[f.pc]? = some i)(hr:i≠.ret):f.pc+1<q.code.length:=by
 obtain⟨⟨c,hc⟩,_⟩:=hu.pc q (List.mem_of_getElem? hq)
 rw[hc] at hi ⊢
 have h1:=(List.getElem?_eq_some_iff.1 hi).1
 simp only[List.length_append,List.length_singleton] at h1 ⊢
 by_cases h:f.pc=c.length
 ·rw[h] at hi
  simp at hi
  exact (hr hi.symm).elim
 ·omega
theorem xW {s:Sy}{t:Int}{f:Fr}(h:cT s t=some f):∃ (n:Nat) (l0:List Fr),t=n∧s.ts[n]? = some (l0++[f])∧s.fault=0∧(s.ts.getD n []).dropLast=l0:=by
 unfold cT at h
 split at h
 ·cases h
 ·rename_i h0
  split at h
  ·rename_i l hl
   obtain⟨l0,rfl⟩:=List.getLast?_eq_some_iff.1 h
   refine⟨t.toNat,l0,by omega,hl,?_,?_⟩
   ·by_cases hz:s.fault=0
    ·exact hz
    ·exact (h0 (.inr hz)).elim
   ·rw[List.getD_eq_getElem?_getD,hl]
    simp
  ·cases h
section
variable {u:Un}(hu:l9 u){k:Nat}{s:Sy}(hs:pW u k s){t:Nat}{l0:List Fr}{f:Fr}(hl:s.ts[t]? = some (l0++[f]))
include hs
theorem pW.set {gs:List Int}{tb:List Ho}{l:List Fr}{fa:Nat}(h1:gs.length=s.gs.length)(h2:tb.length=s.tb.length)(h3:∀ h∈tb,h.d≤k+1∧(h.o≠0→0<h.d))(h6:∀ h∈tb,h.o≤32)(h4:l.length≤k+2)(h5:∀ f∈l,HK u f):pW u (k+1) ⟨gs,tb,s.ts.set t l,fa⟩:=by
 refine⟨by rw[h1,hs.gs],by rw[h2,hs.tb],h3,h6,by rw[List.length_set];exact hs.ts,fun l' h=>?_,fun l' h=>?_⟩
 ·rcases List.mem_or_eq_of_mem_set h with h | rfl
  ·have:=hs.fl l' h
   omega
  ·omega
 ·rcases List.mem_or_eq_of_mem_set h with h | rfl
  ·exact hs.fr l' h
  ·exact h5
include hl
theorem pW.fj:(∀ g∈l0,HK u g)∧HK u f∧l0.length≤k∧(∀ h∈s.tb,h.d≤k+1∧(h.o≠0→0<h.d)):=by
 have hm:=List.mem_of_getElem? hl
 have h1:=hs.fr _ hm
 have h2:=hs.fl _ hm
 refine⟨fun g hg=>h1 g (by simp[hg]),h1 f yAa,by simp at h2;omega,fun h hh=>?_⟩
 have:=hs.hd h hh
 exact⟨by omega,this.2⟩
omit hl in
theorem pW.nO {fa:Nat}:pW u (k+1) { s with fault:=fa }:=by
 refine⟨hs.gs,hs.tb,fun h hh=>?_,hs.ho,hs.ts,fun l hl=>?_,hs.fr⟩
 ·have:=hs.hd h hh
  exact⟨by omega,this.2⟩
 ·have:=hs.fl l hl
  omega
include hu
theorem H6 (ht:cT s t=some f){q:Pr}(hq:u.ps[f.proc]? = some q){i:In}(hi:q.code[f.pc]? = some i):pW u (k+1) (rP u s t l0 f i).1:=by
 obtain⟨o1,o2,o3,o4⟩:=hs.fj hl
 obtain⟨q',hq',ln,hvl,hel⟩:=o2.q
 rw[hq] at hq';cases hq'
 have ht32:t<32:=Nat.lt_of_lt_of_le (List.getElem?_eq_some_iff.1 hl).1 hs.ts.2
 have hiv:=(hu.pc q (List.mem_of_getElem? hq)).2 i (List.mem_of_getElem? hi)
 rw[← hs.gs,← hvl,← hel] at hiv
 have fin:∀ {gs:List Int} {tb:List Ho} {g:Nat} {vs:List Int},gs.length=s.gs.length→tb.length=s.tb.length→(∀ h∈tb,h.d≤k+1∧(h.o≠0→0<h.d))→(∀ h∈tb,h.o≤32)→g<q.code.length→vs.length=f.az.length→pW u (k+1) ⟨gs,tb,s.ts.set t (l0++[⟨f.proc,g,vs,f.ck⟩]),s.fault⟩:=fun {gs tb g vs} h1 h2 h3 h6 h4 h5=>by
  refine hs.set h1 h2 h3 h6 yAg fun g' hg'=>?_
  rcases List.mem_append.1 hg' with hg' | hg'
  ·exact o1 g' hg'
  ·rw[List.mem_singleton.1 hg']
   exact⟨⟨q,hq,h4,by rw[h5];exact hvl,hel⟩,o2.el,o2.ic⟩
 cases i with
 | set k' gl e=>
  have hn:=sX hu hq hi yAa
  simp only[rP,seS]
  split
  ·split
   ·exact fin yAa rfl o4 hs.ho hn rfl
   ·exact fin rfl rfl o4 hs.ho hn yAa
  ·exact hs.nO
 | branch g e=>
  have hn:=sX hu hq hi yAa
  simp only[rP,brS]
  split
  ·refine fin rfl rfl o4 hs.ho ?_ rfl
   split
   ·have:=hiv.1
    omega
   ·exact hn
  ·exact hs.nO
 | jump g=>
  have:g≤q.code.length-1:=hiv
  exact fin rfl rfl o4 hs.ho yA rfl
 | ret=>exact hs.set rfl rfl o4 hs.ho yA o1
 | lock un p=>
  have hn:=sX hu hq hi yAa
  simp only[rP]
  split
  ·simp only[HX]
   split
   ·split
    ·refine fin rfl ?_ ?_ ?_ hn rfl
     ·unfold fO
      split
      ·split<;>simp
      ·rfl
     ·unfold fO
      split
      ·rename_i h h1 h2
       split
       ·rename_i h3
        have ho:=hs.hd h (List.mem_of_getElem? h2)
        intro x hx
        rcases List.mem_or_eq_of_mem_set hx with hx | hx
        ·exact o4 x hx
        ·rw[hx]
         split
         ·exact⟨by simp only;omega,fun h=>(h rfl).elim⟩
         ·have:=ho.2 yA
          exact⟨by simp only;omega,fun _=>by simp only;omega⟩
       ·exact o4
      ·exact o4
     ·unfold fO
      split
      ·split
       ·intro x hx
        rcases List.mem_or_eq_of_mem_set hx with hx | hx
        ·exact hs.ho x hx
        ·rw[hx]
         split<;>simp only<;>omega
       ·exact hs.ho
      ·exact hs.ho
    ·exact hs.nO
   ·exact hs.nO
  ·simp only[II]
   split
   ·split
    ·refine fin rfl ?_ ?_ ?_ hn rfl
     ·unfold kM
      split<;>simp
     ·unfold kM
      split
      ·intro x hx
       rcases List.mem_or_eq_of_mem_set hx with hx | hx
       ·exact o4 x hx
       ·rw[hx]
        refine⟨?_,fun _=>by simp only;omega⟩
        simp only
        split
        ·rename_i h h1
         have:=(hs.hd h (List.mem_of_getElem? h1)).1
         omega
        ·omega
      ·exact o4
     ·unfold kM
      split
      ·intro x hx
       rcases List.mem_or_eq_of_mem_set hx with hx | hx
       ·exact hs.ho x hx
       ·rw[hx]
        simp only
        omega
      ·exact hs.ho
    ·exact hs.nO (fa:=s.fault)
   ·exact hs.nO
 | call go tg es ps=>
  have hn:=sX hu hq hi yAa
  obtain⟨c1,c2,c3⟩:=hiv
  rw[List.getElem?_map,Option.map_eq_some_iff] at c1
  obtain⟨qq,hqq,c4⟩:=c1
  simp only[Prod.mk.injEq] at c4
  have hqv:=hu.pr qq (List.mem_of_getElem? hqq)
  have hci:=Ja hu
  have hloc:z9 u tg=qq.locals:=by simp only[z9,hqq]
  have hnew:(gK u s t f tg (z9 u tg) es ps).2=0→HK u (gK u s t f tg (z9 u tg) es ps).1:=fun h0=>by
   unfold gK at h0 ⊢
   split
   ·rename_i h1
    rw[if_pos h1] at h0
    split
    ·rename_i h2
     obtain⟨k1,k2⟩:=vg hu ht o2 ps c3 h2
     have k3:=vc s.gs f.az es h1
     have k4:=congrArg List.length k2
     simp only[List.length_map] at k4
     have hqc:=(hu.pc qq (List.mem_of_getElem? hqq)).1
     refine⟨⟨qq,hqq,?_,?_,?_⟩,k1,?_⟩
     ·obtain⟨c,hc⟩:=hqc
      rw[hc]
      simp
     ·simp only[List.length_append,List.length_replicate,k3,hloc]
      omega
     ·simp only
      omega
     ·simp only[jt,k2]
      obtain⟨j,hj⟩:=List.mem_iff_getElem?.1 o2.ic
      refine hci.mem j _ (List.getElem?_eq_some_iff.1 hj).1 hj (.call go tg es ps) ?_ _ rfl
      simp only[bX,jt,hq]
      exact List.mem_of_getElem? hi
    ·rename_i h2
     rw[if_neg h2] at h0
     exact (h2 h0).elim
   ·rename_i h1
    rw[if_neg h1] at h0
    exact (h1 h0).elim
  simp only[rP]
  split
  ·simp only[goS]
   split
   ·rename_i h0
    split
    ·exact hs.nO
    ·rename_i h32
     have hb:=fin (gs:=s.gs) (tb:=s.tb) (vs:=f.az) rfl rfl o4 hs.ho hn rfl
     refine⟨hb.gs,hb.tb,hb.hd,hb.ho,by simp only[List.length_append,List.length_set,List.length_singleton];omega,fun l h=>?_,fun l h=>?_⟩
     ·rcases List.mem_append.1 h with h | h
      ·exact hb.fl l h
      ·rw[List.mem_singleton.1 h]
       simp
     ·rcases List.mem_append.1 h with h | h
      ·exact hb.fr l h
      ·rw[List.mem_singleton.1 h]
       intro g hg
       rw[List.mem_singleton.1 hg]
       exact hnew h0
   ·exact hs.nO
  ·simp only[caS]
   split
   ·rename_i h0
    refine hs.set rfl rfl o4 hs.ho yAg fun g hg=>?_
    simp only[List.mem_append,List.mem_cons,List.not_mem_nil,or_false] at hg
    rcases hg with hg | rfl | rfl
    ·exact o1 g hg
    ·exact o2.pc hq hn
    ·exact hnew h0
   ·exact hs.nO
end
theorem pW.frs {u:Un}{k:Nat}{s:Sy}(h:pW u k s):sO u s:=fun l hl f hf=>by
 obtain⟨q,h1,h2,_⟩:=(h.fr l hl f hf).q
 exact⟨q,h1,h2⟩
theorem Cz {u:Un}(hu:l9 u){k:Nat}{s:Sy}(hs:pW u k s)(t:Int):pW u (k+1) (lL u s t).1:=by
 unfold lL
 split
 ·exact hs.nO (fa:=s.fault)
 ·rename_i f hf
  split
  ·exact hs.nO (fa:=s.fault)
  ·rename_i i hi
   obtain⟨n,l0,rfl,hl,_,hd⟩:=xW hf
   obtain⟨q,hq,ln,_,_⟩:=(hs.fj hl).2.1.q
   simp only[dX,hf,hq] at hi
   rw[Int.toNat_natCast,hd]
   exact H6 hu hs hl hf hq hi
theorem xF (u:Un):∀ (f i:Nat) (l:List Is) (cs:List (List Int)) (r:List Nat) (x:Is),l[0]? = some x→(oU u f i l cs r).is[0]? = some x
 | 0,_,_,_,_,_,h=>h
 | f+1,i,l,cs,r,x,h=>by
  simp only[oU]
  split
  ·exact h
  ·rename_i y hy
   refine xF u f (i+1) _ _ _ x ?_
   obtain⟨t,ht⟩:=qa y (bX u y) l r
   rw[ht,List.getElem?_append_left (List.getElem?_eq_some_iff.1 h).1]
   exact h
theorem BV {u:Un}(hu:l9 u):pW u 0 (iK u):=by
 have hp:=hu.np.1
 obtain⟨q,hq⟩:∃ q,u.ps[u.main]? = some q:=⟨_,List.getElem?_eq_getElem (by rw[hu.main];omega)⟩
 refine⟨rfl,by simp[iK],fun h hh=>?_,fun h hh=>?_,by simp[iK],fun l hl=>?_,fun l hl f hf=>?_⟩
 ·have:=List.eq_of_mem_replicate hh
  rw[this]
  exact⟨Nat.zero_le _,fun h=>(h rfl).elim⟩
 ·have:=List.eq_of_mem_replicate hh
  rw[this]
  exact Nat.zero_le _
 ·rw[List.mem_singleton.1 hl]
  simp
 ·rw[List.mem_singleton.1 hl] at hf
  rw[List.mem_singleton.1 hf]
  refine⟨⟨q,hq,?_,by simp[hq],?_⟩,(fun e he=>by cases he),?_⟩
  ·obtain⟨⟨c,hc⟩,_⟩:=hu.pc q (List.mem_of_getElem? hq)
   rw[hc]
   simp
  ·rw[hu.main] at hq
   simp[(hu.p0 q hq).2]
  ·exact List.mem_of_getElem? (xF u 100 0 [⟨u.main,[]⟩] [] [0] ⟨u.main,[]⟩ rfl)
def q8 (u:Un):List Int→Sy→Sy
 | [],s=>s
 | t::r,s=>q8 u r (if (lL u s t).2=true then (lL u s t).1 else s)
theorem pW.mono {u:Un}{k k':Nat}{s:Sy}(h:pW u k s)(hk:k≤k'):pW u k' s:=by
 refine⟨h.gs,h.tb,fun x hx=>?_,h.ho,h.ts,fun l hl=>?_,h.fr⟩
 ·have:=h.hd x hx
  exact⟨by omega,this.2⟩
 ·have:=h.fl l hl
  omega
theorem BH {u:Un}(hu:l9 u):∀ (l:List Int) {k:Nat} {s:Sy},pW u k s→pW u (k+l.length) (q8 u l s)
 | [],_,_,h=>h
 | t::r,k,s,h=>by
  have h1:pW u (k+1) (if (lL u s t).2=true then (lL u s t).1 else s):=by
   split
   ·exact Cz hu h t
   ·exact h.mono yA
  have:=BH hu r h1
  simp only[q8,List.length_cons]
  rw[show k+(r.length+1)=k+1+r.length by omega]
  exact this
end Go.Proofs.YtmnglemlimfpbaaGreat
namespace Go.aX
open Go.Can
def ec:List Mx→Nat
 | []=>0
 | m::r=>max m.size 1+ec r
def IF:List Mx→Nat→Nat→Int
 | [],_,_=>-1
 | m::r,e,i=>if e<max m.size 1 then i else IF r (e-max m.size 1) (i+1)
def oM (th:Nat):List Ho→Nat
 | []=>0
 | h::r=>(if h.o=th+1 then h.d else 0)+oM th r
theorem xw:∀ (ms:List Mx) (i:Nat),(br ms i).length=ec ms
 | [],_=>rfl
 | m::r,i=>by simp[br,ec,xw r (i+1)]
theorem oD:∀ (a b:List Mx),ec (a++b)=ec a+ec b
 | [],b=>by simp[ec]
 | m::r,b=>by
  rw[List.cons_append,ec,ec,oD r b]
  omega
def oI:Option Nat→Int
 | some m=>m
 | none=>-1
theorem CU:∀ (ms:List Mx) (e i:Nat),IF ms e i=oI (br ms i)[e]?
 | [],e,i=>by simp[IF,br,oI]
 | m::r,e,i=>by
  rw[IF,br]
  split
  ·rename_i h
   rw[List.getElem?_append_left yAg,List.getElem?_replicate,if_pos h]
   rfl
  ·rename_i h
   rw[List.getElem?_append_right yAg,List.length_replicate,CU r]
theorem IE (ms:List Mx)(e:Nat):IF ms e 0=fE ms e:=by
 rw[CU,fE,if_neg yA,aK,Int.toNat_natCast]
 cases (br ms 0)[e]?<;>rfl
theorem vj (m th:Nat):∀ (a b:List Nat) (ta tb:List Ho),a.length=ta.length→dM m th (a++b) (ta++tb)=dM m th a ta+dM m th b tb
 | [],b,ta,tb,h=>by
  have:ta=[]:=List.length_eq_zero_iff.1 h.symm
  subst this
  simp[dM]
 | x::a,b,ta,tb,h=>by
  obtain⟨y,ta,rfl⟩:∃ y r,ta=y::r:=by
   cases ta with
   | nil=>simp at h
   | cons y r=>exact⟨y,r,rfl⟩
  simp only[List.cons_append,dM]
  rw[vj m th a b ta tb yAy]
  omega
theorem nV (m th:Nat):∀ (a:List Nat) (ta:List Ho),(∀ x∈a,x≠m)→dM m th a ta=0
 | [],ta,_=>by cases ta<;>rfl
 | x::a,[],_=>rfl
 | x::a,h::ta,hx=>by
  rw[dM,if_neg (fun e=>hx x List.mem_cons_self e.1),nV m th a ta fun y hy=>hx y (List.mem_cons_of_mem _ hy)]
theorem vi (m th:Nat):∀ (n:Nat) (ta:List Ho),ta.length=n→dM m th (List.replicate n m) ta=oM th ta
 | 0,ta,h=>by
  have:ta=[]:=List.length_eq_zero_iff.1 h
  subst this
  rfl
 | n+1,[],h=>by simp at h
 | n+1,x::ta,h=>by
  rw[List.replicate_succ,dM,oM,vi m th n ta yAy]
  simp
theorem uD:∀ (l:List Mx) (s:Nat),∀ m∈br l s,s≤m
 | [],s,m,h=>by simp[br] at h
 | x::r,s,m,h=>by
  rw[br,List.mem_append] at h
  rcases h with h | h
  ·have:=List.eq_of_mem_replicate h
   omega
  ·have:=uD r (s+1) m h
   omega
theorem vh (m th:Nat):∀ (ms:List Mx) (i:Nat) (tb:List Ho) (x:Mx),tb.length=(br ms i).length→i≤m→ms[m-i]? = some x →
  dM m th (br ms i) tb=oM th ((tb.drop (ec (ms.take (m-i)))).take (max x.size 1))
 | [],i,tb,x,_,_,h=>by simp at h
 | y::r,i,tb,x,hl,hi,h=>by
  rw[br] at hl ⊢
  rw[List.length_append,List.length_replicate] at hl
  rw[← List.take_append_drop (max y.size 1) tb,vj _ _ _ _ _ _ (by rw[List.length_replicate,List.length_take];omega),List.take_append_drop]
  by_cases he:i=m
  ·subst he
   simp at h
   subst h
   rw[vi _ _ _ _ (by rw[List.length_take];omega),nV i th (br r (i+1)) _ fun z hz=>by have:=uD r (i+1) z hz;omega]
   simp[ec]
  ·have h2:m-i=(m-(i+1))+1:=by omega
   rw[h2,List.getElem?_cons_succ] at h
   rw[nV m th _ _ (fun z hz=>by have:=List.eq_of_mem_replicate hz;omega),vh m th r (i+1) _ x (by rw[List.length_drop];omega) yA h,h2,List.take_succ_cons,ec,List.drop_drop,Nat.zero_add]
theorem Ct (th:Nat):∀ l:List Ho,(∀ h∈l,h.d≤1000000)→oM th l≤1000000*l.length
 | [],_=>by simp[oM]
 | h::r,hh=>by
  have h1:=hh h List.mem_cons_self
  have h2:=Ct th r fun x hx=>hh x (List.mem_cons_of_mem _ hx)
  rw[oM,List.length_cons]
  split<;>omega
end Go.aX
namespace Go.Can
open Go.RowKit
section
variable {P:Program}{C:Cx}{σ:Nat→Option OB}{s:St}{a:Act}{w:World}{ops:Array Oper}{aq:List (Nat×TI)}
theorem qY (h:aG C σ s a w){lo:Option Operand}{hi mx:Operand}{len cap l n m:Nat}(hh:du s (some hi) 0=some n)(hl:du s lo 0=some l)(hm:du s (some mx) 0=some m)(h1:l≤n)(h2:n≤m)(h3:m≤cap) :
  (Instr.sliceBounds true len cap (lo.map a.eval) (some (a.eval hi)) (some (a.eval mx))).run P w=.ok (l,n,m) w:=by
 have e1:∀ (k:IntKind) (i:Int) (y:Nat) (code:BoundsCode),0≤i→i.toNat≤y→(Instr.sliceBound (.int k i) y code).run P w=.ok i.toNat w:=fun k i y code h0 h1=>by
  simp only[Instr.sliceBound,asIntOf,pure_bind]
  rw[if_pos ⟨h0,by omega⟩];rfl
 rcases l6 h hh with ⟨h0,_⟩ | ⟨oh,kh,ih,h0,eh,h4,rfl⟩
 ·cases h0
 rcases l6 h hm with ⟨h5,_⟩ | ⟨om,km,im,h5,em,h6,rfl⟩
 ·cases h5
 cases h0
 cases h5
 rcases l6 h hl with ⟨rfl,rfl⟩ | ⟨ol,kl,il,rfl,el,h7,rfl⟩
 ·simp[Instr.sliceBounds,eh,em,e1 _ _ _ _ h4 h2,e1 _ _ _ _ h6 h3]
 ·simp[Instr.sliceBounds,eh,em,el,e1 _ _ _ _ h4 h2,e1 _ _ _ _ h6 h3,e1 _ _ _ _ h7 h1]
theorem wF (ht:ay P aq){o:Oper}{t e:TypeId}{x:Operand}{lo:Option Operand}{hi mx:Operand}{cs:List CV}{len l n m:Nat}{ie:TI}(hd:aU C.nt o.dst=true)(ho:o.op=.slice t x lo (some hi) (some mx))(hx:ev s x=some (.av cs len))(h1:dz aq t=some (.sl e))(h2:assoc aq e=some ie)
  (hl:du s lo 0=some l) (hh:du s (some hi) 0=some n) (hm:du s (some mx) 0=some m) (hb:l≤n∧n≤m∧m≤len):pQ P C o s (s.put o.dst (.av ((cs.drop (l*ie.size)).take ((n-l)*ie.size)) (n-l))):=by
 rintro a w ⟨σ,h⟩
 obtain⟨it,hit,hd'⟩:=Option.map_eq_some_iff.1 h1
 obtain⟨f,z,e1,e2,_⟩:=(ht e ie h2).info
 have hv:=bz h hx
 simp only[VR,bY] at hv
 obtain⟨A,cap,hA,k1,k2,k3⟩:=hv
 refine⟨w,.inl ⟨.slice (if m=l then A else A.map (·.add (l*ie.size))) (n-l) (m-l),?_,ep hd h ?_⟩⟩
 ·simp[execOp,ho,hA,Instr.sliceAt,Instr.slice,bq (dE (ht t it hit) hd'),qY h hh hl hm hb.1 hb.2.1 (Nat.le_trans hb.2.2 k1),cN e1,e2]
 ·simp only[VR,bY]
  refine⟨_,_,rfl,by omega,by omega,?_⟩
  rcases k3 with ⟨k3,rfl⟩ | ⟨ad,rfl,hm⟩
  ·exact .inl ⟨by omega,by simp⟩
  ·by_cases hl0:n=l
   ·exact .inl ⟨by omega,by simp[hl0]⟩
   ·refine .inr ⟨ad.add (l*ie.size),?_,fw.take _ _ _ (fw.drop _ _ _ hm)⟩
    rw[if_neg yA];rfl
theorem EJ (ht:ay P aq){o:Oper}{x:Operand}{xt A:TypeId}{c:CV}{ie:TI}(hd:aU C.nt o.dst=true)(ho:o.op=.typeAssert x xt A true)(hx:ev s x=some (.iface A [c]))(h1:assoc aq A=some ie)(h2:ie.d=.KD→False):pQ P C o s (s.put o.dst (.cr [c,.bool true])):=by
 rintro a w ⟨σ,h⟩
 have hv:=bz h hx
 simp only[VR,aS] at hv
 obtain⟨vs,e,v,r,rfl,hv,rfl⟩:=hv
 simp only[Mo] at e
 obtain⟨u,hu,hud⟩:=(ht A ie h1).y7
 have hn:∀ k,u≠.interface k:=fun k e=>h2 (by rw[← hud,e];rfl)
 refine⟨w,.inl ⟨.tuple #[v,.bool true],?_,ep hd h ?_⟩⟩
 ·have hr:(underlying A).run P w=.ok u w:=bq hu w
  cases u<;>first | exact absurd rfl (hn _) | simp[execOp,ho,e,Instr.typeAssert,hr]
 ·simp only[VR,aS]
  exact⟨[v,.bool true],rfl,v,[.bool true],rfl,hv,.bool true,[],rfl,rfl,rfl⟩
theorem Co (ht:ay P aq){o:Oper}{x:Operand}{xt A:TypeId}{c:CV}{ie:TI}{z:Value}(hd:aU C.nt o.dst=true)(ho:o.op=.typeAssert x xt A true)(hx:ev s x=some (.iface 0 []))(h1:assoc aq A=some ie)(h2:ie.d=.KD→False)(hzz:(P.info? A).bind (·.zero)=some z)(hc:qA z=some c):pQ P C o s (s.put o.dst (.cr [c,.bool false])):=by
 rintro a w ⟨σ,h⟩
 have hv:=bz h hx
 simp only[VR,aS] at hv
 obtain⟨vs,e,rfl⟩:=hv
 simp only[Mo] at e
 obtain⟨u,hu,hud⟩:=(ht A ie h1).y7
 have hn:∀ k,u≠.interface k:=fun k e=>h2 (by rw[← hud,e];rfl)
 obtain⟨f,hi,hz⟩:=Option.bind_eq_some_iff.1 hzz
 have hcv:VR w (FB C σ s.heap) σ c z:=VR.cu _ _ (mD hc)
 refine⟨w,.inl ⟨.tuple #[z,.bool false],?_,ep hd h ?_⟩⟩
 ·have hr:(underlying A).run P w=.ok u w:=bq hu w
  cases u<;>first | exact absurd rfl (hn _) | simp[execOp,ho,e,Instr.typeAssert,hr,g7 hi hz]
 ·simp only[VR,aS]
  exact⟨[z,.bool false],rfl,z,[.bool false],rfl,hcv,.bool false,[],rfl,rfl,rfl⟩
end
end Go.Can
