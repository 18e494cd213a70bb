/- A step that starts a thread. -/
import Derived.Test.YtmnglemlimfpbaaGreatZ46
namespace Go.Proofs.YtmnglemlimfpbaaGreat
open Go.Can Go.aX
set_option maxHeartbeats 4000000 in
set_option maxRecDepth 100000 in
theorem H5 (u:Un)(s:Sy)(t:Nat)(l0:List Fr)(f:Fr)(q:Pr)(tg:Nat)(es:List Ex)(ps:List Pl)(qq:Pr)(hm:xN u.ms)(hqq:u.ps[tg]? = some qq)(he:∀ e∈es,vH s.gs.length f.az.length e)(hel:es.length≤1000)(hp:∀ p∈ps,p.index≤1000000∧vF u.ms s.gs.length f.az.length f.ck.length p)(hpl:ps.length≤1000)(hq1:qq.ints=es.length)(hq2:qq.locals≤1000000)(hl:s.ts[t]? = some (l0++[f]))(hf0:s.fault=0)(hq:u.ps[f.proc]? = some q)(hc:q.code[f.pc]? = some (.call true tg es ps))(hfr:sO u s)
  (h1:s.gs.length≤1000000) (h2:s.tb.length≤1000000) (h3:s.ts.length≤1000000) (h4:∀ l∈s.ts,l.length≤1000000) (h5:f.az.length≤1000000) (h6:f.pc≤1000000) :
  ae Tryz.prog 63 [cS u,cf s,I t] (.cr [cf (goS u s t l0 f tg qq.locals es ps),.bool true]):=by
 have hin:=cQ u s t ⟨h3,h4⟩ hfr
 have hll:=h4 _ (List.mem_of_getElem? hl)
 have hll2:l0.length≤1000000:=by simp at hll;omega
 have htop:cT s t=some f:=by simp[cT,hl,hf0]
 have hins:dX u s t=some (.call true tg es ps):=by simp[dX,htop,hq,hc]
 rw[hins] at hin
 have hco:=gV s t l0 f hl h1 h2 h3 hll2 h5
 have targ:trees [cS u,cf s,I t]=true:=by
  have:=bR u
  simp only[trees,tree,cf,ed,cS,this,ints,Bool.and_self]
 have htr:tree (.cr [cf (goS u s t l0 f tg qq.locals es ps),.bool true])=true:=by
  simp only[cf,ed,tree,trees,bQ,Bool.and_self]
 refine ae.aB ag Tryz.func63 rfl yAb yBi htr fun C hC hC0=>?_
 rw[Tryz.ntmps63] at hC
 have hac:=pt u s t f true tg qq es ps hm ⟨h3,h4⟩ htop hqq he hel hp hpl hq1 hq2
 have hgo:goS u s t l0 f tg qq.locals es ps=if (gK u s t f tg qq.locals es ps).2=0 then (if 32≤s.ts.length then { s with fault:=4 } else { s with ts:=s.ts.set t (l0++[{ f with pc:=f.pc+1 }])++[[(gK u s t f tg qq.locals es ps).1]] }) else { s with fault:=(gK u s t f tg qq.locals es ps).2 }:=rfl
 rw[hgo]
 have hfa:=gU s (gK u s t f tg qq.locals es ps).2
 have hf4:=gU s 4
 have tf4:trees [cf s,I (4:Nat)]=true:=by simp only[trees,tree,cf,ed,ints,Bool.and_self]
 have tfa:trees [cf s,I (gK u s t f tg qq.locals es ps).2]=true:=by simp only[trees,tree,cf,ed,ints,Bool.and_self]
 have tac:trees [cS u,cf s,I t,.agg (dv (.call true tg es ps))]=true:=by
  have:=bR u
  simp only[trees,tree,iA,cf,ed,cS,this,ints,Bool.and_self]
 generalize gK u s t f tg qq.locals es ps=y at hac hfa tfa ⊢
 obtain⟨z,fa⟩:=y
 simp only[cf,ed,cS,fy,ints,jw,dv,aZ,oz,List.cons_append,List.nil_append,e8] at hin hco targ hac tac hfa tfa hf4 tf4 ⊢
 apply au
 simp[hC]
 apply au
 simp[hC]
 refine cH targ hin ?_
 simp[hC]
 apply aJ
 simp[hC]
 refine e9 ?_
 simp
 apply au
 simp[hC]
 have tG:trees (s.gs.map bM)=true:=aM s.gs
 have tT:trees (s.tb.flatMap cW)=true:=ai bV _
 have tL:trees (l0.flatMap e8)=true:=ai dr _
 have tV:trees (f.az.map bM)=true:=aM f.az
 have tE:=aP f.ck
 have tA1:trees ((s.ts.take t).flatMap dt)=true:=ai a9 _
 have tA2:trees ((s.ts.drop (t+1)).flatMap dt)=true:=ai a9 _
 have rG:=fun ρ=>af ρ _ tG
 have rT:=fun ρ=>af ρ _ tT
 have rL:=fun ρ=>af ρ _ tL
 have rV:=fun ρ=>af ρ _ tV
 have r1:=fun ρ=>af ρ _ tA1
 have r2:=fun ρ=>af ρ _ tA2
 have rE:=fun ρ=>af ρ _ tE
 have ra:∀ ρ (a b:List CV),bu ρ (a++b)=bu ρ a++bu ρ b:=fun ρ a b=>by rw[b9,b9,b9,List.map_append]
 have tco:aQ 0 [.agg [.av (s.gs.map bM) s.gs.length,.av (s.tb.flatMap cW) s.tb.length,.av (s.ts.flatMap dt) s.ts.length,I s.fault],I t]=true:=by
  have tS:trees (s.ts.flatMap dt)=true:=ai a9 _
  simp only[a7,List.all_cons,List.all_nil,Bool.and_true]
  rw[a6 0 _ yBm]
  rfl
 refine TL.n8 ag [] [] 0 6 (hco) rfl (by rfl) yAc rfl rfl yAk yAk yBk yAk yAk (TL.go' ag ?_)
 simp[hC,bT,ca,bu,dU,cI,rG,rT,rL,rV,r1,r2,ra,aW]
 generalize hA:(s.ts.take t).flatMap dt=A at tA1 r1 ⊢
 generalize hB:(s.ts.drop (t+1)).flatMap dt=B at tA2 r2 ⊢
 generalize hD:l0.flatMap e8=D at tL rL ⊢
 have htl:=(List.getElem?_eq_some_iff.1 hl).1
 have lA:A.length=t:=by rw[← hA,dn,List.length_map,List.length_take];omega
 have lD:D.length=l0.length*4:=by rw[← hD];exact aD eK l0
 have dA:∀ r:List CV,(A++r).drop t=r:=fun r=>by rw[← lA];simp
 have dD:∀ r:List CV,(D++r).drop (l0.length*4)=r:=fun r=>by rw[← lD];simp
 have dD1:∀ (r:List CV) (k:Nat),(D++r).drop (l0.length*4+k)=r.drop k:=fun r k=>by rw[← lD,List.drop_append];simp
 have tD1:∀ (r:List CV) (k:Nat),(D++r).take (l0.length*4+k)=D++r.take k:=fun r k=>by rw[← lD,List.take_append,List.take_of_length_le yA];simp
 have dD2:∀ (r:List CV),(D++r).drop (l0.length*4+1+1)=r.drop 2:=fun r=>dD1 r 2
 have w1:=ct (l0.length:Int) yA yA
 have w2:(l0.length:Int)<(l0.length:Int)+1:=by omega
 have w3:=ct ((f.pc:Int)+1) yA yA
 refine T.le (Le.trim [10,8,7,6,4,3,2] [10,4,5,6,7,8,3,2,1,0] 11 yBf yA) ?_
 simp
 apply au
 simp[hC,htl,dA]
 apply au
 simp[hC,w1,w2]
 apply au
 simp[hC,w3,lD,dD1,tD1,dD2]
 repeat first
  | apply T.seq
  | (apply aO;simp[hC])
  | (refine T.cond (b:=false) ?_ ?_;(first | rfl | (simp[ev,assoc];done));simp)
  | (refine T.cond (b:=true) ?_ ?_;(first | rfl | (simp[ev,assoc,lD];done));simp)
  | (apply T.skip;simp)
  | apply T.block
 refine cH tac hac ?_
 simp[hC]
 by_cases hf:fa=0
 ·subst hf
  by_cases h32:32≤s.ts.length
  ·have h32i:(32:Int)≤(s.ts.length:Int):=by omega
   repeat first
    | apply T.seq
    | (apply aO;simp[hC,h32i])
    | (refine T.cond (b:=false) ?_ ?_;(first | rfl | (simp[ev,assoc];done));simp)
    | (refine T.cond (b:=true) ?_ ?_;(first | rfl | (simp[ev,assoc,h32i];done));simp)
    | (apply T.skip;simp)
    | apply T.block
   refine cH tf4 hf4 ?_
   simp[hC]
   apply T.ret
   refine aa.le (Le.trim [7,6] [2] 12 yAt yA) ?_
   simp
   apply aa.here
   simp[h32]
  ·have h32i:¬ (32:Int)≤(s.ts.length:Int):=by omega
   have b1:(s.ts.length+1)*24≤140737488355328:=by omega
   have b2:(s.ts.length+1)*8≤140737488355328:=by omega
   have lAB:A.length+(B.length+1)=s.ts.length:=by
    have:B.length=s.ts.length-(t+1):=by rw[← hB,dn,List.length_map,List.length_drop]
    omega
   repeat first
    | apply T.seq
    | (apply aO;simp[hC,h32i,b1,lAB,aI])
    | (refine T.cond (b:=false) ?_ ?_;(first | rfl | (simp[ev,assoc,h32i,lD,b1,b2,lAB,aI];done));simp)
    | (refine T.cond (b:=true) ?_ ?_;(first | rfl | (simp[ev,assoc,h32i,lD,b1,b2,lAB,aI];done));simp)
    | (apply T.skip;simp)
    | apply T.block
   have tZv:trees (z.az.map bM)=true:=aM z.az
   have tZe:=aP z.ck
   apply T.ret
   refine aa.le (Le.trim [7,6] [2,4,5,14,7,12,8] 15 yCm yA) ?_
   simp
   have kG:List.take s.gs.length (s.gs.map bM)=s.gs.map bM:=List.take_of_length_le yAa
   have kT:List.take (s.tb.length*2) (s.tb.flatMap cW)=s.tb.flatMap cW:=List.take_of_length_le yBn
   have kV:List.take f.az.length (f.az.map bM)=f.az.map bM:=List.take_of_length_le yAa
   refine aa.le (Le.cG (o:=8) rfl tV) ?_
   simp[kV,ak tG,ak tT,ak tL,aW,ak tA1,ak tA2]
   refine aa.le (Le.cG (o:=4) rfl tG) ?_
   simp[kG,ak tT,ak tL,ak tA1,ak tA2]
   refine aa.le (Le.cG (o:=5) rfl tT) ?_
   simp[kT,ak tL,ak tA1,ak tA2]
   have tF:trees (D++[I f.proc,I ((f.pc:Int)+1),.av (f.az.map bM) f.az.length,.av (f.ck.map fun n:Nat=>I n) f.ck.length])=true:=by
    rw[aC,tL]
    simp only[trees,tree,Bool.and_self]
   have kF:∀ a b c d:CV,List.take ((l0.length+1)*4) (D++[a,b,c,d])=D++[a,b,c,d]:=fun a b c d=>List.take_of_length_le yAg
   refine aa.le (Le.cG (o:=7) rfl tF) ?_
   simp[kF,ak tA1,ak tA2]
   have tZ:trees [I z.proc,I z.pc,.av (z.az.map bM) z.az.length,.av (z.ck.map fun n:Nat=>I n) z.ck.length]=true:=by simp only[trees,tree,Bool.and_self]
   refine aa.le (Le.cG (o:=12) rfl tZ) ?_
   simp[ak tA1,ak tA2]
   have tH:trees (A++.av (D++[I f.proc,I ((f.pc:Int)+1),.av (f.az.map bM) f.az.length,.av (f.ck.map fun n:Nat=>I n) f.ck.length]) (l0.length+1)::(B++[.av [I z.proc,I z.pc,.av (z.az.map bM) z.az.length,.av (z.ck.map fun n:Nat=>I n) z.ck.length] 1]))=true:=by
    simp only[aC,tA1,trees,tA2,tree,Bool.and_self]
   have kH:∀ x y:CV,List.take (s.ts.length+1) (A++x::(B++[y]))=A++x::(B++[y]):=fun x y=>List.take_of_length_le yAg
   refine aa.le (Le.cG (o:=14) rfl tH) ?_
   simp[kH]
   apply aa.here
   have hset:(s.ts.set t (l0++[{ f with pc:=f.pc+1 }])).flatMap dt=A++.av (D++[I f.proc,I ((f.pc:Int)+1),.av (f.az.map bM) f.az.length,.av (f.ck.map fun n:Nat=>I n) f.ck.length]) (l0.length+1)::B:=by
    rw[List.set_eq_take_append_cons_drop,if_pos htl,List.flatMap_append,List.flatMap_cons,hA,hB]
    simp[dt,e8,hD,ints,aW]
   have hz1:dt [z]=[.av [I z.proc,I z.pc,.av (z.az.map bM) z.az.length,.av (z.ck.map fun n:Nat=>I n) z.ck.length] 1]:=by simp[dt,e8,ints,aW]
   simp[h32,hset,hz1]
 ·have hf1:((fa:Int) == 0)=false:=by rw[beq_eq_false_iff_ne];omega
  have hf2:((fa:Int) != 0)=true:=by rw[bne_iff_ne];omega
  repeat first
   | apply T.seq
   | (apply aO;simp[hC,hf1,hf2])
   | (refine T.cond (b:=false) ?_ ?_;(first | rfl | (simp[ev,assoc];done));simp)
   | (refine T.cond (b:=true) ?_ ?_;(first | rfl | (simp[ev,assoc,hf1,hf2];done));simp)
   | (apply T.skip;simp)
   | apply T.block
  refine cH tfa hfa ?_
  simp[hC]
  apply T.ret
  refine aa.le (Le.trim [7,6] [2] 12 yAt yA) ?_
  simp
  apply aa.here
  simp[hf]
set_option maxHeartbeats 4000000 in
set_option maxRecDepth 100000 in
theorem DJ (u:Un)(s:Sy)(t:Nat)(l0:List Fr)(f:Fr)(q:Pr)(g:Nat)(hl:s.ts[t]? = some (l0++[f]))(hf0:s.fault=0)(hq:u.ps[f.proc]? = some q)(hc:q.code[f.pc]? = some (.jump g))(hfr:sO u s)
  (h1:s.gs.length≤1000000) (h2:s.tb.length≤1000000) (h3:s.ts.length≤1000000) (h4:∀ l∈s.ts,l.length≤1000000) (h5:f.az.length≤1000000) (h6:f.pc≤1000000) :
  ae Tryz.prog 63 [cS u,cf s,I t] (.cr [cf { s with ts:=s.ts.set t (l0++[{ f with pc:=g }]) },.bool true]):=by
 have hin:=cQ u s t ⟨h3,h4⟩ hfr
 have hll:=h4 _ (List.mem_of_getElem? hl)
 have hll2:l0.length≤1000000:=by simp at hll;omega
 have htop:cT s t=some f:=by simp[cT,hl,hf0]
 have hins:dX u s t=some (.jump g):=by simp[dX,htop,hq,hc]
 rw[hins] at hin
 have hco:=gV s t l0 f hl h1 h2 h3 hll2 h5
 have targ:trees [cS u,cf s,I t]=true:=by
  have:=bR u
  simp only[trees,tree,cf,ed,cS,this,ints,Bool.and_self]
 have htr:tree (.cr [cf { s with ts:=s.ts.set t (l0++[{ f with pc:=g }]) },.bool true])=true:=by
  simp only[cf,ed,tree,trees,bQ,Bool.and_self]
 refine ae.aB ag Tryz.func63 rfl yAb yBi htr fun C hC hC0=>?_
 rw[Tryz.ntmps63] at hC
 simp only[cf,ed,cS,fy,ints] at hin hco targ ⊢
 apply au
 simp[hC]
 apply au
 simp[hC]
 refine cH targ hin ?_
 simp[hC,jw,dv,aZ,oz]
 apply aJ
 simp[hC]
 refine e9 ?_
 simp
 apply au
 simp[hC]
 have tG:trees (s.gs.map bM)=true:=aM s.gs
 have tT:trees (s.tb.flatMap cW)=true:=ai bV _
 have tL:trees (l0.flatMap e8)=true:=ai dr _
 have tV:trees (f.az.map bM)=true:=aM f.az
 have tE:=aP f.ck
 have tA1:trees ((s.ts.take t).flatMap dt)=true:=ai a9 _
 have tA2:trees ((s.ts.drop (t+1)).flatMap dt)=true:=ai a9 _
 have rG:=fun ρ=>af ρ _ tG
 have rT:=fun ρ=>af ρ _ tT
 have rL:=fun ρ=>af ρ _ tL
 have rV:=fun ρ=>af ρ _ tV
 have r1:=fun ρ=>af ρ _ tA1
 have r2:=fun ρ=>af ρ _ tA2
 have rE:=fun ρ=>af ρ _ tE
 have ra:∀ ρ (a b:List CV),bu ρ (a++b)=bu ρ a++bu ρ b:=fun ρ a b=>by rw[b9,b9,b9,List.map_append]
 have tco:aQ 0 [.agg [.av (s.gs.map bM) s.gs.length,.av (s.tb.flatMap cW) s.tb.length,.av (s.ts.flatMap dt) s.ts.length,I s.fault],I t]=true:=by
  have tS:trees (s.ts.flatMap dt)=true:=ai a9 _
  simp only[a7,List.all_cons,List.all_nil,Bool.and_true]
  rw[a6 0 _ yBm]
  rfl
 refine TL.n8 ag [] [] 0 6 (hco) rfl (by rfl) yAc rfl rfl yAk yAk yBk yAk yAk (TL.go' ag ?_)
 simp[hC,bT,ca,bu,dU,cI,rG,rT,rL,rV,r1,r2,ra,aW]
 generalize hA:(s.ts.take t).flatMap dt=A at tA1 r1 ⊢
 generalize hB:(s.ts.drop (t+1)).flatMap dt=B at tA2 r2 ⊢
 generalize hD:l0.flatMap e8=D at tL rL ⊢
 have htl:=(List.getElem?_eq_some_iff.1 hl).1
 have lA:A.length=t:=by rw[← hA,dn,List.length_map,List.length_take];omega
 have lD:D.length=l0.length*4:=by rw[← hD];exact aD eK l0
 have dA:∀ r:List CV,(A++r).drop t=r:=fun r=>by rw[← lA];simp
 have dD:∀ r:List CV,(D++r).drop (l0.length*4)=r:=fun r=>by rw[← lD];simp
 have dD1:∀ (r:List CV) (k:Nat),(D++r).drop (l0.length*4+k)=r.drop k:=fun r k=>by rw[← lD,List.drop_append];simp
 have tD1:∀ (r:List CV) (k:Nat),(D++r).take (l0.length*4+k)=D++r.take k:=fun r k=>by rw[← lD,List.take_append,List.take_of_length_le yA];simp
 have dD2:∀ (r:List CV),(D++r).drop (l0.length*4+1+1)=r.drop 2:=fun r=>dD1 r 2
 have w1:=ct (l0.length:Int) yA yA
 have w2:(l0.length:Int)<(l0.length:Int)+1:=by omega
 have w3:=ct ((f.pc:Int)+1) yA yA
 refine T.le (Le.trim [10,8,7,6,4,3,2] [10,4,5,6,7,8,3,2,1,0] 11 yBf yA) ?_
 simp
 apply au
 simp[hC,htl,dA]
 apply au
 simp[hC,w1,w2]
 apply au
 simp[hC,w3,lD,dD1,tD1,dD2]
 repeat first
  | apply T.seq
  | (apply aO;simp[hC,lD,tD1,dD2])
  | (refine T.cond (b:=false) ?_ ?_;(first | rfl | (simp[ev,assoc];done));simp)
  | (refine T.cond (b:=true) ?_ ?_;(first | rfl | (simp[ev,assoc,lD,dD,dD1,tD1,dD2];done));simp)
  | (apply T.skip;simp)
  | apply T.block
 apply T.ret
 refine aa.le (Le.trim [7,6] [2,4,5,6,7,8] 11 yBf yA) ?_
 simp
 have kG:List.take s.gs.length (s.gs.map bM)=s.gs.map bM:=List.take_of_length_le yAa
 have kT:List.take (s.tb.length*2) (s.tb.flatMap cW)=s.tb.flatMap cW:=List.take_of_length_le yBn
 have kV:List.take f.az.length (f.az.map bM)=f.az.map bM:=List.take_of_length_le yAa
 refine aa.le (Le.cG (o:=8) rfl tV) ?_
 simp[kV,ak tG,ak tT,ak tL,ak tA1,ak tA2]
 refine aa.le (Le.cG (o:=4) rfl tG) ?_
 simp[kG,ak tT,ak tL,ak tA1,ak tA2]
 refine aa.le (Le.cG (o:=5) rfl tT) ?_
 simp[kT,ak tL,ak tA1,ak tA2]
 have tF:trees (D++[I f.proc,I g,.av (f.az.map bM) f.az.length,.av (f.ck.map fun n:Nat=>I n) f.ck.length])=true:=by
  rw[aC,tL]
  simp only[trees,tree,Bool.and_self]
 have kF:∀ a b c d:CV,List.take ((l0.length+1)*4) (D++[a,b,c,d])=D++[a,b,c,d]:=fun a b c d=>List.take_of_length_le yAg
 refine aa.le (Le.cG (o:=7) rfl tF) ?_
 simp[kF,ak tA1,ak tA2]
 have tH:trees (A++.av (D++[I f.proc,I g,.av (f.az.map bM) f.az.length,.av (f.ck.map fun n:Nat=>I n) f.ck.length]) (l0.length+1)::B)=true:=by
  simp only[aC,tA1,trees,tA2,tree,Bool.and_self]
 have lB:B.length=s.ts.length-(t+1):=by rw[← hB,dn,List.length_map,List.length_drop]
 have kH:∀ x:CV,List.take s.ts.length (A++x::B)=A++x::B:=fun x=>List.take_of_length_le yAg
 refine aa.le (Le.cG (o:=6) rfl tH) ?_
 simp[kH]
 apply aa.here
 have hset:(s.ts.set t (l0++[{ f with pc:=g }])).flatMap dt=A++.av (D++[I f.proc,I g,.av (f.az.map bM) f.az.length,.av (f.ck.map fun n:Nat=>I n) f.ck.length]) (l0.length+1)::B:=by
  rw[List.set_eq_take_append_cons_drop,if_pos htl,List.flatMap_append,List.flatMap_cons,hA,hB]
  simp[dt,e8,hD,ints,aW]
 simp[hset]
theorem DH (u:Un)(s:Sy)(t:Int)(h3:s.ts.length≤1000000)(h4:∀ l∈s.ts,l.length≤1000000)(hfr:sO u s)(hn:cT s t=none) :
  ae Tryz.prog 63 [cS u,cf s,I t] (.cr [cf s,.bool false]):=by
 have hin:=cQ u s t ⟨h3,h4⟩ hfr
 have hins:dX u s t=none:=by simp[dX,hn]
 rw[hins] at hin
 have targ:trees [cS u,cf s,I t]=true:=by
  have:=bR u
  simp only[trees,tree,cf,ed,cS,this,ints,Bool.and_self]
 have htr:tree (.cr [cf s,.bool false])=true:=by
  simp only[cf,ed,tree,trees,bQ,Bool.and_self]
 refine ae.aB ag Tryz.func63 rfl yAb yBi htr fun C hC hC0=>?_
 rw[Tryz.ntmps63] at hC
 simp only[cf,ed,cS,fy,ints] at hin targ ⊢
 apply au
 simp[hC]
 apply au
 simp[hC]
 refine cH targ hin ?_
 simp[hC,jw]
 apply aJ
 simp[hC]
 refine dN ?_
 simp
 apply au
 simp[hC]
 apply T.ret
 apply aa.here
 simp[Tryz.results63]
theorem pW.bounds {u:Un}(hu:l9 u){k:Nat}(hk:k≤1000){s:Sy}(h:pW u k s):s.gs.length≤1000000∧s.tb.length≤1000000∧s.ts.length≤1000000∧(∀ l∈s.ts,l.length≤1000000)∧∀ l∈s.ts,∀ f∈l,f.az.length≤1000000∧f.pc≤1000000:=by
 have h1:=hu.ng
 have h2:=xS hu
 have h3:=h.gs
 have h4:=h.tb
 have h5:=h.ts
 refine⟨by omega,by omega,by omega,fun l hl=>by have:=h.fl l hl;omega,fun l hl f hf=>?_⟩
 obtain⟨q,hq,ln,hv,_⟩:=(h.fr l hl f hf).q
 have h6:=hu.pr q (List.mem_of_getElem? hq)
 omega
theorem Fq {u:Un}(hu:l9 u){k:Nat}(hk:k≤1000){s:Sy}(hs:pW u k s)(t:Int) :
  ae Tryz.prog 63 [cS u,cf s,I t] (.cr [cf (lL u s t).1,.bool (lL u s t).2]):=by
 obtain⟨h1,h2,h3,h4,h5⟩:=hs.bounds hu hk
 have hfr:=hs.frs
 unfold lL
 cases ht:cT s t with
 | none=>exact DH u s t h3 h4 hfr ht
 | some f=>
  obtain⟨n,l0,rfl,hl,hf0,hd⟩:=xW ht
  obtain⟨o1,o2,o3,o4⟩:=hs.fj hl
  obtain⟨q,hq,ln,hvl,hel⟩:=o2.q
  obtain⟨i,hi⟩:∃ i,q.code[f.pc]? = some i:=⟨_,List.getElem?_eq_getElem ln⟩
  have hins:dX u s n=some i:=by simp[dX,ht,hq,hi]
  obtain⟨h6,h7⟩:=h5 _ (List.mem_of_getElem? hl) f yAa
  have hiv:=(hu.pc q (List.mem_of_getElem? hq)).2 i (List.mem_of_getElem? hi)
  have hqv:=hu.pr q (List.mem_of_getElem? hq)
  rw[← hs.gs,← hvl,← hel] at hiv
  have hmb:=kE hu
  have hol:=D2 u.ms
  have hd1:∀ h∈s.tb,h.d≤1000000∧(h.o≠0→0<h.d):=fun h hh=>by
   have:=hs.hd h hh
   exact⟨by omega,this.2⟩
  have hnm:=hu.nm
  have hpx:∀ p:Pl,vF u.ms s.gs.length f.az.length f.ck.length p→p.index≤1000000:=fun p hp=>by
   rcases hp with ⟨_,h,_⟩ | ⟨_,m,h,_⟩
   ·omega
   ·have:=(List.getElem?_eq_some_iff.1 h).1
    omega
  simp only[hins,Int.toNat_natCast,hd]
  cases i with
  | set k' gl e=>
   refine Fp u s n l0 f q k' gl e ?_ hiv.2 hl hf0 hq hi hfr h1 h2 h3 h4 h6 h7
   exact hiv.1
  | branch g e=>exact zx u s n l0 f q g e hiv.2 hl hf0 hq hi hfr h1 h2 h3 h4 h6 h7
  | jump g=>exact DJ u s n l0 f q g hl hf0 hq hi hfr h1 h2 h3 h4 h6 h7
  | ret=>exact step_ret u s n l0 f q hl hf0 hq hi hfr h1 h2 h3 h4 h6 h7
  | lock un p=>
   have hpv:vF u.ms s.gs.length f.az.length f.ck.length p:=hiv
   have hele:∀ j:Nat,bD u s n p=((j:Int),0)→j<(aK u.ms).length:=fun j hj=>(qw hu ht o2 hpv hj).1
   cases un with
   | true=>exact zw u s n l0 f q p hmb (hpx p hpv) hpv hele hs.tb hd1 hl hf0 hq hi hfr h1 h2 h3 h4 h6 h7
   | false=>exact DI u s n l0 f q p hmb (hpx p hpv) hpv hele hs.tb hol (fun h hh=>(hd1 h hh).1) hl hf0 hq hi hfr h1 h2 h3 h4 h6 h7
  | call go tg es ps=>
   obtain⟨c1,c2,c3⟩:=hiv
   rw[List.getElem?_map,Option.map_eq_some_iff] at c1
   obtain⟨qq,hqq,c4⟩:=c1
   simp only[Prod.mk.injEq] at c4
   have hqv2:=hu.pr qq (List.mem_of_getElem? hqq)
   have hloc:z9 u tg=qq.locals:=by simp only[z9,hqq]
   have c5:∀ p∈ps,p.index≤1000000∧vF u.ms s.gs.length f.az.length f.ck.length p:=fun p hp=>⟨hpx p (c3 p hp),c3 p hp⟩
   cases go with
   | true=>
    simp only[rP,if_true,hloc]
    exact H5 u s n l0 f q tg es ps qq hmb hqq c2 yA c5 yA yA yA hl hf0 hq hi hfr h1 h2 h3 h4 h6 h7
   | false=>
    simp only[rP,Bool.false_eq_true,if_false,hloc]
    exact DK u s n l0 f q tg es ps qq hmb hqq c2 yA c5 yA yA yA hl hf0 hq hi hfr h1 h2 h3 h4 h6 h7
def runN (u:Un):List Int→Sy→Nat
 | [],_=>0
 | t::r,s=>(if (lL u s t).2=true then 1 else 0)+runN u r (if (lL u s t).2=true then (lL u s t).1 else s)
def uz (x:Int):Int:=if x.tmod 16=7 then x else x % 4
def cK (l:List Int)(n:Nat):List Int:=(l.take n).map uz
def J38 (l:List Int)(n:Nat)(m:Nat)(s:St):Prop:=∃ i:Nat,m=min l.length n-i∧i≤min l.length n∧
 s=⟨[(6,I i),(5,.bx 0 0 i),(1,I n),(0,.av (l.map bM) l.length)],[(0,⟨3,1,(cK l i).map bM⟩)],1⟩
theorem gB (l:List Int)(n:Nat):(cK l n).length=min l.length n:=by simp[cK,Nat.min_comm]
theorem FY (l:List Int)(hl:l.length≤9223372036854775807)(n:Nat)(hn:n≤1000):ae Tryz.prog 38 [ints l,I n] (ints (cK l n)):=by
 have tl:trees (l.map bM)=true:=aM l
 refine ae.aB ag Tryz.func38 rfl yAb (by simp[Tryz.ntmps38]) rfl fun C hC hC0=>?_
 rw[Tryz.ntmps38] at hC
 simp only[ints]
 apply au
 simp[hC]
 apply au
 simp[hC]
 apply aJ
 simp[hC]
 apply T.block
 refine T.aL (J38 l n) (n:=min l.length n) ?_ ?_
 ·refine aa.le (Le.own 5 3 1 rfl) ?_
  simp[St.own]
  refine aa.trim [6,5,1,0] [0] 1 (by simp[-List.all_eq_true,-List.all_map]) yA ⟨0,by omega,by omega,?_⟩
  simp[cK]
 ·rintro m s ⟨i,rfl,hi,rfl⟩
  have tp:trees ((cK l i).map bM)=true:=aM _
  have hpl:(cK l i).length=i:=by rw[gB];omega
  by_cases hil:i<l.length
  ·by_cases hin:i<n
   ·obtain⟨x,hx⟩:∃ x,l[i]? = some x:=⟨_,List.getElem?_eq_getElem hil⟩
    have hdx:(l.map bM).drop i=I x::(l.map bM).drop (i+1):=by
     rw[List.drop_eq_getElem_cons (by simpa using hil)]
     simp[(List.getElem?_eq_some_iff.1 hx).2]
    have wi:=ct ((i:Int)+1) yA yA
    have hst:cK l (i+1)=cK l i++[uz x]:=by
     simp only[cK]
     rw[List.take_add_one,hx]
     simp
    have bd:(i+1)*8≤140737488355328:=by omega
    have tp1:trees ((cK l i).map bM++[I (uz x)])=true:=by rw[aC,tp];rfl
    have rp1:=fun ρ=>af ρ _ tp1
    apply aJ
    simp[hC,hil,hin]
    refine T.cond (b:=true) yAf (T.skip ?_)
    simp
    apply fq
    by_cases h7:x.tmod 16=7
    ·have hz:uz x=x:=by simp[uz,h7]
     rw[hz] at hst tp1 rp1
     apply au
     simp[hC,hil,hdx,h7]
     refine dN ?_
     simp
     apply aO
     simp[hC,hil,hdx,bd,hpl,aI]
     apply aO
     simp[hC,wi]
     refine⟨min l.length n-(i+1),by omega,?_⟩
     refine aa.le (Le.norm [6,5,1,0] [(2,0)] 0 1 yAl yAm yCu yA) ?_
     simp[dF,ca,dU,gg,assoc,rp1]
     refine aa.here ⟨i+1,rfl,by omega,?_⟩
     rw[hst]
     simp
    ·have hz:uz x=x % 4:=by simp[uz,h7]
     rw[hz] at hst tp1 rp1
     have h7b:(x.tmod 16 == 7)=false:=by rw[beq_eq_false_iff_ne];exact h7
     have hwi:=qO x 4 yA yA
     apply au
     simp[hC,hil,hdx]
     refine T.cond (b:=false) (by simp[ev,assoc,h7b]) ?_
     simp
     apply aO
     simp[hC,hil,hdx]
     refine cH rfl hwi ?_
     simp[hC,bd,hpl,aI]
     apply aO
     simp[hC,wi]
     refine⟨min l.length n-(i+1),by omega,?_⟩
     refine aa.le (Le.norm [6,5,1,0] [(2,0)] 0 1 yAl yAm yCu yA) ?_
     simp[dF,ca,dU,gg,assoc,rp1]
     refine aa.here ⟨i+1,rfl,by omega,?_⟩
     rw[hst]
     simp
   ·have hie:i=min l.length n:=by omega
    apply aJ
    simp[hC,hil,hin]
    refine T.cond (b:=false) yAf ?_
    simp
    apply T.exit
    simp
    apply au
    simp[hC]
    apply T.ret
    have hpe:cK l i=cK l n:=by
     have:l.take i=l.take n:=by
      rw[List.take_eq_take_iff]
      omega
     rw[cK,this,cK]
    have kp:List.take i ((cK l n).map bM)=(cK l n).map bM:=List.take_of_length_le (by simp[gB];omega)
    have tpn:trees ((cK l n).map bM)=true:=aM _
    rw[hpe]
    refine aa.le (Le.trim [4] [0] 1 (by simp[-List.all_eq_true,-List.all_map,aj tpn]) yA) ?_
    simp
    refine aa.le (Le.cG (o:=0) rfl tpn) ?_
    simp[kp]
    apply aa.here
    simp[gB]
    omega
  ·apply aJ
   simp[hC,hil]
   refine T.cond (b:=false) yAf ?_
   simp
   apply T.exit
   simp
   apply au
   simp[hC]
   apply T.ret
   have hpe:cK l i=cK l n:=by
    have:l.take i=l.take n:=by
     rw[List.take_eq_take_iff]
     omega
    rw[cK,this,cK]
   have kp:List.take i ((cK l n).map bM)=(cK l n).map bM:=List.take_of_length_le (by simp[gB];omega)
   have tpn:trees ((cK l n).map bM)=true:=aM _
   rw[hpe]
   refine aa.le (Le.trim [4] [0] 1 (by simp[-List.all_eq_true,-List.all_map,aj tpn]) yA) ?_
   simp
   refine aa.le (Le.cG (o:=0) rfl tpn) ?_
   simp[kp]
   apply aa.here
   simp[gB]
   omega
def J37 (u:Un)(l:List Int)(m:Nat)(s:St):Prop:=∃ (i cnt:Nat) (y:Sy),m=l.length-i∧i≤l.length∧cnt≤i∧pW u i y∧q8 u l (iK u)=q8 u (l.drop i) y∧runN u l (iK u)=cnt+runN u (l.drop i) y∧
 s=⟨[(8,I i),(7,I cnt),(6,.aw 2 0),(4,.aw 1 0),(2,.aw 0 0),(1,.av (l.map bM) l.length)],[(2,⟨40,0,ed y⟩),(1,⟨40,0,[.ah,.ah,.ah,I 0]⟩),(0,⟨30,0,fy u⟩)],3⟩
set_option maxHeartbeats 2000000 in
theorem FJ {u:Un}(hu:l9 u)(l:List Int)(hl:l.length≤1000):ae Tryz.prog 37 [cS u,ints l] (.cr [cf (q8 u l (iK u)),I (runN u l (iK u))]):=by
 have hmb:=kE hu
 obtain⟨q0,hq0⟩:∃ q,u.ps[u.main]? = some q:=⟨_,List.getElem?_eq_getElem (by have:=hu.np;rw[hu.main];omega)⟩
 have hq0v:=hu.pr q0 (List.mem_of_getElem? hq0)
 have hne:=KN u hmb (by have:=hu.ng;omega) q0 hq0 yA
 have tun:=bR u
 have tl:trees (l.map bM)=true:=aM l
 have targ:trees [cS u]=true:=by simp only[trees,tree,cS,tun,Bool.and_self]
 have htr:tree (.cr [cf (q8 u l (iK u)),I (runN u l (iK u))])=true:=by
  simp only[cf,ed,tree,trees,bQ,Bool.and_self]
 refine ae.aB ag Tryz.func37 rfl yAb (by simp[Tryz.ntmps37]) htr fun C hC hC0=>?_
 rw[Tryz.ntmps37] at hC
 simp only[cf,cS,fy,ints] at hne targ ⊢
 have syN:ed (iK u)=[ints (iK u).gs,.av ((iK u).tb.flatMap cW) (iK u).tb.length,.av ((iK u).ts.flatMap dt) (iK u).ts.length,I (iK u).fault]:=rfl
 rw[syN] at hne
 apply au
 simp[hC]
 apply au
 simp[hC]
 refine cH targ hne ?_
 simp[hC]
 apply aJ
 simp[hC]
 apply T.block
 have tG:∀ y:Sy,trees (y.gs.map bM)=true:=fun y=>aM y.gs
 have tT:∀ y:Sy,trees (y.tb.flatMap cW)=true:=fun y=>ai bV _
 have tS:∀ y:Sy,trees (y.ts.flatMap dt)=true:=fun y=>ai a9 _
 have tug:trees (u.gs.map bM)=true:=aM u.gs
 have tum:=dp u.ms
 have cr:trees (u.ps.flatMap oR)=true:=ai gN u.ps
 refine T.aL (J37 u l) (n:=l.length) ?_ ?_
 ·refine aa.trim [8,7,6,4,2,1] [2,1,0] 3 (by simp[-List.all_eq_true,-List.all_flatMap,-List.all_map,ints]) yA ⟨0,0,iK u,by omega,by omega,by omega,BV hu,by simp,by simp,?_⟩
  simp[fy,ints,ed]
 ·rintro m s ⟨i,cnt,y,rfl,hi,hcn,hy,hr1,hr2,rfl⟩
  simp only[ed,fy,ints]
  by_cases hil:i<l.length
  ·obtain⟨x,hx⟩:∃ x,l[i]? = some x:=⟨_,List.getElem?_eq_getElem hil⟩
   have hdx:(l.map bM).drop i=I x::(l.map bM).drop (i+1):=by
    rw[List.drop_eq_getElem_cons (by simpa using hil)]
    simp[(List.getElem?_eq_some_iff.1 hx).2]
   have hdr:l.drop i=x::l.drop (i+1):=by rw[List.drop_eq_getElem_cons hil];simp[(List.getElem?_eq_some_iff.1 hx).2]
   have wi:=ct ((i:Int)+1) yA yA
   have wc:=ct ((cnt:Int)+1) yA yA
   have hst:=Fq hu yA hy x
   have hyv:=Cz hu hy x
   rw[hdr] at hr1 hr2
   simp only[q8,runN] at hr1 hr2
   have targ2:trees [cS u,cf y,I x]=true:=by
    simp only[trees,tree,cf,ed,cS,tun,ints,Bool.and_self]
   generalize lL u y x=r at hst hyv hr1 hr2
   obtain⟨z,ok⟩:=r
   simp only[cf,ed,cS,fy,ints] at hst targ2
   apply aJ
   simp[hC,hil]
   refine iv ?_
   simp
   apply fq
   refine T.seq (T.rx ag follows [0,1,2,3,4,5,10,6,7,8,9,11,12] [(0,10),(1,10),(5,10),(10,6)] yAb ?_)
   simp[hC,hil,hdx]
   refine RX.call rfl rfl rfl rfl rfl targ2 hst ?_
   simp
   cases ok with
   | true=>
    apply au
    simp[hC]
    refine dN ?_
    simp
    apply aO
    simp[hC,wc]
    apply aO
    simp[hC,wi]
    refine⟨l.length-(i+1),by omega,?_⟩
    refine aa.trim [8,7,6,4,2,1] [2,1,0] 3 yAt yA ⟨i+1,cnt+1,z,rfl,by omega,by omega,hyv,hr1,by rw[hr2];simp;omega,?_⟩
    simp[fy,ints,ed]
   | false=>
    apply au
    simp[hC]
    refine e9 ?_
    simp
    apply aO
    simp[hC,wi]
    refine⟨l.length-(i+1),by omega,?_⟩
    refine aa.trim [8,7,6,4,2,1] [2,1,0] 3 yAt yA ⟨i+1,cnt,y,rfl,by omega,by omega,hy.mono yA,hr1,by rw[hr2];simp,?_⟩
    simp[fy,ints,ed]
  ·have hie:i=l.length:=by omega
   subst hie
   simp[q8,runN] at hr1 hr2
   apply aJ
   simp[hC]
   refine T.cond (b:=false) yAf ?_
   simp
   apply T.exit
   simp
   apply au
   simp[hC]
   apply T.ret
   rw[hr1,hr2]
   refine aa.le (Le.trim [5,4] [1] 3 yAt yA) ?_
   simp
   apply aa.here
   simp
theorem Fv {u:Un}(hu:l9 u)(l:List Int)(hl:l.length≤9223372036854775807):ae Tryz.prog 11 [cS u,ints l] (cf (q8 u (cK l 60) (iK u))):=by
 have hpi:=FY l hl 60 yA
 have hru:=FJ hu (cK l 60) (by rw[gB];omega)
 have tun:=bR u
 have targ:trees [cS u,ints (cK l 60)]=true:=by simp only[trees,tree,cS,tun,ints,Bool.and_self]
 have targ1:trees [ints l,I (60:Nat)]=true:=by simp only[trees,tree,ints,Bool.and_self]
 generalize q8 u (cK l 60) (iK u)=y at hru ⊢
 generalize runN u (cK l 60) (iK u)=n at hru
 have htr:tree (cf y)=true:=by
  simp only[cf,ed,tree,trees,bQ,Bool.and_self]
 refine ae.aB ag Tryz.func11 rfl yAb (by simp[Tryz.ntmps11]) htr fun C hC hC0=>?_
 rw[Tryz.ntmps11] at hC
 simp only[cf,ed,cS,fy,ints] at hpi hru targ targ1 ⊢
 apply au
 simp[hC]
 refine T.seq (T.rx ag follows [0,1,7,2,3,4,5,6,8,9] [(0,7),(0,2),(7,2),(7,3)] yAb ?_)
 simp[hC]
 refine RX.call rfl rfl rfl rfl rfl targ1 hpi ?_
 simp
 refine RX.call rfl rfl rfl rfl rfl targ hru ?_
 simp
 apply au
 simp[hC]
 apply T.ret
 apply aa.here
 simp[Tryz.results11]
theorem DC (y:Sy)(h1:1≤y.ts.length)(h2:y.ts.length≤1000000)(x:Int):ae Tryz.prog 12 [cf y,I x] (I (x % y.ts.length)):=by
 have hwi:=qO x y.ts.length yA yA
 refine ae.aB ag Tryz.func12 rfl yAb (by simp[Tryz.ntmps12]) rfl fun C hC hC0=>?_
 rw[Tryz.ntmps12] at hC
 simp only[cf,ed,ints]
 apply au
 simp[hC]
 apply au
 simp[hC]
 refine cH rfl hwi ?_
 simp[hC]
 apply T.ret
 apply aa.here
 simp[Tryz.results12]
theorem MD (u:Un)(h1:1≤u.ms.length)(h2:u.ms.length≤1000000)(x:Int):ae Tryz.prog 13 [cS u,I x] (I (x % u.ms.length)):=by
 have hwi:=qO x u.ms.length yA yA
 refine ae.aB ag Tryz.func13 rfl yAb (by simp[Tryz.ntmps13]) rfl fun C hC hC0=>?_
 rw[Tryz.ntmps13] at hC
 simp only[cS,fy,ints]
 apply au
 simp[hC]
 apply au
 simp[hC]
 refine cH rfl hwi ?_
 simp[hC]
 apply T.ret
 apply aa.here
 simp[Tryz.results13]
end Go.Proofs.YtmnglemlimfpbaaGreat
namespace Go.Can
open Go.RowKit
section
variable {P:Program}{C:Cx}{σ:Nat→Option OB}{s:St}{a:Act}{w:World}{ops:Array Oper}{aq:List (Nat×TI)}
theorem HL.ret {f:FuncId}{args:List CV}{H:List (Nat×Ob)}{n:Nat}{ks:List Nat}{R R':CV→St→Prop}(h:HL P aq f args H n ks R)(hR:∀ r s,R r s→R' r s):HL P aq f args H n ks R':=by
 obtain⟨fn,c,hf,hb,hnm,hl,hT⟩:=h
 refine⟨fn,c,hf,hb,hnm,hl,fun C hC hC0 hM=>T.mono (hT C hC hC0 hM) fun e s q=>?_⟩
 have key:∀ (C:Cx) s,aa C (fun s'=>∃ r,bw aq fn s'=some r∧R r s') s→aa C (fun s'=>∃ r,bw aq fn s'=some r∧R' r s') s:=fun C s ⟨s',⟨r,q1,q2⟩,hl⟩=>⟨s',⟨r,q1,hR r s' q2⟩,hl⟩
 cases e with
 | normal=>exact key C s q
 | ret=>exact key C s q
 | _=>exact q
end
end Go.Can
namespace Go.Proofs.YtmnglemlimfpbaaGreat
open Go.Can Go.aX
theorem x6 {u:Un}(hu:l9 u){x:Is}(hx:Bn u x):∀ (c:List In) (l:List Is) (r:List Nat),(∀ i∈c,i∈bX u x)→vG u l→vG u (iW x c l r).1
 | [],_,_,_,h=>h
 | i::c,l,r,hc,h=>by
  simp only[iW]
  split
  ·exact x6 hu hx c l r (fun j hj=>hc j (List.mem_cons_of_mem _ hj)) h
  ·rename_i y hy
   have hyv:=Cj hu hx (hc i List.mem_cons_self) hy
   exact x6 hu hx c _ _ (fun j hj=>hc j (List.mem_cons_of_mem _ hj)) ⟨mN h.nd,Cq h.v hyv⟩
theorem AV {u:Un}(hu:l9 u):∀ (f i:Nat) (l:List Is) (cs:List (List Int)) (r:List Nat),vG u l→vG u (oU u f i l cs r).is∧l.length≤(oU u f i l cs r).is.length
 | 0,_,l,_,_,h=>⟨h,Nat.le_refl _⟩
 | f+1,i,l,cs,r,h=>by
  simp only[oU]
  split
  ·exact⟨h,Nat.le_refl _⟩
  ·rename_i x hx
   have hs:=x6 hu (h.v x (List.mem_of_getElem? hx)) (bX u x) l r (fun _ hi=>hi) h
   obtain⟨h1,h2⟩:=AV hu f (i+1) (iW x (bX u x) l r).1 (cs++[(iW x (bX u x) l r).2.1]) (iW x (bX u x) l r).2.2 hs
   obtain⟨t,ht⟩:=qa x (bX u x) l r
   refine⟨h1,Nat.le_trans ?_ h2⟩
   rw[ht]
   simp
theorem AU {u:Un}(hu:l9 u):vG u (ch u).is∧0<(ch u).is.length:=by
 have h0:vG u [⟨u.main,[]⟩]:=⟨by simp,fun x hx=>by
  rw[List.mem_singleton.1 hx]
  have hp:=hu.np.1
  obtain⟨q,hq⟩:∃ q,u.ps[0]? = some q:=⟨_,List.getElem?_eq_getElem yA⟩
  exact⟨⟨q,by rw[hu.main];exact hq,by rw[(hu.p0 q hq).2];rfl⟩,fun l hl=>by cases hl⟩⟩
 obtain⟨h1,h2⟩:=AV hu 100 0 [⟨u.main,[]⟩] [] [0] h0
 exact⟨h1,h2⟩
theorem IM {u:Un}(hu:l9 u){x:Is}(h:Bn u x):x.bf.length≤2:=by
 obtain⟨⟨q,hq,hl⟩,_⟩:=h
 have:=(hu.pr q (List.mem_of_getElem? hq)).2.1
 omega
end Go.Proofs.YtmnglemlimfpbaaGreat
