/- The element that a place o -/
import Derived.Test.YtlkmbdfhdknlgaaGreatV45
set_option maxHeartbeats 4000000
set_option maxRecDepth 100000
namespace Go.Proofs.YtlkmbdfhdknlgaaGreat
open Go.Can Go.aV List Tryz
theorem wv (m:Nat):∀ (ms:List Mx) (i j:Nat) (x:Mx),i<=m->ms[m-i]? = some x->kB (bx ms i) m j=((j+dV (ms.take (m-i)):Nat):Int)
 | [],i,j,x,_,h=>by simp at h
 | y::r,i,j,x,hi,h=>by
  rw[bx];by_cases he:i=m
  .subst he;obtain⟨n,hn⟩:∃ n,max y.size 1=n+1:=⟨max y.size 1-1,by omega⟩;rw[hn,replicate_succ,cons_append,kB,if_pos rfl,Nat.sub_self,take_zero];rfl
  .have e:m-i=(m-(i+1))+1:=by omega
   rw[e,getElem?_cons_succ] at h;rw[mX i m he,wv m r (i+1) _ x yA h,e,take_succ_cons,dV];congr 1;omega
structure B4 (s:Sy):Prop where
 gs:∀ n∈s.gs,nL n
 vs:∀ l∈s.ts,∀ f∈l,∀ n∈f.ay,nL n
theorem As (u:Un)(s:Sy)(t:Int)(p:Pl)(hm:ua u.ms)(hr:B4 s)(hb:s.ts.length<=1000000/\∀ l∈s.ts,l.length<=1000000)(hp:p.index<=1000000)(f:Fr)(O5:cN s t=some f)
  (Qb:pN u.ms s.gs.length f.ay.length f.b9.length p):af prog 92 [cb u,bp s,I t,.agg (fC p)] (.bY [I (aZ u s t p).1,I (aZ u s t p).2]):=by
 have Q2:=qE s t hb;have OQ:trees [bp s,I t]=true:=by simp only[trees,tree,bp,dK,ints,Bool.and_self]
 have tix:trees [.agg (fC p),.au (u.ms.flatMap cI) u.ms.length,ints s.gs,ints f.ay]=true:=by
  simp only[trees,tree,cJ,bD,Bool.and_self]
 have tba:trees [.au (u.ms.flatMap cI) u.ms.length,I p.index]=true:=by simp only[trees,tree,Bool.and_self]
 obtain⟨lf,Um,hff⟩:=qo O5;rw[O5] at Q2;have Rp:=Fb u.ms s.gs f.ay hr.gs (hr.vs lf Um f hff) f.b9.length p Qb;have O7:aZ u s t p=if p.param=true then (((f.b9.getD p.index 0:Nat):Int),0) else
  if (ej u.ms s.gs f.ay p).2=0 then (wr (tv u.ms p.index+(ej u.ms s.gs f.ay p).1),0) else (0,(ej u.ms s.gs f.ay p).2):=by
  simp only[aZ,O5]
 rw[O7];generalize ej u.ms s.gs f.ay p=x at Rp |-;obtain⟨v,g⟩:=x;have TP:¬ ((p.index:Int)<0):=by omega
 refine af.aC ag Tryz.func92 rfl GK (by simp[Tryz.ntmps92]) rfl λ C hC OR=>?_;rw[Tryz.ntmps92] at hC;simp only[bp,dK,cb,eD,fC,ints,rN,cZ] at *
 cases Wp:p.param with
 | true=>
  have Rv:p.index<f.b9.length:=by
   rcases Qb with h | h
   .exact h.2.1
   .rw[Wp] at h;cases h.1
  obtain⟨a,ha⟩:∃ a,f.b9[p.index]? = some a:=⟨_,getElem?_eq_getElem Rv⟩;have SG:=kj ha;have VO:¬ (f.b9.length<=p.index):=by omega
  apply aq;simp[hC];apply aq;simp[hC];refine ct OQ Q2 ?_;simp[hC]
  repeat first
   | apply T.seq
   | (apply aG;simp[hC])
   | (refine bh ?_;simp)
   | (refine cX ?_;simp)
   | (apply T.skip;simp)
   | apply T.block
  refine T.rx ag follows [0,1,2,3,4,5,6,7,8,9,10,11,12] [] GK ?_;simp[hC,aN,Rv,TP,VO]
  repeat first
   | apply T.seq
   | (apply aG;simp[hC])
   | (refine bh ?_;simp)
   | (refine cX ?_;simp)
   | (apply T.skip;simp)
   | apply T.block
  refine T.rx ag follows [0,1,2,3,4,5,6,7,8,9] [] GK ?_;simp[hC,Rv,SG];apply T.ret;apply aa.here;simp[Tryz.results92,(List.getElem?_eq_some_iff.1 ha).2]
 | false=>
  obtain⟨xm,XQ⟩:∃ x,u.ms[p.index]? = some x:=by
   rcases Qb with h | ⟨_,x,h,_⟩
   .rw[Wp] at h;cases h.1
   .exact⟨x,h⟩
  have Yc:=Au u.ms hm p.index xm XQ;have hbe:tv u.ms p.index=(dV (u.ms.take p.index):Int):=by
   have:=wv p.index u.ms 0 0 xm yA XQ;rw[Nat.zero_add] at this;exact this
  rw[Wp] at Rp tix;apply aq;simp[hC];apply aq;simp[hC];refine ct OQ Q2 ?_;simp[hC]
  repeat first
   | apply T.seq
   | (apply aG;simp[hC])
   | (refine bh ?_;simp)
   | (refine cX ?_;simp)
   | (apply T.skip;simp)
   | apply T.block
  refine T.rx ag follows [0,1,2,3,4,5,6,7,8,9,10,11,12,13,14] [] GK ?_;simp[hC];refine RX.call rfl xr rfl rfl rfl tix Rp ?_;simp;by_cases hg:g=0
  .subst hg
   repeat first
    | apply T.seq
    | (apply aG;simp[hC])
    | (refine bh ?_;simp)
    | (refine cX ?_;simp)
    | (apply T.skip;simp)
    | apply T.block
   refine ct tba Yc ?_;simp[hC];apply T.ret;apply aa.here;simp[Tryz.results92,hbe,wr]
  .have QN:((g:Int) != 0)=true:=by rw[bne_iff_ne];omega
   repeat first
    | apply T.seq
    | (apply aG;simp[hC,QN])
    | (refine T.cond (b:=false) ?_ ?_;(first | rfl | (simp[ev,assoc];done));simp)
    | (refine T.cond (b:=true) ?_ ?_;(first | rfl | (simp[ev,assoc,QN];done));simp)
    | (apply T.skip;simp)
    | apply T.block
   apply T.ret;apply aa.here;simp[Tryz.results92,hg]
theorem qx {s:Sy}(h:Ev s):s.ts.length<=1000000/\∀ l∈s.ts,l.length<=1000000:=⟨h.t,λ l hl=>(h.f l hl).1⟩
theorem qb (s:Sy)(t:Nat)(l0:List Fr)(f:Fr)(hl:s.ts[t]? = some (l0++[f]))(hs:Ev s):Body prog av 41 [bp s] [] 0 (jk (.agg [.bg 0 0 s.gs.length,.bg 1 0 s.tb.length,.bg 2 0 s.ts.length,I s.fault]) (I8 s t l0 f) 6):=by
 have h:=At s t l0 f (λ _=>hl) hs.g hs.b hs.t hs.f;rwa [if_pos (List.getElem?_eq_some_iff.1 hl).1] at h
theorem My (s:Sy)(t:Nat)(l0:List Fr)(f:Fr)(g:Nat)(e:Ex)(he:px s.gs.length f.ay.length e)(hl:s.ts[t]? = some (l0++[f]))(PI:s.fault=0)(hs:Ev s)(hr:B4 s)(h6:f.pc<=1000000) :
  af prog 44 [bp s,I t,.agg (df (.branch g e))] (.bY [bp (Jd s t l0 f g e),.bool true]):=by
 have Pq:cN s t=some f:=by simp[cN,hl,PI]
 have hmf:f∈l0++[f]:=by simp
 have RT:=mem_of_getElem? hl;have PV:=(hs.f _ RT).1;have PE:l0.length<=1000000:=by simp at PV;omega
 have Q2:=qE s t (qx hs);rw[Pq] at Q2;have PN:=qb s t l0 f hl hs;have Pv:=qH s.gs f.ay hr.gs (hr.vs _ RT f hmf) e he;have Qj:=iZ s hs (aW s.gs f.ay e).2;have P7:=cG s;have ttp:trees [bp s,I t]=true:=by simp only[trees,tree,P7,Bool.and_self]
 have Qh:trees [bp s,I (aW s.gs f.ay e).2]=true:=by simp only[trees,tree,P7,Bool.and_self]
 have O1:tree (.bY [bp (Jd s t l0 f g e),.bool true])=true:=by simp only[tree,trees,cG,Bool.and_self]
 have U1:Jd s t l0 f g e=if (aW s.gs f.ay e).2=0 then { s with ts:=s.ts.set t (l0++[{ f with pc:=if (aW s.gs f.ay e).1=0 then g else f.pc+1 }]) } else { s with fault:=(aW s.gs f.ay e).2 }:=rfl
 refine af.aC ag Tryz.func44 rfl GK (by simp[Tryz.ntmps44]) O1 λ C hC OR=>?_;rw[Tryz.ntmps44] at hC;rw[U1];generalize aW s.gs f.ay e=va at Pv Qj Qh |-;obtain⟨v,fa⟩:=va;have Uh:trees [.agg (a8 e),ints s.gs,ints f.ay]=true:=by simp only[trees,tree,aJ,bD,Bool.and_self]
 obtain⟨e1,e2,e3,e4,e5,S7,XH⟩:=fe e;rw[S7] at Pv Uh;have tG:trees (s.gs.map bj)=true:=aB s.gs;have tT:trees (s.tb.flatMap cg)=true:=ah ba _;have tL:trees (l0.flatMap cZ)=true:=ah bX _;have tV:trees (f.ay.map bj)=true:=aB f.ay;have tE:=aM f.b9;have OW:trees ((s.ts.take t).flatMap cd)=true:=ah aK _;have OY:trees ((s.ts.drop (t+1)).flatMap cd)=true:=ah aK _;have rG:=λ ρ=>ae ρ _ tG;have rT:=λ ρ=>ae ρ _ tT;have rL:=λ ρ=>ae ρ _ tL;have rV:=λ ρ=>ae ρ _ tV;have r1:=λ ρ=>ae ρ _ OW;have r2:=λ ρ=>ae ρ _ OY;have rE:=λ ρ=>ae ρ _ tE;have ra:∀ ρ (a b:List CV),aL ρ (a++b)=aL ρ a++aL ρ b:=λ ρ a b=>by rw[aY,aY,aY,map_append]
 simp only[bp,dK,ints,df,S7,kI,cons_append,nil_append,rN,cZ,I8] at *;apply aq;simp[hC];refine T.seq (T.rx ag follows [0,1,2,3,4,5,6,7,8,9,10,11,12,13,14,15] [(1,6),(3,6)] GK ?_);simp[hC];refine RX.call rfl xr rfl rfl rfl ttp Q2 ?_;simp;refine RX.call rfl xr rfl rfl rfl Uh Pv ?_;simp;by_cases hf:fa=0
 .subst hf
  repeat first
   | apply T.seq
   | (apply aG;simp[hC])
   | (refine bh ?_;simp)
   | (refine cX ?_;simp)
   | (apply T.skip;simp)
   | apply T.block
  refine TL.du ag [] [] 0 6 (PN) rfl PU OU rfl rfl Pd Pd RZ Pd Pd (TL.go' ag ?_);simp[hC,br,bf,aL,cQ,bP,rG,rT,rL,rV,r1,r2,ra,aN];refine T.le (Le.norm [10,8,7,6,5,1] [(19,0),(20,1),(21,2),(22,3),(23,4),(25,5),(2,6),(1,7)] 0 8 Px Pw TY yA) ?_;simp[cz,bf,aL,cQ,dW,assoc,rG,rT,rL,rV,r1,r2,ra];generalize hA:(s.ts.take t).flatMap cd=A at OW r1 |-;generalize hB:(s.ts.drop (t+1)).flatMap cd=B at OY r2 |-;generalize hD:l0.flatMap cZ=D at tL rL |-;have O5:=(List.getElem?_eq_some_iff.1 hl).1;have lA:A.length=t:=by rw[<- hA,ch,length_map,length_take];omega
  have lB:B.length=s.ts.length-(t+1):=by rw[<- hB,ch,length_map,length_drop]
  have lD:D.length=l0.length*4:=by rw[<- hD];exact aA cL l0
  have R2:=kg s.gs.length s.tb.length s.ts.length t l0.length f.proc f.pc f.ay.length f.b9.length A B D _ _ OW OY tL tE tV _ (.inl rfl) lA lD O5 hs.t PE;rw[PI];apply aq;simp[hC];have a1:A.all (aU 5)=true:=by rw[<- aE];exact bK 5 _ OW
  have a2:B.all (aU 5)=true:=by rw[<- aE];exact bK 5 _ OY
  have a3:D.all (aU 5)=true:=by rw[<- aE];exact bK 5 _ tL
  refine TL.du ag [0,1,2,3,4] [2,3,4] 5 0 R2 rfl PU OU rfl rfl PU XD PU XE WI (TL.go' ag ?_);simp[hC,br,bf,aL,cQ,bP,rL,rV,r1,r2,ra];have dD:∀ r:List CV,(D++r).drop (l0.length*4)=r:=λ r=>by rw[<- lD];simp
  have PK:∀ (r:List CV) (k:Nat),(D++r).drop (l0.length*4+k)=r.drop k:=λ r k=>by rw[<- lD,drop_append];simp
  have P4:∀ (r:List CV) (k:Nat),(D++r).take (l0.length*4+k)=D++r.take k:=λ r k=>by rw[<- lD,take_append,take_of_length_le yA];simp
  have P6:∀ (r:List CV),(D++r).drop (l0.length*4+1+1)=r.drop 2:=λ r=>PK r 2;have w3:=cw ((f.pc:Int)+1) yA yA;have O6:∀ pc:Nat,(s.ts.set t (l0++[{ f with pc:=pc }])).flatMap cd=A++.au (D++[I f.proc,I pc,.au (f.ay.map bj) f.ay.length,.au (f.b9.map λ n:Nat=>I n) f.b9.length]) (l0.length+1)::B:=λ pc=>by
   rw[set_eq_take_append_cons_drop,if_pos O5,flatMap_append,flatMap_cons,hA,hB];simp[cd,cZ,hD,ints,aN]
  have kF:∀ a b c d:CV,take ((l0.length+1)*4) (D++[a,b,c,d])=D++[a,b,c,d]:=λ a b c d=>take_of_length_le PA;apply aq;simp[hC,w3,lD,PK,P4,P6];by_cases hv:v=0
  .subst hv
   repeat first
    | apply T.seq
    | (apply aG;simp[hC,lD,P4,P6])
    | (refine T.cond (b:=false) ?_ ?_;(first | rfl | (simp[ev,assoc];done));simp)
    | (refine T.cond (b:=true) ?_ ?_;(first | rfl | (simp[ev,assoc,lD,dD,PK,P4,P6];done));simp)
    | (apply T.skip;simp)
    | apply T.block
   apply T.ret;refine aa.le (Le.norm [7,6] [(0,0),(1,1),(2,2),(3,3),(4,4),(6,5)] 0 6 Px Pw TY yA) ?_;simp[cz,bf,aL,cQ,dW,assoc,rG,rT,rL,rV,r1,r2,ra];refine kR tG tT OW OY tL tE tV rfl xr (aA cm _) yA xr ?_;simp[O6,kF]
  .have Vg:(v == 0)=false:=by rw[beq_eq_false_iff_ne];exact hv
   repeat first
    | apply T.seq
    | (apply aG;simp[hC,hv,Vg])
    | (refine T.cond (b:=false) ?_ ?_;(first | rfl | (simp[ev,assoc];done));simp)
    | (refine T.cond (b:=true) ?_ ?_;(first | rfl | (simp[ev,assoc,lD,dD,PK,P4,P6,hv,Vg];done));simp)
    | (apply T.skip;simp)
    | apply T.block
   apply T.ret;refine aa.le (Le.norm [7,6] [(0,0),(1,1),(2,2),(3,3),(4,4),(6,5)] 0 6 Px Pw TY yA) ?_;simp[cz,bf,aL,cQ,dW,assoc,rG,rT,rL,rV,r1,r2,ra];refine kR tG tT OW OY tL tE tV rfl xr (aA cm _) yA xr ?_;simp[O6,kF]
 .have O9:((fa:Int) != 0)=true:=by rw[bne_iff_ne];omega
  repeat first
   | apply T.seq
   | (apply aG;simp[hC,O9])
   | (refine T.cond (b:=false) ?_ ?_;(first | rfl | (simp[ev,assoc];done));simp)
   | (refine T.cond (b:=true) ?_ ?_;(first | rfl | (simp[ev,assoc,O9];done));simp)
   | (apply T.skip;simp)
   | apply T.block
  refine ct Qh Qj ?_;simp[hC];apply T.ret;refine aa.le (Le.trim [7,6] [2] 19 Qr yA) ?_;simp;apply aa.here;simp[hf]
theorem JJ (s:Sy)(t:Nat)(l0:List Fr)(f:Fr)(k:Nat)(gl:Bool)(e:Ex)(hk:if gl=true then k<s.gs.length else k<f.ay.length)(he:px s.gs.length f.ay.length e)(hl:s.ts[t]? = some (l0++[f]))(PI:s.fault=0)(hs:Ev s)(hr:B4 s)(h6:f.pc<=1000000) :
  af prog 44 [bp s,I t,.agg (df (.set k gl e))] (.bY [bp (I1 s t l0 f k gl e),.bool true]):=by
 have Pq:cN s t=some f:=by simp[cN,hl,PI]
 have hmf:f∈l0++[f]:=by simp
 have RT:=mem_of_getElem? hl;have PV:=(hs.f _ RT).1;have PE:l0.length<=1000000:=by simp at PV;omega
 have Q2:=qE s t (qx hs);rw[Pq] at Q2;have PN:=qb s t l0 f hl hs;have Pv:=qH s.gs f.ay hr.gs (hr.vs _ RT f hmf) e he;have Qj:=iZ s hs (aW s.gs f.ay e).2;have P7:=cG s;have ttp:trees [bp s,I t]=true:=by simp only[trees,tree,P7,Bool.and_self]
 have Qh:trees [bp s,I (aW s.gs f.ay e).2]=true:=by simp only[trees,tree,P7,Bool.and_self]
 have O1:tree (.bY [bp (I1 s t l0 f k gl e),.bool true])=true:=by simp only[tree,trees,cG,Bool.and_self]
 have U1:I1 s t l0 f k gl e=if (aW s.gs f.ay e).2=0 then
  (if gl=true then { s with gs:=s.gs.set k (aW s.gs f.ay e).1,ts:=s.ts.set t (l0++[{ f with pc:=f.pc+1 }]) }
   else { s with ts:=s.ts.set t (l0++[{ f with pc:=f.pc+1,ay:=f.ay.set k (aW s.gs f.ay e).1 }]) })
  else { s with fault:=(aW s.gs f.ay e).2 }:=rfl
 refine af.aC ag Tryz.func44 rfl GK (by simp[Tryz.ntmps44]) O1 λ C hC OR=>?_;rw[Tryz.ntmps44] at hC;rw[U1];generalize aW s.gs f.ay e=va at Pv Qj Qh |-;obtain⟨v,fa⟩:=va;have Uh:trees [.agg (a8 e),ints s.gs,ints f.ay]=true:=by simp only[trees,tree,aJ,bD,Bool.and_self]
 obtain⟨e1,e2,e3,e4,e5,S7,XH⟩:=fe e;rw[S7] at Pv Uh;have tG:trees (s.gs.map bj)=true:=aB s.gs;have tT:trees (s.tb.flatMap cg)=true:=ah ba _;have tL:trees (l0.flatMap cZ)=true:=ah bX _;have tV:trees (f.ay.map bj)=true:=aB f.ay;have tE:=aM f.b9;have OW:trees ((s.ts.take t).flatMap cd)=true:=ah aK _;have OY:trees ((s.ts.drop (t+1)).flatMap cd)=true:=ah aK _;have rG:=λ ρ=>ae ρ _ tG;have rT:=λ ρ=>ae ρ _ tT;have rL:=λ ρ=>ae ρ _ tL;have rV:=λ ρ=>ae ρ _ tV;have r1:=λ ρ=>ae ρ _ OW;have r2:=λ ρ=>ae ρ _ OY;have rE:=λ ρ=>ae ρ _ tE;have ra:∀ ρ (a b:List CV),aL ρ (a++b)=aL ρ a++aL ρ b:=λ ρ a b=>by rw[aY,aY,aY,map_append]
 simp only[bp,dK,ints,df,S7,kI,cons_append,nil_append,rN,cZ,I8] at *;apply aq;simp[hC];refine T.seq (T.rx ag follows [0,1,2,3,4,5,6,7,8,9,10,11,12,13,14,15] [(1,6),(3,6)] GK ?_);simp[hC];refine RX.call rfl xr rfl rfl rfl ttp Q2 ?_;simp;refine RX.call rfl xr rfl rfl rfl Uh Pv ?_;simp;by_cases hf:fa=0
 .subst hf
  repeat first
   | apply T.seq
   | (apply aG;simp[hC])
   | (refine bh ?_;simp)
   | (refine cX ?_;simp)
   | (apply T.skip;simp)
   | apply T.block
  refine TL.du ag [] [] 0 6 (PN) rfl PU OU rfl rfl Pd Pd RZ Pd Pd (TL.go' ag ?_);simp[hC,br,bf,aL,cQ,bP,rG,rT,rL,rV,r1,r2,ra,aN];refine T.le (Le.norm [10,8,7,6,5,1] [(19,0),(20,1),(21,2),(22,3),(23,4),(25,5),(2,6),(1,7)] 0 8 Px Pw TY yA) ?_;simp[cz,bf,aL,cQ,dW,assoc,rG,rT,rL,rV,r1,r2,ra];generalize hA:(s.ts.take t).flatMap cd=A at OW r1 |-;generalize hB:(s.ts.drop (t+1)).flatMap cd=B at OY r2 |-;generalize hD:l0.flatMap cZ=D at tL rL |-;have O5:=(List.getElem?_eq_some_iff.1 hl).1;have lA:A.length=t:=by rw[<- hA,ch,length_map,length_take];omega
  have lB:B.length=s.ts.length-(t+1):=by rw[<- hB,ch,length_map,length_drop]
  have lD:D.length=l0.length*4:=by rw[<- hD];exact aA cL l0
  have R2:=kg s.gs.length s.tb.length s.ts.length t l0.length f.proc f.pc f.ay.length f.b9.length A B D _ _ OW OY tL tE tV _ (.inl rfl) lA lD O5 hs.t PE;rw[PI];apply aq;simp[hC];have a1:A.all (aU 5)=true:=by rw[<- aE];exact bK 5 _ OW
  have a2:B.all (aU 5)=true:=by rw[<- aE];exact bK 5 _ OY
  have a3:D.all (aU 5)=true:=by rw[<- aE];exact bK 5 _ tL
  refine TL.du ag [0,1,2,3,4] [2,3,4] 5 0 R2 rfl PU OU rfl rfl PU XD PU XE WI (TL.go' ag ?_);simp[hC,br,bf,aL,cQ,bP,rL,rV,r1,r2,ra];have dD:∀ r:List CV,(D++r).drop (l0.length*4)=r:=λ r=>by rw[<- lD];simp
  have PK:∀ (r:List CV) (k:Nat),(D++r).drop (l0.length*4+k)=r.drop k:=λ r k=>by rw[<- lD,drop_append];simp
  have P4:∀ (r:List CV) (k:Nat),(D++r).take (l0.length*4+k)=D++r.take k:=λ r k=>by rw[<- lD,take_append,take_of_length_le yA];simp
  have P6:∀ (r:List CV),(D++r).drop (l0.length*4+1+1)=r.drop 2:=λ r=>PK r 2;have w3:=cw ((f.pc:Int)+1) yA yA;have kF:∀ a b c d:CV,take ((l0.length+1)*4) (D++[a,b,c,d])=D++[a,b,c,d]:=λ a b c d=>take_of_length_le PA;apply aq;simp[hC,w3,lD,PK,P4,P6]
  cases gl with
  | true=>
   have VX:k<s.gs.length:=hk;have US:k+1<=s.gs.length:=VX;have eG:take k (s.gs.map bj)++I v::drop (k+1) (s.gs.map bj)=(s.gs.set k v).map bj:=by
    rw[map_set,set_eq_take_append_cons_drop,if_pos (by simpa using VX)]
   have Rl:(s.gs.set k v).length=s.gs.length:=by simp
   generalize s.gs.set k v=W at eG Rl |-;have O6:(s.ts.set t (l0++[{ f with pc:=f.pc+1 }])).flatMap cd=A++.au (D++[I f.proc,I ((f.pc:Int)+1),.au (f.ay.map bj) f.ay.length,.au (f.b9.map λ n:Nat=>I n) f.b9.length]) (l0.length+1)::B:=by
    rw[set_eq_take_append_cons_drop,if_pos O5,flatMap_append,flatMap_cons,hA,hB];simp[cd,cZ,hD,ints,aN]
   have tW:trees (W.map bj)=true:=aB W;have rW:=λ ρ=>ae ρ _ tW
   repeat first
    | apply T.seq
    | (apply aG;simp[hC,VX,US,eG])
    | (refine T.cond (b:=false) ?_ ?_;(first | rfl | (simp[ev,assoc];done));simp)
    | (refine T.cond (b:=true) ?_ ?_;(first | rfl | (simp[ev,assoc,lD,dD,PK,P4,P6,VX,US,eG];done));simp)
    | (apply T.skip;simp)
    | apply T.block
   apply T.ret;refine aa.le (Le.norm [7,6] [(0,0),(1,1),(2,2),(3,3),(4,4),(6,5)] 0 6 Px Pw (by simp[cO,nu,lF,tree,assoc,-all_eq_true,-all_flatMap,aw tW,aw tT,aw tL,aw tV,aw OW,aw OY]) yA) ?_;simp[cz,bf,aL,cQ,dW,assoc,rW,rT,rL,rV,r1,r2,ra];refine kR tW tT OW OY tL tE tV rfl (by simp[Rl]) (aA cm _) yA xr ?_;simp[O6,kF,Rl]
  | false=>
   have Pa:k<f.ay.length:=hk;have Tr:k+1<=f.ay.length:=Pa;have eV:take k (f.ay.map bj)++I v::drop (k+1) (f.ay.map bj)=(f.ay.set k v).map bj:=by
    rw[map_set,set_eq_take_append_cons_drop,if_pos (by simpa using Pa)]
   have Rl:(f.ay.set k v).length=f.ay.length:=by simp
   generalize f.ay.set k v=W at eV Rl |-;have O6:(s.ts.set t (l0++[{ f with pc:=f.pc+1,ay:=W }])).flatMap cd=A++.au (D++[I f.proc,I ((f.pc:Int)+1),.au (W.map bj) f.ay.length,.au (f.b9.map λ n:Nat=>I n) f.b9.length]) (l0.length+1)::B:=by
    rw[set_eq_take_append_cons_drop,if_pos O5,flatMap_append,flatMap_cons,hA,hB];simp[cd,cZ,hD,ints,aN,Rl]
   have tW:trees (W.map bj)=true:=aB W;have rW:=λ ρ=>ae ρ _ tW
   repeat first
    | apply T.seq
    | (apply aG;simp[hC])
    | (refine T.cond (b:=false) ?_ ?_;(first | rfl | (simp[ev,assoc,lD,dD,PK,P4,P6];done));simp)
    | (refine T.cond (b:=true) ?_ ?_;(first | rfl | (simp[ev,assoc,lD,dD,PK,P4,P6];done));simp)
    | (apply T.skip;simp)
    | apply T.block
   refine T.rx ag follows [0,1,2,3,4,5,6,7,8] [] GK ?_;simp[hC,Pa,Tr,PK,eV]
   repeat first
    | apply T.seq
    | (apply aG;simp[hC])
    | (refine T.cond (b:=false) ?_ ?_;(first | rfl | (simp[ev,assoc,lD];done));simp)
    | (refine T.cond (b:=true) ?_ ?_;(first | rfl | (simp[ev,assoc,lD];done));simp)
    | (apply T.skip;simp)
    | apply T.block
   apply T.ret;refine aa.le (Le.norm [7,6] [(0,0),(1,1),(2,2),(3,3),(4,4),(6,5)] 0 6 Px Pw (by simp[cO,nu,lF,tree,assoc,-all_eq_true,-all_flatMap,aw tG,aw tT,aw tL,aw tW,aw OW,aw OY]) yA) ?_;simp[cz,bf,aL,cQ,dW,assoc,rG,rT,rL,rW,r1,r2,ra];refine kR tG tT OW OY tL tE tW rfl xr (aA cm _) yA (by simp[Rl]) ?_;simp[O6,kF]
 .have O9:((fa:Int) != 0)=true:=by rw[bne_iff_ne];omega
  repeat first
   | apply T.seq
   | (apply aG;simp[hC,O9])
   | (refine T.cond (b:=false) ?_ ?_;(first | rfl | (simp[ev,assoc];done));simp)
   | (refine T.cond (b:=true) ?_ ?_;(first | rfl | (simp[ev,assoc,O9];done));simp)
   | (apply T.skip;simp)
   | apply T.block
  refine ct Qh Qj ?_;simp[hC];apply T.ret;refine aa.le (Le.trim [7,6] [2] 19 Qr yA) ?_;simp;apply aa.here;simp[hf]
theorem Ha (ms:List Mx)(hm:ua ms)(tb:List Ho)(e th:Nat)(he:e<(a6 ms).length)(hl:tb.length=(a6 ms).length)(ho:∀ m∈a6 ms,m<ms.length)(ht:th<=1000000)(hb:tb.length<=1000000)(hd:∀ h∈tb,h.o<=1000000) :
  af prog 135 [.au (ms.flatMap cI) ms.length,.au (tb.flatMap cg) tb.length,I e,I th] (.bool (pF ms tb e th)):=by
 obtain⟨m,Tb⟩:∃ m,(a6 ms)[e]? = some m:=⟨_,getElem?_eq_getElem he⟩;have PY:e<tb.length:=by omega
 obtain⟨h,hh⟩:∃ h,tb[e]? = some h:=⟨_,getElem?_eq_getElem PY⟩;have hhd:=hd h (mem_of_getElem? hh);have Q3:=ho m (mem_of_getElem? Tb);obtain⟨x,hx⟩:∃ x,ms[m]? = some x:=⟨_,getElem?_eq_getElem Q3⟩;have VV:=sT ms hm e yA;have Zg:e9 ms e=m:=by simp[e9,Tb,show ¬ (e:Int)<0 by omega]
 rw[Zg] at VV;have hf:pF ms tb e th=(decide (h.o=0) || (decide (h.o=th+1) && x.re)):=by simp only[pF,Tb,hh,hx]
 rw[hf];have Rh:=aH (f:=cg) (n:=2) cm hh;have R9:=cq (f:=cI) (n:=3) (λ _=>rfl) hx 1 yA;have OQ:trees [.au (ms.flatMap cI) ms.length,I e]=true:=by simp only[trees,tree,Bool.and_self]
 have wt:=cw ((h.o:Int)-1) yA yA;have R5:¬ (m:Int)<0:=by omega
 have QV:¬ (th:Int)<0:=by omega
 have Vm:¬ (tb.length<=e):=by omega
 refine af.aC ag Tryz.func135 rfl GK (by simp[Tryz.ntmps135]) rfl λ C hC OR=>?_;rw[Tryz.ntmps135] at hC;apply aq;simp[hC];apply aq;simp[hC];refine ct OQ VV ?_;simp[hC];apply aT;simp[hC,R5,QV,Vm];refine eQ ?_;simp;by_cases h0:h.o=0
 .repeat first
   | apply T.seq
   | (apply aG;simp[hC,PY,Rh,cg,h0])
   | (refine T.cond (b:=false) ?_ ?_;(first | rfl | (simp[ev,assoc,PY,Rh,cg,h0];done));simp)
   | (refine T.cond (b:=true) ?_ ?_;(first | rfl | (simp[ev,assoc,PY,Rh,cg,h0];done));simp)
   | (apply T.skip;simp)
   | apply T.block
  apply T.ret;apply aa.here;simp[Tryz.results135]
 .by_cases h1:h.o=th+1
  .have hz:((h.o:Int)-1 == (th:Int))=true:=by rw[beq_iff_eq];omega
   repeat first
    | apply T.seq
    | (apply aG;simp[hC,PY,Rh,cg,h0,hz,wt,Q3,R9,cI])
    | (refine T.cond (b:=false) ?_ ?_;(first | rfl | (simp[ev,assoc,PY,Rh,cg,h0,hz,wt,Q3,R9,cI];done));simp)
    | (refine T.cond (b:=true) ?_ ?_;(first | rfl | (simp[ev,assoc,PY,Rh,cg,h0,hz,wt,Q3,R9,cI];done));simp)
    | (apply T.skip;simp)
    | apply T.block
   apply T.ret;apply aa.here;simp[Tryz.results135,h1]
  .have hz:((h.o:Int)-1 == (th:Int))=false:=by rw[beq_eq_false_iff_ne];omega
   repeat first
    | apply T.seq
    | (apply aG;simp[hC,PY,Rh,cg,h0,hz,wt])
    | (refine T.cond (b:=false) ?_ ?_;(first | rfl | (simp[ev,assoc,PY,Rh,cg,h0,hz,wt,Q3,R9,cI];done));simp)
    | (refine T.cond (b:=true) ?_ ?_;(first | rfl | (simp[ev,assoc,PY,Rh,cg,h0,hz,wt,Q3,R9,cI];done));simp)
    | (apply T.skip;simp)
    | apply T.block
   apply T.ret;apply aa.here;simp[Tryz.results135,h1]
theorem G7 (ms:List Mx)(hm:ua ms)(tb:List Ho)(e th:Nat)(he:e<(a6 ms).length)(hl:tb.length=(a6 ms).length)(ho:∀ m∈a6 ms,m<ms.length)(ht:th<=1000000)(hb:tb.length<=1000000)(hd:∀ h∈tb,h.d<=1000000)(Td:∀ h∈tb,h.o<=1000000) :
  af prog 93 [.au (ms.flatMap cI) ms.length,.au (tb.flatMap cg) tb.length,I e,I th] (.bY [.au ((er ms tb e th).1.flatMap cg) (er ms tb e th).1.length,.bool (er ms tb e th).2]):=by
 have PY:e<tb.length:=by omega
 obtain⟨h,hh⟩:∃ h,tb[e]? = some h:=⟨_,getElem?_eq_getElem PY⟩;have hhd:=hd h (mem_of_getElem? hh);have PB:=Ha ms hm tb e th he hl ho ht hb Td;have Uf:=ah ba tb;have OQ:trees [.au (ms.flatMap cI) ms.length,.au (tb.flatMap cg) tb.length,I e,I th]=true:=by simp only[trees,tree,Bool.and_self]
 have Rh:=cq (f:=cg) (n:=2) cm hh 1 yA;have wt:=cw ((th:Int)+1) yA yA;have wd:=cw ((h.d:Int)+1) yA yA;have PS:(tb.flatMap cg).length=tb.length*2:=aA (f:=cg) (n:=2) cm tb;have VC:take (tb.length*2) (tb.flatMap cg)=tb.flatMap cg:=take_of_length_le yA;have rL:=λ ρ=>ae ρ _ Uf;refine af.aC ag Tryz.func93 rfl GK (by simp[Tryz.ntmps93]) rfl λ C hC OR=>?_;rw[Tryz.ntmps93] at hC;apply aq;simp[hC];apply aq;simp[hC];refine TL.du ag [] [] 0 1 (sD tb hb) rfl PU OU rfl rfl Pd Pd RZ Pd Pd (TL.go' ag ?_);simp[hC,br,bf,cQ,bP,rL];apply aT;simp[hC];refine ct OQ PB ?_;simp[hC]
 cases hf:pF ms tb e th with
 | false=>
  refine T.cond (b:=true) PC ?_;simp;apply aq;simp[hC];apply T.ret;refine aa.le (Le.trim [8,9] [0] 1 Z8 yA) ?_;simp;refine aa.le (Le.cF (o:=0) rfl Uf) ?_;simp[VC];apply aa.here;simp[er,hf]
 | true=>
  have Si:er ms tb e th=(tb.set e ⟨th+1,h.d+1⟩,true):=by simp only[er,hf,hh,if_true]
  rw[Si];refine T.cond (b:=false) PC (T.skip ?_);simp;have Q0:e*2+2<=tb.length*2:=by omega
  have O6:=CZ ⟨th+1,h.d+1⟩ tb e PY;rw[show (((th+1:Nat):Int))=(th:Int)+1 from rfl,show (((h.d+1:Nat):Int))=(h.d:Int)+1 from rfl] at O6;have TB:=ah ba (tb.set e ⟨th+1,h.d+1⟩);have TZ:take (tb.length*2) ((tb.set e ⟨th+1,h.d+1⟩).flatMap cg)=(tb.set e ⟨th+1,h.d+1⟩).flatMap cg:=take_of_length_le Xz;apply aq;simp[hC,PY,Rh,cg,PS,wt,wd,Q0];rw[O6];apply aq;simp[hC];apply T.ret;refine aa.le (Le.trim [8,9] [0] 1 XC yA) ?_;simp;refine aa.le (Le.cF (o:=0) rfl TB) ?_;simp[TZ];apply aa.here;simp
theorem CA (ms:List Mx)(tb:List Ho)(e th:Nat)(he:e<(a6 ms).length)(hl:tb.length=(a6 ms).length)(ht:th<=1000000)(hb:tb.length<=1000000)(hd:∀ h∈tb,h.d<=1000000/\(h.o≠0->0<h.d))(Td:∀ h∈tb,h.o<=1000000) :
  af prog 94 [.au (ms.flatMap cI) ms.length,.au (tb.flatMap cg) tb.length,I e,I th] (.bY [.au ((da ms tb e th).1.flatMap cg) (da ms tb e th).1.length,.bool (da ms tb e th).2]):=by
 have PY:e<tb.length:=by omega
 obtain⟨m,Tb⟩:∃ m,(a6 ms)[e]? = some m:=⟨_,getElem?_eq_getElem he⟩;obtain⟨h,hh⟩:∃ h,tb[e]? = some h:=⟨_,getElem?_eq_getElem PY⟩;obtain⟨hhd,hhp⟩:=hd h (mem_of_getElem? hh);have Zy:=Td h (mem_of_getElem? hh);have Uf:=ah ba tb;have Rh:=aH (f:=cg) (n:=2) cm hh;have wt:=cw ((h.o:Int)-1) yA yA;have PS:(tb.flatMap cg).length=tb.length*2:=aA (f:=cg) (n:=2) cm tb;have VC:take (tb.length*2) (tb.flatMap cg)=tb.flatMap cg:=take_of_length_le yA;have Sv:(tb.flatMap cg)[e*2+1]? = some (I h.d):=by rw[<- getElem?_drop,Rh];rfl
 have rL:=λ ρ=>ae ρ _ Uf;have R5:¬ (e:Int)<0:=by omega
 have QV:¬ (th:Int)<0:=by omega
 have Vm:¬ (tb.length<=e):=by omega
 have YP:da ms tb e th=if h.o=th+1 then (tb.set e (if h.d=1 then ⟨0,0⟩ else ⟨th+1,h.d-1⟩),true) else (tb,false):=by simp only[da,Tb,hh]
 rw[YP];refine af.aC ag Tryz.func94 rfl GK (by simp[Tryz.ntmps94]) rfl λ C hC OR=>?_;rw[Tryz.ntmps94] at hC;apply aq;simp[hC];apply aq;simp[hC];refine TL.du ag [] [] 0 1 (sD tb hb) rfl PU OU rfl rfl Pd Pd RZ Pd Pd (TL.go' ag ?_);simp[hC,br,bf,cQ,bP,rL];by_cases R3:h.o=th+1
 .rw[if_pos R3];have Rx:((h.o:Int)-1 != (th:Int))=false:=by rw[bne_eq_false_iff_eq];omega
  have Wz:=hhp yA;apply aT;simp[hC,R5,QV,Vm,PY,Rh,cg,wt,Rx];refine eQ ?_;simp;have wd:=cw ((h.d:Int)-1) yA yA;have Q0:e*2+2<=tb.length*2:=by omega
  have WY:=zi (h.d-1) tb e h hh;rw[show (((h.d-1:Nat):Int))=(h.d:Int)-1 by omega] at WY;apply aq;simp[hC,PY,Sv,PS,wd,Q0];rw[show e*2+1+1=e*2+2 from rfl,WY];have T7:(tb.set e ⟨h.o,h.d-1⟩)[e]? = some ⟨h.o,h.d-1⟩:=by rw[getElem?_set,if_pos rfl,if_pos PY]
  have P3:(tb.set e ⟨h.o,h.d-1⟩).length=tb.length:=by simp
  have YW:(tb.set e ⟨h.o,h.d-1⟩).set e ⟨0,h.d-1⟩=tb.set e ⟨0,h.d-1⟩:=by simp
  have Zy:(⟨h.o,h.d-1⟩:Ho)=⟨th+1,h.d-1⟩:=by rw[R3]
  by_cases Qa:h.d=1
  .rw[if_pos Qa];generalize tb.set e ⟨h.o,h.d-1⟩=t2 at T7 P3 YW;have Uj:=zh 0 t2 e _ T7;rw[YW,show (⟨0,h.d-1⟩:Ho)=⟨0,0⟩ by rw[Qa],show (((0:Nat):Int))=0 from rfl] at Uj;have Sn:=aH (f:=cg) (n:=2) cm T7;have Qk:(t2.flatMap cg)[e*2+1]? = some (I 0):=by rw[<- getElem?_drop,Sn];simp[cg,Qa]
   have Sk:(t2.flatMap cg).length=tb.length*2:=by rw[aA (f:=cg) (n:=2) cm,P3]
   have hb3:e*2+1<=tb.length*2:=by omega
   have TB:=ah ba (tb.set e ⟨0,0⟩);have TZ:take (tb.length*2) ((tb.set e ⟨0,0⟩).flatMap cg)=(tb.set e ⟨0,0⟩).flatMap cg:=take_of_length_le Xz;apply aT;simp[hC,PY,Qk];refine cX ?_;simp;apply aG;simp[hC,PY,Sk,hb3];rw[Uj];apply aq;simp[hC];apply T.ret;refine aa.le (Le.trim [8,9] [0] 1 XC yA) ?_;simp;refine aa.le (Le.cF (o:=0) rfl TB) ?_;simp[TZ];apply aa.here;simp
  .rw[if_neg Qa];rw[Zy] at T7 P3 |-;have Sn:=aH (f:=cg) (n:=2) cm T7;have TB:=ah ba (tb.set e ⟨th+1,h.d-1⟩);have TZ:take (tb.length*2) ((tb.set e ⟨th+1,h.d-1⟩).flatMap cg)=(tb.set e ⟨th+1,h.d-1⟩).flatMap cg:=take_of_length_le Xz;have hlS:(tb.set e ⟨th+1,h.d-1⟩).length=tb.length:=by simp
   generalize tb.set e ⟨th+1,h.d-1⟩=t2 at T7 P3 Sn TB TZ hlS |-;have Qk:(t2.flatMap cg)[e*2+1]? = some (I (h.d-1:Nat)):=by rw[<- getElem?_drop,Sn];rfl
   have W8:(((h.d-1:Nat):Int) == 0)=false:=by rw[beq_eq_false_iff_ne];omega
   apply aT;simp[hC,PY,Qk,W8];refine T.cond (b:=false) PC (T.skip ?_);simp;apply aq;simp[hC];apply T.ret;refine aa.le (Le.trim [8,9] [0] 1 XC yA) ?_;simp;refine aa.le (Le.cF (o:=0) rfl TB) ?_;simp[TZ];apply aa.here;simp
 .rw[if_neg R3];have Rx:((h.o:Int)-1 != (th:Int))=true:=by rw[bne_iff_ne];omega
  apply aT;simp[hC,R5,QV,Vm,PY,Rh,cg,wt,Rx];refine cX ?_;simp;apply aq;simp[hC];apply T.ret;refine aa.le (Le.trim [8,9] [0] 1 Z8 yA) ?_;simp;refine aa.le (Le.cF (o:=0) rfl Uf) ?_;simp[VC];apply aa.here;simp
theorem Ia {C:Cx}{K:St->Prop}{r q:Nat}{bo:Bool}{G T S:List CV}{g b m:Nat}{fa:Int}(hG:trees G=true)(hT:trees T=true)(hS:trees S=true)(lG:G.length=g)(lT:T.length=b*2)(lS:S.length=m)
  (h:K ⟨[(q,.bool bo),(r,.ax 5 0)],[(5,⟨40,0,[.au G g,.au T b,.au S m,I fa]⟩)],6⟩) :
  aa C K ⟨[(q,.bool bo),(r,.ax 5 0)],[(0,⟨3,1,G⟩),(1,⟨122,2,T⟩),(2,⟨81,1,S⟩),(5,⟨40,0,[.bg 0 0 g,.bg 1 0 b,.bg 2 0 m,I fa]⟩)],6⟩:=by
 have kG:take g G=G:=take_of_length_le yA;have kT:take (b*2) T=T:=take_of_length_le yA;have kS:take m S=S:=take_of_length_le yA;refine aa.le (Le.cF (o:=0) rfl hG) ?_;simp[kG,ai hT,ai hS];refine aa.le (Le.cF (o:=1) rfl hT) ?_;simp[kT,ai hS];refine aa.le (Le.cF (o:=2) rfl hS) ?_;simp[kS];exact aa.here h
def Ko (s:Sy)(t:Nat)(l0:List Fr)(f:Fr)(un:Bool)(fa:Nat)(W:List Ho)(ok:Bool):Sy×Bool:=
 if fa=0 then (if ok=true then ({ s with tb:=W,ts:=s.ts.set t (l0++[{ f with pc:=f.pc+1 }]) },true) else if un=true then ({ s with fault:=3 },true) else (s,false)) else ({ s with fault:=fa },true)
theorem Aq (u:Un)(s:Sy)(t:Nat)(l0:List Fr)(f:Fr)(p:Pl)(un:Bool)(n fa:Nat)(W:List Ho)(ok:Bool)(hn:aZ u s t p=((n:Int),fa))(hm:ua u.ms)(RS:p.index<=1000000)(Qb:pN u.ms s.gs.length f.ay.length f.b9.length p)
  (Si:fa=0->af prog (if un then 94 else 93) [.au (u.ms.flatMap cI) u.ms.length,.au (s.tb.flatMap cg) s.tb.length,I n,I t] (.bY [.au (W.flatMap cg) W.length,.bool ok])) (_hW:W.length=s.tb.length)
  (hl:s.ts[t]? = some (l0++[f])) (PI:s.fault=0) (hs:Ev s) (hr:B4 s) (h6:f.pc<=1000000) :
  af prog 43 [cb u,bp s,I t,.agg (df (.lock un p))] (.bY [bp (Ko s t l0 f un fa W ok).1,.bool (Ko s t l0 f un fa W ok).2]):=by
 have Pq:cN s t=some f:=by simp[cN,hl,PI]
 have RT:=mem_of_getElem? hl;have PV:=(hs.f _ RT).1;have PE:l0.length<=1000000:=by simp at PV;omega
 have PN:=qb s t l0 f hl hs;have Pc:=Da s hs;have O7:=As u s t p hm hr (qx hs) RS f Pq Qb;rw[hn] at O7;have Qj:=iZ s hs fa;have RV:=iZ s hs 3;have P7:=cG s;have PR:=bt u;have Va:trees [cb u,bp s,I t,.agg (fC p)]=true:=by simp only[trees,tree,cJ,P7,cb,PR,Bool.and_self]
 have Qh:trees [bp s,I fa]=true:=by simp only[trees,tree,P7,Bool.and_self]
 have tf3:trees [bp s,I (3:Nat)]=true:=by simp only[trees,tree,P7,Bool.and_self]
 have WM:trees [.au (u.ms.flatMap cI) u.ms.length,.au (s.tb.flatMap cg) s.tb.length,I n,I t]=true:=by simp only[trees,tree,Bool.and_self]
 have O1:tree (.bY [bp (Ko s t l0 f un fa W ok).1,.bool (Ko s t l0 f un fa W ok).2])=true:=by simp only[tree,trees,cG,Bool.and_self]
 refine af.aC ag Tryz.func43 rfl GK (by simp[Tryz.ntmps43]) O1 λ C hC OR=>?_;rw[Tryz.ntmps43] at hC;clear O1;unfold Ko;obtain⟨p1,p2,p3,p4,gJ,WK⟩:=lp p;rw[gJ] at O7 Va;have tG:trees (s.gs.map bj)=true:=aB s.gs;have tT:trees (s.tb.flatMap cg)=true:=ah ba _;have tL:trees (l0.flatMap cZ)=true:=ah bX _;have tV:trees (f.ay.map bj)=true:=aB f.ay;have tE:=aM f.b9;have OW:trees ((s.ts.take t).flatMap cd)=true:=ah aK _;have OY:trees ((s.ts.drop (t+1)).flatMap cd)=true:=ah aK _;have rG:=λ ρ=>ae ρ _ tG;have rT:=λ ρ=>ae ρ _ tT;have rL:=λ ρ=>ae ρ _ tL;have rV:=λ ρ=>ae ρ _ tV;have r1:=λ ρ=>ae ρ _ OW;have r2:=λ ρ=>ae ρ _ OY;have rE:=λ ρ=>ae ρ _ tE;have ra:∀ ρ (a b:List CV),aL ρ (a++b)=aL ρ a++aL ρ b:=λ ρ a b=>by rw[aY,aY,aY,map_append]
 have tS:trees (s.ts.flatMap cd)=true:=ah aK _;have rS:=λ ρ=>ae ρ _ tS;have tW:trees (W.flatMap cg)=true:=ah ba _;have rW:=λ ρ=>ae ρ _ tW;simp only[bp,dK,cb,eD,ints,df,a8,gJ,cons_append,nil_append,I8,OH] at *;apply aq;simp[hC];apply aq;simp[hC];refine ct Va O7 ?_;simp[hC];by_cases hf:fa=0
 .subst hf;have Si:=Si rfl
  repeat first
   | apply T.seq
   | (apply aG;simp[hC])
   | (refine bh ?_;simp)
   | (refine cX ?_;simp)
   | (apply T.skip;simp)
   | apply T.block
  cases ok with
  | false=>
   cases un with
   | false=>
    repeat first
     | apply T.seq
     | (apply aG;simp[hC])
     | (refine bh ?_;simp)
     | (refine cX ?_;simp)
     | (apply T.skip;simp)
     | apply T.block
    refine ct WM Si ?_;simp[hC]
    repeat first
     | apply T.seq
     | (apply aG;simp[hC])
     | (refine bh ?_;simp)
     | (refine cX ?_;simp)
     | (apply T.skip;simp)
     | apply T.block
    refine TL.du ag [] [] 0 6 (Pc) rfl PU OU rfl rfl Pd Pd RZ Pd Pd (TL.go' ag ?_);simp[hC,br,bf,aL,cQ,bP,rG,rT,rS];apply T.ret;refine aa.le (Le.norm [9,8] [(4,0),(5,1),(6,2),(3,5)] 0 6 Px Pw yDc yA) ?_;simp[cz,bf,aL,cQ,dW,assoc,rG,rT,rS];refine Ia tG tT tS xr (aA cm _) (by simpa using aA jH s.ts) ?_;simp
   | true=>
    repeat first
     | apply T.seq
     | (apply aG;simp[hC])
     | (refine bh ?_;simp)
     | (refine cX ?_;simp)
     | (apply T.skip;simp)
     | apply T.block
    refine ct WM Si ?_;simp[hC]
    repeat first
     | apply T.seq
     | (apply aG;simp[hC])
     | (refine bh ?_;simp)
     | (refine cX ?_;simp)
     | (apply T.skip;simp)
     | apply T.block
    refine ct tf3 RV ?_;simp[hC];apply T.ret;refine aa.le (Le.trim [9,8] [3] 99 Qr yA) ?_;simp;apply aa.here;simp
  | true=>
   have O6:(s.ts.set t (l0++[{ f with pc:=f.pc+1 }])).flatMap cd=(s.ts.take t).flatMap cd++.au (l0.flatMap cZ++[I f.proc,I ((f.pc:Int)+1),.au (f.ay.map bj) f.ay.length,.au (f.b9.map λ n:Nat=>I n) f.b9.length]) (l0.length+1)::(s.ts.drop (t+1)).flatMap cd:=by
    rw[set_eq_take_append_cons_drop,if_pos (List.getElem?_eq_some_iff.1 hl).1,flatMap_append,flatMap_cons];simp[cd,cZ,ints,aN]
   cases un
   all_goals
    repeat first
     | apply T.seq
     | (apply aG;simp[hC])
     | (refine bh ?_;simp)
     | (refine cX ?_;simp)
     | (apply T.skip;simp)
     | apply T.block
    refine ct WM Si ?_;simp[hC]
    repeat first
     | apply T.seq
     | (apply aG;simp[hC])
     | (refine bh ?_;simp)
     | (refine cX ?_;simp)
     | (apply T.skip;simp)
     | apply T.block
    refine TL.du ag [] [] 0 6 (PN) rfl PU OU rfl rfl Pd Pd RZ Pd Pd (TL.go' ag ?_);simp[hC,br,bf,aL,cQ,bP,rG,rT,rL,rV,r1,r2,ra,aN];refine T.le (Le.norm [15,13,9,8,2] [(4,0),(5,1),(6,2),(7,3),(8,4),(10,5),(3,6)] 0 7 Px Pw TY yA) ?_;simp[cz,bf,aL,cQ,dW,assoc,rG,rT,rL,rV,r1,r2,ra];generalize hA:(s.ts.take t).flatMap cd=A at OW r1 |-;generalize hB:(s.ts.drop (t+1)).flatMap cd=B at OY r2 |-;generalize hD:l0.flatMap cZ=D at tL rL |-;have O5:=(List.getElem?_eq_some_iff.1 hl).1;have lA:A.length=t:=by rw[<- hA,ch,length_map,length_take];omega
    have lB:B.length=s.ts.length-(t+1):=by rw[<- hB,ch,length_map,length_drop]
    have lD:D.length=l0.length*4:=by rw[<- hD];exact aA cL l0
    have R2:=kg s.gs.length W.length s.ts.length t l0.length f.proc f.pc f.ay.length f.b9.length A B D _ _ OW OY tL tE tV _ (.inr ⟨W.flatMap cg,rfl⟩) lA lD O5 hs.t PE;rw[PI];apply aq;simp[hC];apply aq;simp[hC];have a1:A.all (aU 5)=true:=by rw[<- aE];exact bK 5 _ OW
    have a2:B.all (aU 5)=true:=by rw[<- aE];exact bK 5 _ OY
    have a3:D.all (aU 5)=true:=by rw[<- aE];exact bK 5 _ tL
    have dD:∀ r:List CV,(D++r).drop (l0.length*4)=r:=λ r=>by rw[<- lD];simp
    have PK:∀ (r:List CV) (k:Nat),(D++r).drop (l0.length*4+k)=r.drop k:=λ r k=>by rw[<- lD,drop_append];simp
    have P4:∀ (r:List CV) (k:Nat),(D++r).take (l0.length*4+k)=D++r.take k:=λ r k=>by rw[<- lD,take_append,take_of_length_le yA];simp
    have P6:∀ (r:List CV),(D++r).drop (l0.length*4+1+1)=r.drop 2:=λ r=>PK r 2;have w3:=cw ((f.pc:Int)+1) yA yA;refine TL.du ag [0,1,2,3,4] [2,3,4] 5 0 R2 rfl PU OU rfl rfl PU XD PU XE WI (TL.go' ag ?_);simp[hC,br,bf,aL,cQ,bP,rL,rV,r1,r2,ra,w3,lD,PK,P4,P6];have kF:∀ a b c d:CV,take ((l0.length+1)*4) (D++[a,b,c,d])=D++[a,b,c,d]:=λ a b c d=>take_of_length_le PA;rw[hA,hB,hD] at O6;apply aq;simp[hC];apply T.ret;refine aa.le (Le.norm [9,8] [(0,0),(2,2),(3,3),(4,4),(6,5)] 0 6 Px Pw (by simp[cO,nu,lF,tree,assoc,-all_eq_true,-all_flatMap,aw tG,aw tL,aw tV,aw OW,aw OY]) yA) ?_;simp[cz,bf,aL,cQ,dW,assoc,rG,rL,rV,r1,r2,ra];refine Bj tG tW OW OY tL tE tV rfl xr yA xr ?_;simp[O6,kF]
 .have O9:((fa:Int) != 0)=true:=by rw[bne_iff_ne];omega
  repeat first
   | apply T.seq
   | (apply aG;simp[hC,O9])
   | (refine T.cond (b:=false) ?_ ?_;(first | rfl | (simp[ev,assoc];done));simp)
   | (refine T.cond (b:=true) ?_ ?_;(first | rfl | (simp[ev,assoc,O9];done));simp)
   | (apply T.skip;simp)
   | apply T.block
  refine ct Qh Qj ?_;simp[hC];apply T.ret;refine aa.le (Le.trim [9,8] [3] 99 Qr yA) ?_;simp;apply aa.here;simp[hf]
end Go.Proofs.YtlkmbdfhdknlgaaGreat
