/- A step at a branch. -/
import Derived.Test.YtlkmbdfhdknlgaaGreatV38
set_option maxHeartbeats 4000000
set_option maxRecDepth 100000
namespace Go.Proofs.YtlkmbdfhdknlgaaGreat
open Go.Can Go.aV List Tryz
def Jd (s:Sy)(t:Nat)(l0:List Fr)(f:Fr)(g:Nat)(e:Ex):Sy:=
 if (aW s.gs f.ay e).2=0 then { s with ts:=s.ts.set t (l0++[{ f with pc:=if (aW s.gs f.ay e).1=0 then g else f.pc+1 }]) } else { s with fault:=(aW s.gs f.ay e).2 }
theorem z8 (u:Un)(s:Sy)(t:Nat)(l0:List Fr)(f:Fr)(q:Pr)(g:Nat)(e:Ex)(he:px s.gs.length f.ay.length e)(hl:s.ts[t]? = some (l0++[f]))(PI:s.fault=0)(hq:u.ps[f.proc]? = some q)(hc:q.code[f.pc]? = some (.branch g e))(PB:ur u s)
  (h1:s.gs.length<=1000000) (h2:s.tb.length<=1000000) (h3:s.ts.length<=1000000) (h4:∀ l∈s.ts,l.length<=1000000) (h5:f.ay.length<=1000000) (h6:f.pc<=1000000) :
  af prog 53 [cb u,bp s,I t] (.bY [bp (Jd s t l0 f g e),.bool true]):=by
 have OZ:=dy u s t ⟨h3,h4⟩ PB;have PV:=h4 _ (mem_of_getElem? hl);have PE:l0.length<=1000000:=by simp at PV;omega
 have Pq:cN s t=some f:=by simp[cN,hl,PI]
 have PF:dR u s t=some (.branch g e):=by simp[dR,Pq,hq,hc]
 rw[PF] at OZ;have PN:=gX s t l0 f hl h1 h2 h3 PE h5;have OQ:trees [cb u,bp s,I t]=true:=by
  have:=bt u;simp only[trees,tree,bp,dK,cb,this,ints,Bool.and_self]
 have O1:tree (.bY [bp (Jd s t l0 f g e),.bool true])=true:=by
  simp only[bp,dK,tree,trees,bD,Bool.and_self]
 refine af.aC ag Tryz.func53 rfl GK Vu O1 λ C hC OR=>?_;rw[Tryz.ntmps53] at hC;have Pv:=mL s.gs f.ay e he;have Qj:=gW s (aW s.gs f.ay e).2;have Qh:trees [bp s,I (aW s.gs f.ay e).2]=true:=by simp only[trees,tree,bp,dK,ints,Bool.and_self]
 have U1:Jd s t l0 f g e=if (aW s.gs f.ay e).2=0 then { s with ts:=s.ts.set t (l0++[{ f with pc:=if (aW s.gs f.ay e).1=0 then g else f.pc+1 }]) } else { s with fault:=(aW s.gs f.ay e).2 }:=rfl
 rw[U1];generalize aW s.gs f.ay e=va at Pv Qj Qh |-;obtain⟨v,fa⟩:=va;have Uh:trees [.agg (a8 e),ints s.gs,ints f.ay]=true:=by simp only[trees,tree,aJ,bD,Bool.and_self]
 obtain⟨e1,e2,e3,e4,e5,S7,XH⟩:=fe e;simp only[gg,df,S7,kI,cons_append,nil_append] at OZ;rw[S7] at Pv Uh;simp only[bp,dK,cb,eD,ints] at OZ PN OQ Pv Qj Qh Uh |-;apply aq;simp[hC];apply aq;simp[hC];refine ct OQ OZ ?_;simp[hC];apply aT;simp[hC];refine eQ ?_;simp;apply aq;simp[hC];have tG:trees (s.gs.map bj)=true:=aB s.gs;have tT:trees (s.tb.flatMap cg)=true:=ah ba _;have tL:trees (l0.flatMap cZ)=true:=ah bX _;have tV:trees (f.ay.map bj)=true:=aB f.ay;have tE:=aM f.b9;have OW:trees ((s.ts.take t).flatMap cd)=true:=ah aK _;have OY:trees ((s.ts.drop (t+1)).flatMap cd)=true:=ah aK _;have rG:=λ ρ=>ae ρ _ tG;have rT:=λ ρ=>ae ρ _ tT;have rL:=λ ρ=>ae ρ _ tL;have rV:=λ ρ=>ae ρ _ tV;have r1:=λ ρ=>ae ρ _ OW;have r2:=λ ρ=>ae ρ _ OY;have rE:=λ ρ=>ae ρ _ tE;have ra:∀ ρ (a b:List CV),aL ρ (a++b)=aL ρ a++aL ρ b:=λ ρ a b=>by rw[aY,aY,aY,map_append]
 have Vd:aX 0 [.agg [.au (s.gs.map bj) s.gs.length,.au (s.tb.flatMap cg) s.tb.length,.au (s.ts.flatMap cd) s.ts.length,I s.fault],I t]=true:=by
  have tS:trees (s.ts.flatMap cd)=true:=ah aK _;simp only[aE,all_cons,all_nil,Bool.and_true];rw[bq 0 _ Wb];rfl
 refine TL.du ag [] [] 0 6 (PN) rfl PU OU rfl rfl Pd Pd RZ Pd Pd (TL.go' ag ?_);simp[hC,br,bf,aL,cQ,bP,rG,rT,rL,rV,r1,r2,ra,aN];generalize hA:(s.ts.take t).flatMap cd=A at OW r1 |-;generalize hB:(s.ts.drop (t+1)).flatMap cd=B at OY r2 |-;generalize hD:l0.flatMap cZ=D at tL rL |-;have O5:=(List.getElem?_eq_some_iff.1 hl).1;have lA:A.length=t:=by rw[<- hA,ch,length_map,length_take];omega
 have lD:D.length=l0.length*4:=by rw[<- hD];exact aA cL l0
 have dA:∀ r:List CV,(A++r).drop t=r:=λ r=>by rw[<- lA];simp
 have dD:∀ r:List CV,(D++r).drop (l0.length*4)=r:=λ r=>by rw[<- lD];simp
 have PK:∀ (r:List CV) (k:Nat),(D++r).drop (l0.length*4+k)=r.drop k:=λ r k=>by rw[<- lD,drop_append];simp
 have P4:∀ (r:List CV) (k:Nat),(D++r).take (l0.length*4+k)=D++r.take k:=λ r k=>by rw[<- lD,take_append,take_of_length_le yA];simp
 have P6:∀ (r:List CV),(D++r).drop (l0.length*4+1+1)=r.drop 2:=λ r=>PK r 2;have w1:=cw (l0.length:Int) yA yA;have w2:(l0.length:Int)<(l0.length:Int)+1:=by omega
 have w3:=cw ((f.pc:Int)+1) yA yA;refine T.le (Le.trim [10,8,7,6,4,3,2] [10,4,5,6,7,8,3,2,1,0] 11 U9 yA) ?_;simp;apply aq;simp[hC,O5,dA];apply aq;simp[hC,w1,w2];apply aq;simp[hC,w3,lD,PK,P4,P6];have kV:take f.ay.length (f.ay.map bj)=f.ay.map bj:=take_of_length_le xr;refine T.le (Le.cF (o:=8) rfl tV) ?_;simp[kV,ai tG,ai tT,ai tL,ai OW,ai OY]
 repeat first
  | apply T.seq
  | (apply aG;simp[hC])
  | (refine T.cond (b:=false) ?_ ?_;(first | rfl | (simp[ev,assoc];done));simp)
  | (refine T.cond (b:=true) ?_ ?_;(first | rfl | (simp[ev,assoc,lD];done));simp)
  | (apply T.skip;simp)
  | apply T.block
 refine T.rx ag follows [0,1,2,3,4,5,6,7,8,9,10,11,12,13] [] GK ?_;simp[hC,PK];refine RX.call rfl rfl rfl rfl rfl Uh Pv ?_;simp;by_cases hf:fa=0
 .subst hf;by_cases hv:v=0
  .subst hv
   repeat first
    | apply T.seq
    | (apply aG;simp[hC,lD,P4,P6])
    | (refine T.cond (b:=false) ?_ ?_;(first | rfl | (simp[ev,assoc];done));simp)
    | (refine T.cond (b:=true) ?_ ?_;(first | rfl | (simp[ev,assoc,lD,dD,PK,P4,P6];done));simp)
    | (apply T.skip;simp)
    | apply T.block
   apply T.ret;refine aa.le (Le.trim [7,6] [2,4,5,6,7] 11 yDo yA) ?_;simp;have kG:take s.gs.length (s.gs.map bj)=s.gs.map bj:=take_of_length_le xr;have kT:take (s.tb.length*2) (s.tb.flatMap cg)=s.tb.flatMap cg:=take_of_length_le Vy;refine aa.le (Le.cF (o:=4) rfl tG) ?_;simp[kG,ai tT,ai tL,ai OW,ai OY];refine aa.le (Le.cF (o:=5) rfl tT) ?_;simp[kT,ai tL,ai OW,ai OY];have tF:trees (D++[I f.proc,I g,.au (f.ay.map bj) f.ay.length,.au (f.b9.map λ n:Nat=>I n) f.b9.length])=true:=by
    rw[aF,tL];simp only[trees,tree,Bool.and_self]
   have kF:∀ a b c d:CV,take ((l0.length+1)*4) (D++[a,b,c,d])=D++[a,b,c,d]:=λ a b c d=>take_of_length_le PA;refine aa.le (Le.cF (o:=7) rfl tF) ?_;simp[kF,ai OW,ai OY];have tH:trees (A++.au (D++[I f.proc,I g,.au (f.ay.map bj) f.ay.length,.au (f.b9.map λ n:Nat=>I n) f.b9.length]) (l0.length+1)::B)=true:=by
    simp only[aF,OW,trees,OY,tree,Bool.and_self]
   have lB:B.length=s.ts.length-(t+1):=by rw[<- hB,ch,length_map,length_drop]
   have kH:∀ x:CV,take s.ts.length (A++x::B)=A++x::B:=λ x=>take_of_length_le PA;refine aa.le (Le.cF (o:=6) rfl tH) ?_;simp[kH];apply aa.here;have O6:(s.ts.set t (l0++[{ f with pc:=g }])).flatMap cd=A++.au (D++[I f.proc,I g,.au (f.ay.map bj) f.ay.length,.au (f.b9.map λ n:Nat=>I n) f.b9.length]) (l0.length+1)::B:=by
    rw[set_eq_take_append_cons_drop,if_pos O5,flatMap_append,flatMap_cons,hA,hB];simp[cd,cZ,hD,ints,aN]
   simp[O6]
  .have Sd:(v == 0)=false:=by simp[hv]
   repeat first
    | apply T.seq
    | (apply aG;simp[hC,hv,Sd])
    | (refine T.cond (b:=false) ?_ ?_;(first | rfl | (simp[ev,assoc,lD,dD,PK,P4,P6,hv,Sd];done));simp)
    | (refine T.cond (b:=true) ?_ ?_;(first | rfl | (simp[ev,assoc,lD,dD,PK,P4,P6,hv,Sd];done));simp)
    | (apply T.skip;simp)
    | apply T.block
   apply T.ret;refine aa.le (Le.trim [7,6] [2,4,5,6,7] 11 yDo yA) ?_;simp;have kG:take s.gs.length (s.gs.map bj)=s.gs.map bj:=take_of_length_le xr;have kT:take (s.tb.length*2) (s.tb.flatMap cg)=s.tb.flatMap cg:=take_of_length_le Vy;refine aa.le (Le.cF (o:=4) rfl tG) ?_;simp[kG,ai tT,ai tL,ai OW,ai OY];refine aa.le (Le.cF (o:=5) rfl tT) ?_;simp[kT,ai tL,ai OW,ai OY];have tF:trees (D++[I f.proc,I ((f.pc:Int)+1),.au (f.ay.map bj) f.ay.length,.au (f.b9.map λ n:Nat=>I n) f.b9.length])=true:=by
    rw[aF,tL];simp only[trees,tree,Bool.and_self]
   have kF:∀ a b c d:CV,take ((l0.length+1)*4) (D++[a,b,c,d])=D++[a,b,c,d]:=λ a b c d=>take_of_length_le PA;refine aa.le (Le.cF (o:=7) rfl tF) ?_;simp[kF,ai OW,ai OY];have tH:trees (A++.au (D++[I f.proc,I ((f.pc:Int)+1),.au (f.ay.map bj) f.ay.length,.au (f.b9.map λ n:Nat=>I n) f.b9.length]) (l0.length+1)::B)=true:=by
    simp only[aF,OW,trees,OY,tree,Bool.and_self]
   have lB:B.length=s.ts.length-(t+1):=by rw[<- hB,ch,length_map,length_drop]
   have kH:∀ x:CV,take s.ts.length (A++x::B)=A++x::B:=λ x=>take_of_length_le PA;refine aa.le (Le.cF (o:=6) rfl tH) ?_;simp[kH];apply aa.here;have O6:(s.ts.set t (l0++[{ f with pc:=f.pc+1 }])).flatMap cd=A++.au (D++[I f.proc,I ((f.pc:Int)+1),.au (f.ay.map bj) f.ay.length,.au (f.b9.map λ n:Nat=>I n) f.b9.length]) (l0.length+1)::B:=by
    rw[set_eq_take_append_cons_drop,if_pos O5,flatMap_append,flatMap_cons,hA,hB];simp[cd,cZ,hD,ints,aN]
   simp[O6]
 .have O9:((fa:Int) != 0)=true:=by rw[bne_iff_ne];omega
  repeat first
   | apply T.seq
   | (apply aG;simp[hC,O9])
   | (refine T.cond (b:=false) ?_ ?_;(first | rfl | (simp[ev,assoc];done));simp)
   | (refine T.cond (b:=true) ?_ ?_;(first | rfl | (simp[ev,assoc,O9];done));simp)
   | (apply T.skip;simp)
   | apply T.block
  refine ct Qh Qj ?_;simp[hC];apply T.ret;refine aa.le (Le.trim [7,6] [2] 11 Qr yA) ?_;simp;apply aa.here;simp[hf]
theorem step_ret (u:Un)(s:Sy)(t:Nat)(l0:List Fr)(f:Fr)(q:Pr)(hl:s.ts[t]? = some (l0++[f]))(PI:s.fault=0)(hq:u.ps[f.proc]? = some q)(hc:q.code[f.pc]? = some .ret)(PB:ur u s)
  (h1:s.gs.length<=1000000) (h2:s.tb.length<=1000000) (h3:s.ts.length<=1000000) (h4:∀ l∈s.ts,l.length<=1000000) (h5:f.ay.length<=1000000) (h6:f.pc<=1000000) :
  af prog 53 [cb u,bp s,I t] (.bY [bp { s with ts:=s.ts.set t l0 },.bool true]):=by
 have OZ:=dy u s t ⟨h3,h4⟩ PB;have PV:=h4 _ (mem_of_getElem? hl);have PE:l0.length<=1000000:=by simp at PV;omega
 have Pq:cN s t=some f:=by simp[cN,hl,PI]
 have PF:dR u s t=some .ret:=by simp[dR,Pq,hq,hc]
 rw[PF] at OZ;have PN:=gX s t l0 f hl h1 h2 h3 PE h5;have OQ:trees [cb u,bp s,I t]=true:=by
  have:=bt u;simp only[trees,tree,bp,dK,cb,this,ints,Bool.and_self]
 have O1:tree (.bY [bp { s with ts:=s.ts.set t l0 },.bool true])=true:=by
  simp only[bp,dK,tree,trees,bD,Bool.and_self]
 refine af.aC ag Tryz.func53 rfl GK Vu O1 λ C hC OR=>?_;rw[Tryz.ntmps53] at hC;simp only[bp,dK,cb,eD,ints] at OZ PN OQ |-;apply aq;simp[hC];apply aq;simp[hC];refine ct OQ OZ ?_;simp[hC,gg,df,a8,kI];apply aT;simp[hC];refine eQ ?_;simp;apply aq;simp[hC];have tG:trees (s.gs.map bj)=true:=aB s.gs;have tT:trees (s.tb.flatMap cg)=true:=ah ba _;have tL:trees (l0.flatMap cZ)=true:=ah bX _;have tV:trees (f.ay.map bj)=true:=aB f.ay;have tE:=aM f.b9;have OW:trees ((s.ts.take t).flatMap cd)=true:=ah aK _;have OY:trees ((s.ts.drop (t+1)).flatMap cd)=true:=ah aK _;have rG:=λ ρ=>ae ρ _ tG;have rT:=λ ρ=>ae ρ _ tT;have rL:=λ ρ=>ae ρ _ tL;have rV:=λ ρ=>ae ρ _ tV;have r1:=λ ρ=>ae ρ _ OW;have r2:=λ ρ=>ae ρ _ OY;have rE:=λ ρ=>ae ρ _ tE;have ra:∀ ρ (a b:List CV),aL ρ (a++b)=aL ρ a++aL ρ b:=λ ρ a b=>by rw[aY,aY,aY,map_append]
 have Vd:aX 0 [.agg [.au (s.gs.map bj) s.gs.length,.au (s.tb.flatMap cg) s.tb.length,.au (s.ts.flatMap cd) s.ts.length,I s.fault],I t]=true:=by
  have tS:trees (s.ts.flatMap cd)=true:=ah aK _;simp only[aE,all_cons,all_nil,Bool.and_true];rw[bq 0 _ Wb];rfl
 refine TL.du ag [] [] 0 6 (PN) rfl PU OU rfl rfl Pd Pd RZ Pd Pd (TL.go' ag ?_);simp[hC,br,bf,aL,cQ,bP,rG,rT,rL,rV,r1,r2,ra,aN];generalize hA:(s.ts.take t).flatMap cd=A at OW r1 |-;generalize hB:(s.ts.drop (t+1)).flatMap cd=B at OY r2 |-;generalize hD:l0.flatMap cZ=D at tL rL |-;have O5:=(List.getElem?_eq_some_iff.1 hl).1;have lA:A.length=t:=by rw[<- hA,ch,length_map,length_take];omega
 have lD:D.length=l0.length*4:=by rw[<- hD];exact aA cL l0
 have dA:∀ r:List CV,(A++r).drop t=r:=λ r=>by rw[<- lA];simp
 have dD:∀ r:List CV,(D++r).drop (l0.length*4)=r:=λ r=>by rw[<- lD];simp
 have PK:∀ (r:List CV) (k:Nat),(D++r).drop (l0.length*4+k)=r.drop k:=λ r k=>by rw[<- lD,drop_append];simp
 have P4:∀ (r:List CV) (k:Nat),(D++r).take (l0.length*4+k)=D++r.take k:=λ r k=>by rw[<- lD,take_append,take_of_length_le yA];simp
 have P6:∀ (r:List CV),(D++r).drop (l0.length*4+1+1)=r.drop 2:=λ r=>PK r 2;have w1:=cw (l0.length:Int) yA yA;have w2:(l0.length:Int)<(l0.length:Int)+1:=by omega
 have w3:=cw ((f.pc:Int)+1) yA yA;refine T.le (Le.trim [10,8,7,6,4,3,2] [10,4,5,6,7,8,3,2,1,0] 11 U9 yA) ?_;simp;apply aq;simp[hC,O5,dA];apply aq;simp[hC,w1,w2];apply aq;simp[hC,w3,lD,PK,P4,P6]
 repeat first
  | apply T.seq
  | (apply aG;simp[hC])
  | (refine T.cond (b:=false) ?_ ?_;(first | rfl | (simp[ev,assoc,lD];done));simp)
  | (refine T.cond (b:=true) ?_ ?_;(first | rfl | (simp[ev,assoc,lD];done));simp)
  | (apply T.skip;simp)
  | apply T.block
 refine T.rx ag follows [0,1,2,3,4,5,6,7,8,9,10] [] GK ?_;have WE:∀ (x:CV) (r:List CV),(A++x::r).drop (t+1)=r:=λ x r=>by rw[<- lA,drop_append];simp
 simp[hC,lA,WE,O5,w1]
 repeat first
  | apply T.seq
  | (apply aG;simp[hC])
  | (refine bh ?_;simp)
  | (refine cX ?_;simp)
  | (apply T.skip;simp)
  | apply T.block
 apply T.ret;refine aa.le (Le.trim [7,6] [2,4,5,6,7,8] 11 U9 yA) ?_;simp;have kG:take s.gs.length (s.gs.map bj)=s.gs.map bj:=take_of_length_le xr;have kT:take (s.tb.length*2) (s.tb.flatMap cg)=s.tb.flatMap cg:=take_of_length_le Vy;have kV:take f.ay.length (f.ay.map bj)=f.ay.map bj:=take_of_length_le xr;refine aa.le (Le.cF (o:=8) rfl tV) ?_;simp[kV,ai tG,ai tT,ai tL,ai OW,ai OY];refine aa.le (Le.cF (o:=4) rfl tG) ?_;simp[kG,ai tT,ai tL,ai OW,ai OY];refine aa.le (Le.cF (o:=5) rfl tT) ?_;simp[kT,ai tL,ai OW,ai OY];have tF:trees (D++[I f.proc,I ((f.pc:Int)+1),.au (f.ay.map bj) f.ay.length,.au (f.b9.map λ n:Nat=>I n) f.b9.length])=true:=by
  rw[aF,tL];simp only[trees,tree,Bool.and_self]
 have kF:∀ r:List CV,take (l0.length*4) (D++r)=D:=λ r=>by rw[<- lD];simp
 refine aa.le (Le.cF (o:=7) rfl tF) ?_;simp[kF,ai OW,ai OY];have tH:trees (A++.au D l0.length::B)=true:=by
  simp only[aF,OW,trees,OY,tree,Bool.and_self]
 have lB:B.length=s.ts.length-(t+1):=by rw[<- hB,ch,length_map,length_drop]
 have kH:∀ x:CV,take s.ts.length (A++x::B)=A++x::B:=λ x=>take_of_length_le PA;refine aa.le (Le.cF (o:=6) rfl tH) ?_;simp[kH];apply aa.here;have O6:(s.ts.set t l0).flatMap cd=A++.au D l0.length::B:=by
  rw[set_eq_take_append_cons_drop,if_pos O5,flatMap_append,flatMap_cons,hA,hB];simp[cd,hD]
 simp[O6]
def iJ (u:Un):Sy:=⟨u.gs,replicate (a6 u.ms).length ⟨0,0⟩,[[⟨u.main,0,replicate (match u.ps[u.main]? with
 | some q=>q.locals
 | none=>0) 0,[]⟩]],0⟩
theorem FK (n:Nat):aS [I 0,I 0] n=(replicate n (⟨0,0⟩:Ho)).flatMap cg:=by
 induction n with
 | zero=>rfl
 | succ n ih=>rw[aS,ih,replicate_succ,flatMap_cons];rfl
theorem fK (n:Nat):trees (replicate n (I 0))=true:=by
 induction n with
 | zero=>rfl
 | succ n ih=>rw[replicate_succ,trees,ih];rfl
theorem MK (u:Un)(hm:ua u.ms)(hg:u.gs.length<=1000000)(q:Pr)(hq:u.ps[u.main]? = some q)(TJ:q.locals<=1000000):af prog 106 [cb u] (bp (iJ u)):=by
 have TK:=sb u.ms hm;have Sf:=gP u.ms 0 hm.2;have Qx:=(List.getElem?_eq_some_iff.1 hq).1;have OS:=aH (f:=mw) (n:=5) jM hq;have OQ:trees [.au (u.ms.flatMap cI) u.ms.length]=true:=by
  have:=dm u.ms;simp only[trees,tree,Bool.and_self]
 have hn:iJ u=⟨u.gs,replicate (a6 u.ms).length ⟨0,0⟩,[[⟨u.main,0,replicate q.locals 0,[]⟩]],0⟩:=by simp only[iJ,hq]
 rw[hn];have O1:tree (bp ⟨u.gs,replicate (a6 u.ms).length ⟨0,0⟩,[[⟨u.main,0,replicate q.locals 0,[]⟩]],0⟩)=true:=by
  simp only[bp,dK,tree,trees,bD,Bool.and_self]
 have SJ:length (a6 u.ms)<=1099511627776:=by
  have:=hm.1;rw[a6];omega
 generalize a6 u.ms=o at TK SJ O1 |-;refine af.aC ag Tryz.func106 rfl GK (by simp[Tryz.ntmps106]) O1 λ C hC OR=>?_;rw[Tryz.ntmps106] at hC;simp only[cb,eD,ints];apply aq;simp[hC];refine T.seq (T.rx ag follows [0,1,2,3,4,5,9,10,11,12,13,14,15,16,17,18,19,20,21,22,6,7,8,23,24] [(0,2),(0,5),(0,10),(0,12),(0,14),(0,17),(0,18),(0,20),(0,22),(2,18),(2,20),(2,22),(3,5),(3,10),(3,12),(3,14),(3,17),(3,18),(3,20),(3,22),(5,18),(5,20),(5,22),(10,18),(10,6),(10,8),(12,6),(12,8),(14,6),(14,8),(17,6),(17,8),(18,6),(18,8),(20,6),(20,8),(22,6),(22,8)] GK ?_);have b1:u.gs.length*8<=140737488355328:=by omega
 have b2:8*(q.locals:Int)<=281474976710656:=by omega
 have b3:(q.locals:Int)<=9223372036854775807:=by omega
 simp (config:={ maxSteps:=2000000 }) [hC,Qx,OS,mw,b1,b2,b3,aS];refine RX.call rfl rfl rfl rfl rfl OQ TK ?_;have b4:16*(o.length:Int)<=281474976710656:=by omega
 have b5:(o.length:Int)<=9223372036854775807:=by omega
 simp[aN,b4,b5];rw[FK];have tT:trees ((replicate o.length (⟨0,0⟩:Ho)).flatMap cg)=true:=ah ba _;have tG:trees (u.gs.map bj)=true:=aB u.gs;have tV:trees (replicate q.locals (I 0))=true:=fK _;have kT:take (o.length*2) ((replicate o.length (⟨0,0⟩:Ho)).flatMap cg)=(replicate o.length (⟨0,0⟩:Ho)).flatMap cg:=take_of_length_le (by rw[aA cm,length_replicate];omega);have kG:take u.gs.length (u.gs.map bj)=u.gs.map bj:=take_of_length_le xr;have kV:take q.locals (replicate q.locals (I 0))=replicate q.locals (I 0):=take_of_length_le xr;apply T.ret;refine aa.le (Le.trim [2] [1,10,24,22,20,27] 28 (by simp[-all_eq_true,-all_flatMap,-all_map,-all_replicate,aj tT,aj tG,aj tV]) yA) ?_;simp;refine aa.le (Le.cF (o:=27) rfl tG) ?_;simp[kG,ai tT,ai tV];refine aa.le (Le.cF (o:=20) rfl tV) ?_;simp[kV,ai tT];refine aa.le (Le.cF (o:=10) rfl tT) ?_;simp[kT];refine aa.le (Le.nz [] [22]) ?_;simp;have tF:trees [I u.main,I 0,.au (replicate q.locals (I 0)) q.locals,.au [] 0]=true:=by simp only[trees,tree,Bool.and_self]
 refine aa.le (Le.cF (o:=22) rfl tF) ?_;simp;have tH:trees [.au [I u.main,I 0,.au (replicate q.locals (I 0)) q.locals,.au [] 0] 1]=true:=by simp only[trees,tree,Bool.and_self]
 refine aa.le (Le.cF (o:=24) rfl tH) ?_;simp;apply aa.here;simp[bp,dK,ints,cd,cZ,aN]
def cR (gs ls:List Int):List Ex->List Int×Nat
 | []=>([],0)
 | e::r=>if (aW gs ls e).2=0 then ((aW gs ls e).1::(cR gs ls r).1,(cR gs ls r).2) else ([],(aW gs ls e).2)
def dc (u:Un)(s:Sy)(t:Int):List Pl->List Nat×Nat
 | []=>([],0)
 | p::r=>if (aZ u s t p).2=0 then ((aZ u s t p).1.toNat::(dc u s t r).1,(dc u s t r).2) else ([],(aZ u s t p).2)
def fw (u:Un)(s:Sy)(t:Int)(f:Fr)(tg n:Nat)(es:List Ex)(ps:List Pl):Fr×Nat:=
 if (cR s.gs f.ay es).2=0 then
  (if (dc u s t ps).2=0 then (⟨tg,0,(cR s.gs f.ay es).1++replicate (n-es.length) 0,(dc u s t ps).1⟩,0)
   else (⟨tg,0,(cR s.gs f.ay es).1,(dc u s t ps).1⟩,(dc u s t ps).2))
 else (⟨tg,0,(cR s.gs f.ay es).1,[]⟩,(cR s.gs f.ay es).2)
def uj (u:Un)(s:Sy)(f:Fr)(ko:Int)(tg:Nat)(es:List Ex)(ps:List Pl):List (Nat×Ob):=
 [(4,⟨77,0,[I f.proc,I f.pc,.au (f.ay.map bj) f.ay.length,.au (f.b9.map λ n:Nat=>I n) f.b9.length]⟩),(3,⟨77,0,[I 0,I 0,.ak,.ak]⟩),
  (2,⟨90,0,[I ko,I tg,.bool false,I 0,I 0,.str eS,.au [] 0,.bool false,I 0,.au [] 0,.au (es.flatMap a8) es.length,.au (ps.flatMap fC) ps.length]⟩),
  (1,⟨40,0,[.au (s.gs.map bj) s.gs.length,.au (s.tb.flatMap cg) s.tb.length,.au (s.ts.flatMap cd) s.ts.length,I s.fault]⟩),
  (0,⟨30,0,[.au (u.gs.map bj) u.gs.length,.au (u.ms.flatMap cI) u.ms.length,.au (u.ps.flatMap mw) u.ps.length,I u.main]⟩)]
def Bo (t:Int):List (Nat×CV):=[(12,.ax 5 0),(10,.ax 4 0),(9,I 0),(8,.ax 3 0),(7,.ax 2 0),(5,.ax 1 0),(4,.ax 0 0),(2,I t)]
def J98 (u:Un)(s:Sy)(t:Int)(f:Fr)(ko:Int)(tg:Nat)(es:List Ex)(ps:List Pl)(n:Nat)(σ:St):Prop:=∃ (i:Nat) (G:List Int),n=es.length-i/\i<=es.length/\G.length=i/\
 cR s.gs f.ay es=(G++(cR s.gs f.ay (es.drop i)).1,(cR s.gs f.ay (es.drop i)).2)/\
 σ=⟨(13,I i)::Bo t,(6,⟨3,1,G.map bj⟩)::(5,⟨77,0,[I tg,I 0,.bg 6 0 i,.ak]⟩)::uj u s f ko tg es ps,7⟩
def J98b (u:Un)(s:Sy)(t:Int)(f:Fr)(ko:Int)(tg:Nat)(es:List Ex)(ps:List Pl)(G:List Int)(n:Nat)(σ:St):Prop:=∃ (k:Nat) (L:List Nat),n=ps.length-k/\k<=ps.length/\L.length=k/\
 dc u s t ps=(L++(dc u s t (ps.drop k)).1,(dc u s t (ps.drop k)).2)/\
 σ=⟨(16,I k)::Bo t,(7,⟨3,1,L.map λ n:Nat=>I n⟩)::(6,⟨3,1,G.map bj⟩)::(5,⟨77,0,[I tg,I 0,.bg 6 0 es.length,.bg 7 0 k]⟩)::uj u s f ko tg es ps,8⟩
def J98c (u:Un)(s:Sy)(f:Fr)(ko:Int)(tg m:Nat)(es:List Ex)(ps:List Pl)(G:List Int)(L:List Nat)(n:Nat)(σ:St):Prop:=∃ j:Nat,n=m-es.length-j/\j<=m-es.length/\
 σ=⟨[(12,.ax 5 0),(9,I 0),(8,.ax 3 0),(7,.ax 2 0),(4,.ax 0 0)],(7,⟨3,1,L.map λ n:Nat=>I n⟩)::(6,⟨3,1,G.map bj++replicate j (I 0)⟩)::(5,⟨77,0,[I tg,I 0,.bg 6 0 (es.length+j),.bg 7 0 ps.length]⟩)::uj u s f ko tg es ps,8⟩
theorem mX (i m:Nat)(h:i≠m)(L:List Nat):∀ (n j:Nat),kB (replicate n i++L) m j=kB L m (j+n)
 | 0,j=>by simp
 | n+1,j=>by
  rw[replicate_succ,cons_append,kB,if_neg h,mX i m h L n (j+1)];congr 1;omega
theorem yi (m:Nat):∀ (ms:List Mx) (i j:Nat) (x:Mx),i<=m->ms[m-i]? = some x->∃ k:Nat,kB (bx ms i) m j=k/\k+max x.size 1<=j+(bx ms i).length
 | [],i,j,x,_,h=>by simp at h
 | y::r,i,j,x,hi,h=>by
  rw[bx];by_cases he:i=m
  .subst he;simp at h;subst h;refine⟨j,?_,by simp⟩;obtain⟨n,hn⟩:∃ n,max y.size 1=n+1:=⟨max y.size 1-1,by omega⟩;rw[hn,replicate_succ,cons_append,kB,if_pos rfl]
  .rw[mX i m he];have h2:r[m-(i+1)]? = some x:=by
    have:m-i=(m-(i+1))+1:=by omega
    rw[this,getElem?_cons_succ] at h;exact h
   obtain⟨k,h3,h4⟩:=yi m r (i+1) (j+max y.size 1) x yA h2;exact⟨k,h3,by simp;omega⟩
theorem gh (u:Un)(s:Sy)(t:Int)(p:Pl)(hm:ua u.ms)(f:Fr)(ht:cN s t=some f)(hv:pN u.ms s.gs.length f.ay.length f.b9.length p):∃ n:Nat,(aZ u s t p).1=n:=by
 unfold aZ;rw[ht];by_cases hp:p.param=true
 .exact⟨f.b9.getD p.index 0,by simp only[if_pos hp]⟩
 simp only[if_neg hp];split
 .rename_i hf;rcases hv with h | ⟨_,m,UL,h⟩
  .exact (hp h.1).elim
  obtain⟨k,hk,Pa⟩:=yi p.index u.ms 0 0 m yA (by simpa using UL);have Sf:=gP u.ms 0 hm.2;have hm1:=hm.1;obtain⟨j,hj,QL⟩:∃ j:Nat,(ej u.ms s.gs f.ay p).1=j/\j<=max m.size 1:=by
   unfold ej at hf |-;rcases h with ⟨h,_⟩ | ⟨e,h,_⟩
   .rw[h];exact⟨0,rfl,by omega⟩
   .rw[h] at hf |-;simp only[UL] at hf |-;split
    .rename_i h1;rw[if_pos h1] at hf;split
     .exact⟨0,rfl,by omega⟩
     .rename_i h2;exact⟨(aW s.gs f.ay e).1.toNat,by simp only;omega,by omega⟩
    .exact⟨0,rfl,by omega⟩
  refine⟨k+j,?_⟩;rw[show tv u.ms p.index=(k:Int) from hk,hj,wr,cw _ yA yA];omega
 .exact⟨0,rfl⟩
theorem pM (u:Un)(s:Sy)(t:Int)(f:Fr)(go:Bool)(tg:Nat)(q:Pr)(es:List Ex)(ps:List Pl)(hm:ua u.ms)(hb:s.ts.length<=1000000/\∀ l∈s.ts,l.length<=1000000)(ht:cN s t=some f)
  (hq:u.ps[tg]? = some q) (he:∀ e∈es,px s.gs.length f.ay.length e) (O7:es.length<=1000) (hp:∀ p∈ps,p.index<=1000000/\pN u.ms s.gs.length f.ay.length f.b9.length p) (Qx:ps.length<=1000) (XW:q.ints=es.length) (Vj:q.locals<=1000000) :
  af prog 113 [cb u,bp s,I t,.agg (df (.call go tg es ps))] (.bY [.agg (cZ (fw u s t f tg q.locals es ps).1),I (fw u s t f tg q.locals es ps).2]):=by
 have Q2:=Ch s t hb;rw[ht] at Q2;have OQ:trees [bp s,I t]=true:=by simp only[trees,tree,bp,dK,ints,Bool.and_self]
 have O1:tree (.bY [.agg (cZ (fw u s t f tg q.locals es ps).1),I (fw u s t f tg q.locals es ps).2])=true:=by
  simp only[tree,trees,bX,Bool.and_self]
 refine af.aC ag Tryz.func113 rfl GK (by simp[Tryz.ntmps113]) O1 λ C hC OR=>?_;rw[Tryz.ntmps113] at hC;simp only[bp,dK,cb,eD,ints] at *;generalize hKo:(if go=true then (3:Int) else 2)=ko;simp only[df,a8,kI,cons_append,nil_append];apply aq;simp[hC];apply aq;simp[hC];refine ct OQ Q2 ?_;simp[hC,uc,cZ];apply aq;simp[hC];apply aT;simp[hC];apply T.block;have VE:trees (es.flatMap a8)=true:=ah aJ es;have VB:trees (ps.flatMap fC)=true:=ah cJ ps;have tG:trees (s.gs.map bj)=true:=aB s.gs;have tT:trees (s.tb.flatMap cg)=true:=ah ba _;have tS:trees (s.ts.flatMap cd)=true:=ah aK _;have tV:trees (f.ay.map bj)=true:=aB f.ay;have tE:=aM f.b9;have Tk:trees (u.gs.map bj)=true:=aB u.gs;have Tj:=dm u.ms;have bY:trees (u.ps.flatMap mw)=true:=ah eX u.ps;refine T.aQ (J98 u s t f ko tg es ps) (n:=es.length) ?_ ?_
 .refine aa.le (Le.lq 5 2 3 1 rfl rfl) ?_;simp;refine aa.trim [13,12,10,9,8,7,5,4,2] [6,5,4,3,2,1,0] 7 (by simp[-all_eq_true,-all_flatMap,-all_map,ints,aN,aE]) yA ⟨0,[],by omega,by omega,rfl,by simp,?_⟩;simp[Bo,uj,ints,aN,hKo]
 .rintro n σ ⟨i,G,rfl,hi,TV,Pv,rfl⟩;simp only[Bo,uj];by_cases OP:i<es.length
  .obtain⟨e,V2⟩:∃ e,es[i]? = some e:=⟨_,getElem?_eq_getElem OP⟩;have QJ:=mL s.gs f.ay e (he e (mem_of_getElem? V2));have Sp:=aH (f:=a8) (n:=4) bA V2;have OS:es.drop i=e::es.drop (i+1):=by rw[drop_eq_getElem_cons OP];simp[(List.getElem?_eq_some_iff.1 V2).2]
   have wi:=cw ((i:Int)+1) yA yA;have b1:(i+1)*8<=140737488355328:=by omega
   have Ph:trees [.agg (a8 e),ints s.gs,ints f.ay]=true:=by simp only[trees,tree,aJ,bD,Bool.and_self]
   simp only[ints] at QJ Ph;rw[OS] at Pv;simp only[cR] at Pv;generalize aW s.gs f.ay e=va at QJ Pv;obtain⟨v,fa⟩:=va;apply aT;simp[hC,OP];refine iI ?_;simp;apply eZ;refine T.seq (T.rx ag follows [0,1,2,3,4,5,6,7,8,9,10,11,12,13,14] [] GK ?_);simp[hC,OP,Sp];refine RX.call rfl rfl rfl rfl rfl Ph QJ ?_;simp;by_cases hf:fa=0
   .subst hf;apply aT;simp[hC];refine eQ ?_;simp;apply aG;simp[hC,b1,TV];apply aG;simp[hC,wi];refine⟨es.length-(i+1),by omega,?_⟩;have Yz:trees (G.map bj++[I v])=true:=by rw[aF,aB];rfl
    have rGv:=λ ρ=>ae ρ _ Yz;have rs1:=λ ρ=>ae ρ _ tV;have rs2:=λ ρ=>ae ρ _ tE;have rs3:=λ ρ=>ae ρ _ VE;have rs4:=λ ρ=>ae ρ _ VB;have rs5:=λ ρ=>ae ρ _ tG;have rs6:=λ ρ=>ae ρ _ tT;have rs7:=λ ρ=>ae ρ _ tS;have rs8:=λ ρ=>ae ρ _ Tk;have rs9:=λ ρ=>ae ρ _ Tj;have WO:=λ ρ=>ae ρ _ bY;refine aa.le (Le.norm [13,12,10,9,8,7,5,4,2] [(23,6),(5,5),(4,4),(3,3),(2,2),(1,1),(0,0)] 0 7 Px Pw (by simp[cO,nu,lF,tree,assoc,-all_eq_true,-all_flatMap,aw Yz]) yA) ?_;simp[cz,bf,aL,cQ,dW,assoc,rGv];refine aa.here ⟨i+1,G++[v],rfl,by omega,by simp[TV],?_,?_⟩
    .rw[Pv];simp
    .simp[Bo,uj]
   .have O9:((fa:Int) != 0)=true:=by rw[bne_iff_ne];omega
    apply aT;simp[hC,O9];refine cX ?_;simp;apply aq;simp[hC];apply T.ret;simp only[if_neg hf,append_nil] at Pv;have U3:fw u s t f tg q.locals es ps=(⟨tg,0,G,[]⟩,fa):=by simp[fw,Pv,hf]
    rw[U3];have Tl:trees (G.map bj)=true:=aB G;have Yt:take i (G.map bj)=G.map bj:=take_of_length_le (by simp[TV]);refine aa.le (Le.trim [9,8] [3,6] 24 (by simp[-all_eq_true,-all_flatMap,-all_map,aj Tl]) yA) ?_;simp;refine aa.le (Le.cF (o:=6) rfl Tl) ?_;simp[Yt];refine aa.le (Le.nz [] [3]) ?_;apply aa.here;simp[ints,aN,TV]
  .have OV:i=es.length:=by omega
   subst OV;rw[drop_length,cR,append_nil] at Pv;apply aT;simp[hC];refine T.cond (b:=false) PC ?_;simp;apply T.exit;simp;apply aT;simp[hC];apply T.block;have Tl:trees (G.map bj)=true:=aB G;refine T.aQ (J98b u s t f ko tg es ps G) (n:=ps.length) ?_ ?_
   .refine aa.le (Le.lq 5 3 3 1 rfl rfl) ?_;simp;refine aa.trim [16,12,10,9,8,7,5,4,2] [7,6,5,4,3,2,1,0] 8 (by simp[-all_eq_true,-all_flatMap,-all_map,aj Tl,aE]) yA ⟨0,[],by omega,by omega,rfl,by simp,?_⟩;simp[Bo,uj]
   .rintro n σ ⟨k,L,rfl,hk,Sx,P0,rfl⟩;simp only[Bo,uj];by_cases Pa:k<ps.length
    .obtain⟨p,Rv⟩:∃ p,ps[k]? = some p:=⟨_,getElem?_eq_getElem Pa⟩;obtain⟨RS,Qb⟩:=hp p (mem_of_getElem? Rv);have QJ:=qa u s t p hm hb RS (λ f' h'=>by rw[ht] at h';cases h';exact Qb);have Sp:=aH (f:=fC) (n:=3) jN Rv;have OS:ps.drop k=p::ps.drop (k+1):=by rw[drop_eq_getElem_cons Pa];simp[(List.getElem?_eq_some_iff.1 Rv).2]
     have wi:=cw ((k:Int)+1) yA yA;have b1:(k+1)*8<=140737488355328:=by omega
     obtain⟨n0,Rc⟩:=gh u s t p hm f ht Qb;have Ph:trees [cb u,bp s,I t,.agg (fC p)]=true:=by
      have:=bt u;simp only[trees,tree,cJ,bp,dK,cb,this,ints,Bool.and_self]
     rw[OS] at P0;simp only[dc] at P0;generalize aZ u s t p=va at QJ P0 Rc;obtain⟨v,fa⟩:=va;simp only at Rc;subst Rc;simp only[cb,eD,bp,dK,ints,fC] at QJ Ph;apply aT;simp[hC,Pa];refine iI ?_;simp;apply eZ;refine T.seq (T.rx ag follows [0,1,2,3,4,5,6,7,8,9,10,11,12,13] [] GK ?_);simp[hC,Pa,Sp,fC];refine RX.call rfl rfl rfl rfl rfl Ph QJ ?_;simp;by_cases hf:fa=0
     .subst hf;apply aT;simp[hC];refine eQ ?_;simp;apply aG;simp[hC,b1,Sx];apply aG;simp[hC,wi];refine⟨ps.length-(k+1),by omega,?_⟩;have tLv:trees ((L.map λ n:Nat=>I n)++[I n0])=true:=by rw[aF,aM];rfl
      have rLv:=λ ρ=>ae ρ _ tLv;have XL:=λ ρ=>ae ρ _ Tl;have rs1:=λ ρ=>ae ρ _ tV;have rs2:=λ ρ=>ae ρ _ tE;have rs3:=λ ρ=>ae ρ _ VE;have rs4:=λ ρ=>ae ρ _ VB;have rs5:=λ ρ=>ae ρ _ tG;have rs6:=λ ρ=>ae ρ _ tT;have rs7:=λ ρ=>ae ρ _ tS;have rs8:=λ ρ=>ae ρ _ Tk;have rs9:=λ ρ=>ae ρ _ Tj;have WO:=λ ρ=>ae ρ _ bY;refine aa.le (Le.norm [16,12,10,9,8,7,5,4,2] [(23,7),(6,6),(5,5),(4,4),(3,3),(2,2),(1,1),(0,0)] 0 8 Px Pw yDt yA) ?_;simp[cz,bf,aL,cQ,dW,assoc,rLv,XL];refine aa.here ⟨k+1,L++[n0],rfl,by omega,by simp[Sx],?_,?_⟩
      .rw[P0];simp
      .simp[Bo,uj]
     .have O9:((fa:Int) != 0)=true:=by rw[bne_iff_ne];omega
      apply aT;simp[hC,O9];refine cX ?_;simp;apply aq;simp[hC];apply T.ret;simp only[if_neg hf,append_nil] at P0;have U3:fw u s t f tg q.locals es ps=(⟨tg,0,G,L⟩,fa):=by simp[fw,Pv,P0,hf]
      rw[U3];have SA:=aM L;have Yt:take es.length (G.map bj)=G.map bj:=take_of_length_le (by simp[TV]);have tkL:take k (L.map λ n:Nat=>I n)=L.map λ n:Nat=>I n:=take_of_length_le (by simp[Sx]);refine aa.le (Le.trim [9,8] [3,6,7] 25 (by simp[-all_eq_true,-all_flatMap,-all_map,aj Tl,aj SA]) yA) ?_;simp;refine aa.le (Le.cF (o:=6) rfl Tl) ?_;simp[Yt,ai SA];refine aa.le (Le.cF (o:=7) rfl SA) ?_;simp[tkL];apply aa.here;simp[ints,aN,TV,Sx]
    .have TO:k=ps.length:=by omega
     subst TO;rw[drop_length,dc,append_nil] at P0;apply aT;simp[hC];refine T.cond (b:=false) PC ?_;simp;apply T.exit;simp;apply eZ;have SA:=aM L;have R4:=(List.getElem?_eq_some_iff.1 hq).1;have OS:=aH (f:=mw) (n:=5) jM hq;refine T.aQ (J98c u s f ko tg q.locals es ps G L) (n:=q.locals-es.length) ?_ ?_
     .refine aa.trim [12,9,8,7,4] [7,6,5,4,3,2,1,0] 8 (by simp[-all_eq_true,-all_flatMap,-all_map,aj SA,aj Tl,aE]) yA ⟨0,by omega,by omega,?_⟩;simp[uj]
     .rintro n σ ⟨j,rfl,hj,rfl⟩;simp only[uj];have tGj:trees (G.map bj++replicate j (I 0))=true:=by rw[aF,Tl,fK];rfl
      by_cases QL:es.length+j<q.locals
      .have b2:(es.length+j+1)*8<=140737488355328:=by omega
       refine T.seq (T.seq (T.rx ag follows [0,1,2,3,4,5,6,7,8,9,10] [] GK ?_));simp[hC,R4,OS,mw];have hlen:(G.map bj++replicate j (I 0)).length=es.length+j:=by simp[TV]
       refine T.cond (b:=true) (by simp[ev,assoc];omega) (T.skip ?_);simp;apply T.block;generalize hX:G.map bj++replicate j (I 0)=X at hlen tGj |-;apply aG;simp[hC,b2,hlen];refine⟨q.locals-es.length-(j+1),by omega,?_⟩;have tX1:trees (X++[I 0])=true:=by rw[aF,tGj];rfl
       have rX1:=λ ρ=>ae ρ _ tX1;have XL:=λ ρ=>ae ρ _ SA;have rs1:=λ ρ=>ae ρ _ tV;have rs2:=λ ρ=>ae ρ _ tE;have rs3:=λ ρ=>ae ρ _ VE;have rs4:=λ ρ=>ae ρ _ VB;have rs5:=λ ρ=>ae ρ _ tG;have rs6:=λ ρ=>ae ρ _ tT;have rs7:=λ ρ=>ae ρ _ tS;have rs8:=λ ρ=>ae ρ _ Tk;have rs9:=λ ρ=>ae ρ _ Tj;have WO:=λ ρ=>ae ρ _ bY;refine aa.le (Le.norm [12,9,8,7,4] [(7,7),(20,6),(5,5),(4,4),(3,3),(2,2),(1,1),(0,0)] 0 8 Px Pw (by simp[cO,nu,lF,tree,assoc,-all_eq_true,-all_flatMap,aw tX1,aw SA]) yA) ?_;simp[cz,bf,aL,cQ,dW,assoc,rX1,XL];refine aa.here ⟨j+1,rfl,by omega,?_⟩;rw[<- hX];simp[uj,replicate_succ',Nat.add_assoc]
      .have Vn:j=q.locals-es.length:=by omega
       subst Vn;have SD:¬ ((es.length:Int)+((q.locals-es.length:Nat):Int)<(q.locals:Int)):=by omega
       refine T.seq (T.seq (T.rx ag follows [0,1,2,3,4,5,6,7,8,9,10] [] GK ?_));simp[hC,R4,OS,mw];refine T.cond (b:=false) (by simp[ev,assoc];omega) ?_;simp;apply T.exit;simp;apply aq;simp[hC];apply T.ret;have U3:fw u s t f tg q.locals es ps=(⟨tg,0,G++replicate (q.locals-es.length) 0,L⟩,0):=by simp[fw,Pv,P0]
       rw[U3];have hlen:(G.map bj++replicate (q.locals-es.length) (I 0)).length=es.length+(q.locals-es.length):=by simp[TV]
       have Yt:take (es.length+(q.locals-es.length)) (G.map bj++replicate (q.locals-es.length) (I 0))=G.map bj++replicate (q.locals-es.length) (I 0):=take_of_length_le yA;have tkL:take ps.length (L.map λ n:Nat=>I n)=L.map λ n:Nat=>I n:=take_of_length_le (by simp[Sx]);refine aa.le (Le.trim [9,8] [3,6,7] 19 (by simp[-all_eq_true,-all_flatMap,-all_map,-all_append,aj tGj,aj SA]) yA) ?_;simp;refine aa.le (Le.cF (o:=6) rfl tGj) ?_;simp[Yt,ai SA];refine aa.le (Le.cF (o:=7) rfl SA) ?_;simp[tkL];apply aa.here;simp[ints,aN,TV,Sx]
end Go.Proofs.YtlkmbdfhdknlgaaGreat
