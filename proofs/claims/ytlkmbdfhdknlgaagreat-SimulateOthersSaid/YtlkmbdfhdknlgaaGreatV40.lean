/- A step at a lock or an unl -/
import Derived.Test.YtlkmbdfhdknlgaaGreatV39
set_option maxHeartbeats 4000000
set_option maxRecDepth 100000
namespace Go.Proofs.YtlkmbdfhdknlgaaGreat
open Go.Can Go.aV List Tryz
def Fw (u:Un)(s:Sy)(t:Nat)(l0:List Fr)(f:Fr)(p:Pl):Sy×Bool:=
 if (aZ u s t p).2=0 then
  (if (er u.ms s.tb (aZ u s t p).1.toNat t).2=true then ({ s with tb:=(er u.ms s.tb (aZ u s t p).1.toNat t).1,ts:=s.ts.set t (l0++[{ f with pc:=f.pc+1 }]) },true) else (s,false))
 else ({ s with fault:=(aZ u s t p).2 },true)
theorem EP (u:Un)(s:Sy)(t:Nat)(l0:List Fr)(f:Fr)(q:Pr)(p:Pl)(hm:ua u.ms)(RS:p.index<=1000000)(Qb:pN u.ms s.gs.length f.ay.length f.b9.length p)(O7:∀ n:Nat,aZ u s t p=((n:Int),0)->n<(a6 u.ms).length)(Wl:s.tb.length=(a6 u.ms).length)(hoL:∀ m∈a6 u.ms,m<u.ms.length)(hd:∀ h∈s.tb,h.d<=1000000)(hl:s.ts[t]? = some (l0++[f]))(PI:s.fault=0)(hq:u.ps[f.proc]? = some q)(hc:q.code[f.pc]? = some (.lock false p))(PB:ur u s)
  (h1:s.gs.length<=1000000) (h2:s.tb.length<=1000000) (h3:s.ts.length<=1000000) (h4:∀ l∈s.ts,l.length<=1000000) (h5:f.ay.length<=1000000) (h6:f.pc<=1000000) :
  af prog 53 [cb u,bp s,I t] (.bY [bp (Fw u s t l0 f p).1,.bool (Fw u s t l0 f p).2]):=by
 have OZ:=dy u s t ⟨h3,h4⟩ PB;have PV:=h4 _ (mem_of_getElem? hl);have PE:l0.length<=1000000:=by simp at PV;omega
 have Pq:cN s t=some f:=by simp[cN,hl,PI]
 have PF:dR u s t=some (.lock false p):=by simp[dR,Pq,hq,hc]
 rw[PF] at OZ;have PN:=gX s t l0 f hl h1 h2 h3 PE h5;have OQ:trees [cb u,bp s,I t]=true:=by
  have:=bt u;simp only[trees,tree,bp,dK,cb,this,ints,Bool.and_self]
 have O1:tree (.bY [bp (Fw u s t l0 f p).1,.bool (Fw u s t l0 f p).2])=true:=by
  simp only[bp,dK,tree,trees,bD,Bool.and_self]
 refine af.aC ag Tryz.func53 rfl GK Vu O1 λ C hC OR=>?_;rw[Tryz.ntmps53] at hC;obtain⟨n,hn⟩:=gh u s t p hm f Pq Qb;have QJ:=qa u s t p hm ⟨h3,h4⟩ RS (λ f' h'=>by rw[Pq] at h';cases h';exact Qb);have Qj:=gW s (aZ u s t p).2;have Qh:trees [bp s,I (aZ u s t p).2]=true:=by simp only[trees,tree,bp,dK,ints,Bool.and_self]
 have Va:trees [cb u,bp s,I t,.agg (fC p)]=true:=by
  have:=bt u;simp only[trees,tree,cJ,bp,dK,cb,this,ints,Bool.and_self]
 obtain⟨p1,p2,p3,p4,gJ,WK⟩:=lp p;simp only[gg,df,a8,gJ,cons_append,nil_append] at OZ;rw[gJ] at QJ Va;simp only[bp,dK,cb,eD,ints] at OZ PN OQ QJ Va Qj Qh |-;apply aq;simp[hC];apply aq;simp[hC];refine ct OQ OZ ?_;simp[hC];apply aT;simp[hC];refine eQ ?_;simp;apply aq;simp[hC];have tG:trees (s.gs.map bj)=true:=aB s.gs;have tT:trees (s.tb.flatMap cg)=true:=ah ba _;have tL:trees (l0.flatMap cZ)=true:=ah bX _;have tV:trees (f.ay.map bj)=true:=aB f.ay;have tE:=aM f.b9;have OW:trees ((s.ts.take t).flatMap cd)=true:=ah aK _;have OY:trees ((s.ts.drop (t+1)).flatMap cd)=true:=ah aK _;have rG:=λ ρ=>ae ρ _ tG;have rT:=λ ρ=>ae ρ _ tT;have rL:=λ ρ=>ae ρ _ tL;have rV:=λ ρ=>ae ρ _ tV;have r1:=λ ρ=>ae ρ _ OW;have r2:=λ ρ=>ae ρ _ OY;have rE:=λ ρ=>ae ρ _ tE;have ra:∀ ρ (a b:List CV),aL ρ (a++b)=aL ρ a++aL ρ b:=λ ρ a b=>by rw[aY,aY,aY,map_append]
 have Vd:aX 0 [.agg [.au (s.gs.map bj) s.gs.length,.au (s.tb.flatMap cg) s.tb.length,.au (s.ts.flatMap cd) s.ts.length,I s.fault],I t]=true:=by
  have tS:trees (s.ts.flatMap cd)=true:=ah aK _;simp only[aE,all_cons,all_nil,Bool.and_true];rw[bq 0 _ Wb];rfl
 refine TL.du ag [] [] 0 6 (PN) rfl PU OU rfl rfl Pd Pd RZ Pd Pd (TL.go' ag ?_);simp[hC,br,bf,aL,cQ,bP,rG,rT,rL,rV,r1,r2,ra,aN];generalize hA:(s.ts.take t).flatMap cd=A at OW r1 |-;generalize hB:(s.ts.drop (t+1)).flatMap cd=B at OY r2 |-;generalize hD:l0.flatMap cZ=D at tL rL |-;have O5:=(List.getElem?_eq_some_iff.1 hl).1;have lA:A.length=t:=by rw[<- hA,ch,length_map,length_take];omega
 have lD:D.length=l0.length*4:=by rw[<- hD];exact aA cL l0
 have dA:∀ r:List CV,(A++r).drop t=r:=λ r=>by rw[<- lA];simp
 have dD:∀ r:List CV,(D++r).drop (l0.length*4)=r:=λ r=>by rw[<- lD];simp
 have PK:∀ (r:List CV) (k:Nat),(D++r).drop (l0.length*4+k)=r.drop k:=λ r k=>by rw[<- lD,drop_append];simp
 have P4:∀ (r:List CV) (k:Nat),(D++r).take (l0.length*4+k)=D++r.take k:=λ r k=>by rw[<- lD,take_append,take_of_length_le yA];simp
 have P6:∀ (r:List CV),(D++r).drop (l0.length*4+1+1)=r.drop 2:=λ r=>PK r 2;have w1:=cw (l0.length:Int) yA yA;have w2:(l0.length:Int)<(l0.length:Int)+1:=by omega
 have w3:=cw ((f.pc:Int)+1) yA yA;refine T.le (Le.trim [10,8,7,6,4,3,2] [10,4,5,6,7,8,3,2,1,0] 11 U9 yA) ?_;simp;apply aq;simp[hC,O5,dA];apply aq;simp[hC,w1,w2];apply aq;simp[hC,w3,lD,PK,P4,P6]
 repeat first
  | apply T.seq
  | (apply aG;simp[hC])
  | (refine T.cond (b:=false) ?_ ?_;(first | rfl | (simp[ev,assoc];done));simp)
  | (refine T.cond (b:=true) ?_ ?_;(first | rfl | (simp[ev,assoc,lD];done));simp)
  | (apply T.skip;simp)
  | apply T.block
 refine ct Va QJ ?_;simp[hC];by_cases hf:(aZ u s t p).2=0
 .have hE:aZ u s t p=((n:Int),0):=Prod.ext hn hf;have Si:=J9 u.ms hm s.tb n t (O7 n hE) Wl hoL yA h2 hd;have WM:trees [.au (u.ms.flatMap cI) u.ms.length,.au (s.tb.flatMap cg) s.tb.length,I n,I t]=true:=by simp only[trees,tree,Bool.and_self]
  have Ul:Fw u s t l0 f p=if (er u.ms s.tb n t).2=true then ({ s with tb:=(er u.ms s.tb n t).1,ts:=s.ts.set t (l0++[{ f with pc:=f.pc+1 }]) },true) else (s,false):=by simp[Fw,hE]
  rw[Ul,hE];generalize er u.ms s.tb n t=y at Si |-;obtain⟨tb',ok⟩:=y;have tK:trees (tb'.flatMap cg)=true:=ah ba _
  repeat first
   | apply T.seq
   | (apply aG;simp[hC])
   | (refine T.cond (b:=false) ?_ ?_;(first | rfl | (simp[ev,assoc];done));simp)
   | (refine T.cond (b:=true) ?_ ?_;(first | rfl | (simp[ev,assoc,lD];done));simp)
   | (apply T.skip;simp)
   | apply T.block
  refine ct WM Si ?_;simp[hC]
  cases ok with
  | true=>
   repeat first
    | apply T.seq
    | (apply aG;simp[hC])
    | (refine T.cond (b:=false) ?_ ?_;(first | rfl | (simp[ev,assoc,lD];done));simp)
    | (refine T.cond (b:=true) ?_ ?_;(first | rfl | (simp[ev,assoc,lD];done));simp)
    | (apply T.skip;simp)
    | apply T.block
   apply T.ret;refine aa.le (Le.trim [7,6] [2,4,6,7,8] 11 yDp yA) ?_;simp;have kG:take s.gs.length (s.gs.map bj)=s.gs.map bj:=take_of_length_le xr;have kV:take f.ay.length (f.ay.map bj)=f.ay.map bj:=take_of_length_le xr;refine aa.le (Le.cF (o:=8) rfl tV) ?_;simp[kV,ai tG,ai tL,ai OW,ai OY];refine aa.le (Le.cF (o:=4) rfl tG) ?_;simp[kG,ai tL,ai OW,ai OY];have tF:trees (D++[I f.proc,I ((f.pc:Int)+1),.au (f.ay.map bj) f.ay.length,.au (f.b9.map λ n:Nat=>I n) f.b9.length])=true:=by
    rw[aF,tL];simp only[trees,tree,Bool.and_self]
   have kF:∀ a b c d:CV,take ((l0.length+1)*4) (D++[a,b,c,d])=D++[a,b,c,d]:=λ a b c d=>take_of_length_le PA;refine aa.le (Le.cF (o:=7) rfl tF) ?_;simp[kF,ai OW,ai OY];have tH:trees (A++.au (D++[I f.proc,I ((f.pc:Int)+1),.au (f.ay.map bj) f.ay.length,.au (f.b9.map λ n:Nat=>I n) f.b9.length]) (l0.length+1)::B)=true:=by
    simp only[aF,OW,trees,OY,tree,Bool.and_self]
   have lB:B.length=s.ts.length-(t+1):=by rw[<- hB,ch,length_map,length_drop]
   have kH:∀ x:CV,take s.ts.length (A++x::B)=A++x::B:=λ x=>take_of_length_le PA;refine aa.le (Le.cF (o:=6) rfl tH) ?_;simp[kH];apply aa.here;have O6:(s.ts.set t (l0++[{ f with pc:=f.pc+1 }])).flatMap cd=A++.au (D++[I f.proc,I ((f.pc:Int)+1),.au (f.ay.map bj) f.ay.length,.au (f.b9.map λ n:Nat=>I n) f.b9.length]) (l0.length+1)::B:=by
    rw[set_eq_take_append_cons_drop,if_pos O5,flatMap_append,flatMap_cons,hA,hB];simp[cd,cZ,hD,ints,aN]
   simp[O6]
  | false=>
   repeat first
    | apply T.seq
    | (apply aG;simp[hC])
    | (refine T.cond (b:=false) ?_ ?_;(first | rfl | (simp[ev,assoc];done));simp)
    | (refine T.cond (b:=true) ?_ ?_;(first | rfl | (simp[ev,assoc,lD];done));simp)
    | (apply T.skip;simp)
    | apply T.block
   apply T.ret;have tS:trees (s.ts.flatMap cd)=true:=ah aK _;refine aa.le (Le.trim [7,6] [2] 11 Qr yA) ?_;simp;apply aa.here;simp
 .have O9:(((aZ u s t p).2:Int) != 0)=true:=by rw[bne_iff_ne];omega
  repeat first
   | apply T.seq
   | (apply aG;simp[hC,O9])
   | (refine T.cond (b:=false) ?_ ?_;(first | rfl | (simp[ev,assoc];done));simp)
   | (refine T.cond (b:=true) ?_ ?_;(first | rfl | (simp[ev,assoc,O9];done));simp)
   | (apply T.skip;simp)
   | apply T.block
  refine ct Qh Qj ?_;simp[hC];apply T.ret;refine aa.le (Le.trim [7,6] [2] 11 Qr yA) ?_;simp;apply aa.here;simp[Fw,hf]
def EE (u:Un)(s:Sy)(t:Nat)(l0:List Fr)(f:Fr)(p:Pl):Sy×Bool:=
 if (aZ u s t p).2=0 then
  (if (da u.ms s.tb (aZ u s t p).1.toNat t).2=true then ({ s with tb:=(da u.ms s.tb (aZ u s t p).1.toNat t).1,ts:=s.ts.set t (l0++[{ f with pc:=f.pc+1 }]) },true) else ({ s with fault:=3 },true))
 else ({ s with fault:=(aZ u s t p).2 },true)
theorem z7 (u:Un)(s:Sy)(t:Nat)(l0:List Fr)(f:Fr)(q:Pr)(p:Pl)(hm:ua u.ms)(RS:p.index<=1000000)(Qb:pN u.ms s.gs.length f.ay.length f.b9.length p)(O7:∀ n:Nat,aZ u s t p=((n:Int),0)->n<(a6 u.ms).length)(Wl:s.tb.length=(a6 u.ms).length)(hd:∀ h∈s.tb,h.d<=1000000/\(h.o≠0->0<h.d))(hl:s.ts[t]? = some (l0++[f]))(PI:s.fault=0)(hq:u.ps[f.proc]? = some q)(hc:q.code[f.pc]? = some (.lock true p))(PB:ur u s)
  (h1:s.gs.length<=1000000) (h2:s.tb.length<=1000000) (h3:s.ts.length<=1000000) (h4:∀ l∈s.ts,l.length<=1000000) (h5:f.ay.length<=1000000) (h6:f.pc<=1000000) :
  af prog 53 [cb u,bp s,I t] (.bY [bp (EE u s t l0 f p).1,.bool (EE u s t l0 f p).2]):=by
 have OZ:=dy u s t ⟨h3,h4⟩ PB;have PV:=h4 _ (mem_of_getElem? hl);have PE:l0.length<=1000000:=by simp at PV;omega
 have Pq:cN s t=some f:=by simp[cN,hl,PI]
 have PF:dR u s t=some (.lock true p):=by simp[dR,Pq,hq,hc]
 rw[PF] at OZ;have PN:=gX s t l0 f hl h1 h2 h3 PE h5;have OQ:trees [cb u,bp s,I t]=true:=by
  have:=bt u;simp only[trees,tree,bp,dK,cb,this,ints,Bool.and_self]
 have O1:tree (.bY [bp (EE u s t l0 f p).1,.bool (EE u s t l0 f p).2])=true:=by
  simp only[bp,dK,tree,trees,bD,Bool.and_self]
 refine af.aC ag Tryz.func53 rfl GK Vu O1 λ C hC OR=>?_;rw[Tryz.ntmps53] at hC;obtain⟨n,hn⟩:=gh u s t p hm f Pq Qb;have QJ:=qa u s t p hm ⟨h3,h4⟩ RS (λ f' h'=>by rw[Pq] at h';cases h';exact Qb);have RV:=gW s 3;have tf3:trees [bp s,I (3:Nat)]=true:=by simp only[trees,tree,bp,dK,ints,Bool.and_self]
 have Qj:=gW s (aZ u s t p).2;have Qh:trees [bp s,I (aZ u s t p).2]=true:=by simp only[trees,tree,bp,dK,ints,Bool.and_self]
 have Va:trees [cb u,bp s,I t,.agg (fC p)]=true:=by
  have:=bt u;simp only[trees,tree,cJ,bp,dK,cb,this,ints,Bool.and_self]
 obtain⟨p1,p2,p3,p4,gJ,WK⟩:=lp p;simp only[gg,df,a8,gJ,cons_append,nil_append] at OZ;rw[gJ] at QJ Va;simp only[bp,dK,cb,eD,ints] at OZ PN OQ QJ Va Qj Qh RV tf3 |-;apply aq;simp[hC];apply aq;simp[hC];refine ct OQ OZ ?_;simp[hC];apply aT;simp[hC];refine eQ ?_;simp;apply aq;simp[hC];have tG:trees (s.gs.map bj)=true:=aB s.gs;have tT:trees (s.tb.flatMap cg)=true:=ah ba _;have tL:trees (l0.flatMap cZ)=true:=ah bX _;have tV:trees (f.ay.map bj)=true:=aB f.ay;have tE:=aM f.b9;have OW:trees ((s.ts.take t).flatMap cd)=true:=ah aK _;have OY:trees ((s.ts.drop (t+1)).flatMap cd)=true:=ah aK _;have rG:=λ ρ=>ae ρ _ tG;have rT:=λ ρ=>ae ρ _ tT;have rL:=λ ρ=>ae ρ _ tL;have rV:=λ ρ=>ae ρ _ tV;have r1:=λ ρ=>ae ρ _ OW;have r2:=λ ρ=>ae ρ _ OY;have rE:=λ ρ=>ae ρ _ tE;have ra:∀ ρ (a b:List CV),aL ρ (a++b)=aL ρ a++aL ρ b:=λ ρ a b=>by rw[aY,aY,aY,map_append]
 have Vd:aX 0 [.agg [.au (s.gs.map bj) s.gs.length,.au (s.tb.flatMap cg) s.tb.length,.au (s.ts.flatMap cd) s.ts.length,I s.fault],I t]=true:=by
  have tS:trees (s.ts.flatMap cd)=true:=ah aK _;simp only[aE,all_cons,all_nil,Bool.and_true];rw[bq 0 _ Wb];rfl
 refine TL.du ag [] [] 0 6 (PN) rfl PU OU rfl rfl Pd Pd RZ Pd Pd (TL.go' ag ?_);simp[hC,br,bf,aL,cQ,bP,rG,rT,rL,rV,r1,r2,ra,aN];generalize hA:(s.ts.take t).flatMap cd=A at OW r1 |-;generalize hB:(s.ts.drop (t+1)).flatMap cd=B at OY r2 |-;generalize hD:l0.flatMap cZ=D at tL rL |-;have O5:=(List.getElem?_eq_some_iff.1 hl).1;have lA:A.length=t:=by rw[<- hA,ch,length_map,length_take];omega
 have lD:D.length=l0.length*4:=by rw[<- hD];exact aA cL l0
 have dA:∀ r:List CV,(A++r).drop t=r:=λ r=>by rw[<- lA];simp
 have dD:∀ r:List CV,(D++r).drop (l0.length*4)=r:=λ r=>by rw[<- lD];simp
 have PK:∀ (r:List CV) (k:Nat),(D++r).drop (l0.length*4+k)=r.drop k:=λ r k=>by rw[<- lD,drop_append];simp
 have P4:∀ (r:List CV) (k:Nat),(D++r).take (l0.length*4+k)=D++r.take k:=λ r k=>by rw[<- lD,take_append,take_of_length_le yA];simp
 have P6:∀ (r:List CV),(D++r).drop (l0.length*4+1+1)=r.drop 2:=λ r=>PK r 2;have w1:=cw (l0.length:Int) yA yA;have w2:(l0.length:Int)<(l0.length:Int)+1:=by omega
 have w3:=cw ((f.pc:Int)+1) yA yA;refine T.le (Le.trim [10,8,7,6,4,3,2] [10,4,5,6,7,8,3,2,1,0] 11 U9 yA) ?_;simp;apply aq;simp[hC,O5,dA];apply aq;simp[hC,w1,w2];apply aq;simp[hC,w3,lD,PK,P4,P6]
 repeat first
  | apply T.seq
  | (apply aG;simp[hC])
  | (refine T.cond (b:=false) ?_ ?_;(first | rfl | (simp[ev,assoc];done));simp)
  | (refine T.cond (b:=true) ?_ ?_;(first | rfl | (simp[ev,assoc,lD];done));simp)
  | (apply T.skip;simp)
  | apply T.block
 refine ct Va QJ ?_;simp[hC];by_cases hf:(aZ u s t p).2=0
 .have hE:aZ u s t p=((n:Int),0):=Prod.ext hn hf;have Si:=EC u.ms hm s.tb n t (O7 n hE) Wl yA h2 hd;have WM:trees [.au (u.ms.flatMap cI) u.ms.length,.au (s.tb.flatMap cg) s.tb.length,I n,I t]=true:=by simp only[trees,tree,Bool.and_self]
  have Ul:EE u s t l0 f p=if (da u.ms s.tb n t).2=true then ({ s with tb:=(da u.ms s.tb n t).1,ts:=s.ts.set t (l0++[{ f with pc:=f.pc+1 }]) },true) else ({ s with fault:=3 },true):=by simp[EE,hE]
  rw[Ul,hE];generalize da u.ms s.tb n t=y at Si |-;obtain⟨tb',ok⟩:=y;have tK:trees (tb'.flatMap cg)=true:=ah ba _
  repeat first
   | apply T.seq
   | (apply aG;simp[hC])
   | (refine T.cond (b:=false) ?_ ?_;(first | rfl | (simp[ev,assoc,lD];done));simp)
   | (refine T.cond (b:=true) ?_ ?_;(first | rfl | (simp[ev,assoc,lD];done));simp)
   | (apply T.skip;simp)
   | apply T.block
  refine ct WM Si ?_;simp[hC]
  cases ok with
  | true=>
   repeat first
    | apply T.seq
    | (apply aG;simp[hC])
    | (refine T.cond (b:=false) ?_ ?_;(first | rfl | (simp[ev,assoc,lD];done));simp)
    | (refine T.cond (b:=true) ?_ ?_;(first | rfl | (simp[ev,assoc,lD];done));simp)
    | (apply T.skip;simp)
    | apply T.block
   apply T.ret;refine aa.le (Le.trim [7,6] [2,4,6,7,8] 11 yDp yA) ?_;simp;have kG:take s.gs.length (s.gs.map bj)=s.gs.map bj:=take_of_length_le xr;have kV:take f.ay.length (f.ay.map bj)=f.ay.map bj:=take_of_length_le xr;refine aa.le (Le.cF (o:=8) rfl tV) ?_;simp[kV,ai tG,ai tL,ai OW,ai OY];refine aa.le (Le.cF (o:=4) rfl tG) ?_;simp[kG,ai tL,ai OW,ai OY];have tF:trees (D++[I f.proc,I ((f.pc:Int)+1),.au (f.ay.map bj) f.ay.length,.au (f.b9.map λ n:Nat=>I n) f.b9.length])=true:=by
    rw[aF,tL];simp only[trees,tree,Bool.and_self]
   have kF:∀ a b c d:CV,take ((l0.length+1)*4) (D++[a,b,c,d])=D++[a,b,c,d]:=λ a b c d=>take_of_length_le PA;refine aa.le (Le.cF (o:=7) rfl tF) ?_;simp[kF,ai OW,ai OY];have tH:trees (A++.au (D++[I f.proc,I ((f.pc:Int)+1),.au (f.ay.map bj) f.ay.length,.au (f.b9.map λ n:Nat=>I n) f.b9.length]) (l0.length+1)::B)=true:=by
    simp only[aF,OW,trees,OY,tree,Bool.and_self]
   have lB:B.length=s.ts.length-(t+1):=by rw[<- hB,ch,length_map,length_drop]
   have kH:∀ x:CV,take s.ts.length (A++x::B)=A++x::B:=λ x=>take_of_length_le PA;refine aa.le (Le.cF (o:=6) rfl tH) ?_;simp[kH];apply aa.here;have O6:(s.ts.set t (l0++[{ f with pc:=f.pc+1 }])).flatMap cd=A++.au (D++[I f.proc,I ((f.pc:Int)+1),.au (f.ay.map bj) f.ay.length,.au (f.b9.map λ n:Nat=>I n) f.b9.length]) (l0.length+1)::B:=by
    rw[set_eq_take_append_cons_drop,if_pos O5,flatMap_append,flatMap_cons,hA,hB];simp[cd,cZ,hD,ints,aN]
   simp[O6]
  | false=>
   repeat first
    | apply T.seq
    | (apply aG;simp[hC])
    | (refine T.cond (b:=false) ?_ ?_;(first | rfl | (simp[ev,assoc];done));simp)
    | (refine T.cond (b:=true) ?_ ?_;(first | rfl | (simp[ev,assoc,lD];done));simp)
    | (apply T.skip;simp)
    | apply T.block
   refine ct tf3 RV ?_;simp[hC];apply T.ret;refine aa.le (Le.trim [7,6] [2] 11 Qr yA) ?_;simp;apply aa.here;simp
 .have O9:(((aZ u s t p).2:Int) != 0)=true:=by rw[bne_iff_ne];omega
  repeat first
   | apply T.seq
   | (apply aG;simp[hC,O9])
   | (refine T.cond (b:=false) ?_ ?_;(first | rfl | (simp[ev,assoc];done));simp)
   | (refine T.cond (b:=true) ?_ ?_;(first | rfl | (simp[ev,assoc,O9];done));simp)
   | (apply T.skip;simp)
   | apply T.block
  refine ct Qh Qj ?_;simp[hC];apply T.ret;refine aa.le (Le.trim [7,6] [2] 11 Qr yA) ?_;simp;apply aa.here;simp[EE,hf]
def Jc (u:Un)(s:Sy)(t:Nat)(l0:List Fr)(f:Fr)(tg n:Nat)(es:List Ex)(ps:List Pl):Sy:=
 if (fw u s t f tg n es ps).2=0 then { s with ts:=s.ts.set t (l0++[{ f with pc:=f.pc+1 },(fw u s t f tg n es ps).1]) } else { s with fault:=(fw u s t f tg n es ps).2 }
theorem ES (u:Un)(s:Sy)(t:Nat)(l0:List Fr)(f:Fr)(q:Pr)(tg:Nat)(es:List Ex)(ps:List Pl)(qq:Pr)(hm:ua u.ms)(Ru:u.ps[tg]? = some qq)(he:∀ e∈es,px s.gs.length f.ay.length e)(O7:es.length<=1000)(hp:∀ p∈ps,p.index<=1000000/\pN u.ms s.gs.length f.ay.length f.b9.length p)(Qx:ps.length<=1000)(XW:qq.ints=es.length)(Vj:qq.locals<=1000000)(hl:s.ts[t]? = some (l0++[f]))(PI:s.fault=0)(hq:u.ps[f.proc]? = some q)(hc:q.code[f.pc]? = some (.call false tg es ps))(PB:ur u s)
  (h1:s.gs.length<=1000000) (h2:s.tb.length<=1000000) (h3:s.ts.length<=1000000) (h4:∀ l∈s.ts,l.length<=1000000) (h5:f.ay.length<=1000000) (h6:f.pc<=1000000) :
  af prog 53 [cb u,bp s,I t] (.bY [bp (Jc u s t l0 f tg qq.locals es ps),.bool true]):=by
 have OZ:=dy u s t ⟨h3,h4⟩ PB;have PV:=h4 _ (mem_of_getElem? hl);have PE:l0.length<=1000000:=by simp at PV;omega
 have Pq:cN s t=some f:=by simp[cN,hl,PI]
 have PF:dR u s t=some (.call false tg es ps):=by simp[dR,Pq,hq,hc]
 rw[PF] at OZ;have PN:=gX s t l0 f hl h1 h2 h3 PE h5;have OQ:trees [cb u,bp s,I t]=true:=by
  have:=bt u;simp only[trees,tree,bp,dK,cb,this,ints,Bool.and_self]
 have O1:tree (.bY [bp (Jc u s t l0 f tg qq.locals es ps),.bool true])=true:=by
  simp only[bp,dK,tree,trees,bD,Bool.and_self]
 refine af.aC ag Tryz.func53 rfl GK Vu O1 λ C hC OR=>?_;rw[Tryz.ntmps53] at hC;have U4:=pM u s t f false tg qq es ps hm ⟨h3,h4⟩ Pq Ru he O7 hp Qx XW Vj;have Pc:Jc u s t l0 f tg qq.locals es ps=if (fw u s t f tg qq.locals es ps).2=0 then { s with ts:=s.ts.set t (l0++[{ f with pc:=f.pc+1 },(fw u s t f tg qq.locals es ps).1]) } else { s with fault:=(fw u s t f tg qq.locals es ps).2 }:=rfl
 rw[Pc];have Qj:=gW s (fw u s t f tg qq.locals es ps).2;have Qh:trees [bp s,I (fw u s t f tg qq.locals es ps).2]=true:=by simp only[trees,tree,bp,dK,ints,Bool.and_self]
 have Yx:trees [cb u,bp s,I t,.agg (df (.call false tg es ps))]=true:=by
  have:=bt u;simp only[trees,tree,eE,bp,dK,cb,this,ints,Bool.and_self]
 generalize fw u s t f tg qq.locals es ps=y at U4 Qj Qh |-;obtain⟨z,fa⟩:=y;simp only[bp,dK,cb,eD,ints,gg,df,a8,kI,cons_append,nil_append,cZ] at OZ PN OQ U4 Yx Qj Qh |-;apply aq;simp[hC];apply aq;simp[hC];refine ct OQ OZ ?_;simp[hC];apply aT;simp[hC];refine eQ ?_;simp;apply aq;simp[hC];have tG:trees (s.gs.map bj)=true:=aB s.gs;have tT:trees (s.tb.flatMap cg)=true:=ah ba _;have tL:trees (l0.flatMap cZ)=true:=ah bX _;have tV:trees (f.ay.map bj)=true:=aB f.ay;have tE:=aM f.b9;have OW:trees ((s.ts.take t).flatMap cd)=true:=ah aK _;have OY:trees ((s.ts.drop (t+1)).flatMap cd)=true:=ah aK _;have rG:=λ ρ=>ae ρ _ tG;have rT:=λ ρ=>ae ρ _ tT;have rL:=λ ρ=>ae ρ _ tL;have rV:=λ ρ=>ae ρ _ tV;have r1:=λ ρ=>ae ρ _ OW;have r2:=λ ρ=>ae ρ _ OY;have rE:=λ ρ=>ae ρ _ tE;have ra:∀ ρ (a b:List CV),aL ρ (a++b)=aL ρ a++aL ρ b:=λ ρ a b=>by rw[aY,aY,aY,map_append]
 have Vd:aX 0 [.agg [.au (s.gs.map bj) s.gs.length,.au (s.tb.flatMap cg) s.tb.length,.au (s.ts.flatMap cd) s.ts.length,I s.fault],I t]=true:=by
  have tS:trees (s.ts.flatMap cd)=true:=ah aK _;simp only[aE,all_cons,all_nil,Bool.and_true];rw[bq 0 _ Wb];rfl
 refine TL.du ag [] [] 0 6 (PN) rfl PU OU rfl rfl Pd Pd RZ Pd Pd (TL.go' ag ?_);simp[hC,br,bf,aL,cQ,bP,rG,rT,rL,rV,r1,r2,ra,aN];generalize hA:(s.ts.take t).flatMap cd=A at OW r1 |-;generalize hB:(s.ts.drop (t+1)).flatMap cd=B at OY r2 |-;generalize hD:l0.flatMap cZ=D at tL rL |-;have O5:=(List.getElem?_eq_some_iff.1 hl).1;have lA:A.length=t:=by rw[<- hA,ch,length_map,length_take];omega
 have lD:D.length=l0.length*4:=by rw[<- hD];exact aA cL l0
 have dA:∀ r:List CV,(A++r).drop t=r:=λ r=>by rw[<- lA];simp
 have dD:∀ r:List CV,(D++r).drop (l0.length*4)=r:=λ r=>by rw[<- lD];simp
 have PK:∀ (r:List CV) (k:Nat),(D++r).drop (l0.length*4+k)=r.drop k:=λ r k=>by rw[<- lD,drop_append];simp
 have P4:∀ (r:List CV) (k:Nat),(D++r).take (l0.length*4+k)=D++r.take k:=λ r k=>by rw[<- lD,take_append,take_of_length_le yA];simp
 have P6:∀ (r:List CV),(D++r).drop (l0.length*4+1+1)=r.drop 2:=λ r=>PK r 2;have w1:=cw (l0.length:Int) yA yA;have w2:(l0.length:Int)<(l0.length:Int)+1:=by omega
 have w3:=cw ((f.pc:Int)+1) yA yA;refine T.le (Le.trim [10,8,7,6,4,3,2] [10,4,5,6,7,8,3,2,1,0] 11 U9 yA) ?_;simp;apply aq;simp[hC,O5,dA];apply aq;simp[hC,w1,w2];apply aq;simp[hC,w3,lD,PK,P4,P6]
 repeat first
  | apply T.seq
  | (apply aG;simp[hC])
  | (refine T.cond (b:=false) ?_ ?_;(first | rfl | (simp[ev,assoc];done));simp)
  | (refine T.cond (b:=true) ?_ ?_;(first | rfl | (simp[ev,assoc,lD];done));simp)
  | (apply T.skip;simp)
  | apply T.block
 refine ct Yx U4 ?_;simp[hC];by_cases hf:fa=0
 .subst hf;have b2:l0.length*4+4=(l0.length+1)*4:=by omega
  have b1:(l0.length+1+1)*64<=140737488355328:=by omega
  have WE:∀ (x:CV) (r:List CV),(A++x::r).drop (t+1)=r:=λ x r=>by rw[<- lA,drop_append];simp
  repeat first
   | apply T.seq
   | (apply aG;simp[hC])
   | (refine T.cond (b:=false) ?_ ?_;(first | rfl | (simp[ev,assoc];done));simp)
   | (refine T.cond (b:=true) ?_ ?_;(first | rfl | (simp[ev,assoc,lD];done));simp)
   | (apply T.skip;simp)
   | apply T.block
  refine T.rx ag follows [0,1,2,3,4,5,6,7,8,9] [(1,5),(1,6)] GK ?_;simp[hC,lD,lA,WE,O5,b1,b2,aS];have tZv:trees (z.ay.map bj)=true:=aB z.ay;have tZe:=aM z.b9
  repeat first
   | apply T.seq
   | (apply aG;simp[hC])
   | (refine T.cond (b:=false) ?_ ?_;(first | rfl | (simp[ev,assoc,lD];done));simp)
   | (refine T.cond (b:=true) ?_ ?_;(first | rfl | (simp[ev,assoc,lD];done));simp)
   | (apply T.skip;simp)
   | apply T.block
  apply T.ret;refine aa.le (Le.trim [7,6] [2,4,5,6,22,8] 23 yDm yA) ?_;simp;have kG:take s.gs.length (s.gs.map bj)=s.gs.map bj:=take_of_length_le xr;have kT:take (s.tb.length*2) (s.tb.flatMap cg)=s.tb.flatMap cg:=take_of_length_le Vy;have kV:take f.ay.length (f.ay.map bj)=f.ay.map bj:=take_of_length_le xr;refine aa.le (Le.cF (o:=8) rfl tV) ?_;simp[kV,ai tG,ai tT,ai tL,aN,ai OW,ai OY];refine aa.le (Le.cF (o:=4) rfl tG) ?_;simp[kG,ai tT,ai tL,ai OW,ai OY];refine aa.le (Le.cF (o:=5) rfl tT) ?_;simp[kT,ai tL,ai OW,ai OY];have tF:trees (D++[I f.proc,I ((f.pc:Int)+1),.au (f.ay.map bj) f.ay.length,.au (f.b9.map λ n:Nat=>I n) f.b9.length,I z.proc,I z.pc,.au (z.ay.map bj) z.ay.length,.au (z.b9.map λ n:Nat=>I n) z.b9.length])=true:=by
   rw[aF,tL];simp only[trees,tree,Bool.and_self]
  have kF:∀ a b c d a' b' c' d':CV,take ((l0.length+1+1)*4) (D++[a,b,c,d,a',b',c',d'])=D++[a,b,c,d,a',b',c',d']:=λ a b c d a' b' c' d'=>take_of_length_le PA;refine aa.le (Le.cF (o:=22) rfl tF) ?_;simp[kF,ai OW,ai OY];have tH:trees (A++.au (D++[I f.proc,I ((f.pc:Int)+1),.au (f.ay.map bj) f.ay.length,.au (f.b9.map λ n:Nat=>I n) f.b9.length,I z.proc,I z.pc,.au (z.ay.map bj) z.ay.length,.au (z.b9.map λ n:Nat=>I n) z.b9.length]) (l0.length+1+1)::B)=true:=by
   simp only[aF,OW,trees,OY,tree,Bool.and_self]
  have lB:B.length=s.ts.length-(t+1):=by rw[<- hB,ch,length_map,length_drop]
  have kH:∀ x:CV,take s.ts.length (A++x::B)=A++x::B:=λ x=>take_of_length_le PA;refine aa.le (Le.cF (o:=6) rfl tH) ?_;simp[kH];apply aa.here;have O6:(s.ts.set t (l0++[{ f with pc:=f.pc+1 },z])).flatMap cd=A++.au (D++[I f.proc,I ((f.pc:Int)+1),.au (f.ay.map bj) f.ay.length,.au (f.b9.map λ n:Nat=>I n) f.b9.length,I z.proc,I z.pc,.au (z.ay.map bj) z.ay.length,.au (z.b9.map λ n:Nat=>I n) z.b9.length]) (l0.length+1+1)::B:=by
   rw[set_eq_take_append_cons_drop,if_pos O5,flatMap_append,flatMap_cons,hA,hB];simp[cd,cZ,hD,ints,aN]
  simp[O6]
 .have SF:((fa:Int) == 0)=false:=by rw[beq_eq_false_iff_ne];omega
  have O9:((fa:Int) != 0)=true:=by rw[bne_iff_ne];omega
  repeat first
   | apply T.seq
   | (apply aG;simp[hC,SF,O9])
   | (refine T.cond (b:=false) ?_ ?_;(first | rfl | (simp[ev,assoc];done));simp)
   | (refine T.cond (b:=true) ?_ ?_;(first | rfl | (simp[ev,assoc,SF,O9];done));simp)
   | (apply T.skip;simp)
   | apply T.block
  refine ct Qh Qj ?_;simp[hC];apply T.ret;refine aa.le (Le.trim [7,6] [2] 12 Qr yA) ?_;simp;apply aa.here;simp[hf]
end Go.Proofs.YtlkmbdfhdknlgaaGreat
