/- The program's step at a ca -/
import Derived.Test.YtlkmbdfhdknlgaaGreatZ48
namespace Go.Proofs.YtlkmbdfhdknlgaaGreat
open Go.Can Go.aJ List Tryz
theorem uy (u:Un)(s:Sy)(t:Int):∀ ps:List Pl,(dp u s t ps).1.length<=ps.length
 | []=>by simp[dp]
 | p::r=>by
  have:=uy u s t r;rw[dp];split
  ·simpa using this
  ·simp
def RK (u:Un)(s:Sy)(t:Nat)(l0:List Fr)(f:Fr)(go:Bool)(tg n:Nat)(es:List Ex)(ps:List Pl):Sy:=if go=true then Oq u s t l0 f tg n es ps else OF u s t l0 f tg n es ps
set_option maxHeartbeats 4000000 in
set_option maxRecDepth 100000 in
theorem JH (u:Un)(s:Sy)(t:Nat)(l0:List Fr)(f:Fr)(go:Bool)(tg:Nat)(es:List Ex)(ps:List Pl)(qq:Pr)(hm:Fo u.ms)(VL:u.ps[tg]? = some qq)(he:∀ e∈es,vf s.gs.length f.aV.length e)(R7:es.length<=1000)(hp:∀ p∈ps,p.index<=1000000/\vW u.ms s.gs.length f.aV.length f.eA.length p)(SR:ps.length<=1000)(hq1:es.length<=qq.locals)(hq2:qq.locals<=1000000)
  (hl:s.ts[t]? = some (l0++[f])) (SL:s.fault=0) (hs:GY s) (hr:Fm s) (h6:f.pc<=1000000) (Xi:go=false) :
  ae prog 42 [cg u,cT s,I t,.agg (cW (.call go tg es ps))] (.cB [cT (RK u s t l0 f go tg qq.locals es ps),.bool true]):=by
 have Ut:eW s t=some f:=by simp[eW,hl,SL]
 have UR:=mem_of_getElem? hl;have Tg:=(hs.f _ UR).1;have T8:l0.length<=1000000:=by simp at Tg;omega
 have TN:=qN s t l0 f hl hs;have X6:=FV u s t f go tg es ps hm hs hr Ut he R7 hp SR;have S7:=cD s;have R6:=bj u;have tar:trees [cg u,cT s,I t,.agg (cW (.call go tg es ps))]=true:=by simp only[trees,tree,fK,S7,cg,R6,Bool.and_self]
 have Sa:tree (.cB [cT (RK u s t l0 f go tg qq.locals es ps),.bool true])=true:=by simp only[tree,trees,cD,Bool.and_self]
 have Y2:=nB s.gs f.aV es;have Xl:=uy u s t ps;have V7:∀ fa:Nat,ae prog 91 [cT s,I fa] (.cB [cT ⟨s.gs,s.tb,s.ts,fa⟩,.bool true]):=jg s hs;have V2:∀ fa:Nat,trees [cT s,I fa]=true:=λ fa=>by simp only[trees,tree,S7,Bool.and_self]
 refine ae.aE ah Tryz.func42 rfl Ix (by simp[Tryz.ntmps42]) Sa λ C hC RR=>?_;rw[Tryz.ntmps42] at hC;clear Sa;have hac:mV u s t f tg qq.locals es ps=if (db s.gs f.aV es).2=0 then
  (if (dp u s t ps).2=0 then (⟨tg,0,(db s.gs f.aV es).1++replicate (qq.locals-es.length) 0,(dp u s t ps).1⟩,0)
   else (⟨tg,0,(db s.gs f.aV es).1,(dp u s t ps).1⟩,(dp u s t ps).2))
  else (⟨tg,0,(db s.gs f.aV es).1,[]⟩,(db s.gs f.aV es).2):=rfl
 simp only[RK,Oq,OF];rw[hac];generalize db s.gs f.aV es=va at X6 Y2 |-;obtain⟨V,f1⟩:=va;generalize dp u s t ps=vb at X6 Xl |-;obtain⟨L,f2⟩:=vb;have tG:trees (s.gs.map dc)=true:=aO s.gs;have tT:trees (s.tb.flatMap dL)=true:=ak cj _;have tL:trees (l0.flatMap dY)=true:=ak cZ _;have tV:trees (f.aV.map dc)=true:=aO f.aV;have tE:=aK f.eA;have Sq:trees ((s.ts.take t).flatMap en)=true:=ak bX _;have SB:trees ((s.ts.drop (t+1)).flatMap en)=true:=ak bX _;have rG:=λ ρ=>af ρ _ tG;have rT:=λ ρ=>af ρ _ tT;have rL:=λ ρ=>af ρ _ tL;have rV:=λ ρ=>af ρ _ tV;have r1:=λ ρ=>af ρ _ Sq;have r2:=λ ρ=>af ρ _ SB;have rE:=λ ρ=>af ρ _ tE;have ra:∀ ρ (a b:List CV),aX ρ (a++b)=aX ρ a++aX ρ b:=λ ρ a b=>by rw[cc,cc,cc,map_append]
 have tes:trees (es.flatMap bf)=true:=ak aL es;have tps:trees (ps.flatMap gW)=true:=ak cY ps;have Yb:trees (u.gs.map dc)=true:=aO u.gs;have Ya:=dG u.ms;have cB:trees (u.ps.flatMap mW)=true:=ak gy u.ps;have re:=λ ρ=>af ρ _ tes;have rp2:=λ ρ=>af ρ _ tps;have rg:=λ ρ=>af ρ _ Yb;have rm:=λ ρ=>af ρ _ Ya;have rp:=λ ρ=>af ρ _ cB;have ZM:=aK L;have rLL:=λ ρ=>af ρ _ ZM;have tVV:trees (V.map dc)=true:=aO V;have rVV:=λ ρ=>af ρ _ tVV;simp only[cT,kX,cg,cR,cW,bf,nZ,cons_append,nil_append,LO,DB,ints,aB] at X6 tar TN V7 V2 |-;apply aq;simp[hC];apply aq;simp[hC];refine cX tar X6 ?_;by_cases h1:f1=0
 ·by_cases h2:f2=0
  ·subst h1 h2;have Y2:V.length=es.length:=Y2 rfl;have Xl:L.length<=ps.length:=Xl;simp[hC];have TE:=uf u tg qq VL hq2 V yA L yA (ints V) (aB L) (.inl rfl) (.inl rfl);rw[show (V++replicate (qq.locals-V.length) 0)=V++replicate (qq.locals-es.length) 0 by rw[Y2]] at TE;have tfr:trees [cg u,I tg,ints V,aB L]=true:=by simp only[trees,tree,da,aM,cg,bj u,Bool.and_self]
   simp only[cg,cR,ints,aB,dY] at TE tfr
   cases go with
   | false=>
    repeat first
     | apply T.seq
     | (apply aN;simp[hC])
     | (refine a9 ?_;simp)
     | (refine dy ?_;simp)
     | (apply T.skip;simp)
     | apply T.block
    refine TL.eQ ah [] [] 0 6 (TN) rfl SQ RT rfl rfl SF SF W9 SF SF (TL.go' ah ?_);simp[hC,bC,bh,aX,cN,bS,rG,rT,rL,rV,r1,r2,ra];refine T.le (Le.norm [13,11,10,9,8,7,4,2] [(4,0),(5,1),(6,2),(7,3),(8,4),(10,5),(3,6),(2,7),(0,8)] 0 9 Sn Sl WR yA) ?_;simp[cm,bh,aX,cN,dZ,assoc,rG,rT,rL,rV,r1,r2,ra];generalize hA:(s.ts.take t).flatMap en=A at Sq r1 |-;generalize hB:(s.ts.drop (t+1)).flatMap en=B at SB r2 |-;generalize hD:l0.flatMap dY=D at tL rL |-;have Si:=(List.getElem?_eq_some_iff.1 hl).1;have lA:A.length=t:=by rw[<- hA,fS,length_map,length_take];omega
    have lB:B.length=s.ts.length-(t+1):=by rw[<- hB,fS,length_map,length_drop]
    have lD:D.length=l0.length*4:=by rw[<- hD];exact aC ef l0
    have V4:=kA s.gs.length s.tb.length s.ts.length t l0.length f.proc f.pc f.aV.length f.eA.length A B D _ _ Sq SB tL tE tV _ (.inl rfl) lA lD Si hs.t T8;rw[SL];apply aq;simp[hC];have a1:A.all (aU 5)=true:=by rw[<- aT];exact bD 5 _ Sq
    have a2:B.all (aU 5)=true:=by rw[<- aT];exact bD 5 _ SB
    have a3:D.all (aU 5)=true:=by rw[<- aT];exact bD 5 _ tL
    have dD:∀ r:List CV,(D++r).drop (l0.length*4)=r:=λ r=>by rw[<- lD];simp
    have Ur:∀ (r:List CV) (k:Nat),(D++r).drop (l0.length*4+k)=r.drop k:=λ r k=>by rw[<- lD,drop_append];simp
    have Vn:∀ (r:List CV) (k:Nat),(D++r).take (l0.length*4+k)=D++r.take k:=λ r k=>by rw[<- lD,take_append,take_of_length_le yA];simp
    have Vy:∀ (r:List CV),(D++r).drop (l0.length*4+1+1)=r.drop 2:=λ r=>Ur r 2;have w3:=cF ((f.pc:Int)+1) yA yA;refine TL.eQ ah [0,1,2,3,4] [2,3,4] 5 0 V4 rfl SQ RT rfl rfl SQ yCb SQ yCa ZG (TL.go' ah ?_);simp[hC,bC,bh,aX,cN,bS,rL,rV,r1,r2,ra,w3,lD,Ur,Vn,Vy];apply aq;simp[hC];refine cX tfr TE ?_;simp[hC];have tZ:trees (V.map dc++replicate (qq.locals-es.length) (dc 0))=true:=by rw[bg,aO];exact ja _
    generalize hZ:V.map dc++replicate (qq.locals-es.length) (dc 0)=Z at tZ |-;have rZ:=λ ρ=>af ρ _ tZ;have b2:l0.length*4+4=(l0.length+1)*4:=by omega
    have b1:(l0.length+1+1)*64<=140737488355328:=by omega
    have dA:∀ r:List CV,(A++r).drop t=r:=λ r=>by rw[<- lA];simp
    have dA1:∀ (x:CV) (r:List CV),(A++x::r).drop (t+1)=r:=λ x r=>by rw[<- lA,drop_append];simp
    repeat first
     | apply T.seq
     | (apply aN;simp[hC])
     | (refine T.cond (b:=false) ?_ ?_;(first | rfl | (simp[ev,assoc,lD];done));simp)
     | (refine T.cond (b:=true) ?_ ?_;(first | rfl | (simp[ev,assoc,lD];done));simp)
     | (apply T.skip;simp)
     | apply T.block
    refine T.rx ah follows [0,1,2,3,4,5,6,7,8,9,10,11,12,13,14] [(1,10),(1,11),(4,10),(8,10)] Ix ?_;simp[hC,lD,lA,dA,dA1,Si,b1,b2,aY];apply aq;simp[hC];apply T.ret;refine aa.le (Le.norm [9,8] [(0,0),(1,1),(2,2),(25,3),(4,4),(6,5)] 0 6 Sn Sl WR yA) ?_;simp[cm,bh,aX,cN,dZ,assoc,rG,rT,rL,rV,r1,r2,ra];have kF:∀ a b c d a' b' c' d':CV,take ((l0.length+1+1)*4) (D++[a,b,c,d,a',b',c',d'])=D++[a,b,c,d,a',b',c',d']:=λ a b c d a' b' c' d'=>take_of_length_le SO;have Sc:(s.ts.set t (l0++[{ f with pc:=f.pc+1 },⟨tg,0,V++replicate (qq.locals-es.length) 0,L⟩])).flatMap en=A++.ax (D++[I f.proc,I ((f.pc:Int)+1),.ax (f.aV.map dc) f.aV.length,.ax (f.eA.map λ n:Nat=>I n) f.eA.length,I tg,I 0,.ax Z (V.length+(qq.locals-es.length)),.ax (L.map λ n:Nat=>I n) L.length]) (l0.length+1+1)::B:=by
     rw[set_eq_take_append_cons_drop,if_pos Si,flatMap_append,flatMap_cons,hA,hB];simp[en,dY,hD,ints,aB,<- hZ]
    refine lq tG tT Sq SB tL tE tV (by simp only[trees,tree,Bool.and_self]) xr (aC de _) yA xr ?_;simp[Sc,kF]
   | true=>cases Xi
  ·have SE:((f2:Int) == 0)=false:=by rw[beq_eq_false_iff_ne];omega
   have Vs:((f2:Int) != 0)=true:=by rw[bne_iff_ne];omega
   subst h1;simp[hC,h2]
   repeat first
    | apply T.seq
    | (apply aN;simp[hC,SE,Vs])
    | (refine T.cond (b:=false) ?_ ?_;(first | rfl | (simp[ev,assoc];done));simp)
    | (refine T.cond (b:=true) ?_ ?_;(first | rfl | (simp[ev,assoc,h2,SE,Vs];done));simp)
    | (apply T.skip;simp)
    | apply T.block
   refine cX (V2 f2) (V7 f2) ?_;simp[hC];apply T.ret;refine aa.le (Le.trim [9,8] [3] 99 VA yA) ?_;simp;apply aa.here;cases go<;>simp
 ·have SE:((f1:Int) == 0)=false:=by rw[beq_eq_false_iff_ne];omega
  have Vs:((f1:Int) != 0)=true:=by rw[bne_iff_ne];omega
  simp[hC,h1]
  repeat first
   | apply T.seq
   | (apply aN;simp[hC,SE,Vs])
   | (refine T.cond (b:=false) ?_ ?_;(first | rfl | (simp[ev,assoc];done));simp)
   | (refine T.cond (b:=true) ?_ ?_;(first | rfl | (simp[ev,assoc,h1,SE,Vs];done));simp)
   | (apply T.skip;simp)
   | apply T.block
  refine cX (V2 f1) (V7 f1) ?_;simp[hC];apply T.ret;refine aa.le (Le.trim [9,8] [3] 99 VA yA) ?_;simp;apply aa.here;cases go<;>simp
theorem go24 (n:Nat)(h:¬ 32<=n):(n+1)*24<=140737488355328:=by omega
theorem go8 (n:Nat)(h:¬ 32<=n):(n+1)*8<=140737488355328:=by omega
theorem goAB {a b n t:Nat}(h1:a=t)(h2:b=n-(t+1))(h3:t<n):a+(b+1)=n:=by omega
set_option maxHeartbeats 4000000 in
set_option maxRecDepth 100000 in
theorem PE (u:Un)(s:Sy)(t:Nat)(l0:List Fr)(f:Fr)(go:Bool)(tg:Nat)(es:List Ex)(ps:List Pl)(qq:Pr)(hm:Fo u.ms)(VL:u.ps[tg]? = some qq)(he:∀ e∈es,vf s.gs.length f.aV.length e)(R7:es.length<=1000)(hp:∀ p∈ps,p.index<=1000000/\vW u.ms s.gs.length f.aV.length f.eA.length p)(SR:ps.length<=1000)(hq1:es.length<=qq.locals)(hq2:qq.locals<=1000000)
  (hl:s.ts[t]? = some (l0++[f])) (SL:s.fault=0) (hs:GY s) (hr:Fm s) (h6:f.pc<=1000000) (Xi:go=true) :
  ae prog 42 [cg u,cT s,I t,.agg (cW (.call go tg es ps))] (.cB [cT (RK u s t l0 f go tg qq.locals es ps),.bool true]):=by
 have Ut:eW s t=some f:=by simp[eW,hl,SL]
 have UR:=mem_of_getElem? hl;have Tg:=(hs.f _ UR).1;have T8:l0.length<=1000000:=by simp at Tg;omega
 have TN:=qN s t l0 f hl hs;have X6:=FV u s t f go tg es ps hm hs hr Ut he R7 hp SR;have S7:=cD s;have R6:=bj u;have tar:trees [cg u,cT s,I t,.agg (cW (.call go tg es ps))]=true:=by simp only[trees,tree,fK,S7,cg,R6,Bool.and_self]
 have Sa:tree (.cB [cT (RK u s t l0 f go tg qq.locals es ps),.bool true])=true:=by simp only[tree,trees,cD,Bool.and_self]
 have Y2:=nB s.gs f.aV es;have Xl:=uy u s t ps;have V7:∀ fa:Nat,ae prog 91 [cT s,I fa] (.cB [cT ⟨s.gs,s.tb,s.ts,fa⟩,.bool true]):=jg s hs;have V2:∀ fa:Nat,trees [cT s,I fa]=true:=λ fa=>by simp only[trees,tree,S7,Bool.and_self]
 refine ae.aE ah Tryz.func42 rfl Ix (by simp[Tryz.ntmps42]) Sa λ C hC RR=>?_;rw[Tryz.ntmps42] at hC;clear Sa;have hac:mV u s t f tg qq.locals es ps=if (db s.gs f.aV es).2=0 then
  (if (dp u s t ps).2=0 then (⟨tg,0,(db s.gs f.aV es).1++replicate (qq.locals-es.length) 0,(dp u s t ps).1⟩,0)
   else (⟨tg,0,(db s.gs f.aV es).1,(dp u s t ps).1⟩,(dp u s t ps).2))
  else (⟨tg,0,(db s.gs f.aV es).1,[]⟩,(db s.gs f.aV es).2):=rfl
 simp only[RK,Oq,OF];rw[hac];generalize db s.gs f.aV es=va at X6 Y2 |-;obtain⟨V,f1⟩:=va;generalize dp u s t ps=vb at X6 Xl |-;obtain⟨L,f2⟩:=vb;have tG:trees (s.gs.map dc)=true:=aO s.gs;have tT:trees (s.tb.flatMap dL)=true:=ak cj _;have tL:trees (l0.flatMap dY)=true:=ak cZ _;have tV:trees (f.aV.map dc)=true:=aO f.aV;have tE:=aK f.eA;have Sq:trees ((s.ts.take t).flatMap en)=true:=ak bX _;have SB:trees ((s.ts.drop (t+1)).flatMap en)=true:=ak bX _;have rG:=λ ρ=>af ρ _ tG;have rT:=λ ρ=>af ρ _ tT;have rL:=λ ρ=>af ρ _ tL;have rV:=λ ρ=>af ρ _ tV;have r1:=λ ρ=>af ρ _ Sq;have r2:=λ ρ=>af ρ _ SB;have rE:=λ ρ=>af ρ _ tE;have ra:∀ ρ (a b:List CV),aX ρ (a++b)=aX ρ a++aX ρ b:=λ ρ a b=>by rw[cc,cc,cc,map_append]
 have tes:trees (es.flatMap bf)=true:=ak aL es;have tps:trees (ps.flatMap gW)=true:=ak cY ps;have Yb:trees (u.gs.map dc)=true:=aO u.gs;have Ya:=dG u.ms;have cB:trees (u.ps.flatMap mW)=true:=ak gy u.ps;have re:=λ ρ=>af ρ _ tes;have rp2:=λ ρ=>af ρ _ tps;have rg:=λ ρ=>af ρ _ Yb;have rm:=λ ρ=>af ρ _ Ya;have rp:=λ ρ=>af ρ _ cB;have ZM:=aK L;have rLL:=λ ρ=>af ρ _ ZM;have tVV:trees (V.map dc)=true:=aO V;have rVV:=λ ρ=>af ρ _ tVV;simp only[cT,kX,cg,cR,cW,bf,nZ,cons_append,nil_append,LO,DB,ints,aB] at X6 tar TN V7 V2 |-;apply aq;simp[hC];apply aq;simp[hC];refine cX tar X6 ?_;by_cases h1:f1=0
 ·by_cases h2:f2=0
  ·subst h1 h2;have Y2:V.length=es.length:=Y2 rfl;have Xl:L.length<=ps.length:=Xl;simp[hC];have TE:=uf u tg qq VL hq2 V yA L yA (ints V) (aB L) (.inl rfl) (.inl rfl);rw[show (V++replicate (qq.locals-V.length) 0)=V++replicate (qq.locals-es.length) 0 by rw[Y2]] at TE;have tfr:trees [cg u,I tg,ints V,aB L]=true:=by simp only[trees,tree,da,aM,cg,bj u,Bool.and_self]
   simp only[cg,cR,ints,aB,dY] at TE tfr
   cases go with
   | false=>cases Xi
   | true=>
    by_cases h32:32<=s.ts.length
    ·have W7:(32:Int)<=(s.ts.length:Int):=by omega
     repeat first
      | apply T.seq
      | (apply aN;simp[hC,W7])
      | (refine T.cond (b:=false) ?_ ?_;(first | rfl | (simp[ev,assoc];done));simp)
      | (refine T.cond (b:=true) ?_ ?_;(first | rfl | (simp[ev,assoc,W7];done));simp)
      | (apply T.skip;simp)
      | apply T.block
     refine cX (V2 4) (V7 4) ?_;simp[hC];apply T.ret;refine aa.le (Le.trim [9,8] [3] 99 VA yA) ?_;simp;apply aa.here;simp[h32]
    ·have W7:¬ (32:Int)<=(s.ts.length:Int):=by omega
     simp only[if_neg h32]
     repeat first
      | apply T.seq
      | (apply aN;simp[hC,W7])
      | (refine T.cond (b:=false) ?_ ?_;(first | rfl | (simp[ev,assoc,W7];done));simp)
      | (refine T.cond (b:=true) ?_ ?_;(first | rfl | (simp[ev,assoc,W7];done));simp)
      | (apply T.skip;simp)
      | apply T.block
     refine TL.eQ ah [] [] 0 6 (TN) rfl SQ RT rfl rfl SF SF W9 SF SF (TL.go' ah ?_);simp[hC,bC,bh,aX,cN,bS,rG,rT,rL,rV,r1,r2,ra];refine T.le (Le.norm [13,11,10,9,8,7,4,2] [(4,0),(5,1),(6,2),(7,3),(8,4),(10,5),(3,6),(2,7),(0,8)] 0 9 Sn Sl WR yA) ?_;simp[cm,bh,aX,cN,dZ,assoc,rG,rT,rL,rV,r1,r2,ra];generalize hA:(s.ts.take t).flatMap en=A at Sq r1 |-;generalize hB:(s.ts.drop (t+1)).flatMap en=B at SB r2 |-;generalize hD:l0.flatMap dY=D at tL rL |-;have Si:=(List.getElem?_eq_some_iff.1 hl).1;have lA:A.length=t:=by rw[<- hA,fS,length_map,length_take];omega
     have lB:B.length=s.ts.length-(t+1):=by rw[<- hB,fS,length_map,length_drop]
     have lD:D.length=l0.length*4:=by rw[<- hD];exact aC ef l0
     have V4:=kA s.gs.length s.tb.length s.ts.length t l0.length f.proc f.pc f.aV.length f.eA.length A B D _ _ Sq SB tL tE tV _ (.inl rfl) lA lD Si hs.t T8;rw[SL];apply aq;simp[hC];have a1:A.all (aU 5)=true:=by rw[<- aT];exact bD 5 _ Sq
     have a2:B.all (aU 5)=true:=by rw[<- aT];exact bD 5 _ SB
     have a3:D.all (aU 5)=true:=by rw[<- aT];exact bD 5 _ tL
     have dD:∀ r:List CV,(D++r).drop (l0.length*4)=r:=λ r=>by rw[<- lD];simp
     have Ur:∀ (r:List CV) (k:Nat),(D++r).drop (l0.length*4+k)=r.drop k:=λ r k=>by rw[<- lD,drop_append];simp
     have Vn:∀ (r:List CV) (k:Nat),(D++r).take (l0.length*4+k)=D++r.take k:=λ r k=>by rw[<- lD,take_append,take_of_length_le yA];simp
     have Vy:∀ (r:List CV),(D++r).drop (l0.length*4+1+1)=r.drop 2:=λ r=>Ur r 2;have w3:=cF ((f.pc:Int)+1) yA yA;refine TL.eQ ah [0,1,2,3,4] [2,3,4] 5 0 V4 rfl SQ RT rfl rfl SQ yCb SQ yCa ZG (TL.go' ah ?_);simp[hC,bC,bh,aX,cN,bS,rL,rV,r1,r2,ra,w3,lD,Ur,Vn,Vy];apply aq;simp[hC];refine cX tfr TE ?_;simp[hC];have tZ:trees (V.map dc++replicate (qq.locals-es.length) (dc 0))=true:=by rw[bg,aO];exact ja _
     generalize hZ:V.map dc++replicate (qq.locals-es.length) (dc 0)=Z at tZ |-;have rZ:=λ ρ=>af ρ _ tZ;have b2:l0.length*4+4=(l0.length+1)*4:=by omega
     have b1:(l0.length+1+1)*64<=140737488355328:=by omega
     have dA:∀ r:List CV,(A++r).drop t=r:=λ r=>by rw[<- lA];simp
     have dA1:∀ (x:CV) (r:List CV),(A++x::r).drop (t+1)=r:=λ x r=>by rw[<- lA,drop_append];simp
     have b3:=go24 _ h32;have b4:=go8 _ h32;have lAB:A.length+(B.length+1)=s.ts.length:=goAB lA lB Si
     repeat first
      | apply T.seq
      | (apply aN;simp[hC,b3,lAB,aY])
      | (refine T.cond (b:=false) ?_ ?_;(first | rfl | (simp[ev,assoc];done));simp)
      | (refine T.cond (b:=true) ?_ ?_;(first | rfl | (simp[ev,assoc,lD,b3,b4,lAB,aY];done));simp)
      | (apply T.skip;simp)
      | apply T.block
     apply T.ret;refine aa.le (Le.norm [9,8] [(0,0),(1,1),(12,2),(3,3),(4,4),(6,5),(10,6)] 0 7 Sn Sl WR yA) ?_;simp[cm,bh,aX,cN,dZ,assoc,rG,rT,rL,rV,r1,r2,ra];have tX:trees [I tg,I 0,.ax Z (V.length+(qq.locals-es.length)),.ax (L.map λ n:Nat=>I n) L.length]=true:=by simp only[trees,tree,Bool.and_self]
     refine aa.le (Le.dn (o:=6) rfl tX) ?_;simp[aS tG,aS tT,aS tL,aS tV,aS Sq,aS SB];have kF:∀ a b c d:CV,take ((l0.length+1)*4) (D++[a,b,c,d])=D++[a,b,c,d]:=λ a b c d=>take_of_length_le SO;have Sc:(s.ts.set t (l0++[{ f with pc:=f.pc+1 }])++[[(⟨tg,0,V++replicate (qq.locals-es.length) 0,L⟩:Fr)]]).flatMap en=A++.ax (D++[I f.proc,I ((f.pc:Int)+1),.ax (f.aV.map dc) f.aV.length,.ax (f.eA.map λ n:Nat=>I n) f.eA.length]) (l0.length+1)::(B++[.ax [I tg,I 0,.ax Z (V.length+(qq.locals-es.length)),.ax (L.map λ n:Nat=>I n) L.length] 1]):=by
      rw[flatMap_append,set_eq_take_append_cons_drop,if_pos Si,flatMap_append,flatMap_cons,hA,hB];simp[en,dY,hD,ints,aB,<- hZ]
     refine lq tG tT Sq ?_ tL tE tV ?_ ?_ ?_ ?_ ?_ ?_
     ·rw[bg,SB];simp only[trees,tree,Bool.and_self]
     ·rfl
     ·simp
     ·exact aC de _
     ·rw[length_append,length_singleton];omega
     ·simp
     simp only[flatMap_append,flatMap_cons,flatMap_nil,append_nil] at Sc;simp[kF];exact Sc.symm
  ·have SE:((f2:Int) == 0)=false:=by rw[beq_eq_false_iff_ne];omega
   have Vs:((f2:Int) != 0)=true:=by rw[bne_iff_ne];omega
   subst h1;simp[hC,h2]
   repeat first
    | apply T.seq
    | (apply aN;simp[hC,SE,Vs])
    | (refine T.cond (b:=false) ?_ ?_;(first | rfl | (simp[ev,assoc];done));simp)
    | (refine T.cond (b:=true) ?_ ?_;(first | rfl | (simp[ev,assoc,h2,SE,Vs];done));simp)
    | (apply T.skip;simp)
    | apply T.block
   refine cX (V2 f2) (V7 f2) ?_;simp[hC];apply T.ret;refine aa.le (Le.trim [9,8] [3] 99 VA yA) ?_;simp;apply aa.here;cases go<;>simp
 ·have SE:((f1:Int) == 0)=false:=by rw[beq_eq_false_iff_ne];omega
  have Vs:((f1:Int) != 0)=true:=by rw[bne_iff_ne];omega
  simp[hC,h1]
  repeat first
   | apply T.seq
   | (apply aN;simp[hC,SE,Vs])
   | (refine T.cond (b:=false) ?_ ?_;(first | rfl | (simp[ev,assoc];done));simp)
   | (refine T.cond (b:=true) ?_ ?_;(first | rfl | (simp[ev,assoc,h1,SE,Vs];done));simp)
   | (apply T.skip;simp)
   | apply T.block
  refine cX (V2 f1) (V7 f1) ?_;simp[hC];apply T.ret;refine aa.le (Le.trim [9,8] [3] 99 VA yA) ?_;simp;apply aa.here;cases go<;>simp
theorem Cb (u:Un)(s s':Sy)(t:Int)(b:Bool)(i:In)(K a e1 e2 p2:Int)(g p1:Bool)(e3:ByteArray)(e4 p3 q1 q3:List CV)(e5 p4 q2 q4:Nat)(hiC:cW i=[I K,I a,.bool g,I e1,I e2,.str e3,.ax e4 e5,.bool p1,I p2,.ax p3 p4,.ax q1 q2,.ax q3 q4])(hK:K=1\/K=6)
  (R4:ae prog 33 [cg u,cT s,I t] (mD (some i))) (hR:ae prog 44 [cT s,I t,.agg (cW i)] (.cB [cT s',.bool b])) :
  ae prog 14 [cg u,cT s,I t] (.cB [cT s',.bool b]):=by
 have R6:=bj u;have S7:=cD s;have RQ:trees [cg u,cT s,I t]=true:=by simp only[trees,tree,S7,cg,R6,Bool.and_self]
 have tR:trees [cT s,I t,.agg (cW i)]=true:=by simp only[trees,tree,S7,fK,Bool.and_self]
 have Sa:tree (.cB [cT s',.bool b])=true:=by simp only[tree,trees,cD,Bool.and_self]
 refine ae.aE ah Tryz.func14 rfl Ix yCi Sa λ C hC RR=>?_;rw[Tryz.ntmps14] at hC;clear Sa;simp only[mD,hiC,cT,kX,cg,cR,ints] at R4 hR RQ tR |-;rcases hK with rfl | rfl
 all_goals
  apply aq;simp[hC];apply aq;simp[hC];refine cX RQ R4 ?_;simp[hC]
  repeat first
   | apply T.seq
   | (apply aN;simp[hC])
   | (refine a9 ?_;simp)
   | (refine dy ?_;simp)
   | (apply T.skip;simp)
   | apply T.block
  refine cX tR hR ?_;simp[hC];apply T.ret;refine aa.le (Le.trim [7,6] [2] 99 VA yA) ?_;simp;apply aa.here;simp
theorem Ca (u:Un)(s s':Sy)(t:Int)(b:Bool)(i:In)(K a e1 e2 p2:Int)(g p1:Bool)(e3:ByteArray)(e4 p3 q1 q3:List CV)(e5 p4 q2 q4:Nat)(hiC:cW i=[I K,I a,.bool g,I e1,I e2,.str e3,.ax e4 e5,.bool p1,I p2,.ax p3 p4,.ax q1 q2,.ax q3 q4])(hK:K=4\/K=5)
  (R4:ae prog 33 [cg u,cT s,I t] (mD (some i))) (hR:ae prog 43 [cg u,cT s,I t,.agg (cW i)] (.cB [cT s',.bool b])) :
  ae prog 14 [cg u,cT s,I t] (.cB [cT s',.bool b]):=by
 have R6:=bj u;have S7:=cD s;have RQ:trees [cg u,cT s,I t]=true:=by simp only[trees,tree,S7,cg,R6,Bool.and_self]
 have tR:trees [cg u,cT s,I t,.agg (cW i)]=true:=by simp only[trees,tree,S7,fK,cg,R6,Bool.and_self]
 have Sa:tree (.cB [cT s',.bool b])=true:=by simp only[tree,trees,cD,Bool.and_self]
 refine ae.aE ah Tryz.func14 rfl Ix yCi Sa λ C hC RR=>?_;rw[Tryz.ntmps14] at hC;clear Sa;simp only[mD,hiC,cT,kX,cg,cR,ints] at R4 hR RQ tR |-;rcases hK with rfl | rfl
 all_goals
  apply aq;simp[hC];apply aq;simp[hC];refine cX RQ R4 ?_;simp[hC]
  repeat first
   | apply T.seq
   | (apply aN;simp[hC])
   | (refine a9 ?_;simp)
   | (refine dy ?_;simp)
   | (apply T.skip;simp)
   | apply T.block
  refine cX tR hR ?_;simp[hC];apply T.ret;refine aa.le (Le.trim [7,6] [2] 99 VA yA) ?_;simp;apply aa.here;simp
theorem Cc (u:Un)(s s':Sy)(t:Int)(b:Bool)(i:In)(K a e1 e2 p2:Int)(g p1:Bool)(e3:ByteArray)(e4 p3 q1 q3:List CV)(e5 p4 q2 q4:Nat)(hiC:cW i=[I K,I a,.bool g,I e1,I e2,.str e3,.ax e4 e5,.bool p1,I p2,.ax p3 p4,.ax q1 q2,.ax q3 q4])(hK:K=2\/K=3)
  (R4:ae prog 33 [cg u,cT s,I t] (mD (some i))) (hR:ae prog 42 [cg u,cT s,I t,.agg (cW i)] (.cB [cT s',.bool b])) :
  ae prog 14 [cg u,cT s,I t] (.cB [cT s',.bool b]):=by
 have R6:=bj u;have S7:=cD s;have RQ:trees [cg u,cT s,I t]=true:=by simp only[trees,tree,S7,cg,R6,Bool.and_self]
 have tR:trees [cg u,cT s,I t,.agg (cW i)]=true:=by simp only[trees,tree,S7,fK,cg,R6,Bool.and_self]
 have Sa:tree (.cB [cT s',.bool b])=true:=by simp only[tree,trees,cD,Bool.and_self]
 refine ae.aE ah Tryz.func14 rfl Ix yCi Sa λ C hC RR=>?_;rw[Tryz.ntmps14] at hC;clear Sa;simp only[mD,hiC,cT,kX,cg,cR,ints] at R4 hR RQ tR |-;rcases hK with rfl | rfl
 all_goals
  apply aq;simp[hC];apply aq;simp[hC];refine cX RQ R4 ?_;simp[hC]
  repeat first
   | apply T.seq
   | (apply aN;simp[hC])
   | (refine a9 ?_;simp)
   | (refine dy ?_;simp)
   | (apply T.skip;simp)
   | apply T.block
  refine cX tR hR ?_;simp[hC];apply T.ret;refine aa.le (Le.trim [7,6] [2] 99 VA yA) ?_;simp;apply aa.here;simp
theorem Es (u:Un)(s:Sy)(t:Int)(hs:GY s)(R4:ae prog 33 [cg u,cT s,I t] (mD none)):ae prog 14 [cg u,cT s,I t] (.cB [cT s,.bool false]):=by
 have R6:=bj u;have S7:=cD s;have RQ:trees [cg u,cT s,I t]=true:=by simp only[trees,tree,S7,cg,R6,Bool.and_self]
 have Sa:tree (.cB [cT s,.bool false])=true:=by simp only[tree,trees,cD,Bool.and_self]
 have Se:=E6 s hs;have tG:trees (s.gs.map dc)=true:=aO s.gs;have tT:trees (s.tb.flatMap dL)=true:=ak cj _;have tS:trees (s.ts.flatMap en)=true:=ak bX _;have rG:=λ ρ=>af ρ _ tG;have rT:=λ ρ=>af ρ _ tT;have rS:=λ ρ=>af ρ _ tS;refine ae.aE ah Tryz.func14 rfl Ix yCi Sa λ C hC RR=>?_;rw[Tryz.ntmps14] at hC;clear Sa;simp only[mD,cT,kX,cg,cR,ints,RI] at *;apply aq;simp[hC];apply aq;simp[hC];refine cX RQ R4 ?_;simp[hC]
 repeat first
  | apply T.seq
  | (apply aN;simp[hC])
  | (refine a9 ?_;simp)
  | (refine dy ?_;simp)
  | (apply T.skip;simp)
  | apply T.block
 refine TL.eQ ah [] [] 0 6 (Se) rfl SQ RT rfl rfl SF SF W9 SF SF (TL.go' ah ?_);simp[hC,bC,bh,aX,cN,bS,rG,rT,rS];apply T.ret;refine aa.le (Le.norm [7,6] [(4,0),(5,1),(6,2),(2,5)] 0 6 Sn Sl yDc yA) ?_;simp[cm,bh,aX,cN,dZ,assoc,rG,rT,rS];refine KO tG tT tS xr (aC de _) (by simpa using aC na s.ts) ?_;simp
set_option maxHeartbeats 4000000 in
set_option maxRecDepth 100000 in
theorem Et (u:Un)(s:Sy)(t:Nat)(l0:List Fr)(f:Fr)(g:Nat)(R4:ae prog 33 [cg u,cT s,I t] (mD (some (.jump g))))(hl:s.ts[t]? = some (l0++[f]))(SL:s.fault=0)(hs:GY s)(h6:f.pc<=1000000) :
  ae prog 14 [cg u,cT s,I t] (.cB [cT { s with ts:=s.ts.set t (l0++[{ f with pc:=g }]) },.bool true]):=by
 have UR:=mem_of_getElem? hl;have Tg:=(hs.f _ UR).1;have T8:l0.length<=1000000:=by simp at Tg;omega
 have TN:=qN s t l0 f hl hs;have S7:=cD s;have R6:=bj u;have RQ:trees [cg u,cT s,I t]=true:=by simp only[trees,tree,S7,cg,R6,Bool.and_self]
 have Sa:tree (.cB [cT { s with ts:=s.ts.set t (l0++[{ f with pc:=g }]) },.bool true])=true:=by simp only[tree,trees,cD,Bool.and_self]
 refine ae.aE ah Tryz.func14 rfl Ix yCi Sa λ C hC RR=>?_;rw[Tryz.ntmps14] at hC;clear Sa;have tG:trees (s.gs.map dc)=true:=aO s.gs;have tT:trees (s.tb.flatMap dL)=true:=ak cj _;have tL:trees (l0.flatMap dY)=true:=ak cZ _;have tV:trees (f.aV.map dc)=true:=aO f.aV;have tE:=aK f.eA;have Sq:trees ((s.ts.take t).flatMap en)=true:=ak bX _;have SB:trees ((s.ts.drop (t+1)).flatMap en)=true:=ak bX _;have rG:=λ ρ=>af ρ _ tG;have rT:=λ ρ=>af ρ _ tT;have rL:=λ ρ=>af ρ _ tL;have rV:=λ ρ=>af ρ _ tV;have r1:=λ ρ=>af ρ _ Sq;have r2:=λ ρ=>af ρ _ SB;have rE:=λ ρ=>af ρ _ tE;have ra:∀ ρ (a b:List CV),aX ρ (a++b)=aX ρ a++aX ρ b:=λ ρ a b=>by rw[cc,cc,cc,map_append]
 simp only[mD,cW,bf,nZ,cons_append,nil_append,cT,kX,cg,cR,ints,LO] at R4 TN RQ |-;apply aq;simp[hC];apply aq;simp[hC];refine cX RQ R4 ?_;simp[hC]
 repeat first
  | apply T.seq
  | (apply aN;simp[hC])
  | (refine a9 ?_;simp)
  | (refine dy ?_;simp)
  | (apply T.skip;simp)
  | apply T.block
 refine TL.eQ ah [] [] 0 6 (TN) rfl SQ RT rfl rfl SF SF W9 SF SF (TL.go' ah ?_);simp[hC,bC,bh,aX,cN,bS,rG,rT,rL,rV,r1,r2,ra,aB];refine T.le (Le.norm [10,8,7,6,2] [(4,0),(5,1),(6,2),(7,3),(8,4),(10,5),(2,6),(3,7)] 0 8 Sn Sl WR yA) ?_;simp[cm,bh,aX,cN,dZ,assoc,rG,rT,rL,rV,r1,r2,ra];generalize hA:(s.ts.take t).flatMap en=A at Sq r1 |-;generalize hB:(s.ts.drop (t+1)).flatMap en=B at SB r2 |-;generalize hD:l0.flatMap dY=D at tL rL |-;have Si:=(List.getElem?_eq_some_iff.1 hl).1;have lA:A.length=t:=by rw[<- hA,fS,length_map,length_take];omega
 have lB:B.length=s.ts.length-(t+1):=by rw[<- hB,fS,length_map,length_drop]
 have lD:D.length=l0.length*4:=by rw[<- hD];exact aC ef l0
 have V4:=kA s.gs.length s.tb.length s.ts.length t l0.length f.proc f.pc f.aV.length f.eA.length A B D _ _ Sq SB tL tE tV _ (.inl rfl) lA lD Si hs.t T8;rw[SL];have a1:A.all (aU 5)=true:=by rw[<- aT];exact bD 5 _ Sq
 have a2:B.all (aU 5)=true:=by rw[<- aT];exact bD 5 _ SB
 have a3:D.all (aU 5)=true:=by rw[<- aT];exact bD 5 _ tL
 have dD:∀ r:List CV,(D++r).drop (l0.length*4)=r:=λ r=>by rw[<- lD];simp
 have Ur:∀ (r:List CV) (k:Nat),(D++r).drop (l0.length*4+k)=r.drop k:=λ r k=>by rw[<- lD,drop_append];simp
 have Vn:∀ (r:List CV) (k:Nat),(D++r).take (l0.length*4+k)=D++r.take k:=λ r k=>by rw[<- lD,take_append,take_of_length_le yA];simp
 have Vy:∀ (r:List CV),(D++r).drop (l0.length*4+1+1)=r.drop 2:=λ r=>Ur r 2;have w3:=cF ((f.pc:Int)+1) yA yA;have kF:∀ a b c d:CV,take ((l0.length+1)*4) (D++[a,b,c,d])=D++[a,b,c,d]:=λ a b c d=>take_of_length_le SO;have Sc:(s.ts.set t (l0++[{ f with pc:=g }])).flatMap en=A++.ax (D++[I f.proc,I g,.ax (f.aV.map dc) f.aV.length,.ax (f.eA.map λ n:Nat=>I n) f.eA.length]) (l0.length+1)::B:=by
  rw[set_eq_take_append_cons_drop,if_pos Si,flatMap_append,flatMap_cons,hA,hB];simp[en,dY,hD,ints,aB]
 repeat first
  | apply T.seq
  | (apply aN;simp[hC])
  | (refine a9 ?_;simp)
  | (refine dy ?_;simp)
  | (apply T.skip;simp)
  | apply T.block
 refine T.rx ah follows [0,1,3,4,2,5,6,7] [(4,2)] Ix ?_;simp[hC];refine RX.eQ [0,1,2,3,4] [2,3,4] [] 5 0 V4 rfl SQ rfl xr rfl rfl SQ yCb SQ yCa SQ (by simp[sH,bC,bh,assoc,bS]) (λ p _ _=>rfl) ?_;simp[bC,bh,aX,cN,bS,rL,rV,r1,r2,ra,lD,Vn,Vy];apply aq;simp[hC];apply T.ret;refine aa.le (Le.norm [7,6] [(0,0),(1,1),(2,2),(3,3),(4,4),(6,5)] 0 6 Sn Sl WR yA) ?_;simp[cm,bh,aX,cN,dZ,assoc,rG,rT,rL,rV,r1,r2,ra];refine lq tG tT Sq SB tL tE tV rfl xr (aC de _) yA xr ?_;simp[Sc,kF]
set_option maxHeartbeats 4000000 in
set_option maxRecDepth 100000 in
theorem Hv (u:Un)(s:Sy)(t:Nat)(l0:List Fr)(f:Fr)(R4:ae prog 33 [cg u,cT s,I t] (mD (some .ret)))(hl:s.ts[t]? = some (l0++[f]))(SL:s.fault=0)(hs:GY s) :
  ae prog 14 [cg u,cT s,I t] (.cB [cT { s with ts:=s.ts.set t l0 },.bool true]):=by
 have UR:=mem_of_getElem? hl;have Tg:=(hs.f _ UR).1;have T8:l0.length<=1000000:=by simp at Tg;omega
 have TN:=qN s t l0 f hl hs;have S7:=cD s;have R6:=bj u;have RQ:trees [cg u,cT s,I t]=true:=by simp only[trees,tree,S7,cg,R6,Bool.and_self]
 have Sa:tree (.cB [cT { s with ts:=s.ts.set t l0 },.bool true])=true:=by simp only[tree,trees,cD,Bool.and_self]
 refine ae.aE ah Tryz.func14 rfl Ix yCi Sa λ C hC RR=>?_;rw[Tryz.ntmps14] at hC;clear Sa;have tG:trees (s.gs.map dc)=true:=aO s.gs;have tT:trees (s.tb.flatMap dL)=true:=ak cj _;have tL:trees (l0.flatMap dY)=true:=ak cZ _;have tV:trees (f.aV.map dc)=true:=aO f.aV;have tE:=aK f.eA;have Sq:trees ((s.ts.take t).flatMap en)=true:=ak bX _;have SB:trees ((s.ts.drop (t+1)).flatMap en)=true:=ak bX _;have rG:=λ ρ=>af ρ _ tG;have rT:=λ ρ=>af ρ _ tT;have rL:=λ ρ=>af ρ _ tL;have rV:=λ ρ=>af ρ _ tV;have r1:=λ ρ=>af ρ _ Sq;have r2:=λ ρ=>af ρ _ SB;have rE:=λ ρ=>af ρ _ tE;have ra:∀ ρ (a b:List CV),aX ρ (a++b)=aX ρ a++aX ρ b:=λ ρ a b=>by rw[cc,cc,cc,map_append]
 simp only[mD,cW,bf,nZ,cons_append,nil_append,cT,kX,cg,cR,ints,LO] at R4 TN RQ |-;apply aq;simp[hC];apply aq;simp[hC];refine cX RQ R4 ?_;simp[hC]
 repeat first
  | apply T.seq
  | (apply aN;simp[hC])
  | (refine a9 ?_;simp)
  | (refine dy ?_;simp)
  | (apply T.skip;simp)
  | apply T.block
 refine TL.eQ ah [] [] 0 6 (TN) rfl SQ RT rfl rfl SF SF W9 SF SF (TL.go' ah ?_);simp[hC,bC,bh,aX,cN,bS,rG,rT,rL,rV,r1,r2,ra,aB];refine T.le (Le.norm [10,8,7,6,2] [(4,0),(5,1),(6,2),(7,3),(8,4),(10,5),(2,6),(3,7)] 0 8 Sn Sl WR yA) ?_;simp[cm,bh,aX,cN,dZ,assoc,rG,rT,rL,rV,r1,r2,ra];generalize hA:(s.ts.take t).flatMap en=A at Sq r1 |-;generalize hB:(s.ts.drop (t+1)).flatMap en=B at SB r2 |-;generalize hD:l0.flatMap dY=D at tL rL |-;have Si:=(List.getElem?_eq_some_iff.1 hl).1;have lA:A.length=t:=by rw[<- hA,fS,length_map,length_take];omega
 have lB:B.length=s.ts.length-(t+1):=by rw[<- hB,fS,length_map,length_drop]
 have lD:D.length=l0.length*4:=by rw[<- hD];exact aC ef l0
 have V4:=kA s.gs.length s.tb.length s.ts.length t l0.length f.proc f.pc f.aV.length f.eA.length A B D _ _ Sq SB tL tE tV _ (.inl rfl) lA lD Si hs.t T8;rw[SL];have a1:A.all (aU 5)=true:=by rw[<- aT];exact bD 5 _ Sq
 have a2:B.all (aU 5)=true:=by rw[<- aT];exact bD 5 _ SB
 have a3:D.all (aU 5)=true:=by rw[<- aT];exact bD 5 _ tL
 have dD:∀ r:List CV,(D++r).drop (l0.length*4)=r:=λ r=>by rw[<- lD];simp
 have Ur:∀ (r:List CV) (k:Nat),(D++r).drop (l0.length*4+k)=r.drop k:=λ r k=>by rw[<- lD,drop_append];simp
 have Vn:∀ (r:List CV) (k:Nat),(D++r).take (l0.length*4+k)=D++r.take k:=λ r k=>by rw[<- lD,take_append,take_of_length_le yA];simp
 have Vy:∀ (r:List CV),(D++r).drop (l0.length*4+1+1)=r.drop 2:=λ r=>Ur r 2;have dA:∀ r:List CV,(A++r).drop t=r:=λ r=>by rw[<- lA];simp
 have dA1:∀ (x:CV) (r:List CV),(A++x::r).drop (t+1)=r:=λ x r=>by rw[<- lA,drop_append];simp
 have w1:=cF (l0.length:Int) yA yA;have w2:(l0.length:Int)<(l0.length:Int)+1:=by omega
 have kF:∀ r:List CV,take (l0.length*4) (D++r)=D:=λ r=>by rw[<- lD,take_left]
 have Sc:(s.ts.set t l0).flatMap en=A++.ax D l0.length::B:=by
  rw[set_eq_take_append_cons_drop,if_pos Si,flatMap_append,flatMap_cons,hA,hB];simp[en,hD]
 repeat first
  | apply T.seq
  | (apply aN;simp[hC,Si,dA])
  | (refine T.cond (b:=false) ?_ ?_;(first | rfl | (simp[ev,assoc,Si,lA,dA];done));simp)
  | (refine T.cond (b:=true) ?_ ?_;(first | rfl | (simp[ev,assoc,Si,lA,dA];done));simp)
  | (apply T.skip;simp)
  | apply T.block
 refine T.rx ah follows [0,1,2,3,4,5,6,7,8,9,10] [] Ix ?_;simp[hC,Si,lA,dA1,w1];apply aq;simp[hC];apply T.ret;refine aa.le (Le.norm [7,6] [(0,0),(1,1),(2,2),(3,3),(4,4),(6,5)] 0 6 Sn Sl WR yA) ?_;simp[cm,bh,aX,cN,dZ,assoc,rG,rT,rL,rV,r1,r2,ra];refine lq tG tT Sq SB tL tE tV rfl xr (aC de _) yA xr ?_;simp[Sc,kF]
theorem EK (ms:List Mx)(tb:List Ho)(e t:Nat):(fH ms tb e t).1.length=tb.length:=by
 unfold fH;split
 ·split<;>simp
 ·rfl
theorem z5 (ms:List Mx)(tb:List Ho)(e t:Nat):(dm ms tb e t).1.length=tb.length:=by
 unfold dm;split
 ·split<;>simp
 ·rfl
theorem syv_b {u:Un}(hu:fV u){k:Nat}(hk:k<=1000){s:Sy}(hs:ov u k s):GY s:=by
 obtain⟨h1,h2,h3,h4,h5⟩:=hs.bounds hu hk;refine⟨h1,h2,h3,λ l hl=>⟨h4 l hl,λ f hf=>?_⟩⟩;obtain⟨q,hq,gZ,Wd,R7⟩:=(hs.fr l hl f hf).q;have hqv:=hu.pr q (mem_of_getElem? hq);omega
theorem Hw {u:Un}(hu:fV u){k:Nat}(hk:k<=1000){s:Sy}(hs:ov u k s)(hr:Fm s)(t:Int) :
  ae prog 14 [cg u,cT s,I t] (.cB [cT (fT u s t).1,.bool (fT u s t).2]):=by
 obtain⟨h1,h2,h3,h4,h5⟩:=hs.bounds hu hk;have TE:=hs.frs;have WX:=syv_b hu hk hs;have R4:=y8 u s t ⟨h3,h4⟩ TE λ z hz=>Gg hu hz;unfold fT
 cases ht:eW s t with
 | none=>
  have Vb:jJ u s t=none:=by simp[jJ,ht]
  rw[Vb] at R4;exact Es u s t WX R4
 | some f=>
  obtain⟨n,l0,rfl,hl,SL,hd⟩:=ld ht;obtain⟨o1,o2,o3,o4⟩:=hs.gA hl;obtain⟨q,hq,gZ,Wd,R7⟩:=o2.q;obtain⟨i,hi⟩:∃ i,q.code[f.pc]? = some i:=⟨_,getElem?_eq_getElem gZ⟩;have Vb:jJ u s n=some i:=by simp[jJ,ht,hq,hi]
  rw[Vb] at R4;obtain⟨h6,h7⟩:=h5 _ (mem_of_getElem? hl) f xr;have TV:=(hu.pc q (mem_of_getElem? hq)).2 i (mem_of_getElem? hi);have hqv:=hu.pr q (mem_of_getElem? hq);rw[<- hs.gs,<- Wd,<- R7] at TV;have Vo:=mY hu;have Zl:=HC u.ms;have SU:∀ h∈s.tb,h.d<=1000000/\(h.o≠0->0<h.d):=λ h hh=>by
   have:=hs.hd h hh;exact⟨by omega,this.2⟩
  have Vt:∀ h∈s.tb,h.o<=1000000:=λ h hh=>by
   have:=hs.ho h hh;omega
  have SW:=hu.nm;have XH:∀ p:Pl,vW u.ms s.gs.length f.aV.length f.eA.length p->p.index<=1000000:=λ p hp=>by
   rcases hp with ⟨_,h,_⟩ | ⟨_,m,h,_⟩
   ·omega
   ·have:=(List.getElem?_eq_some_iff.1 h).1;omega
  have hnt:=(List.getElem?_eq_some_iff.1 hl).1;simp only[Vb,Int.toNat_natCast,hd]
  cases i with
  | set k' gl e=>
   obtain⟨e1,e2,e3,e4,e5,X1,tec⟩:=fQ e;exact Cb u s _ n true (.set k' gl e) 1 k' e1 e2 0 gl false e3 e4 [] [] [] e5 0 0 0 (by simp[cW,X1,nZ]) (.inl rfl) R4 (Mz s n l0 f k' gl e TV.1 TV.2 hl SL WX hr h7)
  | branch g e=>
   obtain⟨e1,e2,e3,e4,e5,X1,tec⟩:=fQ e;exact Cb u s _ n true (.branch g e) 6 g e1 e2 0 false false e3 e4 [] [] [] e5 0 0 0 (by simp[cW,X1,nZ]) (.inr rfl) R4 (PG s n l0 f g e TV.2 hl SL WX hr h7)
  | jump g=>exact Et u s n l0 f g R4 hl SL WX h7
  | ret=>exact Hv u s n l0 f R4 hl SL WX
  | lock un p=>
   have T0:vW u.ms s.gs.length f.aV.length f.eA.length p:=TV;obtain⟨j,hj⟩:=jW u s n p Vo f ht T0;have hn:bT u s n p=((j:Int),(bT u s n p).2):=by rw[<- hj]
   have X0:(bT u s n p).2=0->j<(bR u.ms).length:=λ h0=>(jV hu ht o2 T0 (by rw[hn,h0])).1;obtain⟨p1,p2,p3,p4,XM,tpc⟩:=oL p
   cases un with
   | true=>
    have hh:=Cg u s n l0 f p true j (bT u s n p).2 (dm u.ms s.tb j n).1 (dm u.ms s.tb j n).2 hn Vo (XH p T0) T0 (λ h0=>Ep u.ms s.tb j n (X0 h0) hs.tb yA h2 SU Vt) (z5 _ _ _ _) hl SL WX hr h7;have he:Ng s n l0 f true (bT u s n p).2 (dm u.ms s.tb j n).1 (dm u.ms s.tb j n).2=N1 u s n l0 f p:=by simp[Ng,N1,hj]
    rw[he] at hh;exact Ca u s _ n _ (.lock true p) 5 0 0 0 p2 false p1 eS [] p3 [] [] 0 p4 0 0 (by simp[cW,XM,bf]) (.inr rfl) R4 hh
   | false=>
    have hh:=Cg u s n l0 f p false j (bT u s n p).2 (fH u.ms s.tb j n).1 (fH u.ms s.tb j n).2 hn Vo (XH p T0) T0 (λ h0=>JC u.ms Vo s.tb j n (X0 h0) hs.tb Zl yA h2 (λ h hh=>(SU h hh).1) Vt) (EK _ _ _ _) hl SL WX hr h7;have he:Ng s n l0 f false (bT u s n p).2 (fH u.ms s.tb j n).1 (fH u.ms s.tb j n).2=Of u s n l0 f p:=by simp[Ng,Of,hj]
    rw[he] at hh;exact Ca u s _ n _ (.lock false p) 4 0 0 0 p2 false p1 eS [] p3 [] [] 0 p4 0 0 (by simp[cW,XM,bf]) (.inl rfl) R4 hh
  | call go tg es ps=>
   obtain⟨c1,c2,c3⟩:=TV;rw[getElem?_map,Option.map_eq_some_iff] at c1;obtain⟨qq,VL,c4⟩:=c1;simp only[Prod.mk.injEq] at c4;have hqv2:=hu.pr qq (mem_of_getElem? VL);have YL:uj u tg=qq.locals:=by simp only[uj,VL]
   have c5:∀ p∈ps,p.index<=1000000/\vW u.ms s.gs.length f.aV.length f.eA.length p:=λ p hp=>⟨XH p (c3 p hp),c3 p hp⟩
   cases go with
   | true=>
    have hh:=PE u s n l0 f true tg es ps qq Vo VL c2 yA c5 yA yA yA hl SL WX hr h7 rfl;simp only[fk,if_true,YL];exact Cc u s _ n true (.call true tg es ps) 3 tg 0 0 0 false false eS [] [] _ _ 0 0 _ _ (by simp[cW,bf,nZ];exact⟨⟨rfl,rfl⟩,rfl,rfl⟩) (.inr rfl) R4 hh
   | false=>
    have hh:=JH u s n l0 f false tg es ps qq Vo VL c2 yA c5 yA yA yA hl SL WX hr h7 rfl;simp only[fk,Bool.false_eq_true,if_false,YL];exact Cc u s _ n true (.call false tg es ps) 2 tg 0 0 0 false false eS [] [] _ _ 0 0 _ _ (by simp[cW,bf,nZ];exact⟨⟨rfl,rfl⟩,rfl,rfl⟩) (.inl rfl) R4 hh
end Go.Proofs.YtlkmbdfhdknlgaaGreat
