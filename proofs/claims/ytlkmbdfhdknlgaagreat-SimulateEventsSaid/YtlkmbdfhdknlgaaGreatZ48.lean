/- The program's step at an a -/
import Derived.Test.YtlkmbdfhdknlgaaGreatZ47
namespace Go.Proofs.YtlkmbdfhdknlgaaGreat
open Go.Can Go.aJ List Tryz
set_option maxHeartbeats 4000000 in
set_option maxRecDepth 100000 in
theorem Mz (s:Sy)(t:Nat)(l0:List Fr)(f:Fr)(k:Nat)(gl:Bool)(e:Ex)(hk:if gl=true then k<s.gs.length else k<f.aV.length)(he:vf s.gs.length f.aV.length e)(hl:s.ts[t]? = some (l0++[f]))(SL:s.fault=0)(hs:GY s)(hr:Fm s)(h6:f.pc<=1000000) :
  ae prog 44 [cT s,I t,.agg (cW (.set k gl e))] (.cB [cT (N4 s t l0 f k gl e),.bool true]):=by
 have Ut:eW s t=some f:=by simp[eW,hl,SL]
 have hmf:f∈l0++[f]:=by simp
 have UR:=mem_of_getElem? hl;have Tg:=(hs.f _ UR).1;have T8:l0.length<=1000000:=by simp at Tg;omega
 have VF:=rP s t (rF hs);rw[Ut] at VF;have TN:=qN s t l0 f hl hs;have SN:=rY s.gs f.aV hr.gs (hr.vs _ UR f hmf) e he;have V7:=jg s hs (bN s.gs f.aV e).2;have S7:=cD s;have ttp:trees [cT s,I t]=true:=by simp only[trees,tree,S7,Bool.and_self]
 have V2:trees [cT s,I (bN s.gs f.aV e).2]=true:=by simp only[trees,tree,S7,Bool.and_self]
 have Sa:tree (.cB [cT (N4 s t l0 f k gl e),.bool true])=true:=by simp only[tree,trees,cD,Bool.and_self]
 have X5:N4 s t l0 f k gl e=if (bN s.gs f.aV e).2=0 then
  (if gl=true then { s with gs:=s.gs.set k (bN s.gs f.aV e).1,ts:=s.ts.set t (l0++[{ f with pc:=f.pc+1 }]) }
   else { s with ts:=s.ts.set t (l0++[{ f with pc:=f.pc+1,aV:=f.aV.set k (bN s.gs f.aV e).1 }]) })
  else { s with fault:=(bN s.gs f.aV e).2 }:=rfl
 refine ae.aE ah Tryz.func44 rfl Ix (by simp[Tryz.ntmps44]) Sa λ C hC RR=>?_;rw[Tryz.ntmps44] at hC;rw[X5];generalize bN s.gs f.aV e=va at SN V7 V2 |-;obtain⟨v,fa⟩:=va;have tev:trees [.agg (bf e),ints s.gs,ints f.aV]=true:=by simp only[trees,tree,aL,da,Bool.and_self]
 obtain⟨e1,e2,e3,e4,e5,X1,tec⟩:=fQ e;rw[X1] at SN tev;have tG:trees (s.gs.map dc)=true:=aO s.gs;have tT:trees (s.tb.flatMap dL)=true:=ak cj _;have tL:trees (l0.flatMap dY)=true:=ak cZ _;have tV:trees (f.aV.map dc)=true:=aO f.aV;have tE:=aK f.eA;have Sq:trees ((s.ts.take t).flatMap en)=true:=ak bX _;have SB:trees ((s.ts.drop (t+1)).flatMap en)=true:=ak bX _;have rG:=λ ρ=>af ρ _ tG;have rT:=λ ρ=>af ρ _ tT;have rL:=λ ρ=>af ρ _ tL;have rV:=λ ρ=>af ρ _ tV;have r1:=λ ρ=>af ρ _ Sq;have r2:=λ ρ=>af ρ _ SB;have rE:=λ ρ=>af ρ _ tE;have ra:∀ ρ (a b:List CV),aX ρ (a++b)=aX ρ a++aX ρ b:=λ ρ a b=>by rw[cc,cc,cc,map_append]
 simp only[cT,kX,ints,cW,X1,nZ,cons_append,nil_append,tj,dY,LO] at *;apply aq;simp[hC];refine T.seq (T.rx ah follows [0,1,2,3,4,5,6,7,8,9,10,11,12,13,14,15] [(1,6),(3,6)] Ix ?_);simp[hC];refine RX.call rfl xr rfl rfl rfl ttp VF ?_;simp;refine RX.call rfl xr rfl rfl rfl tev SN ?_;simp;by_cases hf:fa=0
 ·subst hf
  repeat first
   | apply T.seq
   | (apply aN;simp[hC])
   | (refine a9 ?_;simp)
   | (refine dy ?_;simp)
   | (apply T.skip;simp)
   | apply T.block
  refine TL.eQ ah [] [] 0 6 (TN) rfl SQ RT rfl rfl SF SF W9 SF SF (TL.go' ah ?_);simp[hC,bC,bh,aX,cN,bS,rG,rT,rL,rV,r1,r2,ra,aB];refine T.le (Le.norm [10,8,7,6,5,1] [(19,0),(20,1),(21,2),(22,3),(23,4),(25,5),(2,6),(1,7)] 0 8 Sn Sl WR yA) ?_;simp[cm,bh,aX,cN,dZ,assoc,rG,rT,rL,rV,r1,r2,ra];generalize hA:(s.ts.take t).flatMap en=A at Sq r1 |-;generalize hB:(s.ts.drop (t+1)).flatMap en=B at SB r2 |-;generalize hD:l0.flatMap dY=D at tL rL |-;have Si:=(List.getElem?_eq_some_iff.1 hl).1;have lA:A.length=t:=by rw[<- hA,fS,length_map,length_take];omega
  have lB:B.length=s.ts.length-(t+1):=by rw[<- hB,fS,length_map,length_drop]
  have lD:D.length=l0.length*4:=by rw[<- hD];exact aC ef l0
  have V4:=kA s.gs.length s.tb.length s.ts.length t l0.length f.proc f.pc f.aV.length f.eA.length A B D _ _ Sq SB tL tE tV _ (.inl rfl) lA lD Si hs.t T8;rw[SL];apply aq;simp[hC];have a1:A.all (aU 5)=true:=by rw[<- aT];exact bD 5 _ Sq
  have a2:B.all (aU 5)=true:=by rw[<- aT];exact bD 5 _ SB
  have a3:D.all (aU 5)=true:=by rw[<- aT];exact bD 5 _ tL
  refine TL.eQ ah [0,1,2,3,4] [2,3,4] 5 0 V4 rfl SQ RT rfl rfl SQ yCb SQ yCa ZG (TL.go' ah ?_);simp[hC,bC,bh,aX,cN,bS,rL,rV,r1,r2,ra];have dD:∀ r:List CV,(D++r).drop (l0.length*4)=r:=λ r=>by rw[<- lD];simp
  have Ur:∀ (r:List CV) (k:Nat),(D++r).drop (l0.length*4+k)=r.drop k:=λ r k=>by rw[<- lD,drop_append];simp
  have Vn:∀ (r:List CV) (k:Nat),(D++r).take (l0.length*4+k)=D++r.take k:=λ r k=>by rw[<- lD,take_append,take_of_length_le yA];simp
  have Vy:∀ (r:List CV),(D++r).drop (l0.length*4+1+1)=r.drop 2:=λ r=>Ur r 2;have w3:=cF ((f.pc:Int)+1) yA yA;have kF:∀ a b c d:CV,take ((l0.length+1)*4) (D++[a,b,c,d])=D++[a,b,c,d]:=λ a b c d=>take_of_length_le SO;apply aq;simp[hC,w3,lD,Ur,Vn,Vy]
  cases gl with
  | true=>
   have hkg:k<s.gs.length:=hk;have hkg2:k+1<=s.gs.length:=hkg;have eG:take k (s.gs.map dc)++I v::drop (k+1) (s.gs.map dc)=(s.gs.set k v).map dc:=by
    rw[map_set,set_eq_take_append_cons_drop,if_pos (by simpa using hkg)]
   have Vv:(s.gs.set k v).length=s.gs.length:=by simp
   generalize s.gs.set k v=W at eG Vv |-;have Sc:(s.ts.set t (l0++[{ f with pc:=f.pc+1 }])).flatMap en=A++.ax (D++[I f.proc,I ((f.pc:Int)+1),.ax (f.aV.map dc) f.aV.length,.ax (f.eA.map λ n:Nat=>I n) f.eA.length]) (l0.length+1)::B:=by
    rw[set_eq_take_append_cons_drop,if_pos Si,flatMap_append,flatMap_cons,hA,hB];simp[en,dY,hD,ints,aB]
   have tW:trees (W.map dc)=true:=aO W;have rW:=λ ρ=>af ρ _ tW
   repeat first
    | apply T.seq
    | (apply aN;simp[hC,hkg,hkg2,eG])
    | (refine T.cond (b:=false) ?_ ?_;(first | rfl | (simp[ev,assoc];done));simp)
    | (refine T.cond (b:=true) ?_ ?_;(first | rfl | (simp[ev,assoc,lD,dD,Ur,Vn,Vy,hkg,hkg2,eG];done));simp)
    | (apply T.skip;simp)
    | apply T.block
   apply T.ret;refine aa.le (Le.norm [7,6] [(0,0),(1,1),(2,2),(3,3),(4,4),(6,5)] 0 6 Sn Sl (by simp[cI,oe,mg,tree,assoc,-all_eq_true,-all_flatMap,au tW,au tT,au tL,au tV,au Sq,au SB]) yA) ?_;simp[cm,bh,aX,cN,dZ,assoc,rW,rT,rL,rV,r1,r2,ra];refine lq tW tT Sq SB tL tE tV rfl (by simp[Vv]) (aC de _) yA xr ?_;simp[Sc,kF,Vv]
  | false=>
   have R8:k<f.aV.length:=hk;have XU:k+1<=f.aV.length:=R8;have eV:take k (f.aV.map dc)++I v::drop (k+1) (f.aV.map dc)=(f.aV.set k v).map dc:=by
    rw[map_set,set_eq_take_append_cons_drop,if_pos (by simpa using R8)]
   have Vv:(f.aV.set k v).length=f.aV.length:=by simp
   generalize f.aV.set k v=W at eV Vv |-;have Sc:(s.ts.set t (l0++[{ f with pc:=f.pc+1,aV:=W }])).flatMap en=A++.ax (D++[I f.proc,I ((f.pc:Int)+1),.ax (W.map dc) f.aV.length,.ax (f.eA.map λ n:Nat=>I n) f.eA.length]) (l0.length+1)::B:=by
    rw[set_eq_take_append_cons_drop,if_pos Si,flatMap_append,flatMap_cons,hA,hB];simp[en,dY,hD,ints,aB,Vv]
   have tW:trees (W.map dc)=true:=aO W;have rW:=λ ρ=>af ρ _ tW
   repeat first
    | apply T.seq
    | (apply aN;simp[hC])
    | (refine T.cond (b:=false) ?_ ?_;(first | rfl | (simp[ev,assoc,lD,dD,Ur,Vn,Vy];done));simp)
    | (refine T.cond (b:=true) ?_ ?_;(first | rfl | (simp[ev,assoc,lD,dD,Ur,Vn,Vy];done));simp)
    | (apply T.skip;simp)
    | apply T.block
   refine T.rx ah follows [0,1,2,3,4,5,6,7,8] [] Ix ?_;simp[hC,R8,XU,Ur,eV]
   repeat first
    | apply T.seq
    | (apply aN;simp[hC])
    | (refine T.cond (b:=false) ?_ ?_;(first | rfl | (simp[ev,assoc,lD];done));simp)
    | (refine T.cond (b:=true) ?_ ?_;(first | rfl | (simp[ev,assoc,lD];done));simp)
    | (apply T.skip;simp)
    | apply T.block
   apply T.ret;refine aa.le (Le.norm [7,6] [(0,0),(1,1),(2,2),(3,3),(4,4),(6,5)] 0 6 Sn Sl (by simp[cI,oe,mg,tree,assoc,-all_eq_true,-all_flatMap,au tG,au tT,au tL,au tW,au Sq,au SB]) yA) ?_;simp[cm,bh,aX,cN,dZ,assoc,rG,rT,rL,rW,r1,r2,ra];refine lq tG tT Sq SB tL tE tW rfl xr (aC de _) yA (by simp[Vv]) ?_;simp[Sc,kF]
 ·have SE:((fa:Int) != 0)=true:=by rw[bne_iff_ne];omega
  repeat first
   | apply T.seq
   | (apply aN;simp[hC,SE])
   | (refine T.cond (b:=false) ?_ ?_;(first | rfl | (simp[ev,assoc];done));simp)
   | (refine T.cond (b:=true) ?_ ?_;(first | rfl | (simp[ev,assoc,SE];done));simp)
   | (apply T.skip;simp)
   | apply T.block
  refine cX V2 V7 ?_;simp[hC];apply T.ret;refine aa.le (Le.trim [7,6] [2] 19 VA yA) ?_;simp;apply aa.here;simp[hf]
theorem JG (ms:List Mx)(hm:Fo ms)(tb:List Ho)(e th:Nat)(he:e<(bR ms).length)(hl:tb.length=(bR ms).length)(ho:∀ m∈bR ms,m<ms.length)(ht:th<=1000000)(hb:tb.length<=1000000)(hd:∀ h∈tb,h.o<=1000000) :
  ae prog 135 [.ax (ms.flatMap cH) ms.length,.ax (tb.flatMap dL) tb.length,I e,I th] (.bool (xC ms tb e th)):=by
 obtain⟨m,YK⟩:∃ m,(bR ms)[e]? = some m:=⟨_,getElem?_eq_getElem he⟩;have TZ:e<tb.length:=by omega
 obtain⟨h,hh⟩:∃ h,tb[e]? = some h:=⟨_,getElem?_eq_getElem TZ⟩;have hhd:=hd h (mem_of_getElem? hh);have Tb:=ho m (mem_of_getElem? YK);obtain⟨x,hx⟩:∃ x,ms[m]? = some x:=⟨_,getElem?_eq_getElem Tb⟩;have hmo:=uU ms hm e yA;have hmv:kD ms e=m:=by simp[kD,YK,show ¬ (e:Int)<0 by omega]
 rw[hmv] at hmo;have hf:xC ms tb e th=(decide (h.o=0) || (decide (h.o=th+1) && x.re)):=by simp only[xC,YK,hh,hx]
 rw[hf];have VY:=aI (f:=dL) (n:=2) de hh;have T1:=b9 (f:=cH) (n:=3) (λ _=>rfl) hx 1 yA;have RQ:trees [.ax (ms.flatMap cH) ms.length,I e]=true:=by simp only[trees,tree,Bool.and_self]
 have wt:=cF ((h.o:Int)-1) yA yA;have Wi:¬ (m:Int)<0:=by omega
 have Up:¬ (th:Int)<0:=by omega
 have Yi:¬ (tb.length<=e):=by omega
 refine ae.aE ah Tryz.func135 rfl Ix (by simp[Tryz.ntmps135]) rfl λ C hC RR=>?_;rw[Tryz.ntmps135] at hC;apply aq;simp[hC];apply aq;simp[hC];refine cX RQ hmo ?_;simp[hC];apply aW;simp[hC,Wi,Up,Yi];refine fX ?_;simp;by_cases h0:h.o=0
 ·repeat first
   | apply T.seq
   | (apply aN;simp[hC,TZ,VY,dL,h0])
   | (refine T.cond (b:=false) ?_ ?_;(first | rfl | (simp[ev,assoc,TZ,VY,dL,h0];done));simp)
   | (refine T.cond (b:=true) ?_ ?_;(first | rfl | (simp[ev,assoc,TZ,VY,dL,h0];done));simp)
   | (apply T.skip;simp)
   | apply T.block
  apply T.ret;apply aa.here;simp[Tryz.results135]
 ·by_cases h1:h.o=th+1
  ·have hz:((h.o:Int)-1 == (th:Int))=true:=by rw[beq_iff_eq];omega
   repeat first
    | apply T.seq
    | (apply aN;simp[hC,TZ,VY,dL,h0,hz,wt,Tb,T1,cH])
    | (refine T.cond (b:=false) ?_ ?_;(first | rfl | (simp[ev,assoc,TZ,VY,dL,h0,hz,wt,Tb,T1,cH];done));simp)
    | (refine T.cond (b:=true) ?_ ?_;(first | rfl | (simp[ev,assoc,TZ,VY,dL,h0,hz,wt,Tb,T1,cH];done));simp)
    | (apply T.skip;simp)
    | apply T.block
   apply T.ret;apply aa.here;simp[Tryz.results135,h1]
  ·have hz:((h.o:Int)-1 == (th:Int))=false:=by rw[beq_eq_false_iff_ne];omega
   repeat first
    | apply T.seq
    | (apply aN;simp[hC,TZ,VY,dL,h0,hz,wt])
    | (refine T.cond (b:=false) ?_ ?_;(first | rfl | (simp[ev,assoc,TZ,VY,dL,h0,hz,wt,Tb,T1,cH];done));simp)
    | (refine T.cond (b:=true) ?_ ?_;(first | rfl | (simp[ev,assoc,TZ,VY,dL,h0,hz,wt,Tb,T1,cH];done));simp)
    | (apply T.skip;simp)
    | apply T.block
   apply T.ret;apply aa.here;simp[Tryz.results135,h1]
theorem JC (ms:List Mx)(hm:Fo ms)(tb:List Ho)(e th:Nat)(he:e<(bR ms).length)(hl:tb.length=(bR ms).length)(ho:∀ m∈bR ms,m<ms.length)(ht:th<=1000000)(hb:tb.length<=1000000)(hd:∀ h∈tb,h.d<=1000000)(Vt:∀ h∈tb,h.o<=1000000) :
  ae prog 93 [.ax (ms.flatMap cH) ms.length,.ax (tb.flatMap dL) tb.length,I e,I th] (.cB [.ax ((fH ms tb e th).1.flatMap dL) (fH ms tb e th).1.length,.bool (fH ms tb e th).2]):=by
 have TZ:e<tb.length:=by omega
 obtain⟨h,hh⟩:∃ h,tb[e]? = some h:=⟨_,getElem?_eq_getElem TZ⟩;have hhd:=hd h (mem_of_getElem? hh);have TE:=JG ms hm tb e th he hl ho ht hb Vt;have ttb:=ak cj tb;have RQ:trees [.ax (ms.flatMap cH) ms.length,.ax (tb.flatMap dL) tb.length,I e,I th]=true:=by simp only[trees,tree,Bool.and_self]
 have VY:=b9 (f:=dL) (n:=2) de hh 1 yA;have wt:=cF ((th:Int)+1) yA yA;have wd:=cF ((h.d:Int)+1) yA yA;have SK:(tb.flatMap dL).length=tb.length*2:=aC (f:=dL) (n:=2) de tb;have tke:take (tb.length*2) (tb.flatMap dL)=tb.flatMap dL:=take_of_length_le yA;have rL:=λ ρ=>af ρ _ ttb;refine ae.aE ah Tryz.func93 rfl Ix (by simp[Tryz.ntmps93]) rfl λ C hC RR=>?_;rw[Tryz.ntmps93] at hC;apply aq;simp[hC];apply aq;simp[hC];refine TL.eQ ah [] [] 0 1 (uB tb hb) rfl SQ RT rfl rfl SF SF W9 SF SF (TL.go' ah ?_);simp[hC,bC,bh,cN,bS,rL];apply aW;simp[hC];refine cX RQ TE ?_;simp[hC]
 cases hf:xC ms tb e th with
 | false=>
  refine T.cond (b:=true) Ta ?_;simp;apply aq;simp[hC];apply T.ret;refine aa.le (Le.trim [8,9] [0] 1 yCv yA) ?_;simp;refine aa.le (Le.dn (o:=0) rfl ttb) ?_;simp[tke];apply aa.here;simp[fH,hf]
 | true=>
  have WG:fH ms tb e th=(tb.set e ⟨th+1,h.d+1⟩,true):=by simp only[fH,hf,hh,if_true]
  rw[WG];refine T.cond (b:=false) Ta (T.skip ?_);simp;have TG:e*2+2<=tb.length*2:=by omega
  have Sc:=Kz ⟨th+1,h.d+1⟩ tb e TZ;rw[show (((th+1:Nat):Int))=(th:Int)+1 from rfl,show (((h.d+1:Nat):Int))=(h.d:Int)+1 from rfl] at Sc;have Xr:=ak cj (tb.set e ⟨th+1,h.d+1⟩);have tks:take (tb.length*2) ((tb.set e ⟨th+1,h.d+1⟩).flatMap dL)=(tb.set e ⟨th+1,h.d+1⟩).flatMap dL:=take_of_length_le yCf;apply aq;simp[hC,TZ,VY,dL,SK,wt,wd,TG];rw[Sc];apply aq;simp[hC];apply T.ret;refine aa.le (Le.trim [8,9] [0] 1 yCc yA) ?_;simp;refine aa.le (Le.dn (o:=0) rfl Xr) ?_;simp[tks];apply aa.here;simp
theorem Ep (ms:List Mx)(tb:List Ho)(e th:Nat)(he:e<(bR ms).length)(hl:tb.length=(bR ms).length)(ht:th<=1000000)(hb:tb.length<=1000000)(hd:∀ h∈tb,h.d<=1000000/\(h.o≠0->0<h.d))(Vt:∀ h∈tb,h.o<=1000000) :
  ae prog 94 [.ax (ms.flatMap cH) ms.length,.ax (tb.flatMap dL) tb.length,I e,I th] (.cB [.ax ((dm ms tb e th).1.flatMap dL) (dm ms tb e th).1.length,.bool (dm ms tb e th).2]):=by
 have TZ:e<tb.length:=by omega
 obtain⟨m,YK⟩:∃ m,(bR ms)[e]? = some m:=⟨_,getElem?_eq_getElem he⟩;obtain⟨h,hh⟩:∃ h,tb[e]? = some h:=⟨_,getElem?_eq_getElem TZ⟩;obtain⟨hhd,hhp⟩:=hd h (mem_of_getElem? hh);have hho:=Vt h (mem_of_getElem? hh);have ttb:=ak cj tb;have VY:=aI (f:=dL) (n:=2) de hh;have wt:=cF ((h.o:Int)-1) yA yA;have SK:(tb.flatMap dL).length=tb.length*2:=aC (f:=dL) (n:=2) de tb;have tke:take (tb.length*2) (tb.flatMap dL)=tb.flatMap dL:=take_of_length_le yA;have V0:(tb.flatMap dL)[e*2+1]? = some (I h.d):=by rw[<- getElem?_drop,VY];rfl
 have rL:=λ ρ=>af ρ _ ttb;have Wi:¬ (e:Int)<0:=by omega
 have Up:¬ (th:Int)<0:=by omega
 have Yi:¬ (tb.length<=e):=by omega
 have hul:dm ms tb e th=if h.o=th+1 then (tb.set e (if h.d=1 then ⟨0,0⟩ else ⟨th+1,h.d-1⟩),true) else (tb,false):=by simp only[dm,YK,hh]
 rw[hul];refine ae.aE ah Tryz.func94 rfl Ix (by simp[Tryz.ntmps94]) rfl λ C hC RR=>?_;rw[Tryz.ntmps94] at hC;apply aq;simp[hC];apply aq;simp[hC];refine TL.eQ ah [] [] 0 1 (uB tb hb) rfl SQ RT rfl rfl SF SF W9 SF SF (TL.go' ah ?_);simp[hC,bC,bh,cN,bS,rL];by_cases Xc:h.o=th+1
 ·rw[if_pos Xc];have We:((h.o:Int)-1 != (th:Int))=false:=by rw[bne_eq_false_iff_eq];omega
  have UL:=hhp yA;apply aW;simp[hC,Wi,Up,Yi,TZ,VY,dL,wt,We];refine fX ?_;simp;have wd:=cF ((h.d:Int)-1) yA yA;have TG:e*2+2<=tb.length*2:=by omega
  have hsd:=Gn (h.d-1) tb e h hh;rw[show (((h.d-1:Nat):Int))=(h.d:Int)-1 by omega] at hsd;apply aq;simp[hC,TZ,V0,SK,wd,TG];rw[show e*2+1+1=e*2+2 from rfl,hsd];have hh2:(tb.set e ⟨h.o,h.d-1⟩)[e]? = some ⟨h.o,h.d-1⟩:=by rw[getElem?_set,if_pos rfl,if_pos TZ]
  have S8:(tb.set e ⟨h.o,h.d-1⟩).length=tb.length:=by simp
  have hss:(tb.set e ⟨h.o,h.d-1⟩).set e ⟨0,h.d-1⟩=tb.set e ⟨0,h.d-1⟩:=by simp
  have hho:(⟨h.o,h.d-1⟩:Ho)=⟨th+1,h.d-1⟩:=by rw[Xc]
  by_cases SU:h.d=1
  ·rw[if_pos SU];generalize tb.set e ⟨h.o,h.d-1⟩=t2 at hh2 S8 hss;have XE:=Gm 0 t2 e _ hh2;rw[hss,show (⟨0,h.d-1⟩:Ho)=⟨0,0⟩ by rw[SU],show (((0:Nat):Int))=0 from rfl] at XE;have YT:=aI (f:=dL) (n:=2) de hh2;have To:(t2.flatMap dL)[e*2+1]? = some (I 0):=by rw[<- getElem?_drop,YT];simp[dL,SU]
   have Wn:(t2.flatMap dL).length=tb.length*2:=by rw[aC (f:=dL) (n:=2) de,S8]
   have hb3:e*2+1<=tb.length*2:=by omega
   have Xr:=ak cj (tb.set e ⟨0,0⟩);have tks:take (tb.length*2) ((tb.set e ⟨0,0⟩).flatMap dL)=(tb.set e ⟨0,0⟩).flatMap dL:=take_of_length_le yCf;apply aW;simp[hC,TZ,To];refine dy ?_;simp;apply aN;simp[hC,TZ,Wn,hb3];rw[XE];apply aq;simp[hC];apply T.ret;refine aa.le (Le.trim [8,9] [0] 1 yCc yA) ?_;simp;refine aa.le (Le.dn (o:=0) rfl Xr) ?_;simp[tks];apply aa.here;simp
  ·rw[if_neg SU];rw[hho] at hh2 S8 |-;have YT:=aI (f:=dL) (n:=2) de hh2;have Xr:=ak cj (tb.set e ⟨th+1,h.d-1⟩);have tks:take (tb.length*2) ((tb.set e ⟨th+1,h.d-1⟩).flatMap dL)=(tb.set e ⟨th+1,h.d-1⟩).flatMap dL:=take_of_length_le yCf;have hlS:(tb.set e ⟨th+1,h.d-1⟩).length=tb.length:=by simp
   generalize tb.set e ⟨th+1,h.d-1⟩=t2 at hh2 S8 YT Xr tks hlS |-;have To:(t2.flatMap dL)[e*2+1]? = some (I (h.d-1:Nat)):=by rw[<- getElem?_drop,YT];rfl
   have hnz:(((h.d-1:Nat):Int) == 0)=false:=by rw[beq_eq_false_iff_ne];omega
   apply aW;simp[hC,TZ,To,hnz];refine T.cond (b:=false) Ta (T.skip ?_);simp;apply aq;simp[hC];apply T.ret;refine aa.le (Le.trim [8,9] [0] 1 yCc yA) ?_;simp;refine aa.le (Le.dn (o:=0) rfl Xr) ?_;simp[tks];apply aa.here;simp
 ·rw[if_neg Xc];have We:((h.o:Int)-1 != (th:Int))=true:=by rw[bne_iff_ne];omega
  apply aW;simp[hC,Wi,Up,Yi,TZ,VY,dL,wt,We];refine dy ?_;simp;apply aq;simp[hC];apply T.ret;refine aa.le (Le.trim [8,9] [0] 1 yCv yA) ?_;simp;refine aa.le (Le.dn (o:=0) rfl ttb) ?_;simp[tke];apply aa.here;simp
theorem KO {C:Cx}{K:St->Prop}{r q:Nat}{bo:Bool}{G T S:List CV}{g b m:Nat}{fa:Int}(hG:trees G=true)(hT:trees T=true)(hS:trees S=true)(lG:G.length=g)(lT:T.length=b*2)(lS:S.length=m)
  (h:K ⟨[(q,.bool bo),(r,.aw 5 0)],[(5,⟨40,0,[.ax G g,.ax T b,.ax S m,I fa]⟩)],6⟩) :
  aa C K ⟨[(q,.bool bo),(r,.aw 5 0)],[(0,⟨3,1,G⟩),(1,⟨122,2,T⟩),(2,⟨81,1,S⟩),(5,⟨40,0,[.bb 0 0 g,.bb 1 0 b,.bb 2 0 m,I fa]⟩)],6⟩:=by
 have kG:take g G=G:=take_of_length_le yA;have kT:take (b*2) T=T:=take_of_length_le yA;have kS:take m S=S:=take_of_length_le yA;refine aa.le (Le.dn (o:=0) rfl hG) ?_;simp[kG,aS hT,aS hS];refine aa.le (Le.dn (o:=1) rfl hT) ?_;simp[kT,aS hS];refine aa.le (Le.dn (o:=2) rfl hS) ?_;simp[kS];exact aa.here h
def Ng (s:Sy)(t:Nat)(l0:List Fr)(f:Fr)(un:Bool)(fa:Nat)(W:List Ho)(ok:Bool):Sy×Bool:=
 if fa=0 then (if ok=true then ({ s with tb:=W,ts:=s.ts.set t (l0++[{ f with pc:=f.pc+1 }]) },true) else if un=true then ({ s with fault:=3 },true) else (s,false)) else ({ s with fault:=fa },true)
set_option maxHeartbeats 4000000 in
set_option maxRecDepth 100000 in
theorem Cg (u:Un)(s:Sy)(t:Nat)(l0:List Fr)(f:Fr)(p:Pl)(un:Bool)(n fa:Nat)(W:List Ho)(ok:Bool)(hn:bT u s t p=((n:Int),fa))(hm:Fo u.ms)(XH:p.index<=1000000)(T0:vW u.ms s.gs.length f.aV.length f.eA.length p)
  (WG:fa=0->ae prog (if un then 94 else 93) [.ax (u.ms.flatMap cH) u.ms.length,.ax (s.tb.flatMap dL) s.tb.length,I n,I t] (.cB [.ax (W.flatMap dL) W.length,.bool ok])) (_hW:W.length=s.tb.length)
  (hl:s.ts[t]? = some (l0++[f])) (SL:s.fault=0) (hs:GY s) (hr:Fm s) (h6:f.pc<=1000000) :
  ae prog 43 [cg u,cT s,I t,.agg (cW (.lock un p))] (.cB [cT (Ng s t l0 f un fa W ok).1,.bool (Ng s t l0 f un fa W ok).2]):=by
 have Ut:eW s t=some f:=by simp[eW,hl,SL]
 have UR:=mem_of_getElem? hl;have Tg:=(hs.f _ UR).1;have T8:l0.length<=1000000:=by simp at Tg;omega
 have TN:=qN s t l0 f hl hs;have Se:=E6 s hs;have R7:=Ch u s t p hm hr (rF hs) XH f Ut T0;rw[hn] at R7;have V7:=jg s hs fa;have Vs:=jg s hs 3;have S7:=cD s;have R6:=bj u;have txe:trees [cg u,cT s,I t,.agg (gW p)]=true:=by simp only[trees,tree,cY,S7,cg,R6,Bool.and_self]
 have V2:trees [cT s,I fa]=true:=by simp only[trees,tree,S7,Bool.and_self]
 have tf3:trees [cT s,I (3:Nat)]=true:=by simp only[trees,tree,S7,Bool.and_self]
 have tlk:trees [.ax (u.ms.flatMap cH) u.ms.length,.ax (s.tb.flatMap dL) s.tb.length,I n,I t]=true:=by simp only[trees,tree,Bool.and_self]
 have Sa:tree (.cB [cT (Ng s t l0 f un fa W ok).1,.bool (Ng s t l0 f un fa W ok).2])=true:=by simp only[tree,trees,cD,Bool.and_self]
 refine ae.aE ah Tryz.func43 rfl Ix (by simp[Tryz.ntmps43]) Sa λ C hC RR=>?_;rw[Tryz.ntmps43] at hC;clear Sa;unfold Ng;obtain⟨p1,p2,p3,p4,gZ,tpc⟩:=oL p;rw[gZ] at R7 txe;have tG:trees (s.gs.map dc)=true:=aO s.gs;have tT:trees (s.tb.flatMap dL)=true:=ak cj _;have tL:trees (l0.flatMap dY)=true:=ak cZ _;have tV:trees (f.aV.map dc)=true:=aO f.aV;have tE:=aK f.eA;have Sq:trees ((s.ts.take t).flatMap en)=true:=ak bX _;have SB:trees ((s.ts.drop (t+1)).flatMap en)=true:=ak bX _;have rG:=λ ρ=>af ρ _ tG;have rT:=λ ρ=>af ρ _ tT;have rL:=λ ρ=>af ρ _ tL;have rV:=λ ρ=>af ρ _ tV;have r1:=λ ρ=>af ρ _ Sq;have r2:=λ ρ=>af ρ _ SB;have rE:=λ ρ=>af ρ _ tE;have ra:∀ ρ (a b:List CV),aX ρ (a++b)=aX ρ a++aX ρ b:=λ ρ a b=>by rw[cc,cc,cc,map_append]
 have tS:trees (s.ts.flatMap en)=true:=ak bX _;have rS:=λ ρ=>af ρ _ tS;have tW:trees (W.flatMap dL)=true:=ak cj _;have rW:=λ ρ=>af ρ _ tW;simp only[cT,kX,cg,cR,ints,cW,bf,gZ,cons_append,nil_append,LO,RI] at *;apply aq;simp[hC];apply aq;simp[hC];refine cX txe R7 ?_;simp[hC];by_cases hf:fa=0
 ·subst hf;have WG:=WG rfl
  repeat first
   | apply T.seq
   | (apply aN;simp[hC])
   | (refine a9 ?_;simp)
   | (refine dy ?_;simp)
   | (apply T.skip;simp)
   | apply T.block
  cases ok with
  | false=>
   cases un with
   | false=>
    repeat first
     | apply T.seq
     | (apply aN;simp[hC])
     | (refine a9 ?_;simp)
     | (refine dy ?_;simp)
     | (apply T.skip;simp)
     | apply T.block
    refine cX tlk WG ?_;simp[hC]
    repeat first
     | apply T.seq
     | (apply aN;simp[hC])
     | (refine a9 ?_;simp)
     | (refine dy ?_;simp)
     | (apply T.skip;simp)
     | apply T.block
    refine TL.eQ ah [] [] 0 6 (Se) rfl SQ RT rfl rfl SF SF W9 SF SF (TL.go' ah ?_);simp[hC,bC,bh,aX,cN,bS,rG,rT,rS];apply T.ret;refine aa.le (Le.norm [9,8] [(4,0),(5,1),(6,2),(3,5)] 0 6 Sn Sl yDc yA) ?_;simp[cm,bh,aX,cN,dZ,assoc,rG,rT,rS];refine KO tG tT tS xr (aC de _) (by simpa using aC na s.ts) ?_;simp
   | true=>
    repeat first
     | apply T.seq
     | (apply aN;simp[hC])
     | (refine a9 ?_;simp)
     | (refine dy ?_;simp)
     | (apply T.skip;simp)
     | apply T.block
    refine cX tlk WG ?_;simp[hC]
    repeat first
     | apply T.seq
     | (apply aN;simp[hC])
     | (refine a9 ?_;simp)
     | (refine dy ?_;simp)
     | (apply T.skip;simp)
     | apply T.block
    refine cX tf3 Vs ?_;simp[hC];apply T.ret;refine aa.le (Le.trim [9,8] [3] 99 VA yA) ?_;simp;apply aa.here;simp
  | true=>
   have Sc:(s.ts.set t (l0++[{ f with pc:=f.pc+1 }])).flatMap en=(s.ts.take t).flatMap en++.ax (l0.flatMap dY++[I f.proc,I ((f.pc:Int)+1),.ax (f.aV.map dc) f.aV.length,.ax (f.eA.map λ n:Nat=>I n) f.eA.length]) (l0.length+1)::(s.ts.drop (t+1)).flatMap en:=by
    rw[set_eq_take_append_cons_drop,if_pos (List.getElem?_eq_some_iff.1 hl).1,flatMap_append,flatMap_cons];simp[en,dY,ints,aB]
   cases un
   all_goals
    repeat first
     | apply T.seq
     | (apply aN;simp[hC])
     | (refine a9 ?_;simp)
     | (refine dy ?_;simp)
     | (apply T.skip;simp)
     | apply T.block
    refine cX tlk WG ?_;simp[hC]
    repeat first
     | apply T.seq
     | (apply aN;simp[hC])
     | (refine a9 ?_;simp)
     | (refine dy ?_;simp)
     | (apply T.skip;simp)
     | apply T.block
    refine TL.eQ ah [] [] 0 6 (TN) rfl SQ RT rfl rfl SF SF W9 SF SF (TL.go' ah ?_);simp[hC,bC,bh,aX,cN,bS,rG,rT,rL,rV,r1,r2,ra,aB];refine T.le (Le.norm [15,13,9,8,2] [(4,0),(5,1),(6,2),(7,3),(8,4),(10,5),(3,6)] 0 7 Sn Sl WR yA) ?_;simp[cm,bh,aX,cN,dZ,assoc,rG,rT,rL,rV,r1,r2,ra];generalize hA:(s.ts.take t).flatMap en=A at Sq r1 |-;generalize hB:(s.ts.drop (t+1)).flatMap en=B at SB r2 |-;generalize hD:l0.flatMap dY=D at tL rL |-;have Si:=(List.getElem?_eq_some_iff.1 hl).1;have lA:A.length=t:=by rw[<- hA,fS,length_map,length_take];omega
    have lB:B.length=s.ts.length-(t+1):=by rw[<- hB,fS,length_map,length_drop]
    have lD:D.length=l0.length*4:=by rw[<- hD];exact aC ef l0
    have V4:=kA s.gs.length W.length s.ts.length t l0.length f.proc f.pc f.aV.length f.eA.length A B D _ _ Sq SB tL tE tV _ (.inr ⟨W.flatMap dL,rfl⟩) lA lD Si hs.t T8;rw[SL];apply aq;simp[hC];apply aq;simp[hC];have a1:A.all (aU 5)=true:=by rw[<- aT];exact bD 5 _ Sq
    have a2:B.all (aU 5)=true:=by rw[<- aT];exact bD 5 _ SB
    have a3:D.all (aU 5)=true:=by rw[<- aT];exact bD 5 _ tL
    have dD:∀ r:List CV,(D++r).drop (l0.length*4)=r:=λ r=>by rw[<- lD];simp
    have Ur:∀ (r:List CV) (k:Nat),(D++r).drop (l0.length*4+k)=r.drop k:=λ r k=>by rw[<- lD,drop_append];simp
    have Vn:∀ (r:List CV) (k:Nat),(D++r).take (l0.length*4+k)=D++r.take k:=λ r k=>by rw[<- lD,take_append,take_of_length_le yA];simp
    have Vy:∀ (r:List CV),(D++r).drop (l0.length*4+1+1)=r.drop 2:=λ r=>Ur r 2;have w3:=cF ((f.pc:Int)+1) yA yA;refine TL.eQ ah [0,1,2,3,4] [2,3,4] 5 0 V4 rfl SQ RT rfl rfl SQ yCb SQ yCa ZG (TL.go' ah ?_);simp[hC,bC,bh,aX,cN,bS,rL,rV,r1,r2,ra,w3,lD,Ur,Vn,Vy];have kF:∀ a b c d:CV,take ((l0.length+1)*4) (D++[a,b,c,d])=D++[a,b,c,d]:=λ a b c d=>take_of_length_le SO;rw[hA,hB,hD] at Sc;apply aq;simp[hC];apply T.ret;refine aa.le (Le.norm [9,8] [(0,0),(2,2),(3,3),(4,4),(6,5)] 0 6 Sn Sl (by simp[cI,oe,mg,tree,assoc,-all_eq_true,-all_flatMap,au tG,au tL,au tV,au Sq,au SB]) yA) ?_;simp[cm,bh,aX,cN,dZ,assoc,rG,rL,rV,r1,r2,ra];refine C5 tG tW Sq SB tL tE tV rfl xr yA xr ?_;simp[Sc,kF]
 ·have SE:((fa:Int) != 0)=true:=by rw[bne_iff_ne];omega
  repeat first
   | apply T.seq
   | (apply aN;simp[hC,SE])
   | (refine T.cond (b:=false) ?_ ?_;(first | rfl | (simp[ev,assoc];done));simp)
   | (refine T.cond (b:=true) ?_ ?_;(first | rfl | (simp[ev,assoc,SE];done));simp)
   | (apply T.skip;simp)
   | apply T.block
  refine cX V2 V7 ?_;simp[hC];apply T.ret;refine aa.le (Le.trim [9,8] [3] 99 VA yA) ?_;simp;apply aa.here;simp[hf]
def DB (V:List Int×Nat)(L:List Nat×Nat):CV:=if V.2=0 then (if L.2=0 then .cB [ints V.1,aB L.1,I 0] else .cB [.aj,.aj,I L.2]) else .cB [.aj,.aj,I V.2]
def ha (u:Un)(s:Sy)(ko:Int)(tg:Nat)(es:List Ex)(ps:List Pl):List (Nat×Ob):=
 [(0,⟨30,0,[.ax (u.gs.map dc) u.gs.length,.ax (u.ms.flatMap cH) u.ms.length,.ax (u.ps.flatMap mW) u.ps.length,I u.main]⟩),
  (1,⟨40,0,[.ax (s.gs.map dc) s.gs.length,.ax (s.tb.flatMap dL) s.tb.length,.ax (s.ts.flatMap en) s.ts.length,I s.fault]⟩),
  (2,⟨90,0,[I ko,I tg,.bool false,I 0,I 0,.str eS,.ax [] 0,.bool false,I 0,.ax [] 0,.ax (es.flatMap bf) es.length,.ax (ps.flatMap gW) ps.length]⟩)]
def JA (u:Un)(s:Sy)(t:Int)(f:Fr)(ko:Int)(tg:Nat)(es:List Ex)(ps:List Pl)(n:Nat)(σ:St):Prop:=∃ (i:Nat) (G:List Int),n=es.length-i/\i<=es.length/\G.length=i/\
 db s.gs f.aV es=(G++(db s.gs f.aV (es.drop i)).1,(db s.gs f.aV (es.drop i)).2)/\
 σ=⟨[(28,I i),(27,I es.length),(26,.ax (es.flatMap bf) es.length),(13,.cQ (dY f)),(12,.aj),(11,.bb 3 0 i),(7,.aw 2 0),(5,.aw 1 0),(4,.aw 0 0),(2,I t)],(3,⟨3,1,G.map dc⟩)::ha u s ko tg es ps,4⟩
def JAB (u:Un)(s:Sy)(t:Int)(ko:Int)(tg:Nat)(es:List Ex)(ps:List Pl)(G:List Int)(n:Nat)(σ:St):Prop:=∃ (k:Nat) (L:List Nat),n=ps.length-k/\k<=ps.length/\L.length=k/\
 dp u s t ps=(L++(dp u s t (ps.drop k)).1,(dp u s t (ps.drop k)).2)/\
 σ=⟨[(54,I k),(53,I ps.length),(52,.ax (ps.flatMap gW) ps.length),(12,.bb 4 0 k),(11,.bb 3 0 G.length),(7,.aw 2 0),(5,.aw 1 0),(4,.aw 0 0),(2,I t)],(3,⟨3,1,G.map dc⟩)::(4,⟨3,1,L.map λ n:Nat=>I n⟩)::ha u s ko tg es ps,5⟩
set_option maxHeartbeats 4000000 in
set_option maxRecDepth 100000 in
theorem FV (u:Un)(s:Sy)(t:Int)(f:Fr)(go:Bool)(tg:Nat)(es:List Ex)(ps:List Pl)(hm:Fo u.ms)(hs:GY s)(hr:Fm s)(ht:eW s t=some f)
  (he:∀ e∈es,vf s.gs.length f.aV.length e) (R7:es.length<=1000) (hp:∀ p∈ps,p.index<=1000000/\vW u.ms s.gs.length f.aV.length f.eA.length p) (SR:ps.length<=1000) :
  ae prog 90 [cg u,cT s,I t,.agg (cW (.call go tg es ps))] (DB (db s.gs f.aV es) (dp u s t ps)):=by
 have VF:=rP s t (rF hs);rw[ht] at VF;obtain⟨lf,Xf,hff⟩:=wx ht;have RQ:trees [cT s,I t]=true:=by simp only[trees,tree,cD,Bool.and_self]
 have R6:=bj u;have S7:=cD s;have Sa:tree (DB (db s.gs f.aV es) (dp u s t ps))=true:=by
  unfold DB;split
  ·split
   ·simp only[tree,trees,da,aM,Bool.and_self]
   ·rfl
  ·rfl
 refine ae.aE ah Tryz.func90 rfl Ix (by simp[Tryz.ntmps90]) Sa λ C hC RR=>?_;rw[Tryz.ntmps90] at hC;clear Sa;simp only[cT,kX,cg,cR,ints] at *;generalize hKo:(if go=true then (3:Int) else 2)=ko;simp only[cW,bf,nZ,cons_append,nil_append];apply aq;simp[hC];apply aq;simp[hC];apply aq;simp[hC];refine cX RQ VF ?_;simp[hC,tj];apply aW;simp[hC];apply T.block;have tes:trees (es.flatMap bf)=true:=ak aL es;have tps:trees (ps.flatMap gW)=true:=ak cY ps;have tG:trees (s.gs.map dc)=true:=aO s.gs;have tT:trees (s.tb.flatMap dL)=true:=ak cj _;have tS:trees (s.ts.flatMap en)=true:=ak bX _;have tV:trees (f.aV.map dc)=true:=aO f.aV;have tE:=aK f.eA;have Yb:trees (u.gs.map dc)=true:=aO u.gs;have Ya:=dG u.ms;have cB:trees (u.ps.flatMap mW)=true:=ak gy u.ps;have rs1:=λ ρ=>af ρ _ tV;have rs2:=λ ρ=>af ρ _ tE;have rs3:=λ ρ=>af ρ _ tes;have rs4:=λ ρ=>af ρ _ tps;have rs5:=λ ρ=>af ρ _ tG;have rs6:=λ ρ=>af ρ _ tT;have rs7:=λ ρ=>af ρ _ tS;have rs8:=λ ρ=>af ρ _ Yb;have rs9:=λ ρ=>af ρ _ Ya;have rs10:=λ ρ=>af ρ _ cB;refine T.aH (JA u s t f ko tg es ps) (n:=es.length) ?_ ?_
 ·refine aa.le (Le.own 11 3 1 rfl) ?_;simp;refine aa.le (Le.norm [28,27,26,13,12,11,7,5,4,2] [(3,3),(0,0),(1,1),(2,2)] 0 4 Sn Sl (by simp[cI,oe,mg,tree,assoc,-all_eq_true,-all_flatMap,dY,ints,aB]) yA) ?_;simp[cm,bh,aX,cN,dZ,assoc,dY,ints,aB];refine aa.here ⟨0,[],by omega,by omega,rfl,by simp,?_⟩;simp[ha,hKo,dY,ints,aB]
 ·rintro n σ ⟨i,G,rfl,hi,hGl,SN,rfl⟩;simp only[ha];by_cases Og:i<es.length
  ·obtain⟨e,W3⟩:∃ e,es[i]? = some e:=⟨_,getElem?_eq_getElem Og⟩;have Wc:=rY s.gs f.aV hr.gs (hr.vs lf Xf f hff) e (he e (mem_of_getElem? W3));have Xj:=aI (f:=bf) (n:=4) bA W3;have Qd:es.drop i=e::es.drop (i+1):=by rw[drop_eq_getElem_cons Og];simp[(List.getElem?_eq_some_iff.1 W3).2]
   have wi:=cF ((i:Int)+1) yA yA;have b1:(i+1)*8<=140737488355328:=by omega
   have SD:trees [.agg (bf e),ints s.gs,ints f.aV]=true:=by simp only[trees,tree,aL,da,Bool.and_self]
   obtain⟨e1,e2,e3,e4,e5,X1,tec⟩:=fQ e;simp only[ints] at Wc SD;rw[X1] at Wc SD Xj;rw[Qd] at SN;simp only[db] at SN;generalize bN s.gs f.aV e=va at Wc SN;obtain⟨v,fa⟩:=va;apply aq;simp[hC,Og];refine T.seq (T.cond (b:=true) rfl (T.skip ?_));simp;apply eN;apply aq;simp[hC,Og,Xj];refine T.seq (T.rx ah follows [0,1,2,3,4,5,6,7,8,9,10,11,12] [] Ix ?_);simp[hC,dY,ints];refine RX.call rfl xr rfl rfl rfl SD Wc ?_;simp;by_cases hf:fa=0
   ·subst hf;apply aW;simp[hC];refine fX ?_;simp;apply aN;simp[hC,b1,hGl];apply aN;simp[hC,wi];refine⟨es.length-(i+1),by omega,?_⟩;have tGv:trees (G.map dc++[I v])=true:=by rw[bg,aO];rfl
    have rGv:=λ ρ=>af ρ _ tGv;refine aa.le (Le.norm [28,27,26,13,12,11,7,5,4,2] [(19,3),(0,0),(1,1),(2,2)] 0 4 Sn Sl (by simp[cI,oe,mg,tree,assoc,-all_eq_true,-all_flatMap,au tGv,aB]) yA) ?_;simp[cm,bh,aX,cN,dZ,assoc,rGv,aB];refine aa.here ⟨i+1,G++[v],rfl,by omega,by simp[hGl],?_,?_⟩
    ·rw[SN];simp
    ·simp[ha,dY,ints,aB]
   ·have SE:((fa:Int) != 0)=true:=by rw[bne_iff_ne];omega
    apply aW;simp[hC,SE];refine dy ?_;simp;apply aq;simp[hC];apply T.ret;simp only[if_neg hf,append_nil] at SN;apply aa.here;simp[Tryz.results90,DB,SN,hf]
  ·have RU:i=es.length:=by omega
   subst RU;apply aq;simp[hC];refine T.seq (T.cond (b:=false) rfl (T.exit ?_));simp;rw[drop_length,db,append_nil] at SN;apply aW;simp[hC];apply T.block;have tGG:trees (G.map dc)=true:=aO G;have rs0:=λ ρ=>af ρ _ tGG;refine T.aH (JAB u s t ko tg es ps G) (n:=ps.length) ?_ ?_
   ·refine aa.le (Le.own 12 3 1 rfl) ?_;simp;refine aa.le (Le.norm [54,53,52,12,11,7,5,4,2] [(3,3),(4,4),(0,0),(1,1),(2,2)] 0 5 Sn Sl (by simp[cI,oe,mg,tree,assoc,-all_eq_true,-all_flatMap,au tGG]) yA) ?_;simp[cm,bh,aX,cN,dZ,assoc,rs0];refine aa.here ⟨0,[],by omega,by omega,rfl,by simp,?_⟩;simp[ha,hGl]
   ·rintro n σ ⟨k,L,rfl,hk,Xl,T9,rfl⟩;simp only[ha];by_cases R8:k<ps.length
    ·obtain⟨p,Wf⟩:∃ p,ps[k]? = some p:=⟨_,getElem?_eq_getElem R8⟩;obtain⟨XH,T0⟩:=hp p (mem_of_getElem? Wf);have Wc:=Ch u s t p hm hr (rF hs) XH f ht T0;have Xj:=aI (f:=gW) (n:=3) lj Wf;have Qd:ps.drop k=p::ps.drop (k+1):=by rw[drop_eq_getElem_cons R8];simp[(List.getElem?_eq_some_iff.1 Wf).2]
     have wi:=cF ((k:Int)+1) yA yA;have b1:(k+1)*8<=140737488355328:=by omega
     obtain⟨n0,Uj⟩:=jW u s t p hm f ht T0;have SD:trees [cg u,cT s,I t,.agg (gW p)]=true:=by
      have:=bj u;simp only[trees,tree,cY,cD,cg,this,Bool.and_self]
     rw[Qd] at T9;simp only[dp] at T9;generalize bT u s t p=va at Wc T9 Uj;obtain⟨v,fa⟩:=va;simp only at Uj;subst Uj;obtain⟨p1,p2,p3,p4,gZ,tpc⟩:=oL p;rw[gZ] at Wc SD Xj;simp only[cg,cR,cT,kX,ints] at Wc SD;apply aq;simp[hC,R8];refine T.seq (T.cond (b:=true) rfl (T.skip ?_));simp;apply eN;apply aq;simp[hC,R8,Xj];apply aq;simp[hC];refine cX SD Wc ?_;simp[hC];by_cases hf:fa=0
     ·subst hf;apply aW;simp[hC];refine fX ?_;simp;apply aN;simp[hC,b1,Xl];apply aN;simp[hC,wi];refine⟨ps.length-(k+1),by omega,?_⟩;have tLv:trees ((L.map λ n:Nat=>I n)++[I n0])=true:=by rw[bg,aK];rfl
      have rLv:=λ ρ=>af ρ _ tLv;refine aa.le (Le.norm [54,53,52,12,11,7,5,4,2] [(3,3),(7,4),(0,0),(1,1),(2,2)] 0 5 Sn Sl yDt yA) ?_;simp[cm,bh,aX,cN,dZ,assoc,rLv,rs0];refine aa.here ⟨k+1,L++[n0],rfl,by omega,by simp[Xl],?_,?_⟩
      ·rw[T9];simp
      ·simp[ha]
     ·have SE:((fa:Int) != 0)=true:=by rw[bne_iff_ne];omega
      apply aW;simp[hC,SE];refine dy ?_;simp;apply aq;simp[hC];apply T.ret;simp only[if_neg hf,append_nil] at T9;apply aa.here;simp[Tryz.results90,DB,SN,T9,hf]
    ·have Yj:k=ps.length:=by omega
     subst Yj;rw[drop_length,dp,append_nil] at T9;have ZM:=aK L;have kG:take G.length (G.map dc)=G.map dc:=take_of_length_le xr;have kL:take ps.length (L.map λ n:Nat=>I n)=L.map λ n:Nat=>I n:=take_of_length_le (by simp[Xl]);apply aq;simp[hC];refine T.seq (T.cond (b:=false) rfl (T.exit ?_));simp;apply aq;simp[hC];apply T.ret;refine aa.le (Le.trim [10,9,8] [3,4] 99 (by simp[-all_eq_true,-all_map,ai tGG,ai ZM]) yA) ?_;simp;refine aa.le (Le.dn (o:=3) rfl tGG) ?_;simp[cw,kG,aS ZM];refine aa.le (Le.dn (o:=4) rfl ZM) ?_;simp[cw,kL];apply aa.here;simp[DB,SN,T9,ints,aB,Xl,hGl]
end Go.Proofs.YtlkmbdfhdknlgaaGreat
