/- A state's copy by the prog -/
import Derived.Test.YtlkmbdfhdknlgaaGreatZ46
namespace Go.Proofs.YtlkmbdfhdknlgaaGreat
open Go.Can Go.aJ List Tryz
def hA (s:Sy)(i:Nat):List (Nat×Ob):=[(0,⟨3,1,s.gs.map dc⟩),(1,⟨122,2,s.tb.flatMap dL⟩),(2,⟨81,1,(s.ts.take i).flatMap en⟩),(5,⟨40,0,[.aj,.aj,.aj,I 0]⟩),(6,⟨40,0,[.bb 0 0 s.gs.length,.bb 1 0 s.tb.length,.bb 2 0 i,I s.fault]⟩)]
def hB (s:Sy)(t:Nat)(l0:List Fr)(f:Fr)(i:Nat):List (Nat×Ob):=[(0,⟨3,1,s.gs.map dc⟩),(1,⟨122,2,s.tb.flatMap dL⟩),(2,⟨81,1,(s.ts.take t).flatMap en++.bb 3 0 (l0.length+1)::((s.ts.take i).drop (t+1)).flatMap en⟩),(3,⟨77,4,l0.flatMap dY++[I f.proc,I f.pc,.bb 4 0 f.aV.length,aB f.eA]⟩),(4,⟨3,1,f.aV.map dc⟩),(5,⟨40,0,[.aj,.aj,.aj,I 0]⟩),(6,⟨40,0,[.bb 0 0 s.gs.length,.bb 1 0 s.tb.length,.bb 2 0 i,I s.fault]⟩)]
def RI (s:Sy):List (Nat×Ob):=[(0,⟨3,1,s.gs.map dc⟩),(1,⟨122,2,s.tb.flatMap dL⟩),(2,⟨81,1,s.ts.flatMap en⟩),(5,⟨40,0,[.bb 0 0 s.gs.length,.bb 1 0 s.tb.length,.bb 2 0 s.ts.length,I s.fault]⟩)]
def LO (s:Sy)(t:Nat)(l0:List Fr)(f:Fr):List (Nat×Ob):=[(0,⟨3,1,s.gs.map dc⟩),(1,⟨122,2,s.tb.flatMap dL⟩),(2,⟨81,1,(s.ts.take t).flatMap en++.bb 3 0 (l0.length+1)::(s.ts.drop (t+1)).flatMap en⟩),
 (3,⟨77,4,l0.flatMap dY++[I f.proc,I f.pc,.bb 4 0 f.aV.length,aB f.eA]⟩),(4,⟨3,1,f.aV.map dc⟩),(5,⟨40,0,[.bb 0 0 s.gs.length,.bb 1 0 s.tb.length,.bb 2 0 s.ts.length,I s.fault]⟩)]
def eO (s:Sy)(i:Nat):List (Nat×CV):=[(21,I i),(20,I s.ts.length),(19,.ax (s.ts.flatMap en) s.ts.length),(3,.aw 6 0),(2,.aw 5 0)]
def JO (s:Sy)(t:Nat)(l0:List Fr)(f:Fr)(n:Nat)(σ:St):Prop:=∃ i:Nat,n=s.ts.length-i/\i<=s.ts.length/\σ=⟨eO s i,if i<=t then hA s i else hB s t l0 f i,7⟩
def JF (s:Sy)(i:Nat)(H:List (Nat×Ob))(l:List Fr)(n:Nat)(σ:St):Prop:=∃ k:Nat,n=l.length-k/\k<=l.length/\
 σ=⟨(28,I k)::(27,I l.length)::(26,.ax (l.flatMap dY) l.length)::(6,.bb 8 0 k)::eO s i,(8,⟨77,4,(l.take k).flatMap dY⟩)::H,9⟩
def JT (s:Sy)(i:Nat)(l0 l:List Fr)(f:Fr)(n:Nat)(σ:St):Prop:=∃ k:Nat,n=l.length-k/\k<=l.length/\
 σ=⟨(28,I k)::(27,I l.length)::(26,.ax (l.flatMap dY) l.length)::(6,.bb 8 0 k)::eO s i,if k<=l0.length then (8,⟨77,4,(l.take k).flatMap dY⟩)::hA s i else (8,⟨77,4,l0.flatMap dY++[I f.proc,I f.pc,.bb 9 0 f.aV.length,aB f.eA]⟩)::(9,⟨3,1,f.aV.map dc⟩)::hA s i,10⟩
theorem pU (l:List Nat)(hl:l.length<=1000000):ae prog 29 [aB l] (aB l):=by
 have h:=mQ (l.map λ n:Nat=>(n:Int)) ZC;have e:ints (l.map λ n:Nat=>(n:Int))=aB l:=by simp[ints,aB,Function.comp_def]
 rwa [e] at h
set_option maxHeartbeats 2000000 in
set_option maxRecDepth 100000 in
theorem Ci (s:Sy)(t:Nat)(l0:List Fr)(f:Fr)(UY:t<s.ts.length->s.ts[t]? = some (l0++[f]))(h1:s.gs.length<=1000000)(h2:s.tb.length<=1000000)(h3:s.ts.length<=1000000)(h4:∀ l∈s.ts,l.length<=1000000/\∀ f∈l,f.aV.length<=1000000/\f.eA.length<=1000000) :
  Body prog av 41 [cT s] [] 0 (jC (.agg [.bb 0 0 s.gs.length,.bb 1 0 s.tb.length,.bb 2 0 s.ts.length,I s.fault]) (if t<s.ts.length then LO s t l0 f else RI s) 6):=by
 have tG:trees (s.gs.map dc)=true:=aO s.gs;have tT:trees (s.tb.flatMap dL)=true:=ak cj _;have tS:trees (s.ts.flatMap en)=true:=ak bX _;have rG:=λ ρ=>af ρ _ tG;have rT:=λ ρ=>af ρ _ tT;have rS:=λ ρ=>af ρ _ tS;refine Body.jv Tryz.func41 rfl Ix (by simp[Tryz.ntmps41]) λ C hC RR=>?_;rw[Tryz.ntmps41] at hC;simp only[cT,kX];apply aq;simp[hC];refine T.seq (T.rx ah follows [0,1,3,4,6,7,9,2,5,8,10] [(1,9),(4,9),(4,2),(7,9),(7,2),(7,5),(9,2),(9,5)] Ix ?_);simp[hC];refine RX.eQ [] [] [13] 0 1 (zK s.gs h1) rfl SQ rfl xr rfl rfl rfl rfl rfl rfl SQ (by simp[sH,bC,bh,assoc,rG,bS]) (λ _ h=>by cases h) ?_;simp[rG,bC,bh,cN,bS];refine RX.eQ [] [] [14] 0 1 (uB s.tb h2) rfl SQ rfl xr rfl rfl rfl rfl rfl rfl SQ (by simp[sH,bC,bh,assoc,rT,bS]) (λ _ h=>by cases h) ?_;simp[rT,bC,bh,cN,bS];apply aW;simp[hC];refine T.le (Le.nk 11 2 81 1 rfl rfl) ?_;simp;refine T.le (Le.trim [21,20,19,3,2] [13,14,15,11,1] 16 (by simp[-all_eq_true,-all_flatMap,-all_map,ai tT,ai tG,aT]) yA) ?_;simp;refine T.le (Le.norm [21,20,19,3,2] [(13,0),(14,1),(15,2),(1,5),(11,6)] 0 7 Sn Sl (by simp[cI,oe,mg,tree,assoc,-all_eq_true,-all_flatMap,au tG,au tT]) yA) ?_;simp[cm,bh,aX,cN,dZ,assoc,rG,rT];apply T.block;refine T.aH (JO s t l0 f) (n:=s.ts.length) ?_ ?_
 ·refine aa.here ⟨0,by omega,by omega,?_⟩;simp[eO,hA]
 ·rintro n σ ⟨i,rfl,hi,rfl⟩;by_cases Og:i<s.ts.length
  ·obtain⟨l,hli⟩:∃ l,s.ts[i]? = some l:=⟨_,getElem?_eq_getElem Og⟩;obtain⟨Tg,Xf⟩:=h4 l (mem_of_getElem? hli);have hdt:=L4 hli;have tl:=ak cZ l;have wi:=cF ((i:Int)+1) yA yA;have tAi:trees ((s.ts.take i).flatMap en)=true:=ak bX _;have rAi:=λ ρ=>af ρ _ tAi;have rl:=λ ρ=>af ρ _ tl;have kl:take (l.length*4) (l.flatMap dY)=l.flatMap dY:=take_of_length_le (by rw[aC ef];omega);have bi:(i+1)*24<=140737488355328:=by omega
   have li:((s.ts.take i).flatMap en).length=i:=by rw[aC na,length_take,Nat.mul_one];omega
   have Tj:(s.ts.take (i+1)).flatMap en=(s.ts.take i).flatMap en++en l:=by rw[take_add_one,hli,flatMap_append];simp
   have ra:∀ ρ (a b:List CV),aX ρ (a++b)=aX ρ a++aX ρ b:=λ ρ a b=>by rw[cc,cc,cc,map_append]
   have tf:trees (l0.flatMap dY)=true:=ak cZ _;have tV:trees (f.aV.map dc)=true:=aO f.aV;have Sq:trees ((s.ts.take t).flatMap en)=true:=ak bX _;have tA3:trees (((s.ts.take i).drop (t+1)).flatMap en)=true:=ak bX _;have rf:=λ ρ=>af ρ _ tf;have rV:=λ ρ=>af ρ _ tV;have r1:=λ ρ=>af ρ _ Sq;have r3:=λ ρ=>af ρ _ tA3;rcases Nat.lt_trichotomy i t with Sk | Sk | Sk
   rotate_left
   ·subst Sk;have hl:=UY Og;have hle:l=l0++[f]:=Option.some.inj (hli.symm.trans hl);have Ts:l.length=l0.length+1:=by rw[hle];simp
    have hlf0:l[l0.length]? = some f:=by rw[hle];simp
    have htk0:l.take l0.length=l0:=by rw[hle];simp
    rw[if_pos (Nat.le_refl _)];simp only[eO,hA];apply aq;simp[hC,Og];refine T.seq (T.cond (b:=true) rfl (T.skip ?_));simp;apply eN;apply aq;simp[hC,Og,hdt,en];apply aq;simp[hC];apply aW;simp[hC];apply T.block;refine T.aH (JT s i l0 l f) (n:=l.length) ?_ ?_
    ·refine aa.le (Le.own 6 77 4 rfl) ?_;simp;refine aa.le (Le.up 10 xr) ?_;simp;refine aa.trim [28,27,26,6,21,20,19,3,2] [8,0,1,2,5,6] 10 yDw yA ⟨0,by omega,by omega,?_⟩;simp[eO,hA]
    ·rintro n σ ⟨k,rfl,hk,rfl⟩;simp only[eO,hA];by_cases R8:k<l.length
     ·by_cases Zo:k<l0.length
      rotate_left
      ·have V6:k=l0.length:=by omega
       subst V6;rw[if_pos (Nat.le_refl _)];obtain⟨Yz,Zt⟩:=Xf f (mem_of_getElem? hlf0);have VZ:=aI (f:=dY) (n:=4) ef hlf0;have c2:=pU f.eA Zt;have t2:trees [aB f.eA]=true:=by simp only[trees,aM,Bool.and_self]
       have wk:=cF ((l0.length:Int)+1) yA yA;have bk:(l0.length+1)*64<=140737488355328:=by omega
       have lk:(l0.flatMap dY).length=l0.length*4:=aC ef _;rw[htk0];apply aq;simp[hC,R8];refine T.seq (T.cond (b:=true) rfl (T.skip ?_));simp;apply eN;apply aq;simp[hC,R8,VZ,dY];refine T.rx ah follows [0,1,2,3,4,5,6,8,9,7,10,11,12,13,14] [(2,7),(2,10),(4,7),(4,10),(9,7)] Ix ?_;simp[hC];refine RX.eQ [] [] [26] 0 1 (zK f.aV Yz) rfl SQ rfl xr rfl rfl rfl rfl rfl rfl SQ (by simp[sH,bC,bh,assoc,rV,bS]) (λ _ h=>by cases h) ?_;simp[rV,bC,bh,cN,bS];refine RX.call rfl xr rfl rfl rfl t2 c2 ?_;simp[bk,lk,aY,aB,-length_flatMap];apply aN;simp[hC,wk];refine⟨l.length-(l0.length+1),by omega,?_⟩;refine aa.le (Le.norm [28,27,26,6,21,20,19,3,2] [(27,8),(26,9),(0,0),(1,1),(2,2),(5,5),(6,6)] 0 10 Sn Sl yDl yA) ?_;simp[cm,bh,aX,cN,dZ,assoc,rG,rT,rAi,rf,rV,ra];refine aa.here ⟨l0.length+1,rfl,by omega,?_⟩;rw[if_neg yA];simp[eO,hA,aB]
      rw[if_pos yA];obtain⟨fr,TE⟩:∃ fr,l[k]? = some fr:=⟨_,getElem?_eq_getElem R8⟩;obtain⟨Yz,Zt⟩:=Xf fr (mem_of_getElem? TE);have VZ:=aI (f:=dY) (n:=4) ef TE;have c1:=mQ fr.aV Yz;have c2:=pU fr.eA Zt;have t1:trees [ints fr.aV]=true:=by simp only[ints,trees,tree,Bool.and_self]
      have t2:trees [aB fr.eA]=true:=by simp only[trees,aM,Bool.and_self]
      have wk:=cF ((k:Int)+1) yA yA;have bk:(k+1)*64<=140737488355328:=by omega
      have tk:trees ((l.take k).flatMap dY)=true:=ak cZ _;have lk:((l.take k).flatMap dY).length=k*4:=by rw[aC ef,length_take];congr 1;omega
      have rk:=λ ρ=>af ρ _ tk;have Th:(l.take (k+1)).flatMap dY=(l.take k).flatMap dY++dY fr:=by rw[take_add_one,TE,flatMap_append];simp
      apply aq;simp[hC,R8];refine T.seq (T.cond (b:=true) rfl (T.skip ?_));simp;apply eN;apply aq;simp[hC,R8,VZ,dY];refine T.rx ah follows [0,1,2,3,4,5,6,8,9,7,10,11,12,13,14] [(2,7),(2,10),(4,7),(4,10),(9,7)] Ix ?_;simp[hC];refine RX.call rfl xr rfl rfl rfl t1 c1 ?_;simp;refine RX.call rfl xr rfl rfl rfl t2 c2 ?_;simp[bk,lk,aY,ints,aB,-length_flatMap];apply aN;simp[hC,wk];refine⟨l.length-(k+1),by omega,?_⟩;refine aa.le (Le.norm [28,27,26,6,21,20,19,3,2] [(26,8),(0,0),(1,1),(2,2),(5,5),(6,6)] 0 10 Sn Sl yDn yA) ?_;simp[cm,bh,aX,cN,dZ,assoc,rG,rT,rAi,rk,ra];refine aa.here ⟨k+1,rfl,by omega,?_⟩;rw[if_pos yA];simp[eO,hA,Th,dY,ints,aB]
     ·have Yj:k=l.length:=by omega
      subst Yj;rw[if_neg yA];apply aq;simp[hC];refine T.seq (T.cond (b:=false) rfl (T.exit ?_));simp;apply aN;simp[hC,bi,li,-length_flatMap];apply aN;simp[hC,wi];refine⟨s.ts.length-(i+1),by omega,?_⟩;simp only[aB];refine aa.le (Le.norm [21,20,19,3,2] [(0,0),(1,1),(11,2),(8,3),(9,4),(5,5),(6,6)] 0 7 Sn Sl yDl yA) ?_;simp[cm,bh,aX,cN,dZ,assoc,rG,rT,rAi,rf,rV,ra];have Qd:(s.ts.take (i+1)).drop (i+1)=[]:=drop_eq_nil_of_le (by rw[length_take];omega);refine aa.here ⟨i+1,rfl,by omega,?_⟩;rw[if_neg yA];simp[eO,hB,Ts,aB,Qd]
   ·rw[if_neg yA];have li3:((s.ts.take t).flatMap en++.bb 3 0 (l0.length+1)::((s.ts.take i).drop (t+1)).flatMap en).length=i:=by
     rw[length_append,length_cons,aC na,aC na,length_take,length_drop,length_take,Nat.mul_one,Nat.mul_one];omega
    have hts3:((s.ts.take (i+1)).drop (t+1)).flatMap en=((s.ts.take i).drop (t+1)).flatMap en++en l:=by
     rw[take_add_one,hli,drop_append_of_le_length (by rw[length_take];omega),flatMap_append];simp
    simp only[eO,hB,aB];apply aq;simp[hC,Og];refine T.seq (T.cond (b:=true) rfl (T.skip ?_));simp;apply eN;apply aq;simp[hC,Og,hdt,en];apply aq;simp[hC];apply aW;simp[hC];apply T.block;refine T.aH (JF s i (hB s t l0 f i) l) (n:=l.length) ?_ ?_
    ·refine aa.le (Le.own 6 77 4 rfl) ?_;simp;refine aa.trim [28,27,26,6,21,20,19,3,2] [8,0,1,2,3,4,5,6] 9 (by simp[-all_eq_true,-all_flatMap,-all_map,ai tT,ai tG,ai Sq,ai tA3,ai tf,ai tV]) yA ⟨0,by omega,by omega,?_⟩;simp[eO,hB,aB]
    ·rintro n σ ⟨k,rfl,hk,rfl⟩;simp only[eO,hB,aB];by_cases R8:k<l.length
     ·obtain⟨fr,TE⟩:∃ fr,l[k]? = some fr:=⟨_,getElem?_eq_getElem R8⟩;obtain⟨Yz,Zt⟩:=Xf fr (mem_of_getElem? TE);have VZ:=aI (f:=dY) (n:=4) ef TE;have c1:=mQ fr.aV Yz;have c2:=pU fr.eA Zt;have t1:trees [ints fr.aV]=true:=by simp only[ints,trees,tree,Bool.and_self]
      have t2:trees [aB fr.eA]=true:=by simp only[trees,aM,Bool.and_self]
      have wk:=cF ((k:Int)+1) yA yA;have bk:(k+1)*64<=140737488355328:=by omega
      have tk:trees ((l.take k).flatMap dY)=true:=ak cZ _;have lk:((l.take k).flatMap dY).length=k*4:=by rw[aC ef,length_take];congr 1;omega
      have rk:=λ ρ=>af ρ _ tk;have Th:(l.take (k+1)).flatMap dY=(l.take k).flatMap dY++dY fr:=by rw[take_add_one,TE,flatMap_append];simp
      apply aq;simp[hC,R8];refine T.seq (T.cond (b:=true) rfl (T.skip ?_));simp;apply eN;apply aq;simp[hC,R8,VZ,dY];refine T.rx ah follows [0,1,2,3,4,5,6,8,9,7,10,11,12,13,14] [(2,7),(2,10),(4,7),(4,10),(9,7)] Ix ?_;simp[hC];refine RX.call rfl xr rfl rfl rfl t1 c1 ?_;simp;refine RX.call rfl xr rfl rfl rfl t2 c2 ?_;simp[bk,lk,aY,ints,aB,-length_flatMap];apply aN;simp[hC,wk];refine⟨l.length-(k+1),by omega,?_⟩;refine aa.le (Le.norm [28,27,26,6,21,20,19,3,2] [(25,8),(0,0),(1,1),(2,2),(3,3),(4,4),(5,5),(6,6)] 0 9 Sn Sl (by simp[cI,oe,mg,tree,assoc,-all_eq_true,-all_flatMap,au tG,au tT,au Sq,au tA3,au tf,au tV,au tk]) yA) ?_;simp[cm,bh,aX,cN,dZ,assoc,rG,rT,r1,r3,rf,rV,rk,ra];refine aa.here ⟨k+1,rfl,by omega,?_⟩;simp[eO,Th,dY,ints,aB]
     ·have Yj:k=l.length:=by omega
      subst Yj;apply aq;simp[hC];refine T.seq (T.cond (b:=false) rfl (T.exit ?_));simp;refine T.le (Le.dn (o:=8) rfl tl) ?_;simp[cw,aS tT,aS Sq,aS tA3,aS tf,aS tV,kl];apply aN;simp[hC,bi,li3,-length_flatMap];apply aN;simp[hC,wi];refine⟨s.ts.length-(i+1),by omega,?_⟩;refine aa.le (Le.norm [21,20,19,3,2] [(0,0),(1,1),(10,2),(3,3),(4,4),(5,5),(6,6)] 0 7 Sn Sl (by simp[cI,oe,mg,tree,assoc,-all_eq_true,-all_flatMap,au tG,au tT,au Sq,au tA3,au tf,au tV]) yA) ?_;simp[cm,bh,aX,cN,dZ,assoc,rG,rT,r1,r3,rf,rV,ra];refine aa.here ⟨i+1,rfl,by omega,?_⟩;rw[if_neg yA];simp[eO,hB,hts3,en,aB]
   ·rw[if_pos yA];simp only[eO,hA];apply aq;simp[hC,Og];refine T.seq (T.cond (b:=true) rfl (T.skip ?_));simp;apply eN;apply aq;simp[hC,Og,hdt,en];apply aq;simp[hC];apply aW;simp[hC];apply T.block;refine T.aH (JF s i (hA s i) l) (n:=l.length) ?_ ?_
    ·refine aa.le (Le.own 6 77 4 rfl) ?_;simp;refine aa.trim [28,27,26,6,21,20,19,3,2] [8,0,1,2,5,6] 9 yDw yA ⟨0,by omega,by omega,?_⟩;simp[eO,hA]
    ·rintro n σ ⟨k,rfl,hk,rfl⟩;simp only[eO,hA];by_cases R8:k<l.length
     ·obtain⟨fr,TE⟩:∃ fr,l[k]? = some fr:=⟨_,getElem?_eq_getElem R8⟩;obtain⟨Yz,Zt⟩:=Xf fr (mem_of_getElem? TE);have VZ:=aI (f:=dY) (n:=4) ef TE;have c1:=mQ fr.aV Yz;have c2:=pU fr.eA Zt;have t1:trees [ints fr.aV]=true:=by simp only[ints,trees,tree,Bool.and_self]
      have t2:trees [aB fr.eA]=true:=by simp only[trees,aM,Bool.and_self]
      have wk:=cF ((k:Int)+1) yA yA;have bk:(k+1)*64<=140737488355328:=by omega
      have tk:trees ((l.take k).flatMap dY)=true:=ak cZ _;have lk:((l.take k).flatMap dY).length=k*4:=by rw[aC ef,length_take];congr 1;omega
      have rk:=λ ρ=>af ρ _ tk;have Th:(l.take (k+1)).flatMap dY=(l.take k).flatMap dY++dY fr:=by rw[take_add_one,TE,flatMap_append];simp
      apply aq;simp[hC,R8];refine T.seq (T.cond (b:=true) rfl (T.skip ?_));simp;apply eN;apply aq;simp[hC,R8,VZ,dY];refine T.rx ah follows [0,1,2,3,4,5,6,8,9,7,10,11,12,13,14] [(2,7),(2,10),(4,7),(4,10),(9,7)] Ix ?_;simp[hC];refine RX.call rfl xr rfl rfl rfl t1 c1 ?_;simp;refine RX.call rfl xr rfl rfl rfl t2 c2 ?_;simp[bk,lk,aY,ints,aB,-length_flatMap];apply aN;simp[hC,wk];refine⟨l.length-(k+1),by omega,?_⟩;refine aa.le (Le.norm [28,27,26,6,21,20,19,3,2] [(25,8),(0,0),(1,1),(2,2),(5,5),(6,6)] 0 9 Sn Sl yDn yA) ?_;simp[cm,bh,aX,cN,dZ,assoc,rG,rT,rAi,rk,ra];refine aa.here ⟨k+1,rfl,by omega,?_⟩;simp[eO,Th,dY,ints,aB]
     ·have Yj:k=l.length:=by omega
      subst Yj;apply aq;simp[hC];refine T.seq (T.cond (b:=false) rfl (T.exit ?_));simp;refine T.le (Le.dn (o:=8) rfl tl) ?_;simp[cw,aS tT,aS tAi,kl];apply aN;simp[hC,bi,li,-length_flatMap];apply aN;simp[hC,wi];refine⟨s.ts.length-(i+1),by omega,?_⟩;refine aa.le (Le.norm [21,20,19,3,2] [(0,0),(1,1),(10,2),(5,5),(6,6)] 0 7 Sn Sl (by simp[cI,oe,mg,tree,assoc,-all_eq_true,-all_flatMap,au tG,au tT,au tAi]) yA) ?_;simp[cm,bh,aX,cN,dZ,assoc,rG,rT,rAi,ra];refine aa.here ⟨i+1,rfl,by omega,?_⟩;rw[if_pos yA];simp[eO,hA,Tj,en]
  ·have RU:i=s.ts.length:=by omega
   subst RU;by_cases Si:t<s.ts.length
   rotate_left
   ·rw[if_pos yA,if_neg Si];simp only[eO,hA,RI,take_length];apply aq;simp[hC];refine T.seq (T.cond (b:=false) rfl (T.exit ?_));simp;apply aq;simp[hC];apply T.ret;refine aa.le (Le.norm [2] [(0,0),(1,1),(2,2),(5,5)] 0 6 Sn Sl yDc yA) ?_;simp[cm,bh,aX,cN,dZ,assoc,rG,rT,rS];exact aa.here ⟨_,rfl,rfl,rfl,rfl⟩
   have hnt:¬ s.ts.length<=t:=by omega
   rw[if_neg hnt,if_pos Si];have tf:trees (l0.flatMap dY)=true:=ak cZ _;have tV:trees (f.aV.map dc)=true:=aO f.aV;have tE:=aK f.eA;have Sq:trees ((s.ts.take t).flatMap en)=true:=ak bX _;have SB:trees ((s.ts.drop (t+1)).flatMap en)=true:=ak bX _;have rL:=λ ρ=>af ρ _ tf;have rV:=λ ρ=>af ρ _ tV;have rE:=λ ρ=>af ρ _ tE;have r1:=λ ρ=>af ρ _ Sq;have r2:=λ ρ=>af ρ _ SB;have ra:∀ ρ (a b:List CV),aX ρ (a++b)=aX ρ a++aX ρ b:=λ ρ a b=>by rw[cc,cc,cc,map_append]
   simp only[eO,hB,LO,take_length,aB];apply aq;simp[hC];refine T.seq (T.cond (b:=false) rfl (T.exit ?_));simp;apply aq;simp[hC];apply T.ret;refine aa.le (Le.norm [2] [(0,0),(1,1),(2,2),(3,3),(4,4),(5,5)] 0 6 Sn Sl (by simp[cI,oe,mg,tree,assoc,-all_eq_true,-all_flatMap,au tG,au tT,au tf,au tV,au Sq,au SB]) yA) ?_;simp[cm,bh,aX,cN,dZ,assoc,rG,rT,rL,rV,r1,r2,ra];exact aa.here ⟨_,rfl,rfl,rfl,rfl⟩
structure GY (s:Sy):Prop where
 g:s.gs.length<=1000000
 b:s.tb.length<=1000000
 t:s.ts.length<=1000000
 f:∀ l∈s.ts,l.length<=1000000/\∀ f∈l,f.aV.length<=1000000/\f.eA.length<=1000000
theorem E6 (s:Sy)(hs:GY s):Body prog av 41 [cT s] [] 0 (jC (.agg [.bb 0 0 s.gs.length,.bb 1 0 s.tb.length,.bb 2 0 s.ts.length,I s.fault]) (RI s) 6):=by
 have h:=Ci s s.ts.length [] ⟨0,0,[],[]⟩ (λ h=>absurd h (Nat.lt_irrefl _)) hs.g hs.b hs.t hs.f;rwa [if_neg (Nat.lt_irrefl _)] at h
theorem cD (s:Sy):tree (cT s)=true:=by
 simp only[cT,kX,tree,trees,da,Bool.and_self]
theorem jg (s:Sy)(hs:GY s)(fa:Nat):ae prog 91 [cT s,I fa] (.cB [cT ⟨s.gs,s.tb,s.ts,fa⟩,.bool true]):=by
 have TN:=E6 s hs;have tG:trees (s.gs.map dc)=true:=aO s.gs;have tT:trees (s.tb.flatMap dL)=true:=ak cj _;have tS:trees (s.ts.flatMap en)=true:=ak bX _;have rG:=λ ρ=>af ρ _ tG;have rT:=λ ρ=>af ρ _ tT;have rS:=λ ρ=>af ρ _ tS;have kG:take s.gs.length (s.gs.map dc)=s.gs.map dc:=take_of_length_le xr;have kT:take (s.tb.length*2) (s.tb.flatMap dL)=s.tb.flatMap dL:=take_of_length_le yBl;have kS:take s.ts.length (s.ts.flatMap en)=s.ts.flatMap en:=take_of_length_le (by rw[aC na];omega);refine ae.aE ah Tryz.func91 rfl Ix (by simp[Tryz.ntmps91]) (by simp only[tree,trees,cD,Bool.and_self]) λ C hC RR=>?_;rw[Tryz.ntmps91] at hC;simp only[cT,kX,ints,RI] at *;apply aq;simp[hC];apply aq;simp[hC];refine TL.eQ ah [] [] 0 6 (TN) rfl SQ RT rfl rfl SF SF W9 SF SF (TL.go' ah ?_);simp[bC,bh,aX,cN,bS,rG,rT,rS];apply aq;simp[hC];apply aq;simp[hC];apply T.ret;refine aa.le (Le.trim [5,4] [1,2,3,4] 8 (by simp[-all_eq_true,-all_map,-all_flatMap,ai tG,ai tT,ai tS]) yA) ?_;simp;refine aa.le (Le.dn (o:=2) rfl tG) ?_;simp[cw,kG,aS tT,aS tS];refine aa.le (Le.dn (o:=3) rfl tT) ?_;simp[cw,kT,aS tS];refine aa.le (Le.dn (o:=4) rfl tS) ?_;simp[cw,kS];apply aa.here;simp
theorem kA (g b m t n p c v e:Nat)(A B D E V:List CV)(hA:trees A=true)(hB:trees B=true)(hD:trees D=true)(hE:trees E=true)(hV:trees V=true)(y:CV)(hy:y=.bb 1 0 b\/∃ Z,y=.ax Z b)(lA:A.length=t)(lD:D.length=n*4)(ht:t<m)(_hm:m<=1000000)(hn:n<=1000000) :
  Body prog av 45 [.agg [.bb 0 0 g,y,.bb 2 0 m,I 0],I t] [(2,⟨81,1,A++.bb 3 0 (n+1)::B⟩),(3,⟨77,4,D++[I p,I c,.bb 4 0 v,.ax E e]⟩),(4,⟨3,1,V⟩)] 5
   (jC (.aw 3 (n*4)) [(2,⟨81,1,A++.bb 3 0 (n+1)::B⟩),(3,⟨77,4,D++[I p,I c,.bb 4 0 v,.ax E e]⟩),(4,⟨3,1,V⟩)] 5):=by
 have dA:∀ r:List CV,(A++r).drop t=r:=λ r=>by rw[<- lA];simp
 have w1:=cF (n:Int) yA yA;have w2:(n:Int)<(n:Int)+1:=by omega
 have h0:¬ ((t:Int)<0):=by omega
 have UJ:¬ (m<=t):=by omega
 have hlz:(((n:Int)+1) == 0)=false:=by rw[beq_eq_false_iff_ne];omega
 have rA:=λ ρ=>af ρ _ hA;have rB:=λ ρ=>af ρ _ hB;have rD:=λ ρ=>af ρ _ hD;have rE:=λ ρ=>af ρ _ hE;have rV:=λ ρ=>af ρ _ hV;have ra:∀ ρ (a b:List CV),aX ρ (a++b)=aX ρ a++aX ρ b:=λ ρ a b=>by rw[cc,cc,cc,map_append]
 rcases hy with rfl | ⟨Z,rfl⟩
 all_goals
  refine Body.jv Tryz.func45 rfl Ix (by simp[Tryz.ntmps45]) λ C hC RR=>?_;rw[Tryz.ntmps45] at hC;apply aq;simp[hC];apply aW;simp[hC,h0,UJ,ht,dA,hlz];refine fX ?_;simp;apply aq;simp[hC,ht,dA];apply aq;simp[hC,w1,w2];apply T.ret;refine aa.le (Le.norm [4] [(2,2),(3,3),(4,4)] 5 5 Sn Sl (by simp[cI,oe,mg,tree,assoc,-all_eq_true,-all_flatMap,au hA,au hB,au hD,au hV]) yA) ?_;simp[cm,bh,aX,cN,dZ,assoc,rA,rB,rD,rV,ra];exact aa.here ⟨_,rfl,rfl,rfl,rfl⟩
theorem v9:∀ (n:Nat) {l:List CV},trees l=true->trees (l.take n)=true
 | 0,_,_=>by simp
 | n+1,[],_=>by simp
 | n+1,x::r,h=>by
  simp only[trees,Bool.and_eq_true] at h;simp only[take_succ_cons,trees,h.1,v9 n h.2,Bool.and_self]
theorem C5 {C:Cx}{K:St->Prop}{r q N:Nat}{bo:Bool}{G T A B D E V X:List CV}{g b m n v e:Nat}{p c fa:Int}(hG:trees G=true)(_hT:trees T=true)(hA:trees A=true)(hB:trees B=true)(hD:trees D=true)(_hE:trees E=true)(hV:trees V=true)(hX:trees X=true)
  (lG:G.length=g) (lA:A.length+1+B.length=m) (lV:V.length=v)
  (h:K ⟨[(q,.bool bo),(r,.aw 5 0)],[(5,⟨40,0,[.ax G g,.ax T b,.ax (A++.ax ((D++I p::I c :: .ax V v :: .ax E e::X).take (n*4)) n::B) m,I fa]⟩)],N⟩) :
  aa C K ⟨[(q,.bool bo),(r,.aw 5 0)],[(0,⟨3,1,G⟩),(2,⟨81,1,A++.bb 3 0 n::B⟩),(3,⟨77,4,D++I p::I c :: .bb 4 0 v :: .ax E e::X⟩),(4,⟨3,1,V⟩),(5,⟨40,0,[.bb 0 0 g,.ax T b,.bb 2 0 m,I fa]⟩)],N⟩:=by
 have kG:take g G=G:=take_of_length_le yA;have kV:take v V=V:=take_of_length_le yA;refine aa.le (Le.dn (o:=4) rfl hV) ?_;simp[kV,aS hG,aS hD,aS hA,aS hB,aS hX];refine aa.le (Le.dn (o:=0) rfl hG) ?_;simp[kG,aS hD,aS hA,aS hB,aS hX];have tF:trees (D++I p::I c :: .ax V v :: .ax E e::X)=true:=by
  rw[bg,hD];simp only[trees,tree,hX,Bool.and_self]
 refine aa.le (Le.dn (o:=3) rfl tF) ?_;simp[aS hA,aS hB];have tH:trees (A++.ax ((D++I p::I c :: .ax V v :: .ax E e::X).take (n*4)) n::B)=true:=by
  have:=v9 (n*4) tF;simp only[bg,hA,trees,hB,tree,Bool.and_self]
 have kH:∀ x:CV,take m (A++x::B)=A++x::B:=λ x=>take_of_length_le SO;refine aa.le (Le.dn (o:=2) rfl tH) ?_;simp[kH];exact aa.here h
theorem lq {C:Cx}{K:St->Prop}{r q N:Nat}{bo:Bool}{G T A B D E V X:List CV}{g b m n v e:Nat}{p c fa:Int}(hG:trees G=true)(hT:trees T=true)(hA:trees A=true)(hB:trees B=true)(hD:trees D=true)(hE:trees E=true)(hV:trees V=true)(hX:trees X=true)
  (lG:G.length=g) (lT:T.length=b*2) (lA:A.length+1+B.length=m) (lV:V.length=v)
  (h:K ⟨[(q,.bool bo),(r,.aw 5 0)],[(5,⟨40,0,[.ax G g,.ax T b,.ax (A++.ax ((D++I p::I c :: .ax V v :: .ax E e::X).take (n*4)) n::B) m,I fa]⟩)],N⟩) :
  aa C K ⟨[(q,.bool bo),(r,.aw 5 0)],[(0,⟨3,1,G⟩),(1,⟨122,2,T⟩),(2,⟨81,1,A++.bb 3 0 n::B⟩),(3,⟨77,4,D++I p::I c :: .bb 4 0 v :: .ax E e::X⟩),(4,⟨3,1,V⟩),(5,⟨40,0,[.bb 0 0 g,.bb 1 0 b,.bb 2 0 m,I fa]⟩)],N⟩:=by
 have kT:take (b*2) T=T:=take_of_length_le yA;refine aa.le (Le.dn (o:=1) rfl hT) ?_;simp[kT,aS hV,aS hG,aS hD,aS hA,aS hB,aS hX];exact C5 hG hT hA hB hD hE hV hX lG lA lV h
theorem x7 (m:Nat):∀ (ms:List Mx) (i j:Nat) (x:Mx),i<=m->ms[m-i]? = some x->pf (cC ms i) m j=((j+dj (ms.take (m-i)):Nat):Int)
 | [],i,j,x,_,h=>by simp at h
 | y::r,i,j,x,hi,h=>by
  rw[cC];by_cases he:i=m
  ·subst he;obtain⟨n,hn⟩:∃ n,max y.size 1=n+1:=⟨max y.size 1-1,by omega⟩;rw[hn,replicate_succ,cons_append,pf,if_pos rfl,Nat.sub_self,take_zero];rfl
  ·have e:m-i=(m-(i+1))+1:=by omega
   rw[e,getElem?_cons_succ] at h;rw[nO i m he,x7 m r (i+1) _ x yA h,e,take_succ_cons,dj];congr 1;omega
structure Fm (s:Sy):Prop where
 gs:∀ n∈s.gs,ot n
 vs:∀ l∈s.ts,∀ f∈l,∀ n∈f.aV,ot n
theorem Ch (u:Un)(s:Sy)(t:Int)(p:Pl)(hm:Fo u.ms)(hr:Fm s)(hb:s.ts.length<=1000000/\∀ l∈s.ts,l.length<=1000000)(hp:p.index<=1000000)(f:Fr)(Si:eW s t=some f)
  (T0:vW u.ms s.gs.length f.aV.length f.eA.length p):ae prog 92 [cg u,cT s,I t,.agg (gW p)] (.cB [I (bT u s t p).1,I (bT u s t p).2]):=by
 have VF:=rP s t hb;have RQ:trees [cT s,I t]=true:=by simp only[trees,tree,cT,kX,ints,Bool.and_self]
 have Wv:trees [.agg (gW p),.ax (u.ms.flatMap cH) u.ms.length,ints s.gs,ints f.aV]=true:=by
  simp only[trees,tree,cY,da,Bool.and_self]
 have tba:trees [.ax (u.ms.flatMap cH) u.ms.length,I p.index]=true:=by simp only[trees,tree,Bool.and_self]
 obtain⟨lf,Xf,hff⟩:=wx Si;rw[Si] at VF;have US:=Hy u.ms s.gs f.aV hr.gs (hr.vs lf Xf f hff) f.eA.length p T0;have R7:bT u s t p=if p.param=true then (((f.eA.getD p.index 0:Nat):Int),0) else
  if (gY u.ms s.gs f.aV p).2=0 then (wr (Dy u.ms p.index+(gY u.ms s.gs f.aV p).1),0) else (0,(gY u.ms s.gs f.aV p).2):=by
  simp only[bT,Si]
 rw[R7];generalize gY u.ms s.gs f.aV p=x at US |-;obtain⟨v,g⟩:=x;have Ym:¬ ((p.index:Int)<0):=by omega
 refine ae.aE ah Tryz.func92 rfl Ix (by simp[Tryz.ntmps92]) rfl λ C hC RR=>?_;rw[Tryz.ntmps92] at hC;simp only[cT,kX,cg,cR,gW,ints,tj,dY] at *
 cases XJ:p.param with
 | true=>
  have Wf:p.index<f.eA.length:=by
   rcases T0 with h | h
   ·exact h.2.1
   ·rw[XJ] at h;cases h.1
  obtain⟨a,ha⟩:∃ a,f.eA[p.index]? = some a:=⟨_,getElem?_eq_getElem Wf⟩;have Xk:=gX ha;have YH:¬ (f.eA.length<=p.index):=by omega
  apply aq;simp[hC];apply aq;simp[hC];refine cX RQ VF ?_;simp[hC]
  repeat first
   | apply T.seq
   | (apply aN;simp[hC])
   | (refine a9 ?_;simp)
   | (refine dy ?_;simp)
   | (apply T.skip;simp)
   | apply T.block
  refine T.rx ah follows [0,1,2,3,4,5,6,7,8,9,10,11,12] [] Ix ?_;simp[hC,aB,Wf,Ym,YH]
  repeat first
   | apply T.seq
   | (apply aN;simp[hC])
   | (refine a9 ?_;simp)
   | (refine dy ?_;simp)
   | (apply T.skip;simp)
   | apply T.block
  refine T.rx ah follows [0,1,2,3,4,5,6,7,8,9] [] Ix ?_;simp[hC,Wf,Xk];apply T.ret;apply aa.here;simp[Tryz.results92,(List.getElem?_eq_some_iff.1 ha).2]
 | false=>
  obtain⟨xm,Yf⟩:∃ x,u.ms[p.index]? = some x:=by
   rcases T0 with h | ⟨_,x,h,_⟩
   ·rw[XJ] at h;cases h.1
   ·exact⟨x,h⟩
  have hba:=Cj u.ms hm p.index xm Yf;have hbe:Dy u.ms p.index=(dj (u.ms.take p.index):Int):=by
   have:=x7 p.index u.ms 0 0 xm yA Yf;rw[Nat.zero_add] at this;exact this
  rw[XJ] at US Wv;apply aq;simp[hC];apply aq;simp[hC];refine cX RQ VF ?_;simp[hC]
  repeat first
   | apply T.seq
   | (apply aN;simp[hC])
   | (refine a9 ?_;simp)
   | (refine dy ?_;simp)
   | (apply T.skip;simp)
   | apply T.block
  refine T.rx ah follows [0,1,2,3,4,5,6,7,8,9,10,11,12,13,14] [] Ix ?_;simp[hC];refine RX.call rfl xr rfl rfl rfl Wv US ?_;simp;by_cases hg:g=0
  ·subst hg
   repeat first
    | apply T.seq
    | (apply aN;simp[hC])
    | (refine a9 ?_;simp)
    | (refine dy ?_;simp)
    | (apply T.skip;simp)
    | apply T.block
   refine cX tba hba ?_;simp[hC];apply T.ret;apply aa.here;simp[Tryz.results92,hbe,wr]
  ·have Vq:((g:Int) != 0)=true:=by rw[bne_iff_ne];omega
   repeat first
    | apply T.seq
    | (apply aN;simp[hC,Vq])
    | (refine T.cond (b:=false) ?_ ?_;(first | rfl | (simp[ev,assoc];done));simp)
    | (refine T.cond (b:=true) ?_ ?_;(first | rfl | (simp[ev,assoc,Vq];done));simp)
    | (apply T.skip;simp)
    | apply T.block
   apply T.ret;apply aa.here;simp[Tryz.results92,hg]
theorem rF {s:Sy}(h:GY s):s.ts.length<=1000000/\∀ l∈s.ts,l.length<=1000000:=⟨h.t,λ l hl=>(h.f l hl).1⟩
theorem qN (s:Sy)(t:Nat)(l0:List Fr)(f:Fr)(hl:s.ts[t]? = some (l0++[f]))(hs:GY s):Body prog av 41 [cT s] [] 0 (jC (.agg [.bb 0 0 s.gs.length,.bb 1 0 s.tb.length,.bb 2 0 s.ts.length,I s.fault]) (LO s t l0 f) 6):=by
 have h:=Ci s t l0 f (λ _=>hl) hs.g hs.b hs.t hs.f;rwa [if_pos (List.getElem?_eq_some_iff.1 hl).1] at h
set_option maxHeartbeats 4000000 in
set_option maxRecDepth 100000 in
theorem PG (s:Sy)(t:Nat)(l0:List Fr)(f:Fr)(g:Nat)(e:Ex)(he:vf s.gs.length f.aV.length e)(hl:s.ts[t]? = some (l0++[f]))(SL:s.fault=0)(hs:GY s)(hr:Fm s)(h6:f.pc<=1000000) :
  ae prog 44 [cT s,I t,.agg (cW (.branch g e))] (.cB [cT (OG s t l0 f g e),.bool true]):=by
 have Ut:eW s t=some f:=by simp[eW,hl,SL]
 have hmf:f∈l0++[f]:=by simp
 have UR:=mem_of_getElem? hl;have Tg:=(hs.f _ UR).1;have T8:l0.length<=1000000:=by simp at Tg;omega
 have VF:=rP s t (rF hs);rw[Ut] at VF;have TN:=qN s t l0 f hl hs;have SN:=rY s.gs f.aV hr.gs (hr.vs _ UR f hmf) e he;have V7:=jg s hs (bN s.gs f.aV e).2;have S7:=cD s;have ttp:trees [cT s,I t]=true:=by simp only[trees,tree,S7,Bool.and_self]
 have V2:trees [cT s,I (bN s.gs f.aV e).2]=true:=by simp only[trees,tree,S7,Bool.and_self]
 have Sa:tree (.cB [cT (OG s t l0 f g e),.bool true])=true:=by simp only[tree,trees,cD,Bool.and_self]
 have X5:OG s t l0 f g e=if (bN s.gs f.aV e).2=0 then { s with ts:=s.ts.set t (l0++[{ f with pc:=if (bN s.gs f.aV e).1=0 then g else f.pc+1 }]) } else { s with fault:=(bN s.gs f.aV e).2 }:=rfl
 refine ae.aE ah Tryz.func44 rfl Ix (by simp[Tryz.ntmps44]) Sa λ C hC RR=>?_;rw[Tryz.ntmps44] at hC;rw[X5];generalize bN s.gs f.aV e=va at SN V7 V2 |-;obtain⟨v,fa⟩:=va;have tev:trees [.agg (bf e),ints s.gs,ints f.aV]=true:=by simp only[trees,tree,aL,da,Bool.and_self]
 obtain⟨e1,e2,e3,e4,e5,X1,tec⟩:=fQ e;rw[X1] at SN tev;have tG:trees (s.gs.map dc)=true:=aO s.gs;have tT:trees (s.tb.flatMap dL)=true:=ak cj _;have tL:trees (l0.flatMap dY)=true:=ak cZ _;have tV:trees (f.aV.map dc)=true:=aO f.aV;have tE:=aK f.eA;have Sq:trees ((s.ts.take t).flatMap en)=true:=ak bX _;have SB:trees ((s.ts.drop (t+1)).flatMap en)=true:=ak bX _;have rG:=λ ρ=>af ρ _ tG;have rT:=λ ρ=>af ρ _ tT;have rL:=λ ρ=>af ρ _ tL;have rV:=λ ρ=>af ρ _ tV;have r1:=λ ρ=>af ρ _ Sq;have r2:=λ ρ=>af ρ _ SB;have rE:=λ ρ=>af ρ _ tE;have ra:∀ ρ (a b:List CV),aX ρ (a++b)=aX ρ a++aX ρ b:=λ ρ a b=>by rw[cc,cc,cc,map_append]
 simp only[cT,kX,ints,cW,X1,nZ,cons_append,nil_append,tj,dY,LO] at *;apply aq;simp[hC];refine T.seq (T.rx ah follows [0,1,2,3,4,5,6,7,8,9,10,11,12,13,14,15] [(1,6),(3,6)] Ix ?_);simp[hC];refine RX.call rfl xr rfl rfl rfl ttp VF ?_;simp;refine RX.call rfl xr rfl rfl rfl tev SN ?_;simp;by_cases hf:fa=0
 ·subst hf
  repeat first
   | apply T.seq
   | (apply aN;simp[hC])
   | (refine a9 ?_;simp)
   | (refine dy ?_;simp)
   | (apply T.skip;simp)
   | apply T.block
  refine TL.eQ ah [] [] 0 6 (TN) rfl SQ RT rfl rfl SF SF W9 SF SF (TL.go' ah ?_);simp[hC,bC,bh,aX,cN,bS,rG,rT,rL,rV,r1,r2,ra,aB];refine T.le (Le.norm [10,8,7,6,5,1] [(19,0),(20,1),(21,2),(22,3),(23,4),(25,5),(2,6),(1,7)] 0 8 Sn Sl WR yA) ?_;simp[cm,bh,aX,cN,dZ,assoc,rG,rT,rL,rV,r1,r2,ra];generalize hA:(s.ts.take t).flatMap en=A at Sq r1 |-;generalize hB:(s.ts.drop (t+1)).flatMap en=B at SB r2 |-;generalize hD:l0.flatMap dY=D at tL rL |-;have Si:=(List.getElem?_eq_some_iff.1 hl).1;have lA:A.length=t:=by rw[<- hA,fS,length_map,length_take];omega
  have lB:B.length=s.ts.length-(t+1):=by rw[<- hB,fS,length_map,length_drop]
  have lD:D.length=l0.length*4:=by rw[<- hD];exact aC ef l0
  have V4:=kA s.gs.length s.tb.length s.ts.length t l0.length f.proc f.pc f.aV.length f.eA.length A B D _ _ Sq SB tL tE tV _ (.inl rfl) lA lD Si hs.t T8;rw[SL];apply aq;simp[hC];have a1:A.all (aU 5)=true:=by rw[<- aT];exact bD 5 _ Sq
  have a2:B.all (aU 5)=true:=by rw[<- aT];exact bD 5 _ SB
  have a3:D.all (aU 5)=true:=by rw[<- aT];exact bD 5 _ tL
  refine TL.eQ ah [0,1,2,3,4] [2,3,4] 5 0 V4 rfl SQ RT rfl rfl SQ yCb SQ yCa ZG (TL.go' ah ?_);simp[hC,bC,bh,aX,cN,bS,rL,rV,r1,r2,ra];have dD:∀ r:List CV,(D++r).drop (l0.length*4)=r:=λ r=>by rw[<- lD];simp
  have Ur:∀ (r:List CV) (k:Nat),(D++r).drop (l0.length*4+k)=r.drop k:=λ r k=>by rw[<- lD,drop_append];simp
  have Vn:∀ (r:List CV) (k:Nat),(D++r).take (l0.length*4+k)=D++r.take k:=λ r k=>by rw[<- lD,take_append,take_of_length_le yA];simp
  have Vy:∀ (r:List CV),(D++r).drop (l0.length*4+1+1)=r.drop 2:=λ r=>Ur r 2;have w3:=cF ((f.pc:Int)+1) yA yA;have Sc:∀ pc:Nat,(s.ts.set t (l0++[{ f with pc:=pc }])).flatMap en=A++.ax (D++[I f.proc,I pc,.ax (f.aV.map dc) f.aV.length,.ax (f.eA.map λ n:Nat=>I n) f.eA.length]) (l0.length+1)::B:=λ pc=>by
   rw[set_eq_take_append_cons_drop,if_pos Si,flatMap_append,flatMap_cons,hA,hB];simp[en,dY,hD,ints,aB]
  have kF:∀ a b c d:CV,take ((l0.length+1)*4) (D++[a,b,c,d])=D++[a,b,c,d]:=λ a b c d=>take_of_length_le SO;apply aq;simp[hC,w3,lD,Ur,Vn,Vy];by_cases hv:v=0
  ·subst hv
   repeat first
    | apply T.seq
    | (apply aN;simp[hC,lD,Vn,Vy])
    | (refine T.cond (b:=false) ?_ ?_;(first | rfl | (simp[ev,assoc];done));simp)
    | (refine T.cond (b:=true) ?_ ?_;(first | rfl | (simp[ev,assoc,lD,dD,Ur,Vn,Vy];done));simp)
    | (apply T.skip;simp)
    | apply T.block
   apply T.ret;refine aa.le (Le.norm [7,6] [(0,0),(1,1),(2,2),(3,3),(4,4),(6,5)] 0 6 Sn Sl WR yA) ?_;simp[cm,bh,aX,cN,dZ,assoc,rG,rT,rL,rV,r1,r2,ra];refine lq tG tT Sq SB tL tE tV rfl xr (aC de _) yA xr ?_;simp[Sc,kF]
  ·have hv2:(v == 0)=false:=by rw[beq_eq_false_iff_ne];exact hv
   repeat first
    | apply T.seq
    | (apply aN;simp[hC,hv,hv2])
    | (refine T.cond (b:=false) ?_ ?_;(first | rfl | (simp[ev,assoc];done));simp)
    | (refine T.cond (b:=true) ?_ ?_;(first | rfl | (simp[ev,assoc,lD,dD,Ur,Vn,Vy,hv,hv2];done));simp)
    | (apply T.skip;simp)
    | apply T.block
   apply T.ret;refine aa.le (Le.norm [7,6] [(0,0),(1,1),(2,2),(3,3),(4,4),(6,5)] 0 6 Sn Sl WR yA) ?_;simp[cm,bh,aX,cN,dZ,assoc,rG,rT,rL,rV,r1,r2,ra];refine lq tG tT Sq SB tL tE tV rfl xr (aC de _) yA xr ?_;simp[Sc,kF]
 ·have SE:((fa:Int) != 0)=true:=by rw[bne_iff_ne];omega
  repeat first
   | apply T.seq
   | (apply aN;simp[hC,SE])
   | (refine T.cond (b:=false) ?_ ?_;(first | rfl | (simp[ev,assoc];done));simp)
   | (refine T.cond (b:=true) ?_ ?_;(first | rfl | (simp[ev,assoc,SE];done));simp)
   | (apply T.skip;simp)
   | apply T.block
  refine cX V2 V7 ?_;simp[hC];apply T.ret;refine aa.le (Le.trim [7,6] [2] 19 VA yA) ?_;simp;apply aa.here;simp[hf]
end Go.Proofs.YtlkmbdfhdknlgaaGreat
