/- A step by the program: a r -/
import Derived.Test.YtlkmbdfhdknlgaaGreatV47
import Derived.Test.YtlkmbdfhdknlgaaGreatV43
set_option maxHeartbeats 4000000
namespace Go.Proofs.YtlkmbdfhdknlgaaGreat
open Go.Can Go.aV List Tryz
set_option maxRecDepth 100000 in
theorem E8 (u:Un)(s:Sy)(t:Nat)(l0:List Fr)(f:Fr)(OZ:af prog 33 [cb u,bp s,I t] (gg (some .ret)))(hl:s.ts[t]? = some (l0++[f]))(PI:s.fault=0)(hs:Ev s) :
  af prog 14 [cb u,bp s,I t] (.bY [bp { s with ts:=s.ts.set t l0 },.bool true]):=by
 have RT:=mem_of_getElem? hl;have PV:=(hs.f _ RT).1;have PE:l0.length<=1000000:=by simp at PV;omega
 have PN:=qb s t l0 f hl hs;have P7:=cG s;have PR:=bt u;have OQ:trees [cb u,bp s,I t]=true:=by simp only[trees,tree,P7,cb,PR,Bool.and_self]
 have O1:tree (.bY [bp { s with ts:=s.ts.set t l0 },.bool true])=true:=by simp only[tree,trees,cG,Bool.and_self]
 refine af.aC ag Tryz.func14 rfl GK Xw O1 λ C hC OR=>?_;rw[Tryz.ntmps14] at hC;clear O1;have tG:trees (s.gs.map bj)=true:=aB s.gs;have tT:trees (s.tb.flatMap cg)=true:=ah ba _;have tL:trees (l0.flatMap cZ)=true:=ah bX _;have tV:trees (f.ay.map bj)=true:=aB f.ay;have tE:=aM f.b9;have OW:trees ((s.ts.take t).flatMap cd)=true:=ah aK _;have OY:trees ((s.ts.drop (t+1)).flatMap cd)=true:=ah aK _;have rG:=λ ρ=>ae ρ _ tG;have rT:=λ ρ=>ae ρ _ tT;have rL:=λ ρ=>ae ρ _ tL;have rV:=λ ρ=>ae ρ _ tV;have r1:=λ ρ=>ae ρ _ OW;have r2:=λ ρ=>ae ρ _ OY;have rE:=λ ρ=>ae ρ _ tE;have ra:∀ ρ (a b:List CV),aL ρ (a++b)=aL ρ a++aL ρ b:=λ ρ a b=>by rw[aY,aY,aY,map_append]
 simp only[gg,df,a8,kI,cons_append,nil_append,bp,dK,cb,eD,ints,I8] at OZ PN OQ |-;apply aq;simp[hC];apply aq;simp[hC];refine ct OQ OZ ?_;simp[hC]
 repeat first
  | apply T.seq
  | (apply aG;simp[hC])
  | (refine bh ?_;simp)
  | (refine cX ?_;simp)
  | (apply T.skip;simp)
  | apply T.block
 refine TL.du ag [] [] 0 6 (PN) rfl PU OU rfl rfl Pd Pd RZ Pd Pd (TL.go' ag ?_);simp[hC,br,bf,aL,cQ,bP,rG,rT,rL,rV,r1,r2,ra,aN];refine T.le (Le.norm [10,8,7,6,2] [(4,0),(5,1),(6,2),(7,3),(8,4),(10,5),(2,6),(3,7)] 0 8 Px Pw TY yA) ?_;simp[cz,bf,aL,cQ,dW,assoc,rG,rT,rL,rV,r1,r2,ra];generalize hA:(s.ts.take t).flatMap cd=A at OW r1 |-;generalize hB:(s.ts.drop (t+1)).flatMap cd=B at OY r2 |-;generalize hD:l0.flatMap cZ=D at tL rL |-;have O5:=(List.getElem?_eq_some_iff.1 hl).1;have lA:A.length=t:=by rw[<- hA,ch,length_map,length_take];omega
 have lB:B.length=s.ts.length-(t+1):=by rw[<- hB,ch,length_map,length_drop]
 have lD:D.length=l0.length*4:=by rw[<- hD];exact aA cL l0
 have R2:=kg s.gs.length s.tb.length s.ts.length t l0.length f.proc f.pc f.ay.length f.b9.length A B D _ _ OW OY tL tE tV _ (.inl rfl) lA lD O5 hs.t PE;rw[PI];have a1:A.all (aU 5)=true:=by rw[<- aE];exact bK 5 _ OW
 have a2:B.all (aU 5)=true:=by rw[<- aE];exact bK 5 _ OY
 have a3:D.all (aU 5)=true:=by rw[<- aE];exact bK 5 _ tL
 have dD:∀ r:List CV,(D++r).drop (l0.length*4)=r:=λ r=>by rw[<- lD];simp
 have PK:∀ (r:List CV) (k:Nat),(D++r).drop (l0.length*4+k)=r.drop k:=λ r k=>by rw[<- lD,drop_append];simp
 have P4:∀ (r:List CV) (k:Nat),(D++r).take (l0.length*4+k)=D++r.take k:=λ r k=>by rw[<- lD,take_append,take_of_length_le yA];simp
 have P6:∀ (r:List CV),(D++r).drop (l0.length*4+1+1)=r.drop 2:=λ r=>PK r 2;have dA:∀ r:List CV,(A++r).drop t=r:=λ r=>by rw[<- lA];simp
 have WE:∀ (x:CV) (r:List CV),(A++x::r).drop (t+1)=r:=λ x r=>by rw[<- lA,drop_append];simp
 have w1:=cw (l0.length:Int) yA yA;have w2:(l0.length:Int)<(l0.length:Int)+1:=by omega
 have kF:∀ r:List CV,take (l0.length*4) (D++r)=D:=λ r=>by rw[<- lD,take_left]
 have O6:(s.ts.set t l0).flatMap cd=A++.au D l0.length::B:=by
  rw[set_eq_take_append_cons_drop,if_pos O5,flatMap_append,flatMap_cons,hA,hB];simp[cd,hD]
 repeat first
  | apply T.seq
  | (apply aG;simp[hC,O5,dA])
  | (refine T.cond (b:=false) ?_ ?_;(first | rfl | (simp[ev,assoc,O5,lA,dA];done));simp)
  | (refine T.cond (b:=true) ?_ ?_;(first | rfl | (simp[ev,assoc,O5,lA,dA];done));simp)
  | (apply T.skip;simp)
  | apply T.block
 refine T.rx ag follows [0,1,2,3,4,5,6,7,8,9,10] [] GK ?_;simp[hC,O5,lA,WE,w1];apply aq;simp[hC];apply T.ret;refine aa.le (Le.norm [7,6] [(0,0),(1,1),(2,2),(3,3),(4,4),(6,5)] 0 6 Px Pw TY yA) ?_;simp[cz,bf,aL,cQ,dW,assoc,rG,rT,rL,rV,r1,r2,ra];refine kR tG tT OW OY tL tE tV rfl xr (aA cm _) yA xr ?_;simp[O6,kF]
def x5 (un:Bool)(d c:Nat):Nat:=if un=true then (if d=0 then 2 else 0) else if c<=d then (if c=1 then 3 else 4) else 0
def Ku (u:Un)(s:Sy)(t:Int):Nat×Nat:=match cN s t,dR u s t with
 | some f,some (.lock un p)=>match u.ms[lC (mG u.ms f) p]? with
  | some x=>if x5 un (gv u.ms s.tb (lC (mG u.ms f) p) t.toNat) (mW x)=0 then (0,0) else (x5 un (gv u.ms s.tb (lC (mG u.ms f) p) t.toNat) (mW x),lC (mG u.ms f) p)
  | none=>(0,0)
 | _,_=>(0,0)
theorem D6 {u:Un}{s:Sy}{t:Int}(h:∀ un p,dR u s t≠some (.lock un p)):Ku u s t=(0,0):=by
 unfold Ku;split
 .rename_i un p _ h2;exact (h un p h2).elim
 .rfl
theorem JP {z:In}(h:∀ un p,z≠.lock un p):((DK z == 4)=false)/\((DK z == 5)=false):=by
 cases z with
 | lock un p=>exact (h un p rfl).elim
 | call g t l ps=>cases g<;>exact⟨rfl,rfl⟩
 | _=>exact⟨rfl,rfl⟩
theorem De (x:Mx):(x.size=0/\x.re=false/\mW x=1)\/(¬ (x.size=0/\x.re=false)/\mW x=8):=by
 unfold mW;split
 .rename_i h;exact .inl ⟨h.1,h.2,rfl⟩
 .rename_i h;exact .inr ⟨h,rfl⟩
theorem CQ {u:Un}(hu:jx u){k:Nat}{s:Sy}(hs:nK u k s){t:Int}{un:Bool}{p:Pl}(hi:dR u s t=some (.lock un p)):∃ (n:Nat) (l0:List Fr) (f:Fr) (q:Pr) (xm:Mx),t=n/\cN s t=some f/\s.ts[n]? = some (l0++[f])/\IX u f/\u.ps[f.proc]? = some q/\
  (p.param=true->p.index<(mG u.ms f).bz.length)/\lC (mG u.ms f) p<u.ms.length/\u.ms[lC (mG u.ms f) p]? = some xm/\(cc u).is[fc (cc u).is (mG u.ms f)]? = some (mG u.ms f)/\∃ d:Nat,gz u s n 0=some (d,(l0++[f]).map (BW u)):=by
 cases ht:cN s t with
 | none=>simp[dR,ht] at hi
 | some f=>
  obtain⟨n,l0,rfl,hl,PI,_⟩:=oJ ht;obtain⟨o1,o2,_,_⟩:=hs.fX hl;obtain⟨q,hq,gJ,Tm,O7⟩:=o2.q;simp only[dR,ht,hq] at hi;have QW:=(hu.pc q (mem_of_getElem? hq)).2 _ (mem_of_getElem? hi);have Qb:pN u.ms u.gs.length q.locals q.bz p:=QW;have VY:(mG u.ms f).bz.length=q.bz:=by simp[mG,O7]
  have hm:=Hq ((BG hu).1.v _ o2.ic).m VY Qb;obtain⟨x0,WR⟩:∃ x,u.ms[0]? = some x:=⟨_,getElem?_eq_getElem (by have:=hu.nm;omega)⟩;refine⟨n,l0,f,q,_,rfl,rfl,hl,o2,hq,λ h=>?_,hm,getElem?_eq_getElem hm,Kl o2.ic,min (gv u.ms s.tb 0 n) (mW x0),by simp[gz,hl,WR]⟩;rw[VY];rcases Qb with h6 | h6
  .exact h6.2.1
  .rw[h] at h6;cases h6.1
theorem D1 {u:Un}(hu:jx u){s:Sy}{t:Int}{z:In}(hi:dR u s t=some z):(iL z).length<=1000/\(iQ z).length<=1000:=by
 unfold dR at hi;split at hi
 .rename_i f hf;split at hi
  .rename_i q hq;have QW:=(hu.pc q (mem_of_getElem? hq)).2 _ (mem_of_getElem? hi)
   cases z with
   | call go tg es ps=>
    obtain⟨c1,_,_⟩:=QW;rw[getElem?_map,Option.map_eq_some_iff] at c1;obtain⟨qq,Ru,c4⟩:=c1;simp only[Prod.mk.injEq] at c4;have:=hu.pr qq (mem_of_getElem? Ru);simp only[iL,iQ];omega
   | _=>simp[iL,iQ]
  .cases hi
 .cases hi
theorem Fe {u:Un}(hu:jx u){k:Nat}(hk:k<=1000){s:Sy}(hs:nK u k s)(t:Int):af prog 10 [cb u,oZ (cc u),bp s,I t] (.bY [I (Ku u s t).1,I (Ku u s t).2]):=by
 obtain⟨h1,h2,h3,h4,h5⟩:=hs.bounds hu hk;have RC:=mj hu;have OZ:=xA u s t ⟨h3,h4⟩ hs.frs λ z hz=>D1 hu hz;have tG:trees (s.gs.map bj)=true:=aB s.gs;have tT:trees (s.tb.flatMap cg)=true:=ah ba _;have tS:trees (s.ts.flatMap cd)=true:=ah aK _;have Ug:=ah cP (cc u).is;have Qy:=jn (cc u).calls;have Vb:=aM (cc u).roots;have OQ:trees [cb u,bp s,I t]=true:=by
  have:=bt u;simp only[trees,tree,bp,dK,cb,this,ints,Bool.and_self]
 refine af.aC ag Tryz.func10 rfl GK (by simp[Tryz.ntmps10]) rfl λ C hC OR=>?_;rw[Tryz.ntmps10] at hC;simp only[bp,dK,cb,eD,oZ,oY,ints,aN] at OZ OQ |-;apply aq;simp[hC];apply aq;simp[hC];refine ct OQ OZ ?_
 cases hi:dR u s t with
 | none=>
  have hz:Ku u s t=(0,0):=D6 λ un p h=>by rw[hi] at h;cases h
  rw[hz];simp[hC,gg];apply aT;simp[hC];refine T.cond (b:=true) PC ?_;simp;apply aq;simp[hC];apply T.ret;apply aa.here;simp[Tryz.results10]
 | some z=>
  by_cases Si:∀ un p,z≠.lock un p
  .have hz:Ku u s t=(0,0):=D6 λ un p h=>by rw[hi] at h;cases h;exact Si un p rfl
   obtain⟨n4,n5⟩:=JP Si;rw[hz];obtain⟨zc,YH,XO⟩:=zg z;obtain⟨c1,c2,c3,c4,c5,c6,c7,c8,c9,c10,c11,rfl⟩:=Ld XO;have n4':(DK z != 4)=true:=by simp only[bne,n4,Bool.not_false]
   have n5':(DK z != 5)=true:=by simp only[bne,n5,Bool.not_false]
   have TM:=AZ z;rw[YH] at TM;simp only[all_cons,all_nil,Bool.and_true,Bool.and_eq_true] at TM;obtain⟨_,o1,o2,o3,o4,o5,o6,o7,o8,o9,o10,o11⟩:=TM;simp[hC,gg,YH];apply aT;simp[hC,n4',n5'];refine T.cond (b:=true) PC ?_;simp;apply aq;simp[hC];apply T.ret;apply aa.here;simp[Tryz.results10]
  .obtain⟨un,p,rfl⟩:∃ un p,z=.lock un p:=by
    by_cases h:∃ un p,z=.lock un p
    .exact h
    .exact (Si λ un p e=>h ⟨un,p,e⟩).elim
   obtain⟨n,l0,f,q,xm,rfl,Pq,hl,T9,hq,Qb,hm,XQ,Rp,d0,hpr2⟩:=CQ hu hs hi;have Pv:Ku u s n=if x5 un (gv u.ms s.tb (lC (mG u.ms f) p) n) (mW xm)=0 then (0,0) else (x5 un (gv u.ms s.tb (lC (mG u.ms f) p) n) (mW xm),lC (mG u.ms f) p):=by
    simp only[Ku,Pq,hi,XQ,Int.toNat_natCast]
   rw[Pv];have So:((l0++[f]).flatMap cZ).drop (l0.length*4)=cZ f:=by
    have h6:(l0++[f])[l0.length]? = some f:=by simp
    have h7:=aH (f:=cZ) (n:=4) cL h6;rw[h7,drop_of_length_le xr];simp
   have Q4:=EK hl;have O5:=(List.getElem?_eq_some_iff.1 hl).1;have Yf:(l0++[f]).length=l0.length+1:=by simp
   have Re:=h4 _ (mem_of_getElem? hl);simp only[length_append,length_singleton] at Re;have tP:trees ((l0++[f]).flatMap cZ)=true:=ah bX _;obtain⟨q',QS,_,_,ZG⟩:=T9.q;have hqv':=hu.pr q' (mem_of_getElem? QS);have QM:=xU hu f yA T9.el;have tio:trees [cb u,.agg (cZ f)]=true:=by
    have:=bt u;simp only[trees,tree,cb,this,bX,Bool.and_self]
   generalize l0++[f]=P at So Yf tP Q4;have Sg:=Hp (mG u.ms f) p Qb;have tmu:trees [.agg (gI (mG u.ms f)),.agg (fC p)]=true:=by simp only[trees,tree,cP,cJ,Bool.and_self]
   have Sp:=xD u.ms RC s.tb (lC (mG u.ms f) p) n xm XQ hs.tb yA λ h hh=>⟨by have:=(hs.hd h hh).1;omega,by have:=hs.ho h hh;omega⟩;have tde:trees [.au (u.ms.flatMap cI) u.ms.length,.au (s.tb.flatMap cg) s.tb.length,I (lC (mG u.ms f) p),I n]=true:=by simp only[trees,tree,Bool.and_self]
   have P9:=aH (f:=cI) (n:=3) ir XQ;have Xp:=De xm;generalize lC (mG u.ms f) p=mu at *;generalize gv u.ms s.tb mu n=dd at *;obtain⟨i1,i2,i3,hisc,tis2⟩:∃ p ls n,gI (mG u.ms f)=[I p,.au ls n]/\trees ls=true:=⟨_,_,_,rfl,aM _⟩;rw[hisc] at QM Sg tmu;simp only[cb,eD,ints,aN,cZ] at QM tio So;obtain⟨p1,p2,p3,p4,gJ,WK⟩:=lp p;rw[gJ] at Sg tmu;have w1:=cw (l0.length:Int) yA yA;have w2:(((l0.length+1:Nat):Int)-1)=(l0.length:Int):=by omega
   have w3:(l0.length:Int)<(l0.length:Int)+1:=by omega
   generalize hcap:mW xm=cap at *;have hK1:x5 true dd cap=if dd=0 then 2 else 0:=by simp[x5]
   have hK2:x5 false dd cap=if cap<=dd then (if cap=1 then 3 else 4) else 0:=by simp[x5]
   simp only[hC,gg,df,a8,gJ,cons_append,nil_append]
   cases un with
   | true=>
    simp;apply aT;simp[hC];refine T.cond (b:=false) PC (T.skip ?_);simp;apply aq;simp[hC,O5,Q4,cd];refine T.seq (T.rx ag follows [0,1,2,3,4,5,6,8,9,7,10,11] [(9,7)] GK ?_);simp[hC,Yf,w1,w3,So];refine RX.call rfl rfl rfl rfl rfl tio QM ?_;simp;refine RX.call rfl rfl rfl rfl rfl tmu Sg ?_;simp;apply aq;simp[hC];refine ct tde Sp ?_;simp[hC];by_cases TT:dd=0
    .subst TT;have hK:x5 true 0 cap=2:=by simp[x5]
     rcases Xp with ⟨z1,z2,Sv⟩ | ⟨z1,hc8⟩
     .repeat first
       | apply T.seq
       | (apply aG;simp[hC,hm,P9,cI,z1,z2])
       | (refine T.cond (b:=false) ?_ ?_;(first | rfl | (simp[ev,assoc];done));simp)
       | (refine T.cond (b:=true) ?_ ?_;(first | rfl | (simp[ev,assoc,hm,P9,cI,z1,z2];done));simp)
       | (apply T.skip;simp)
       | apply T.block
      apply T.ret;apply aa.here;simp[Tryz.results10,hK]
     .by_cases z2:xm.size=0
      .have z3:xm.re=true:=by
        cases hr:xm.re with
        | true=>rfl
        | false=>exact (z1 ⟨z2,hr⟩).elim
       repeat first
        | apply T.seq
        | (apply aG;simp[hC,hm,P9,cI,z2,z3])
        | (refine T.cond (b:=false) ?_ ?_;(first | rfl | (simp[ev,assoc];done));simp)
        | (refine T.cond (b:=true) ?_ ?_;(first | rfl | (simp[ev,assoc,hm,P9,cI,z2,z3];done));simp)
        | (apply T.skip;simp)
        | apply T.block
       apply T.ret;apply aa.here;simp[Tryz.results10,hK]
      .repeat first
        | apply T.seq
        | (apply aG;simp[hC,hm,P9,cI,z2])
        | (refine T.cond (b:=false) ?_ ?_;(first | rfl | (simp[ev,assoc];done));simp)
        | (refine T.cond (b:=true) ?_ ?_;(first | rfl | (simp[ev,assoc,hm,P9,cI,z2];done));simp)
        | (apply T.skip;simp)
        | apply T.block
       apply T.ret;apply aa.here;simp[Tryz.results10,hK]
    .have hK:x5 true dd cap=0:=by simp[x5,TT]
     rcases Xp with ⟨z1,z2,Sv⟩ | ⟨z1,hc8⟩
     .repeat first
       | apply T.seq
       | (apply aG;simp[hC,hm,P9,cI,z1,z2,TT])
       | (refine T.cond (b:=false) ?_ ?_;(first | rfl | (simp[ev,assoc];done));simp)
       | (refine T.cond (b:=true) ?_ ?_;(first | rfl | (simp[ev,assoc,hm,P9,cI,z1,z2,TT];done));simp)
       | (apply T.skip;simp)
       | apply T.block
      apply T.ret;apply aa.here;simp[Tryz.results10,hK]
     .by_cases z2:xm.size=0
      .have z3:xm.re=true:=by
        cases hr:xm.re with
        | true=>rfl
        | false=>exact (z1 ⟨z2,hr⟩).elim
       repeat first
        | apply T.seq
        | (apply aG;simp[hC,hm,P9,cI,z2,z3,TT])
        | (refine T.cond (b:=false) ?_ ?_;(first | rfl | (simp[ev,assoc];done));simp)
        | (refine T.cond (b:=true) ?_ ?_;(first | rfl | (simp[ev,assoc,hm,P9,cI,z2,z3,TT];done));simp)
        | (apply T.skip;simp)
        | apply T.block
       apply T.ret;apply aa.here;simp[Tryz.results10,hK]
      .repeat first
        | apply T.seq
        | (apply aG;simp[hC,hm,P9,cI,z2,TT])
        | (refine T.cond (b:=false) ?_ ?_;(first | rfl | (simp[ev,assoc];done));simp)
        | (refine T.cond (b:=true) ?_ ?_;(first | rfl | (simp[ev,assoc,hm,P9,cI,z2,TT];done));simp)
        | (apply T.skip;simp)
        | apply T.block
       apply T.ret;apply aa.here;simp[Tryz.results10,hK]
   | false=>
    simp;apply aT;simp[hC];refine T.cond (b:=false) PC (T.skip ?_);simp;apply aq;simp[hC,O5,Q4,cd];refine T.seq (T.rx ag follows [0,1,2,3,4,5,6,8,9,7,10,11] [(9,7)] GK ?_);simp[hC,Yf,w1,w3,So];refine RX.call rfl rfl rfl rfl rfl tio QM ?_;simp;refine RX.call rfl rfl rfl rfl rfl tmu Sg ?_;simp;apply aq;simp[hC];refine ct tde Sp ?_;simp[hC];rcases Xp with ⟨z1,z2,Sv⟩ | ⟨z1,hc8⟩
    .subst Sv;by_cases TT:dd=0
     .subst TT;have hK:x5 false 0 1=0:=by simp[x5]
      repeat first
       | apply T.seq
       | (apply aG;simp[hC,hm,P9,cI,z1,z2])
       | (refine T.cond (b:=false) ?_ ?_;(first | rfl | (simp[ev,assoc,hm,P9,cI,z1,z2];done));simp)
       | (refine T.cond (b:=true) ?_ ?_;(first | rfl | (simp[ev,assoc,hm,P9,cI,z1,z2];done));simp)
       | (apply T.skip;simp)
       | apply T.block
      apply T.ret;apply aa.here;simp[Tryz.results10,hK]
     .have Qa:0<dd:=by omega
      have hK:x5 false dd 1=3:=by simp[x5];omega
      repeat first
       | apply T.seq
       | (apply aG;simp[hC,hm,P9,cI,z1,z2,Qa])
       | (refine T.cond (b:=false) ?_ ?_;(first | rfl | (simp[ev,assoc];done));simp)
       | (refine T.cond (b:=true) ?_ ?_;(first | rfl | (simp[ev,assoc,hm,P9,cI,z1,z2,Qa];done));simp)
       | (apply T.skip;simp)
       | apply T.block
      apply T.ret;apply aa.here;simp[Tryz.results10,hK]
    .subst hc8;by_cases hd8:8<=dd
     .have Qa:(8:Int)<=(dd:Int):=by omega
      have hK:x5 false dd 8=4:=by simp[x5];omega
      by_cases z2:xm.size=0
      .have z3:xm.re=true:=by
        cases hr:xm.re with
        | true=>rfl
        | false=>exact (z1 ⟨z2,hr⟩).elim
       repeat first
        | apply T.seq
        | (apply aG;simp[hC,hm,P9,cI,z2,z3,Qa])
        | (refine T.cond (b:=false) ?_ ?_;(first | rfl | (simp[ev,assoc];done));simp)
        | (refine T.cond (b:=true) ?_ ?_;(first | rfl | (simp[ev,assoc,hm,P9,cI,z2,z3,Qa];done));simp)
        | (apply T.skip;simp)
        | apply T.block
       apply T.ret;apply aa.here;simp[Tryz.results10,hK]
      .repeat first
        | apply T.seq
        | (apply aG;simp[hC,hm,P9,cI,z2,Qa])
        | (refine T.cond (b:=false) ?_ ?_;(first | rfl | (simp[ev,assoc];done));simp)
        | (refine T.cond (b:=true) ?_ ?_;(first | rfl | (simp[ev,assoc,hm,P9,cI,z2,Qa];done));simp)
        | (apply T.skip;simp)
        | apply T.block
       apply T.ret;apply aa.here;simp[Tryz.results10,hK]
     .have Qa:¬ (8:Int)<=(dd:Int):=by omega
      have hK:x5 false dd 8=0:=by simp[x5];omega
      by_cases z2:xm.size=0
      .have z3:xm.re=true:=by
        cases hr:xm.re with
        | true=>rfl
        | false=>exact (z1 ⟨z2,hr⟩).elim
       repeat first
        | apply T.seq
        | (apply aG;simp[hC,hm,P9,cI,z2,z3,Qa])
        | (refine T.cond (b:=false) ?_ ?_;(first | rfl | (simp[ev,assoc,hm,P9,cI,z2,z3,Qa];done));simp)
        | (refine T.cond (b:=true) ?_ ?_;(first | rfl | (simp[ev,assoc,hm,P9,cI,z2,z3,Qa];done));simp)
        | (apply T.skip;simp)
        | apply T.block
       apply T.ret;apply aa.here;simp[Tryz.results10,hK]
      .repeat first
        | apply T.seq
        | (apply aG;simp[hC,hm,P9,cI,z2,Qa])
        | (refine T.cond (b:=false) ?_ ?_;(first | rfl | (simp[ev,assoc,hm,P9,cI,z2,Qa];done));simp)
        | (refine T.cond (b:=true) ?_ ?_;(first | rfl | (simp[ev,assoc,hm,P9,cI,z2,Qa];done));simp)
        | (apply T.skip;simp)
        | apply T.block
       apply T.ret;apply aa.here;simp[Tryz.results10,hK]
theorem CR (ms:List Mx)(tb:List Ho)(e t:Nat):(er ms tb e t).1.length=tb.length:=by
 unfold er;split
 .split<;>simp
 .rfl
theorem yw (ms:List Mx)(tb:List Ho)(e t:Nat):(da ms tb e t).1.length=tb.length:=by
 unfold da;split
 .split<;>simp
 .rfl
theorem syv_b {u:Un}(hu:jx u){k:Nat}(hk:k<=1000){s:Sy}(hs:nK u k s):Ev s:=by
 obtain⟨h1,h2,h3,h4,h5⟩:=hs.bounds hu hk;refine⟨h1,h2,h3,λ l hl=>⟨h4 l hl,λ f hf=>?_⟩⟩;obtain⟨q,hq,gJ,Tm,O7⟩:=(hs.fr l hl f hf).q;have XT:=hu.pr q (mem_of_getElem? hq);omega
theorem E9 {u:Un}(hu:jx u){k:Nat}(hk:k<=1000){s:Sy}(hs:nK u k s)(hr:B4 s)(t:Int) :
  af prog 14 [cb u,bp s,I t] (.bY [bp (fy u s t).1,.bool (fy u s t).2]):=by
 obtain⟨h1,h2,h3,h4,h5⟩:=hs.bounds hu hk;have PB:=hs.frs;have T2:=syv_b hu hk hs;have OZ:=xA u s t ⟨h3,h4⟩ PB λ z hz=>D1 hu hz;unfold fy
 cases ht:cN s t with
 | none=>
  have PF:dR u s t=none:=by simp[dR,ht]
  rw[PF] at OZ;exact CB u s t T2 OZ
 | some f=>
  obtain⟨n,l0,rfl,hl,PI,hd⟩:=oJ ht;obtain⟨o1,o2,o3,o4⟩:=hs.fX hl;obtain⟨q,hq,gJ,Tm,O7⟩:=o2.q;obtain⟨i,hi⟩:∃ i,q.code[f.pc]? = some i:=⟨_,getElem?_eq_getElem gJ⟩;have PF:dR u s n=some i:=by simp[dR,ht,hq,hi]
  rw[PF] at OZ;obtain⟨h6,h7⟩:=h5 _ (mem_of_getElem? hl) f xr;have QW:=(hu.pc q (mem_of_getElem? hq)).2 i (mem_of_getElem? hi);have XT:=hu.pr q (mem_of_getElem? hq);rw[<- hs.gs,<- Tm,<- O7] at QW;have RC:=mj hu;have Sf:=xF u.ms;have Qa:∀ h∈s.tb,h.d<=1000000/\(h.o≠0->0<h.d):=λ h hh=>by
   have:=hs.hd h hh;exact⟨by omega,this.2⟩
  have Td:∀ h∈s.tb,h.o<=1000000:=λ h hh=>by
   have:=hs.ho h hh;omega
  have P5:=hu.nm;have RS:∀ p:Pl,pN u.ms s.gs.length f.ay.length f.b9.length p->p.index<=1000000:=λ p hp=>by
   rcases hp with ⟨_,h,_⟩ | ⟨_,m,h,_⟩
   .omega
   .have:=(List.getElem?_eq_some_iff.1 h).1;omega
  have hnt:=(List.getElem?_eq_some_iff.1 hl).1;simp only[PF,Int.toNat_natCast,hd]
  cases i with
  | set k' gl e=>
   obtain⟨e1,e2,e3,e4,e5,S7,XH⟩:=fe e;exact Ak u s _ n true (.set k' gl e) 1 k' e1 e2 0 gl false e3 e4 [] [] [] e5 0 0 0 (by simp[df,S7,kI]) (.inl rfl) OZ (JJ s n l0 f k' gl e QW.1 QW.2 hl PI T2 hr h7)
  | branch g e=>
   obtain⟨e1,e2,e3,e4,e5,S7,XH⟩:=fe e;exact Ak u s _ n true (.branch g e) 6 g e1 e2 0 false false e3 e4 [] [] [] e5 0 0 0 (by simp[df,S7,kI]) (.inr rfl) OZ (My s n l0 f g e QW.2 hl PI T2 hr h7)
  | jump g=>exact CC u s n l0 f g OZ hl PI T2 h7
  | ret=>exact E8 u s n l0 f OZ hl PI T2
  | lock un p=>
   have Qb:pN u.ms s.gs.length f.ay.length f.b9.length p:=QW;obtain⟨j,hj⟩:=gh u s n p RC f ht Qb;have hn:aZ u s n p=((j:Int),(aZ u s n p).2):=by rw[<- hj]
   have S0:(aZ u s n p).2=0->j<(a6 u.ms).length:=λ h0=>(mN hu ht o2 Qb (by rw[hn,h0])).1;obtain⟨p1,p2,p3,p4,UI,WK⟩:=lp p
   cases un with
   | true=>
    have hh:=Aq u s n l0 f p true j (aZ u s n p).2 (da u.ms s.tb j n).1 (da u.ms s.tb j n).2 hn RC (RS p Qb) Qb (λ h0=>CA u.ms s.tb j n (S0 h0) hs.tb yA h2 Qa Td) (yw _ _ _ _) hl PI T2 hr h7;have he:Ko s n l0 f true (aZ u s n p).2 (da u.ms s.tb j n).1 (da u.ms s.tb j n).2=EE u s n l0 f p:=by simp[Ko,EE,hj]
    rw[he] at hh;exact Aj u s _ n _ (.lock true p) 5 0 0 0 p2 false p1 eS [] p3 [] [] 0 p4 0 0 (by simp[df,UI,a8]) (.inr rfl) OZ hh
   | false=>
    have hh:=Aq u s n l0 f p false j (aZ u s n p).2 (er u.ms s.tb j n).1 (er u.ms s.tb j n).2 hn RC (RS p Qb) Qb (λ h0=>G7 u.ms RC s.tb j n (S0 h0) hs.tb Sf yA h2 (λ h hh=>(Qa h hh).1) Td) (CR _ _ _ _) hl PI T2 hr h7;have he:Ko s n l0 f false (aZ u s n p).2 (er u.ms s.tb j n).1 (er u.ms s.tb j n).2=Fw u s n l0 f p:=by simp[Ko,Fw,hj]
    rw[he] at hh;exact Aj u s _ n _ (.lock false p) 4 0 0 0 p2 false p1 eS [] p3 [] [] 0 p4 0 0 (by simp[df,UI,a8]) (.inl rfl) OZ hh
  | call go tg es ps=>
   obtain⟨c1,c2,c3⟩:=QW;rw[getElem?_map,Option.map_eq_some_iff] at c1;obtain⟨qq,Ru,c4⟩:=c1;simp only[Prod.mk.injEq] at c4;have hqv2:=hu.pr qq (mem_of_getElem? Ru);have Tp:sj u tg=qq.locals:=by simp only[sj,Ru]
   have c5:∀ p∈ps,p.index<=1000000/\pN u.ms s.gs.length f.ay.length f.b9.length p:=λ p hp=>⟨RS p (c3 p hp),c3 p hp⟩
   cases go with
   | true=>
    have hh:=Mv u s n l0 f true tg es ps qq RC Ru c2 yA c5 yA yA yA hl PI T2 hr h7 rfl;simp only[ib,if_true,Tp];exact Al u s _ n true (.call true tg es ps) 3 tg 0 0 0 false false eS [] [] _ _ 0 0 _ _ (by simp[df,a8,kI];exact⟨⟨rfl,rfl⟩,rfl,rfl⟩) (.inr rfl) OZ hh
   | false=>
    have hh:=Hb u s n l0 f false tg es ps qq RC Ru c2 yA c5 yA yA yA hl PI T2 hr h7 rfl;simp only[ib,Bool.false_eq_true,if_false,Tp];exact Al u s _ n true (.call false tg es ps) 2 tg 0 0 0 false false eS [] [] _ _ 0 0 _ _ (by simp[df,a8,kI];exact⟨⟨rfl,rfl⟩,rfl,rfl⟩) (.inl rfl) OZ hh
theorem K6:nL 0:=by unfold nL;omega
theorem ML {u:Un}(hu:jx u):B4 (iJ u):=by
 refine⟨λ n hn=>?_,λ l hl f hf n hn=>?_⟩
 .have:=hu.gi n hn;unfold nL;omega
 .simp only[iJ,mem_singleton] at hl;subst hl;rw[mem_singleton] at hf;subst hf;rw[eq_of_mem_replicate hn];exact K6
theorem jI {s:Sy}(hr:B4 s){t:Nat}{L:List Fr}{gs:List Int}{tb:List Ho}{fa:Nat}(hg:∀ n∈gs,nL n)(hL:∀ f∈L,∀ n∈f.ay,nL n):B4 { gs:=gs,tb:=tb,ts:=s.ts.set t L,fault:=fa }:=by
 refine⟨hg,λ l hl=>?_⟩;rcases mem_or_eq_of_mem_set hl with h | h
 .exact hr.vs l h
 .subst h;exact hL
theorem Bl {gs ls:List Int}(hg:∀ n∈gs,nL n)(hl:∀ n∈ls,nL n):∀ es:List Ex,(∀ e∈es,px gs.length ls.length e)->∀ n∈(cR gs ls es).1,nL n
 | [],_,n,h=>by simp[cR] at h
 | e::r,he,n,h=>by
  rw[cR] at h;split at h
  .rcases mem_cons.1 h with rfl | h
   .exact sw hg hl (he e mem_cons_self)
   .exact Bl hg hl r (λ x hx=>he x (mem_cons_of_mem _ hx)) n h
  .simp at h
theorem Jq {u:Un}(hu:jx u){k:Nat}{s:Sy}(hs:nK u k s)(hr:B4 s)(t:Int):B4 (fy u s t).1:=by
 have same:∀ tb fa,B4 { gs:=s.gs,tb:=tb,ts:=s.ts,fault:=fa }:=λ _ _=>⟨hr.gs,hr.vs⟩;unfold fy;split
 .exact hr
 .rename_i f hf;split
  .exact hr
  .rename_i i hi;obtain⟨n,l0,rfl,hl,_,hd⟩:=oJ hf;obtain⟨q,hq,gJ,Tm,O7⟩:=(hs.fX hl).2.1.q;simp only[dR,hf,hq] at hi;rw[Int.toNat_natCast,hd];have QW:=(hu.pc q (mem_of_getElem? hq)).2 i (mem_of_getElem? hi);rw[<- hs.gs,<- Tm,<- O7] at QW;have hlv:=hr.vs _ (mem_of_getElem? hl);have h0:∀ g∈l0,∀ n∈g.ay,nL n:=λ g hg=>hlv g (by simp[hg]);have h1:∀ n∈f.ay,nL n:=hlv f xr;have hL:∀ pc,∀ g∈l0++[{ f with pc:=pc }],∀ n∈g.ay,nL n:=λ pc g hg=>by
    rcases mem_append.1 hg with h | h
    .exact h0 g h
    .rw[mem_singleton] at h;subst h;exact h1
   cases i with
   | set k' gl e=>
    have hv:=sw hr.gs h1 QW.2;simp only[ib,I1];split
    .split
     .refine jI hr (λ n hn=>?_) (hL _);rcases mem_or_eq_of_mem_set hn with h | h
      .exact hr.gs n h
      .subst h;exact hv
     .refine jI hr hr.gs λ g hg n hn=>?_;rcases mem_append.1 hg with h | h
      .exact h0 g h n hn
      .rw[mem_singleton] at h;subst h;rcases mem_or_eq_of_mem_set hn with h | h
       .exact h1 n h
       .subst h;exact hv
    .exact same _ _
   | branch g e=>
    simp only[ib,Jd];split
    .exact jI hr hr.gs (hL _)
    .exact same _ _
   | jump g=>exact jI hr hr.gs (hL _)
   | ret=>exact jI hr hr.gs h0
   | lock un p=>
    simp only[ib];split
    .simp only[EE];split
     .split
      .exact jI hr hr.gs (hL _)
      .exact same _ _
     .exact same _ _
    .simp only[Fw];split
     .split
      .exact jI hr hr.gs (hL _)
      .exact hr
     .exact same _ _
   | call go tg es ps=>
    obtain⟨c1,c2,c3⟩:=QW;have he:=Bl hr.gs h1 es c2;have ha:(fw u s n f tg (sj u tg) es ps).2=0->∀ m∈(fw u s n f tg (sj u tg) es ps).1.ay,nL m:=λ _ m hm=>by
     unfold fw at hm;split at hm
     .split at hm
      .rcases mem_append.1 hm with h | h
       .exact he m h
       .rw[eq_of_mem_replicate h];exact K6
      .exact he m hm
     .exact he m hm
    simp only[ib];split
    .simp only[I5];split
     .rename_i h;split
      .exact same _ _
      .refine⟨hr.gs,λ l P3=>?_⟩;rcases mem_append.1 P3 with h2 | h2
       .exact (jI (tb:=s.tb) (fa:=0) hr hr.gs (hL (f.pc+1))).vs l h2
       .rw[mem_singleton] at h2;subst h2;intro g hg;rw[mem_singleton] at hg;subst hg;exact ha h
     .exact same _ _
    .simp only[Jc];split
     .rename_i h;refine jI hr hr.gs λ g hg m hm=>?_;rcases mem_append.1 hg with h2 | h2
      .exact h0 g h2 m hm
      .rcases mem_cons.1 h2 with h2 | h2
       .subst h2;exact h1 m hm
       .rw[mem_singleton] at h2;subst h2;exact ha h m hm
     .exact same _ _
def ON (s:Sy):Prop:=∀ h∈s.tb,h.o<=s.ts.length/\(h.o=0->h.d=0)
def BT (i:Nat)(a b:List Ho):Prop:=∀ (j:Nat) (h h':Ho),a[j]? = some h->b[j]? = some h'->(h.o=i+1\/h'.o=i+1)->h=h'
theorem BT.refl (i:Nat)(a:List Ho):BT i a a:=λ j h h' h1 h2 _=>by rw[h1] at h2;cases h2;rfl
theorem mQ (m i:Nat):∀ (os:List Nat) (a b:List Ho),a.length=b.length->BT i a b->fH m i os b=fH m i os a
 | [],a,b,_,_=>by cases a<;>cases b<;>rfl
 | o::os,[],[],_,_=>rfl
 | o::os,[],_::_,h,_=>by simp at h
 | o::os,_::_,[],h,_=>by simp at h
 | o::os,x::a,y::b,h,ht=>by
  have h1:=mQ m i os a b Sa λ j p q hp hq hd=>ht (j+1) p q (by simpa using hp) (by simpa using hq) hd;have h2:=ht 0 x y rfl rfl;simp only[fH,h1];by_cases hd:x.o=i+1\/y.o=i+1
  .rw[h2 hd]
  .have hx:x.o≠i+1:=λ e=>hd (.inl e);have hy:y.o≠i+1:=λ e=>hd (.inr e);rw[if_neg (λ e=>hy e.2),if_neg (λ e=>hx e.2)]
theorem tr (m i:Nat):∀ (os:List Nat) (a:List Ho),(∀ h∈a,h.o<=i)->fH m i os a=0
 | [],a,_=>by cases a<;>rfl
 | o::os,[],_=>rfl
 | o::os,x::a,h=>by
  have h1:=h x mem_cons_self;simp only[fH,tr m i os a λ y hy=>h y (mem_cons_of_mem _ hy)];rw[if_neg (λ e=>by omega)]
theorem BT.set {i:Nat}{a:List Ho}{e:Nat}{x y:Ho}(he:a[e]? = some x)(hx:x.o≠i+1)(hy:y.o≠i+1):BT i a (a.set e y):=λ j h h' h1 h2 hd=>by
 by_cases hj:e=j
 .subst hj;rw[he] at h1;cases h1;rw[getElem?_set_self (List.getElem?_eq_some_iff.1 he).1] at h2;cases h2;rcases hd with hd | hd
  .exact (hx hd).elim
  .exact (hy hd).elim
 .rw[getElem?_set_ne hj,h1] at h2;cases h2;rfl
theorem Ka (ms:List Mx)(tb:List Ho)(e th:Nat):(er ms tb e th).1.length=tb.length/\(∀ i,i≠th->BT i tb (er ms tb e th).1)/\∀ h∈(er ms tb e th).1,h∈tb\/h.o=th+1:=by
 unfold er;split
 .rename_i hf;refine⟨by simp,λ i hi=>?_,λ h hh=>?_⟩
  .unfold pF at hf;split at hf
   .rename_i m h hm hh;rw[hh];refine BT.set hh (λ Qn=>?_) WG;rw[Qn] at hf;simp at hf;omega
   .cases hf
  .rcases mem_or_eq_of_mem_set hh with hh | hh
   .exact .inl hh
   .exact .inr (by rw[hh])
 .exact⟨rfl,λ i _=>BT.refl i tb,λ h hh=>.inl hh⟩
theorem ED (ms:List Mx)(tb:List Ho)(e th:Nat):(da ms tb e th).1.length=tb.length/\(∀ i,i≠th->BT i tb (da ms tb e th).1)/\∀ h∈(da ms tb e th).1,h∈tb\/h.o=th+1\/(h.o=0/\h.d=0):=by
 unfold da;split
 .rename_i h hm hh;split
  .rename_i ho;refine⟨by simp,λ i hi=>BT.set hh yA ?_,λ x hx=>?_⟩
   .split
    .simp only;omega
    .simp only;omega
   .rcases mem_or_eq_of_mem_set hx with hx | hx
    .exact .inl hx
    .rw[hx];split
     .exact .inr (.inr ⟨rfl,rfl⟩)
     .exact .inr (.inl rfl)
  .exact⟨rfl,λ i _=>BT.refl i tb,λ h hh=>.inl hh⟩
 .exact⟨rfl,λ i _=>BT.refl i tb,λ h hh=>.inl hh⟩
structure rC (u:Un)(t:Nat)(s s':Sy):Prop where
 tbl:s'.tb.length=s.tb.length
 tb:∀ i,i≠t->BT i s.tb s'.tb
 ow:ON s->ON s'
 ts:∀ i,i≠t->i<s.ts.length->s'.ts[i]? = s.ts[i]?
 len:s.ts.length<=s'.ts.length
 new:∀ i l,s.ts.length<=i->s'.ts[i]? = some l->i=s.ts.length/\t<s.ts.length/\∃ g:Fr,l=[g]/\g.pc=0/\mG u.ms g∈(cc u).is/\fc (cc u).is (mG u.ms g)∈(cc u).roots
theorem rC.same (u:Un)(t:Nat)(s:Sy){gs:List Int}{fa:Nat}:rC u t s ⟨gs,s.tb,s.ts,fa⟩:=
 ⟨rfl,λ i _=>BT.refl i _,λ h=>h,λ _ _ _=>rfl,Nat.le_refl _,λ i l hi h=>by
  have:=(List.getElem?_eq_some_iff.1 h).1;simp only at this;omega⟩
theorem rC.set (u:Un){t:Nat}{s:Sy}{gs:List Int}{tb:List Ho}{l:List Fr}{fa:Nat}(h1:tb.length=s.tb.length)(h2:∀ i,i≠t->BT i s.tb tb)(h3:∀ h∈tb,h∈s.tb\/h.o=t+1\/(h.o=0/\h.d=0))(ht:t<s.ts.length):rC u t s ⟨gs,tb,s.ts.set t l,fa⟩:=
 ⟨h1,h2,λ h x hx=>by
  simp only[length_set];rcases h3 x hx with h4 | h4 | h4
  .exact h x h4
  .exact⟨by omega,λ h5=>by omega⟩
  .exact⟨by omega,λ _=>h4.2⟩,λ i hi _=>by simp only;rw[getElem?_set_ne yA],by simp,λ i l hi h=>by
  have:=(List.getElem?_eq_some_iff.1 h).1;simp only[length_set] at this;omega⟩
theorem rC.Cn (u:Un){t:Nat}{s:Sy}{gs:List Int}{l:List Fr}{fa:Nat}(ht:t<s.ts.length):rC u t s ⟨gs,s.tb,s.ts.set t l,fa⟩:=
 rC.set u rfl (λ i _=>BT.refl i _) (λ _ h=>.inl h) ht
theorem Jr {u:Un}(hu:jx u){k:Nat}{s:Sy}(hs:nK u k s){t:Nat}{l0:List Fr}{f:Fr}(hl:s.ts[t]? = some (l0++[f]))(ht:cN s t=some f){q:Pr}(hq:u.ps[f.proc]? = some q){i:In}(hi:q.code[f.pc]? = some i):rC u t s (ib u s t l0 f i).1:=by
 have O5:=(List.getElem?_eq_some_iff.1 hl).1
 cases i with
 | set k' gl e=>
  simp only[ib,I1];split
  .split
   .exact rC.Cn u O5
   .exact rC.Cn u O5
  .exact rC.same u t s
 | branch g e=>
  simp only[ib,Jd];split
  .exact rC.Cn u O5
  .exact rC.same u t s
 | jump g=>exact rC.Cn u O5
 | ret=>exact rC.Cn u O5
 | lock un p=>
  simp only[ib];split
  .simp only[EE];split
   .split
    .obtain⟨a,b,c⟩:=ED u.ms s.tb (aZ u s t p).1.toNat t;exact rC.set u a b c O5
    .exact rC.same u t s
   .exact rC.same u t s
  .simp only[Fw];split
   .split
    .obtain⟨a,b,c⟩:=Ka u.ms s.tb (aZ u s t p).1.toNat t;exact rC.set u a b (λ h hh=>(c h hh).imp id .inl) O5
    .exact rC.same u t s
   .exact rC.same u t s
 | call go tg es ps=>
  have XS:=Dw hu hs hl ht hq hi;simp only[ib] at XS |-;split
  .rename_i TR;rw[if_pos TR] at XS;simp only[I5] at XS |-;split
   .rename_i h0;rw[if_pos h0] at XS;split
    .exact rC.same u t s
    .rename_i Vr;rw[if_neg Vr] at XS;have hb:=rC.Cn u (s:=s) (gs:=s.gs) (l:=l0++[{ f with pc:=f.pc+1 }]) (fa:=s.fault) O5;refine⟨rfl,λ i _=>BT.refl i _,λ h x hx=>?_,λ i hi OP=>?_,by simp,λ i l Qn h=>?_⟩
     .have:=h x hx;simp only[length_append,length_set,length_singleton];exact⟨by omega,this.2⟩
     .simp only;rw[getElem?_append_left (by rw[length_set];exact OP),getElem?_set_ne yA]
     .have OT:=(List.getElem?_eq_some_iff.1 h).1;simp only[length_append,length_set,length_singleton] at OT;have OV:i=s.ts.length:=by omega
      subst OV;simp only at h;rw[getElem?_append_right xr] at h;simp only[length_set,Nat.sub_self,getElem?_cons_zero,Option.some.injEq] at h;subst h;have Zv:=(XS.fr [(fw u s t f tg (sj u tg) es ps).1] xr _ (mem_singleton.2 rfl)).ic;refine⟨rfl,O5,_,rfl,?_,Zv,?_⟩
      .unfold fw;split
       .split<;>rfl
       .rfl
      .obtain⟨o1,o2,o3,o4⟩:=hs.fX hl;obtain⟨q',QS,gJ,Tm,O7⟩:=o2.q;rw[hq] at QS;cases QS;have QW:=(hu.pc q (mem_of_getElem? hq)).2 _ (mem_of_getElem? hi);rw[<- hs.gs,<- Tm,<- O7] at QW;obtain⟨c1,c2,c3⟩:=QW;have ZN:=uI hu;rw[ZN.root];right;obtain⟨j,hj⟩:=mem_iff_getElem?.1 o2.ic;refine⟨j,_,(List.getElem?_eq_some_iff.1 hj).1,hj,.call go tg es ps,?_,TR,?_⟩
       .simp only[bN,mG,hq];exact mem_of_getElem? hi
       .unfold fw at h0 |-;split
        .rename_i h1;rw[if_pos h1] at h0;split
         .rename_i h2;obtain⟨k1,k2⟩:=p9 hu ht o2 ps c3 h2;refine⟨_,rfl,?_⟩;simp only[mG,k2]
         .rename_i h2;rw[if_neg h2] at h0;exact (h2 h0).elim
        .rename_i h1;rw[if_neg h1] at h0;exact (h1 h0).elim
   .exact rC.same u t s
  .simp only[Jc];split
   .exact rC.Cn u O5
   .exact rC.same u t s
theorem Dv {u:Un}(hu:jx u){k:Nat}{s:Sy}(hs:nK u k s)(t:Int):rC u t.toNat s (fy u s t).1:=by
 unfold fy;split
 .exact rC.same u _ s (gs:=s.gs) (fa:=s.fault)
 .rename_i f hf;split
  .exact rC.same u _ s (gs:=s.gs) (fa:=s.fault)
  .rename_i i hi;obtain⟨n,l0,rfl,hl,_,hd⟩:=oJ hf;obtain⟨q,hq,gJ,_,_⟩:=(hs.fX hl).2.1.q;simp only[dR,hf,hq] at hi;rw[Int.toNat_natCast,hd];exact Jr hu hs hl hf hq hi
theorem MM (u:Un):ON (iJ u):=λ h hh=>by
 have:=eq_of_mem_replicate hh;rw[this];exact⟨Nat.zero_le _,λ _=>rfl⟩
theorem Cu {u:Un}(hu:jx u):∀ (l:List Int) {k:Nat} {s:Sy},nK u k s->ON s->ON (nZ u l s)
 | [],_,_,_,h=>h
 | t::r,k,s,hs,h=>by
  simp only[nZ];split
  .exact Cu hu r (qz hu hs t) ((Dv hu hs t).ow h)
  .exact Cu hu r hs h
theorem CJ {u:Un}(hu:jx u){k:Nat}{s:Sy}(hs:nK u k s)(ho:ON s)(t:Nat){m:Nat}(hm:m<u.ms.length)(i:Nat)(hi:i<(fy u s t).1.ts.length) :
  (i<s.ts.length->i≠t->gz u (fy u s t).1 i m=gz u s i m)/\(s.ts.length<=i->∃ r∈(cc u).roots,gz u (fy u s t).1 i m=some (0,[(r,0)])):=by
 have h:=Dv hu hs t;rw[Int.toNat_natCast] at h;obtain⟨x,hx⟩:∃ x,u.ms[m]? = some x:=⟨_,getElem?_eq_getElem hm⟩;generalize (fy u s t).1=s' at h hi |-;refine⟨λ h1 h2=>?_,λ h1=>?_⟩
 .unfold gz;simp only[Int.toNat_natCast];rw[h.ts i h2 h1,gv,mQ m i _ _ _ h.tbl.symm (h.tb i h2)];rfl
 .obtain⟨l,hl⟩:∃ l,s'.ts[i]? = some l:=⟨_,getElem?_eq_getElem hi⟩;obtain⟨rfl,O5,g,rfl,gJ,Zv,hr⟩:=h.new i l h1 hl;refine⟨_,hr,?_⟩;have hz:fH m s.ts.length (a6 u.ms) s'.tb=0:=by
   rw[mQ m s.ts.length _ s.tb s'.tb h.tbl.symm (h.tb _ yA),tr m s.ts.length _ s.tb λ x hx=>(ho x hx).1]
  unfold gz;simp only[Int.toNat_natCast,hl,hx,gv,hz,Nat.zero_min,map_cons,map_nil,BW,gJ];rw[if_neg yA]
end Go.Proofs.YtlkmbdfhdknlgaaGreat
namespace Go.Can
open Go.RowKit
section
variable {P:Program}{C:Cx}{σ:Nat->Option OB}{s:St}{a:Act}{w:World}{ops:Array Oper}{av:List (Nat×TI)}
theorem IZ.ret {f:FuncId}{args:List CV}{H:List (Nat×Ob)}{n:Nat}{ks:List Nat}{R R':CV->St->Prop}(h:IZ P av f args H n ks R)(hR:∀ r s,R r s->R' r s):IZ P av f args H n ks R':=by
 obtain⟨fn,c,hf,hb,P5,hl,hT⟩:=h;refine⟨fn,c,hf,hb,P5,hl,λ C hC OR hM=>T.mono (hT C hC OR hM) λ e s q=>?_⟩;have key:∀ (C:Cx) s,aa C (λ s'=>∃ r,bQ av fn s'=some r/\R r s') s->aa C (λ s'=>∃ r,bQ av fn s'=some r/\R' r s') s:=λ C s ⟨s',⟨r,q1,q2⟩,hl⟩=>⟨s',⟨r,q1,hR r s' q2⟩,hl⟩
 cases e with
 | normal=>exact key C s q
 | ret=>exact key C s q
 | _=>exact q
end
end Go.Can
namespace Go.Can
mutual
def nq:CV->CV
 | .ak=>.au [] 0
 | .agg cs=>.agg (pV cs)
 | .au cs n=>.au (pV cs) n
 | .bY cs=>.bY (pV cs)
 | .int k n=>.int k n
 | .bool b=>.bool b
 | .str s=>.str s
 | .de cs=>.de cs
 | .bM=>.bM
 | .fn f cs=>.fn f cs
 | .iface f cs=>.iface f cs
 | .cH=>.cH
 | .iter k s p=>.iter k s p
 | .mp k es=>.mp k es
 | .bg o f n=>.bg o f n
 | .ax o f=>.ax o f
 | .any=>.any
def pV:List CV->List CV
 | []=>[]
 | c::cs=>nq c::pV cs
end
theorem DL (c:CV):one (nq c)=one c:=by cases c<;>simp only[nq,one]
theorem Aw:∀ cs:List CV,(pV cs).all one=cs.all one
 | []=>by simp only[pV]
 | c::cs=>by simp only[pV,List.all_cons,DL,Aw cs]
theorem Hk {cs:List CV}(h:cs=[]):pV cs=[]:=by rw[h,pV]
mutual
theorem cr.nq {w:World}{F:Nat->Prop}:∀ (c:CV) (v:Value),cr w F c v->cr w F (nq c) v
 | .ak,v,h=>by
  simp only[cr] at h;subst h;simp only[Can.nq,cr];exact⟨none,0,rfl,Nat.le_refl _,Nat.zero_le _,.inl ⟨trivial,trivial⟩⟩
 | .agg cs,v,h=>by
  simp only[cr] at h;obtain⟨vs,h1,h2,h3⟩:=h;simp only[Can.nq,cr];exact⟨vs,h1,ca.nq cs vs h2,by rw[Aw];exact h3⟩
 | .au cs n,v,h=>by
  simp only[cr] at h;obtain⟨A,cap,h1,h2,h3,h4⟩:=h;simp only[Can.nq,cr];refine⟨A,cap,h1,h2,h3,?_⟩;rcases h4 with ⟨h4,h5⟩ | ⟨ad,h4,h5⟩
  .exact .inl ⟨h4,Hk h5⟩
  .exact .inr ⟨ad,h4,fx.nq cs ad h5⟩
 | .bY cs,v,h=>by
  simp only[cr] at h;obtain⟨vs,h1,h2⟩:=h;simp only[Can.nq,cr];exact⟨vs,h1,ca.nq cs vs h2⟩
 | .int _ _,_,h=>by simpa only[Can.nq] using h
 | .bool _,_,h=>by simpa only[Can.nq] using h
 | .str _,_,h=>by simpa only[Can.nq] using h
 | .de _,_,h=>by simpa only[Can.nq] using h
 | .bM,_,h=>by simpa only[Can.nq] using h
 | .fn _ _,_,h=>by simpa only[Can.nq] using h
 | .iface _ _,_,h=>by simpa only[Can.nq] using h
 | .cH,_,h=>by simpa only[Can.nq] using h
 | .iter _ _ _,_,h=>by simpa only[Can.nq] using h
 | .mp _ _,_,h=>by simpa only[Can.nq] using h
 | .bg _ _ _,_,h=>by simpa only[Can.nq] using h
 | .ax _ _,_,h=>by simpa only[Can.nq] using h
 | .any,_,h=>by simpa only[Can.nq] using h
theorem ca.nq {w:World}{F:Nat->Prop}:∀ (cs:List CV) (vs:List Value),ca w F cs vs->ca w F (pV cs) vs
 | [],_,h=>by simpa only[pV] using h
 | c::cs,vs,h=>by
  simp only[ca] at h;obtain⟨v,r,h1,h2,h3⟩:=h;simp only[pV,ca];exact⟨v,r,h1,cr.nq c v h2,ca.nq cs r h3⟩
theorem fx.nq {w:World}{F:Nat->Prop}:∀ (cs:List CV) (ad:Addr),fx w F cs ad->fx w F (pV cs) ad
 | [],_,_=>by simp only[pV,fx]
 | c::cs,ad,h=>by
  simp only[fx] at h;obtain⟨⟨u,h1,h2,h3⟩,h4,h5⟩:=h;simp only[pV,fx];exact⟨⟨u,h1,h2,cr.nq c u h3⟩,by rw[DL];exact h4,fx.nq cs _ h5⟩
end
theorem af.nq {P:Program}{f:FuncId}{args:List CV}{r:CV}(h:af P f args r):af P f args (Can.nq r):=
 ⟨h.1,λ F vs w hF hv=>(h.2 F vs w hF hv).mono λ _e _w' ⟨v,h1,h2,h3⟩=>⟨v,h1,h2,cr.nq r v h3⟩⟩
end Go.Can
