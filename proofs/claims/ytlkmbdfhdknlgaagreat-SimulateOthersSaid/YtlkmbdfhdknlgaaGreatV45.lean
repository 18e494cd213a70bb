/- A state's copy by the prog -/
import Derived.Test.YtlkmbdfhdknlgaaGreatV44
set_option maxHeartbeats 2000000
namespace Go.Proofs.YtlkmbdfhdknlgaaGreat
open Go.Can Go.aV List Tryz
def hA (s:Sy)(i:Nat):List (Nat×Ob):=[(0,⟨3,1,s.gs.map bj⟩),(1,⟨122,2,s.tb.flatMap cg⟩),(2,⟨81,1,(s.ts.take i).flatMap cd⟩),(5,⟨40,0,[.ak,.ak,.ak,I 0]⟩),(6,⟨40,0,[.bg 0 0 s.gs.length,.bg 1 0 s.tb.length,.bg 2 0 i,I s.fault]⟩)]
def hB (s:Sy)(t:Nat)(l0:List Fr)(f:Fr)(i:Nat):List (Nat×Ob):=[(0,⟨3,1,s.gs.map bj⟩),(1,⟨122,2,s.tb.flatMap cg⟩),(2,⟨81,1,(s.ts.take t).flatMap cd++.bg 3 0 (l0.length+1)::((s.ts.take i).drop (t+1)).flatMap cd⟩),(3,⟨77,4,l0.flatMap cZ++[I f.proc,I f.pc,.bg 4 0 f.ay.length,aN f.b9]⟩),(4,⟨3,1,f.ay.map bj⟩),(5,⟨40,0,[.ak,.ak,.ak,I 0]⟩),(6,⟨40,0,[.bg 0 0 s.gs.length,.bg 1 0 s.tb.length,.bg 2 0 i,I s.fault]⟩)]
def OH (s:Sy):List (Nat×Ob):=[(0,⟨3,1,s.gs.map bj⟩),(1,⟨122,2,s.tb.flatMap cg⟩),(2,⟨81,1,s.ts.flatMap cd⟩),(5,⟨40,0,[.bg 0 0 s.gs.length,.bg 1 0 s.tb.length,.bg 2 0 s.ts.length,I s.fault]⟩)]
def I8 (s:Sy)(t:Nat)(l0:List Fr)(f:Fr):List (Nat×Ob):=[(0,⟨3,1,s.gs.map bj⟩),(1,⟨122,2,s.tb.flatMap cg⟩),(2,⟨81,1,(s.ts.take t).flatMap cd++.bg 3 0 (l0.length+1)::(s.ts.drop (t+1)).flatMap cd⟩),
 (3,⟨77,4,l0.flatMap cZ++[I f.proc,I f.pc,.bg 4 0 f.ay.length,aN f.b9]⟩),(4,⟨3,1,f.ay.map bj⟩),(5,⟨40,0,[.bg 0 0 s.gs.length,.bg 1 0 s.tb.length,.bg 2 0 s.ts.length,I s.fault]⟩)]
def eO (s:Sy)(i:Nat):List (Nat×CV):=[(21,I i),(20,I s.ts.length),(19,.au (s.ts.flatMap cd) s.ts.length),(3,.ax 6 0),(2,.ax 5 0)]
def JO (s:Sy)(t:Nat)(l0:List Fr)(f:Fr)(n:Nat)(σ:St):Prop:=∃ i:Nat,n=s.ts.length-i/\i<=s.ts.length/\σ=⟨eO s i,if i<=t then hA s i else hB s t l0 f i,7⟩
def JF (s:Sy)(i:Nat)(H:List (Nat×Ob))(l:List Fr)(n:Nat)(σ:St):Prop:=∃ k:Nat,n=l.length-k/\k<=l.length/\
 σ=⟨(28,I k)::(27,I l.length)::(26,.au (l.flatMap cZ) l.length)::(6,.bg 8 0 k)::eO s i,(8,⟨77,4,(l.take k).flatMap cZ⟩)::H,9⟩
def JT (s:Sy)(i:Nat)(l0 l:List Fr)(f:Fr)(n:Nat)(σ:St):Prop:=∃ k:Nat,n=l.length-k/\k<=l.length/\
 σ=⟨(28,I k)::(27,I l.length)::(26,.au (l.flatMap cZ) l.length)::(6,.bg 8 0 k)::eO s i,if k<=l0.length then (8,⟨77,4,(l.take k).flatMap cZ⟩)::hA s i else (8,⟨77,4,l0.flatMap cZ++[I f.proc,I f.pc,.bg 9 0 f.ay.length,aN f.b9]⟩)::(9,⟨3,1,f.ay.map bj⟩)::hA s i,10⟩
theorem oX (l:List Nat)(hl:l.length<=1000000):af prog 29 [aN l] (aN l):=by
 have h:=oW (l.map λ n:Nat=>(n:Int)) yBz;have e:ints (l.map λ n:Nat=>(n:Int))=aN l:=by simp[ints,aN,Function.comp_def]
 rwa [e] at h
set_option maxRecDepth 100000 in
theorem At (s:Sy)(t:Nat)(l0:List Fr)(f:Fr)(Re:t<s.ts.length->s.ts[t]? = some (l0++[f]))(h1:s.gs.length<=1000000)(h2:s.tb.length<=1000000)(h3:s.ts.length<=1000000)(h4:∀ l∈s.ts,l.length<=1000000/\∀ f∈l,f.ay.length<=1000000/\f.b9.length<=1000000) :
  Body prog av 41 [bp s] [] 0 (jk (.agg [.bg 0 0 s.gs.length,.bg 1 0 s.tb.length,.bg 2 0 s.ts.length,I s.fault]) (if t<s.ts.length then I8 s t l0 f else OH s) 6):=by
 have tG:trees (s.gs.map bj)=true:=aB s.gs;have tT:trees (s.tb.flatMap cg)=true:=ah ba _;have tS:trees (s.ts.flatMap cd)=true:=ah aK _;have rG:=λ ρ=>ae ρ _ tG;have rT:=λ ρ=>ae ρ _ tT;have rS:=λ ρ=>ae ρ _ tS;refine Body.jb Tryz.func41 rfl GK (by simp[Tryz.ntmps41]) λ C hC OR=>?_;rw[Tryz.ntmps41] at hC;simp only[bp,dK];apply aq;simp[hC];refine T.seq (T.rx ag follows [0,1,3,4,6,7,9,2,5,8,10] [(1,9),(4,9),(4,2),(7,9),(7,2),(7,5),(9,2),(9,5)] GK ?_);simp[hC];refine RX.du [] [] [13] 0 1 (ye s.gs h1) rfl PU rfl xr rfl rfl rfl rfl rfl rfl PU (by simp[qZ,br,bf,assoc,rG,bP]) (λ _ h=>by cases h) ?_;simp[rG,br,bf,cQ,bP];refine RX.du [] [] [14] 0 1 (sD s.tb h2) rfl PU rfl xr rfl rfl rfl rfl rfl rfl PU (by simp[qZ,br,bf,assoc,rT,bP]) (λ _ h=>by cases h) ?_;simp[rT,br,bf,cQ,bP];apply aT;simp[hC];refine T.le (Le.lq 11 2 81 1 rfl rfl) ?_;simp;refine T.le (Le.trim [21,20,19,3,2] [13,14,15,11,1] 16 (by simp[-all_eq_true,-all_flatMap,-all_map,aj tT,aj tG,aE]) yA) ?_;simp;refine T.le (Le.norm [21,20,19,3,2] [(13,0),(14,1),(15,2),(1,5),(11,6)] 0 7 Px Pw (by simp[cO,nu,lF,tree,assoc,-all_eq_true,-all_flatMap,aw tG,aw tT]) yA) ?_;simp[cz,bf,aL,cQ,dW,assoc,rG,rT];apply T.block;refine T.aQ (JO s t l0 f) (n:=s.ts.length) ?_ ?_
 .refine aa.here ⟨0,by omega,by omega,?_⟩;simp[eO,hA]
 .rintro n σ ⟨i,rfl,hi,rfl⟩;by_cases OP:i<s.ts.length
  .obtain⟨l,Zk⟩:∃ l,s.ts[i]? = some l:=⟨_,getElem?_eq_getElem OP⟩;obtain⟨PV,Um⟩:=h4 l (mem_of_getElem? Zk);have hdt:=EK Zk;have tl:=ah bX l;have wi:=cw ((i:Int)+1) yA yA;have XI:trees ((s.ts.take i).flatMap cd)=true:=ah aK _;have YB:=λ ρ=>ae ρ _ XI;have rl:=λ ρ=>ae ρ _ tl;have kl:take (l.length*4) (l.flatMap cZ)=l.flatMap cZ:=take_of_length_le (by rw[aA cL];omega);have bi:(i+1)*24<=140737488355328:=by omega
   have li:((s.ts.take i).flatMap cd).length=i:=by rw[aA jH,length_take,Nat.mul_one];omega
   have Qt:(s.ts.take (i+1)).flatMap cd=(s.ts.take i).flatMap cd++cd l:=by rw[take_add_one,Zk,flatMap_append];simp
   have ra:∀ ρ (a b:List CV),aL ρ (a++b)=aL ρ a++aL ρ b:=λ ρ a b=>by rw[aY,aY,aY,map_append]
   have tf:trees (l0.flatMap cZ)=true:=ah bX _;have tV:trees (f.ay.map bj)=true:=aB f.ay;have OW:trees ((s.ts.take t).flatMap cd)=true:=ah aK _;have YA:trees (((s.ts.take i).drop (t+1)).flatMap cd)=true:=ah aK _;have rf:=λ ρ=>ae ρ _ tf;have rV:=λ ρ=>ae ρ _ tV;have r1:=λ ρ=>ae ρ _ OW;have r3:=λ ρ=>ae ρ _ YA;rcases Nat.lt_trichotomy i t with Ps | Ps | Ps
   rotate_left
   .subst Ps;have hl:=Re OP;have hle:l=l0++[f]:=Option.some.inj (Zk.symm.trans hl);have Rd:l.length=l0.length+1:=by rw[hle];simp
    have Zl:l[l0.length]? = some f:=by rw[hle];simp
    have htk0:l.take l0.length=l0:=by rw[hle];simp
    rw[if_pos (Nat.le_refl _)];simp only[eO,hA];apply aq;simp[hC,OP];refine T.seq (T.cond (b:=true) rfl (T.skip ?_));simp;apply eZ;apply aq;simp[hC,OP,hdt,cd];apply aq;simp[hC];apply aT;simp[hC];apply T.block;refine T.aQ (JT s i l0 l f) (n:=l.length) ?_ ?_
    .refine aa.le (Le.own 6 77 4 rfl) ?_;simp;refine aa.le (Le.up 10 xr) ?_;simp;refine aa.trim [28,27,26,6,21,20,19,3,2] [8,0,1,2,5,6] 10 yDw yA ⟨0,by omega,by omega,?_⟩;simp[eO,hA]
    .rintro n σ ⟨k,rfl,hk,rfl⟩;simp only[eO,hA];by_cases Pa:k<l.length
     .by_cases hk0:k<l0.length
      rotate_left
      .have RU:k=l0.length:=by omega
       subst RU;rw[if_pos (Nat.le_refl _)];obtain⟨Sd,Wx⟩:=Um f (mem_of_getElem? Zl);have So:=aH (f:=cZ) (n:=4) cL Zl;have c2:=oX f.b9 Wx;have t2:trees [aN f.b9]=true:=by simp only[trees,bT,Bool.and_self]
       have wk:=cw ((l0.length:Int)+1) yA yA;have bk:(l0.length+1)*64<=140737488355328:=by omega
       have lk:(l0.flatMap cZ).length=l0.length*4:=aA cL _;rw[htk0];apply aq;simp[hC,Pa];refine T.seq (T.cond (b:=true) rfl (T.skip ?_));simp;apply eZ;apply aq;simp[hC,Pa,So,cZ];refine T.rx ag follows [0,1,2,3,4,5,6,8,9,7,10,11,12,13,14] [(2,7),(2,10),(4,7),(4,10),(9,7)] GK ?_;simp[hC];refine RX.du [] [] [26] 0 1 (ye f.ay Sd) rfl PU rfl xr rfl rfl rfl rfl rfl rfl PU (by simp[qZ,br,bf,assoc,rV,bP]) (λ _ h=>by cases h) ?_;simp[rV,br,bf,cQ,bP];refine RX.call rfl xr rfl rfl rfl t2 c2 ?_;simp[bk,lk,aS,aN,-length_flatMap];apply aG;simp[hC,wk];refine⟨l.length-(l0.length+1),by omega,?_⟩;refine aa.le (Le.norm [28,27,26,6,21,20,19,3,2] [(27,8),(26,9),(0,0),(1,1),(2,2),(5,5),(6,6)] 0 10 Px Pw yDl yA) ?_;simp[cz,bf,aL,cQ,dW,assoc,rG,rT,YB,rf,rV,ra];refine aa.here ⟨l0.length+1,rfl,by omega,?_⟩;rw[if_neg yA];simp[eO,hA,aN]
      rw[if_pos yA];obtain⟨fr,PB⟩:∃ fr,l[k]? = some fr:=⟨_,getElem?_eq_getElem Pa⟩;obtain⟨Sd,Wx⟩:=Um fr (mem_of_getElem? PB);have So:=aH (f:=cZ) (n:=4) cL PB;have c1:=oW fr.ay Sd;have c2:=oX fr.b9 Wx;have t1:trees [ints fr.ay]=true:=by simp only[ints,trees,tree,Bool.and_self]
      have t2:trees [aN fr.b9]=true:=by simp only[trees,bT,Bool.and_self]
      have wk:=cw ((k:Int)+1) yA yA;have bk:(k+1)*64<=140737488355328:=by omega
      have tk:trees ((l.take k).flatMap cZ)=true:=ah bX _;have lk:((l.take k).flatMap cZ).length=k*4:=by rw[aA cL,length_take];congr 1;omega
      have rk:=λ ρ=>ae ρ _ tk;have Qq:(l.take (k+1)).flatMap cZ=(l.take k).flatMap cZ++cZ fr:=by rw[take_add_one,PB,flatMap_append];simp
      apply aq;simp[hC,Pa];refine T.seq (T.cond (b:=true) rfl (T.skip ?_));simp;apply eZ;apply aq;simp[hC,Pa,So,cZ];refine T.rx ag follows [0,1,2,3,4,5,6,8,9,7,10,11,12,13,14] [(2,7),(2,10),(4,7),(4,10),(9,7)] GK ?_;simp[hC];refine RX.call rfl xr rfl rfl rfl t1 c1 ?_;simp;refine RX.call rfl xr rfl rfl rfl t2 c2 ?_;simp[bk,lk,aS,ints,aN,-length_flatMap];apply aG;simp[hC,wk];refine⟨l.length-(k+1),by omega,?_⟩;refine aa.le (Le.norm [28,27,26,6,21,20,19,3,2] [(26,8),(0,0),(1,1),(2,2),(5,5),(6,6)] 0 10 Px Pw yDn yA) ?_;simp[cz,bf,aL,cQ,dW,assoc,rG,rT,YB,rk,ra];refine aa.here ⟨k+1,rfl,by omega,?_⟩;rw[if_pos yA];simp[eO,hA,Qq,cZ,ints,aN]
     .have TO:k=l.length:=by omega
      subst TO;rw[if_neg yA];apply aq;simp[hC];refine T.seq (T.cond (b:=false) rfl (T.exit ?_));simp;apply aG;simp[hC,bi,li,-length_flatMap];apply aG;simp[hC,wi];refine⟨s.ts.length-(i+1),by omega,?_⟩;simp only[aN];refine aa.le (Le.norm [21,20,19,3,2] [(0,0),(1,1),(11,2),(8,3),(9,4),(5,5),(6,6)] 0 7 Px Pw yDl yA) ?_;simp[cz,bf,aL,cQ,dW,assoc,rG,rT,YB,rf,rV,ra];have OS:(s.ts.take (i+1)).drop (i+1)=[]:=drop_eq_nil_of_le (by rw[length_take];omega);refine aa.here ⟨i+1,rfl,by omega,?_⟩;rw[if_neg yA];simp[eO,hB,Rd,aN,OS]
   .rw[if_neg yA];have li3:((s.ts.take t).flatMap cd++.bg 3 0 (l0.length+1)::((s.ts.take i).drop (t+1)).flatMap cd).length=i:=by
     rw[length_append,length_cons,aA jH,aA jH,length_take,length_drop,length_take,Nat.mul_one,Nat.mul_one];omega
    have hts3:((s.ts.take (i+1)).drop (t+1)).flatMap cd=((s.ts.take i).drop (t+1)).flatMap cd++cd l:=by
     rw[take_add_one,Zk,drop_append_of_le_length (by rw[length_take];omega),flatMap_append];simp
    simp only[eO,hB,aN];apply aq;simp[hC,OP];refine T.seq (T.cond (b:=true) rfl (T.skip ?_));simp;apply eZ;apply aq;simp[hC,OP,hdt,cd];apply aq;simp[hC];apply aT;simp[hC];apply T.block;refine T.aQ (JF s i (hB s t l0 f i) l) (n:=l.length) ?_ ?_
    .refine aa.le (Le.own 6 77 4 rfl) ?_;simp;refine aa.trim [28,27,26,6,21,20,19,3,2] [8,0,1,2,3,4,5,6] 9 (by simp[-all_eq_true,-all_flatMap,-all_map,aj tT,aj tG,aj OW,aj YA,aj tf,aj tV]) yA ⟨0,by omega,by omega,?_⟩;simp[eO,hB,aN]
    .rintro n σ ⟨k,rfl,hk,rfl⟩;simp only[eO,hB,aN];by_cases Pa:k<l.length
     .obtain⟨fr,PB⟩:∃ fr,l[k]? = some fr:=⟨_,getElem?_eq_getElem Pa⟩;obtain⟨Sd,Wx⟩:=Um fr (mem_of_getElem? PB);have So:=aH (f:=cZ) (n:=4) cL PB;have c1:=oW fr.ay Sd;have c2:=oX fr.b9 Wx;have t1:trees [ints fr.ay]=true:=by simp only[ints,trees,tree,Bool.and_self]
      have t2:trees [aN fr.b9]=true:=by simp only[trees,bT,Bool.and_self]
      have wk:=cw ((k:Int)+1) yA yA;have bk:(k+1)*64<=140737488355328:=by omega
      have tk:trees ((l.take k).flatMap cZ)=true:=ah bX _;have lk:((l.take k).flatMap cZ).length=k*4:=by rw[aA cL,length_take];congr 1;omega
      have rk:=λ ρ=>ae ρ _ tk;have Qq:(l.take (k+1)).flatMap cZ=(l.take k).flatMap cZ++cZ fr:=by rw[take_add_one,PB,flatMap_append];simp
      apply aq;simp[hC,Pa];refine T.seq (T.cond (b:=true) rfl (T.skip ?_));simp;apply eZ;apply aq;simp[hC,Pa,So,cZ];refine T.rx ag follows [0,1,2,3,4,5,6,8,9,7,10,11,12,13,14] [(2,7),(2,10),(4,7),(4,10),(9,7)] GK ?_;simp[hC];refine RX.call rfl xr rfl rfl rfl t1 c1 ?_;simp;refine RX.call rfl xr rfl rfl rfl t2 c2 ?_;simp[bk,lk,aS,ints,aN,-length_flatMap];apply aG;simp[hC,wk];refine⟨l.length-(k+1),by omega,?_⟩;refine aa.le (Le.norm [28,27,26,6,21,20,19,3,2] [(25,8),(0,0),(1,1),(2,2),(3,3),(4,4),(5,5),(6,6)] 0 9 Px Pw (by simp[cO,nu,lF,tree,assoc,-all_eq_true,-all_flatMap,aw tG,aw tT,aw OW,aw YA,aw tf,aw tV,aw tk]) yA) ?_;simp[cz,bf,aL,cQ,dW,assoc,rG,rT,r1,r3,rf,rV,rk,ra];refine aa.here ⟨k+1,rfl,by omega,?_⟩;simp[eO,Qq,cZ,ints,aN]
     .have TO:k=l.length:=by omega
      subst TO;apply aq;simp[hC];refine T.seq (T.cond (b:=false) rfl (T.exit ?_));simp;refine T.le (Le.cF (o:=8) rfl tl) ?_;simp[cK,ai tT,ai OW,ai YA,ai tf,ai tV,kl];apply aG;simp[hC,bi,li3,-length_flatMap];apply aG;simp[hC,wi];refine⟨s.ts.length-(i+1),by omega,?_⟩;refine aa.le (Le.norm [21,20,19,3,2] [(0,0),(1,1),(10,2),(3,3),(4,4),(5,5),(6,6)] 0 7 Px Pw (by simp[cO,nu,lF,tree,assoc,-all_eq_true,-all_flatMap,aw tG,aw tT,aw OW,aw YA,aw tf,aw tV]) yA) ?_;simp[cz,bf,aL,cQ,dW,assoc,rG,rT,r1,r3,rf,rV,ra];refine aa.here ⟨i+1,rfl,by omega,?_⟩;rw[if_neg yA];simp[eO,hB,hts3,cd,aN]
   .rw[if_pos yA];simp only[eO,hA];apply aq;simp[hC,OP];refine T.seq (T.cond (b:=true) rfl (T.skip ?_));simp;apply eZ;apply aq;simp[hC,OP,hdt,cd];apply aq;simp[hC];apply aT;simp[hC];apply T.block;refine T.aQ (JF s i (hA s i) l) (n:=l.length) ?_ ?_
    .refine aa.le (Le.own 6 77 4 rfl) ?_;simp;refine aa.trim [28,27,26,6,21,20,19,3,2] [8,0,1,2,5,6] 9 yDw yA ⟨0,by omega,by omega,?_⟩;simp[eO,hA]
    .rintro n σ ⟨k,rfl,hk,rfl⟩;simp only[eO,hA];by_cases Pa:k<l.length
     .obtain⟨fr,PB⟩:∃ fr,l[k]? = some fr:=⟨_,getElem?_eq_getElem Pa⟩;obtain⟨Sd,Wx⟩:=Um fr (mem_of_getElem? PB);have So:=aH (f:=cZ) (n:=4) cL PB;have c1:=oW fr.ay Sd;have c2:=oX fr.b9 Wx;have t1:trees [ints fr.ay]=true:=by simp only[ints,trees,tree,Bool.and_self]
      have t2:trees [aN fr.b9]=true:=by simp only[trees,bT,Bool.and_self]
      have wk:=cw ((k:Int)+1) yA yA;have bk:(k+1)*64<=140737488355328:=by omega
      have tk:trees ((l.take k).flatMap cZ)=true:=ah bX _;have lk:((l.take k).flatMap cZ).length=k*4:=by rw[aA cL,length_take];congr 1;omega
      have rk:=λ ρ=>ae ρ _ tk;have Qq:(l.take (k+1)).flatMap cZ=(l.take k).flatMap cZ++cZ fr:=by rw[take_add_one,PB,flatMap_append];simp
      apply aq;simp[hC,Pa];refine T.seq (T.cond (b:=true) rfl (T.skip ?_));simp;apply eZ;apply aq;simp[hC,Pa,So,cZ];refine T.rx ag follows [0,1,2,3,4,5,6,8,9,7,10,11,12,13,14] [(2,7),(2,10),(4,7),(4,10),(9,7)] GK ?_;simp[hC];refine RX.call rfl xr rfl rfl rfl t1 c1 ?_;simp;refine RX.call rfl xr rfl rfl rfl t2 c2 ?_;simp[bk,lk,aS,ints,aN,-length_flatMap];apply aG;simp[hC,wk];refine⟨l.length-(k+1),by omega,?_⟩;refine aa.le (Le.norm [28,27,26,6,21,20,19,3,2] [(25,8),(0,0),(1,1),(2,2),(5,5),(6,6)] 0 9 Px Pw yDn yA) ?_;simp[cz,bf,aL,cQ,dW,assoc,rG,rT,YB,rk,ra];refine aa.here ⟨k+1,rfl,by omega,?_⟩;simp[eO,Qq,cZ,ints,aN]
     .have TO:k=l.length:=by omega
      subst TO;apply aq;simp[hC];refine T.seq (T.cond (b:=false) rfl (T.exit ?_));simp;refine T.le (Le.cF (o:=8) rfl tl) ?_;simp[cK,ai tT,ai XI,kl];apply aG;simp[hC,bi,li,-length_flatMap];apply aG;simp[hC,wi];refine⟨s.ts.length-(i+1),by omega,?_⟩;refine aa.le (Le.norm [21,20,19,3,2] [(0,0),(1,1),(10,2),(5,5),(6,6)] 0 7 Px Pw (by simp[cO,nu,lF,tree,assoc,-all_eq_true,-all_flatMap,aw tG,aw tT,aw XI]) yA) ?_;simp[cz,bf,aL,cQ,dW,assoc,rG,rT,YB,ra];refine aa.here ⟨i+1,rfl,by omega,?_⟩;rw[if_pos yA];simp[eO,hA,Qt,cd]
  .have OV:i=s.ts.length:=by omega
   subst OV;by_cases O5:t<s.ts.length
   rotate_left
   .rw[if_pos yA,if_neg O5];simp only[eO,hA,OH,take_length];apply aq;simp[hC];refine T.seq (T.cond (b:=false) rfl (T.exit ?_));simp;apply aq;simp[hC];apply T.ret;refine aa.le (Le.norm [2] [(0,0),(1,1),(2,2),(5,5)] 0 6 Px Pw yDc yA) ?_;simp[cz,bf,aL,cQ,dW,assoc,rG,rT,rS];exact aa.here ⟨_,rfl,rfl,rfl,rfl⟩
   have hnt:¬ s.ts.length<=t:=by omega
   rw[if_neg hnt,if_pos O5];have tf:trees (l0.flatMap cZ)=true:=ah bX _;have tV:trees (f.ay.map bj)=true:=aB f.ay;have tE:=aM f.b9;have OW:trees ((s.ts.take t).flatMap cd)=true:=ah aK _;have OY:trees ((s.ts.drop (t+1)).flatMap cd)=true:=ah aK _;have rL:=λ ρ=>ae ρ _ tf;have rV:=λ ρ=>ae ρ _ tV;have rE:=λ ρ=>ae ρ _ tE;have r1:=λ ρ=>ae ρ _ OW;have r2:=λ ρ=>ae ρ _ OY;have ra:∀ ρ (a b:List CV),aL ρ (a++b)=aL ρ a++aL ρ b:=λ ρ a b=>by rw[aY,aY,aY,map_append]
   simp only[eO,hB,I8,take_length,aN];apply aq;simp[hC];refine T.seq (T.cond (b:=false) rfl (T.exit ?_));simp;apply aq;simp[hC];apply T.ret;refine aa.le (Le.norm [2] [(0,0),(1,1),(2,2),(3,3),(4,4),(5,5)] 0 6 Px Pw (by simp[cO,nu,lF,tree,assoc,-all_eq_true,-all_flatMap,aw tG,aw tT,aw tf,aw tV,aw OW,aw OY]) yA) ?_;simp[cz,bf,aL,cQ,dW,assoc,rG,rT,rL,rV,r1,r2,ra];exact aa.here ⟨_,rfl,rfl,rfl,rfl⟩
structure Ev (s:Sy):Prop where
 g:s.gs.length<=1000000
 b:s.tb.length<=1000000
 t:s.ts.length<=1000000
 f:∀ l∈s.ts,l.length<=1000000/\∀ f∈l,f.ay.length<=1000000/\f.b9.length<=1000000
theorem Da (s:Sy)(hs:Ev s):Body prog av 41 [bp s] [] 0 (jk (.agg [.bg 0 0 s.gs.length,.bg 1 0 s.tb.length,.bg 2 0 s.ts.length,I s.fault]) (OH s) 6):=by
 have h:=At s s.ts.length [] ⟨0,0,[],[]⟩ (λ h=>absurd h (Nat.lt_irrefl _)) hs.g hs.b hs.t hs.f;rwa [if_neg (Nat.lt_irrefl _)] at h
theorem cG (s:Sy):tree (bp s)=true:=by
 simp only[bp,dK,tree,trees,bD,Bool.and_self]
theorem iZ (s:Sy)(hs:Ev s)(fa:Nat):af prog 91 [bp s,I fa] (.bY [bp ⟨s.gs,s.tb,s.ts,fa⟩,.bool true]):=by
 have PN:=Da s hs;have tG:trees (s.gs.map bj)=true:=aB s.gs;have tT:trees (s.tb.flatMap cg)=true:=ah ba _;have tS:trees (s.ts.flatMap cd)=true:=ah aK _;have rG:=λ ρ=>ae ρ _ tG;have rT:=λ ρ=>ae ρ _ tT;have rS:=λ ρ=>ae ρ _ tS;have kG:take s.gs.length (s.gs.map bj)=s.gs.map bj:=take_of_length_le xr;have kT:take (s.tb.length*2) (s.tb.flatMap cg)=s.tb.flatMap cg:=take_of_length_le Vy;have kS:take s.ts.length (s.ts.flatMap cd)=s.ts.flatMap cd:=take_of_length_le (by rw[aA jH];omega);refine af.aC ag Tryz.func91 rfl GK (by simp[Tryz.ntmps91]) (by simp only[tree,trees,cG,Bool.and_self]) λ C hC OR=>?_;rw[Tryz.ntmps91] at hC;simp only[bp,dK,ints,OH] at *;apply aq;simp[hC];apply aq;simp[hC];refine TL.du ag [] [] 0 6 (PN) rfl PU OU rfl rfl Pd Pd RZ Pd Pd (TL.go' ag ?_);simp[br,bf,aL,cQ,bP,rG,rT,rS];apply aq;simp[hC];apply aq;simp[hC];apply T.ret;refine aa.le (Le.trim [5,4] [1,2,3,4] 8 (by simp[-all_eq_true,-all_map,-all_flatMap,aj tG,aj tT,aj tS]) yA) ?_;simp;refine aa.le (Le.cF (o:=2) rfl tG) ?_;simp[cK,kG,ai tT,ai tS];refine aa.le (Le.cF (o:=3) rfl tT) ?_;simp[cK,kT,ai tS];refine aa.le (Le.cF (o:=4) rfl tS) ?_;simp[cK,kS];apply aa.here;simp
theorem kg (g b m t n p c v e:Nat)(A B D E V:List CV)(hA:trees A=true)(hB:trees B=true)(hD:trees D=true)(hE:trees E=true)(hV:trees V=true)(y:CV)(hy:y=.bg 1 0 b\/∃ Z,y=.au Z b)(lA:A.length=t)(lD:D.length=n*4)(ht:t<m)(_hm:m<=1000000)(hn:n<=1000000) :
  Body prog av 45 [.agg [.bg 0 0 g,y,.bg 2 0 m,I 0],I t] [(2,⟨81,1,A++.bg 3 0 (n+1)::B⟩),(3,⟨77,4,D++[I p,I c,.bg 4 0 v,.au E e]⟩),(4,⟨3,1,V⟩)] 5
   (jk (.ax 3 (n*4)) [(2,⟨81,1,A++.bg 3 0 (n+1)::B⟩),(3,⟨77,4,D++[I p,I c,.bg 4 0 v,.au E e]⟩),(4,⟨3,1,V⟩)] 5):=by
 have dA:∀ r:List CV,(A++r).drop t=r:=λ r=>by rw[<- lA];simp
 have w1:=cw (n:Int) yA yA;have w2:(n:Int)<(n:Int)+1:=by omega
 have h0:¬ ((t:Int)<0):=by omega
 have QE:¬ (m<=t):=by omega
 have X1:(((n:Int)+1) == 0)=false:=by rw[beq_eq_false_iff_ne];omega
 have rA:=λ ρ=>ae ρ _ hA;have rB:=λ ρ=>ae ρ _ hB;have rD:=λ ρ=>ae ρ _ hD;have rE:=λ ρ=>ae ρ _ hE;have rV:=λ ρ=>ae ρ _ hV;have ra:∀ ρ (a b:List CV),aL ρ (a++b)=aL ρ a++aL ρ b:=λ ρ a b=>by rw[aY,aY,aY,map_append]
 rcases hy with rfl | ⟨Z,rfl⟩
 all_goals
  refine Body.jb Tryz.func45 rfl GK (by simp[Tryz.ntmps45]) λ C hC OR=>?_;rw[Tryz.ntmps45] at hC;apply aq;simp[hC];apply aT;simp[hC,h0,QE,ht,dA,X1];refine eQ ?_;simp;apply aq;simp[hC,ht,dA];apply aq;simp[hC,w1,w2];apply T.ret;refine aa.le (Le.norm [4] [(2,2),(3,3),(4,4)] 5 5 Px Pw (by simp[cO,nu,lF,tree,assoc,-all_eq_true,-all_flatMap,aw hA,aw hB,aw hD,aw hV]) yA) ?_;simp[cz,bf,aL,cQ,dW,assoc,rA,rB,rD,rV,ra];exact aa.here ⟨_,rfl,rfl,rfl,rfl⟩
theorem uN:∀ (n:Nat) {l:List CV},trees l=true->trees (l.take n)=true
 | 0,_,_=>by simp
 | n+1,[],_=>by simp
 | n+1,x::r,h=>by
  simp only[trees,Bool.and_eq_true] at h;simp only[take_succ_cons,trees,h.1,uN n h.2,Bool.and_self]
theorem Bj {C:Cx}{K:St->Prop}{r q N:Nat}{bo:Bool}{G T A B D E V X:List CV}{g b m n v e:Nat}{p c fa:Int}(hG:trees G=true)(_hT:trees T=true)(hA:trees A=true)(hB:trees B=true)(hD:trees D=true)(_hE:trees E=true)(hV:trees V=true)(hX:trees X=true)
  (lG:G.length=g) (lA:A.length+1+B.length=m) (lV:V.length=v)
  (h:K ⟨[(q,.bool bo),(r,.ax 5 0)],[(5,⟨40,0,[.au G g,.au T b,.au (A++.au ((D++I p::I c :: .au V v :: .au E e::X).take (n*4)) n::B) m,I fa]⟩)],N⟩) :
  aa C K ⟨[(q,.bool bo),(r,.ax 5 0)],[(0,⟨3,1,G⟩),(2,⟨81,1,A++.bg 3 0 n::B⟩),(3,⟨77,4,D++I p::I c :: .bg 4 0 v :: .au E e::X⟩),(4,⟨3,1,V⟩),(5,⟨40,0,[.bg 0 0 g,.au T b,.bg 2 0 m,I fa]⟩)],N⟩:=by
 have kG:take g G=G:=take_of_length_le yA;have kV:take v V=V:=take_of_length_le yA;refine aa.le (Le.cF (o:=4) rfl hV) ?_;simp[kV,ai hG,ai hD,ai hA,ai hB,ai hX];refine aa.le (Le.cF (o:=0) rfl hG) ?_;simp[kG,ai hD,ai hA,ai hB,ai hX];have tF:trees (D++I p::I c :: .au V v :: .au E e::X)=true:=by
  rw[aF,hD];simp only[trees,tree,hX,Bool.and_self]
 refine aa.le (Le.cF (o:=3) rfl tF) ?_;simp[ai hA,ai hB];have tH:trees (A++.au ((D++I p::I c :: .au V v :: .au E e::X).take (n*4)) n::B)=true:=by
  have:=uN (n*4) tF;simp only[aF,hA,trees,hB,tree,Bool.and_self]
 have kH:∀ x:CV,take m (A++x::B)=A++x::B:=λ x=>take_of_length_le PA;refine aa.le (Le.cF (o:=2) rfl tH) ?_;simp[kH];exact aa.here h
theorem kR {C:Cx}{K:St->Prop}{r q N:Nat}{bo:Bool}{G T A B D E V X:List CV}{g b m n v e:Nat}{p c fa:Int}(hG:trees G=true)(hT:trees T=true)(hA:trees A=true)(hB:trees B=true)(hD:trees D=true)(hE:trees E=true)(hV:trees V=true)(hX:trees X=true)
  (lG:G.length=g) (lT:T.length=b*2) (lA:A.length+1+B.length=m) (lV:V.length=v)
  (h:K ⟨[(q,.bool bo),(r,.ax 5 0)],[(5,⟨40,0,[.au G g,.au T b,.au (A++.au ((D++I p::I c :: .au V v :: .au E e::X).take (n*4)) n::B) m,I fa]⟩)],N⟩) :
  aa C K ⟨[(q,.bool bo),(r,.ax 5 0)],[(0,⟨3,1,G⟩),(1,⟨122,2,T⟩),(2,⟨81,1,A++.bg 3 0 n::B⟩),(3,⟨77,4,D++I p::I c :: .bg 4 0 v :: .au E e::X⟩),(4,⟨3,1,V⟩),(5,⟨40,0,[.bg 0 0 g,.bg 1 0 b,.bg 2 0 m,I fa]⟩)],N⟩:=by
 have kT:take (b*2) T=T:=take_of_length_le yA;refine aa.le (Le.cF (o:=1) rfl hT) ?_;simp[kT,ai hV,ai hG,ai hD,ai hA,ai hB,ai hX];exact Bj hG hT hA hB hD hE hV hX lG lA lV h
theorem rO {α:Type}(f:α->List CV){l:List α}{i:Nat}{x:α}(h:l[i]? = some x):(l.take i).flatMap f++f x=(l.take (i+1)).flatMap f:=by
 rw[take_add_one,h,flatMap_append];simp
def J77n (e:Ex)(n:Nat)(s:St):Prop:=∃ i:Nat,n=e.args.length-i/\i<=e.args.length/\
 s=⟨[(11,I i),(10,I e.args.length),(9,.au (e.args.flatMap a8) e.args.length),(2,.ax 1 0),(1,.ax 0 0)],[(2,⟨85,4,(e.args.take i).flatMap a8⟩),(1,⟨85,0,[I 0,I 0,.str eS,.ak]⟩),(0,⟨85,0,[I e.op,I e.n,.str e.name,.bg 2 0 i]⟩)],3⟩
theorem Ex.IJ (e:Ex):e.args.length<=2:=by cases e<;>simp[Ex.args]
theorem Hw (e:Ex)(ih:∀ a∈e.args,af prog 75 [.agg (a8 a)] (.agg (a8 a))):af prog 75 [.agg (a8 e)] (.agg (a8 e)):=by
 have hlen:=Ex.IJ e;have tA:trees (e.args.flatMap a8)=true:=ah aJ _;have O1:tree (.agg (a8 e))=true:=by simp only[tree,aJ]
 refine af.aC ag Tryz.func75 rfl GK (by simp[Tryz.ntmps75]) O1 λ C hC OR=>?_;rw[Tryz.ntmps75] at hC;rw[bV e];apply aq;simp[hC];apply aq;simp[hC];apply aq;simp[hC];apply aT;simp[hC];apply T.block;refine T.aQ (J77n e) (n:=e.args.length) ?_ ?_
 .refine aa.le (Le.lq 0 3 85 4 rfl rfl) ?_;simp;refine aa.trim [11,10,9,2,1] [2,1,0] 3 Qr yA ⟨0,by omega,by omega,?_⟩;simp[eS]
 .rintro n s ⟨i,rfl,hi,rfl⟩;by_cases OP:i<e.args.length
  .obtain⟨a,Uc⟩:∃ a,e.args[i]? = some a:=⟨_,getElem?_eq_getElem OP⟩;have Uz:=ih a (mem_of_getElem? Uc);have OQ:trees [.agg (a8 a)]=true:=by simp only[trees,tree,aJ,Bool.and_self]
   have SG:=aH (f:=a8) (n:=4) bA Uc;have UR:=aA bA (e.args.take i);have Pb:=rO a8 Uc;have wi:=cw ((i:Int)+1) yA yA;obtain⟨a1,a2,a3,a4,a5,V3,tea⟩:=fe a;rw[V3] at SG Uz OQ Pb;have tB:trees ((e.args.take i).flatMap a8)=true:=ah aJ _;have tC:trees ((e.args.take (i+1)).flatMap a8)=true:=ah aJ _;have Rd:(e.args.take i).length=i:=by simp;omega
   rw[Rd] at UR;have b1:(i+1)*56<=140737488355328:=by omega
   have b2:i*4+4=(i+1)*4:=by omega
   generalize (e.args.take i).flatMap a8=B at UR Pb tB;apply aq;simp[hC,OP];refine T.seq (T.cond (b:=true) rfl (T.skip ?_));simp;apply eZ;apply aq;simp[hC,OP,SG];refine T.rx ag follows [0,1,2,3,4,5,6,7] [(1,3),(1,4)] GK ?_;simp[hC];refine RX.call rfl rfl rfl rfl rfl OQ Uz ?_;simp[UR,b1,aS];apply aG;simp[hC,wi];refine⟨e.args.length-(i+1),by omega,?_⟩;have Ve:trees (B++[I a1,I a2,.str a3,.au a4 a5])=true:=by rw[Pb];exact tC
   have VG:=λ ρ=>ae ρ _ Ve;have rA:=λ ρ=>ae ρ _ tA;refine aa.le (Le.norm [11,10,9,2,1] [(12,2),(1,1),(0,0)] 0 3 Px Pw Yp yA) ?_;simp[cz,bf,aL,cQ,dW,assoc,VG];refine aa.here ⟨i+1,rfl,by omega,?_⟩;rw[<- Pb];simp
  .have OV:i=e.args.length:=by omega
   subst OV;apply aq;simp[hC];apply T.seq;refine T.cond (b:=false) PC ?_;simp;apply T.exit;simp;apply aq;simp[hC];apply T.ret;have Zt:take (e.args.length*4) (e.args.flatMap a8)=e.args.flatMap a8:=take_of_length_le (by rw[aA bA];omega);refine aa.le (Le.trim [2] [1,2] 3 (by simp[-all_eq_true,-all_flatMap,-all_map,aj tA]) yA) ?_;simp;refine aa.le (Le.cF (o:=2) rfl tA) ?_;simp[Zt];apply aa.here;simp
theorem Ex.KQ:∀ (e a:Ex),a∈e.args->SizeOf.sizeOf a<SizeOf.sizeOf e
 | .un _ e,a,h=>by
  simp only[Ex.args,mem_singleton] at h;subst h;simp;omega
 | .bin _ x y,a,h=>by
  simp only[Ex.args,mem_cons,not_mem_nil,or_false] at h;rcases h with rfl | rfl<;>simp<;>omega
 | .zero,a,h=>by cases h
 | .num _,a,h=>by cases h
 | .nm _,a,h=>by cases h
 | .loc _,a,h=>by cases h
 | .iK _,a,h=>by cases h
theorem vB (e:Ex):af prog 75 [.agg (a8 e)] (.agg (a8 e)):=
 Hw e λ a _ha=>vB a
termination_by SizeOf.sizeOf e
decreasing_by exact Ex.KQ e a _ha
def J79 (l:List Ex)(n:Nat)(s:St):Prop:=∃ i:Nat,n=l.length-i/\i<=l.length/\
 s=⟨[(8,I i),(7,I l.length),(6,.au (l.flatMap a8) l.length),(3,.bg 0 0 i)],[(0,⟨85,4,(l.take i).flatMap a8⟩)],1⟩
theorem xR (l:List Ex)(hl:l.length<=1000):af prog 77 [.au (l.flatMap a8) l.length] (.au (l.flatMap a8) l.length):=by
 have tA:trees (l.flatMap a8)=true:=ah aJ _;have O1:tree (.au (l.flatMap a8) l.length)=true:=by simp only[tree]
 refine af.aC ag Tryz.func77 rfl GK (by simp[Tryz.ntmps77]) O1 λ C hC OR=>?_;rw[Tryz.ntmps77] at hC;apply aq;simp[hC];apply aq;simp[hC];apply aT;simp[hC];apply T.block;refine T.aQ (J79 l) (n:=l.length) ?_ ?_
 .refine aa.le (Le.own 3 85 4 rfl) ?_;simp[St.own];refine aa.trim [8,7,6,3] [0] 1 Qr yA ⟨0,by omega,by omega,?_⟩;simp
 .rintro n s ⟨i,rfl,hi,rfl⟩;by_cases OP:i<l.length
  .obtain⟨a,Uc⟩:∃ a,l[i]? = some a:=⟨_,getElem?_eq_getElem OP⟩;have Uz:=vB a;have OQ:trees [.agg (a8 a)]=true:=by simp only[trees,tree,aJ,Bool.and_self]
   have SG:=aH (f:=a8) (n:=4) bA Uc;have UR:=aA bA (l.take i);have Pb:=rO a8 Uc;have wi:=cw ((i:Int)+1) yA yA;obtain⟨a1,a2,a3,a4,a5,V3,tea⟩:=fe a;rw[V3] at SG Uz OQ Pb;have tB:trees ((l.take i).flatMap a8)=true:=ah aJ _;have tC:trees ((l.take (i+1)).flatMap a8)=true:=ah aJ _;have Rd:(l.take i).length=i:=by simp;omega
   rw[Rd] at UR;have b1:(i+1)*56<=140737488355328:=by omega
   have b2:i*4+4=(i+1)*4:=by omega
   generalize (l.take i).flatMap a8=B at UR Pb tB;apply aq;simp[hC,OP];refine T.seq (T.cond (b:=true) rfl (T.skip ?_));simp;apply eZ;apply aq;simp[hC,OP,SG];apply aG;simp[hC];refine ct OQ Uz ?_;simp[hC,UR,b1,aS];apply aG;simp[hC,wi];refine⟨l.length-(i+1),by omega,?_⟩;have Ve:trees (B++[I a1,I a2,.str a3,.au a4 a5])=true:=by rw[Pb];exact tC
   have VG:=λ ρ=>ae ρ _ Ve;have rA:=λ ρ=>ae ρ _ tA;refine aa.le (Le.norm [8,7,6,3] [(3,0)] 0 1 Px Pw Yp yA) ?_;simp[cz,bf,cQ,dW,assoc,VG];refine aa.here ⟨i+1,rfl,by omega,?_⟩;rw[<- Pb];simp
  .have OV:i=l.length:=by omega
   subst OV;apply aq;simp[hC];apply T.seq;refine T.cond (b:=false) PC ?_;simp;apply T.exit;simp;apply aq;simp[hC];apply T.ret;have Zt:take (l.length*4) (l.flatMap a8)=l.flatMap a8:=take_of_length_le (by rw[aA bA];omega);refine aa.le (Le.trim [2] [0] 1 (by simp[-all_eq_true,-all_flatMap,-all_map,aj tA]) yA) ?_;simp;refine aa.le (Le.cF (o:=0) rfl tA) ?_;simp[Zt];apply aa.here;simp
def K9 (p:Pl):List Ex:=match p.at_ with
 | some e=>[e]
 | none=>[]
theorem JR (p:Pl):mA p.at_=.au ((K9 p).flatMap a8) (K9 p).length:=by
 unfold K9;cases p.at_<;>simp[mA]
theorem JI (p:Pl):(K9 p).length<=1:=by
 unfold K9;cases p.at_<;>simp
theorem xO (p:Pl):af prog 76 [.agg (fC p)] (.agg (fC p)):=by
 have hx:=xR (K9 p) (by have:=JI p;omega);have OQ:trees [.au ((K9 p).flatMap a8) (K9 p).length]=true:=by simp only[trees,tree,Bool.and_self]
 have O1:tree (.agg (fC p))=true:=by simp only[tree,cJ]
 refine af.aC ag Tryz.func76 rfl GK (by simp[Tryz.ntmps76]) O1 λ C hC OR=>?_;rw[Tryz.ntmps76] at hC;simp only[fC,JR];apply aq;simp[hC];apply aq;simp[hC];refine ct OQ hx ?_;simp[hC];apply aq;simp[hC];apply T.ret;apply aa.here;simp[Tryz.results76]
def rN:Option Fr->CV
 | some f=>.de (cZ f)
 | none=>.bM
theorem qE (s:Sy)(t:Int)(hb:s.ts.length<=1000000/\∀ l∈s.ts,l.length<=1000000):af prog 45 [bp s,I t] (rN (cN s t)):=by
 have O1:tree (rN (cN s t))=true:=by cases cN s t<;>rfl
 refine af.aC ag Tryz.func45 rfl GK (by simp[Tryz.ntmps45]) O1 λ C hC OR=>?_;rw[Tryz.ntmps45] at hC;simp only[bp,dK,ints];apply aq;simp[hC];by_cases hf:s.fault=0
 .by_cases h0:t<0
  .have hn:cN s t=none:=by simp[cN,h0]
   rw[hn];apply aT;simp[hC,hf,h0];refine T.cond (b:=true) PC ?_;simp;apply aq;simp[hC];apply T.ret;apply aa.here;simp[Tryz.results45,rN]
  .obtain⟨k,rfl⟩:∃ k:Nat,t=k:=⟨t.toNat,by omega⟩;by_cases hk:k<s.ts.length
   .obtain⟨l,hl⟩:∃ l,s.ts[k]? = some l:=⟨_,getElem?_eq_getElem hk⟩;have Q4:=EK hl;have QE:¬ (s.ts.length<=k):=by omega
    have hlb:=hb.2 l (mem_of_getElem? hl);by_cases Re:l=[]
    .have hn:cN s k=none:=by simp[cN,hl,Re]
     rw[hn];subst Re;apply aT;simp[hC,hf,h0,QE,hk,Q4,cd];refine T.cond (b:=true) PC ?_;simp;apply aq;simp[hC];apply T.ret;apply aa.here;simp[Tryz.results45,rN]
    .have Zi:0<l.length:=length_pos_iff.2 Re;have X1:((l.length:Int) == 0)=false:=by rw[beq_eq_false_iff_ne];omega
     obtain⟨f,PS⟩:∃ f,l[l.length-1]? = some f:=⟨_,getElem?_eq_getElem yA⟩;have hn:cN s k=some f:=by simp[cN,hl,hf,getLast?_eq_getElem?,PS]
     rw[hn];have So:=aH (f:=cZ) (n:=4) cL PS;rw[show l.length-1+1=l.length by omega,drop_length,flatMap_nil,append_nil] at So;have wl:=cw ((l.length-1:Nat):Int) yA yA;have Sv:((l.length:Int)-1)=((l.length-1:Nat):Int):=by omega
     have OT:l.length-1<l.length:=by omega
     apply aT;simp[hC,hf,h0,QE,hk,Q4,cd,X1];refine T.cond (b:=false) PC (T.skip ?_);simp;apply aq;simp[hC,hk,Q4,cd];apply aq;simp[hC,Sv,wl,OT,So,cZ];apply T.ret;apply aa.here;simp[Tryz.results45,rN,cZ]
   .have hn:cN s k=none:=by simp[cN,getElem?_eq_none (Nat.le_of_not_lt hk)]
    have QE:s.ts.length<=k:=by omega
    rw[hn];apply aT;simp[hC,hf,h0,QE];refine T.cond (b:=true) PC ?_;simp;apply aq;simp[hC];apply T.ret;apply aa.here;simp[Tryz.results45,rN]
 .have hn:cN s t=none:=by simp[cN,hf]
  rw[hn];have O9:((s.fault:Int) != 0)=true:=by rw[bne_iff_ne];omega
  apply aT;simp[hC,O9];refine T.cond (b:=true) PC ?_;simp;apply aq;simp[hC];apply T.ret;apply aa.here;simp[Tryz.results45,rN]
def iT:In->Nat
 | .set t _ _=>t
 | .call _ t _ _=>t
 | .branch t _=>t
 | .jump t=>t
 | _=>0
def iG:In->Bool
 | .set _ g _=>g
 | _=>false
def inE:In->Ex
 | .set _ _ e=>e
 | .branch _ e=>e
 | _=>.zero
def iP:In->Pl
 | .lock _ p=>p
 | _=>⟨false,0,none⟩
def iL:In->List Ex
 | .call _ _ l _=>l
 | _=>[]
def iQ:In->List Pl
 | .call _ _ _ l=>l
 | _=>[]
theorem FD (z:In):df z=[I (DK z),I (iT z),.bool (iG z)]++a8 (inE z)++fC (iP z)++[.au ((iL z).flatMap a8) (iL z).length,.au ((iQ z).flatMap fC) (iQ z).length]:=by
 cases z<;>simp[df,DK,iT,iG,inE,iP,iL,iQ,kI,fC,mA]
def J44 (l:List Pl)(o t:Int)(g:Bool)(a1 a2:Int)(a3:ByteArray)(a4:List CV)(a5:Nat)(p1:Bool)(p2:Int)(p3:List CV)(p4:Nat)(L:List CV)(Ln:Nat)(n:Nat)(s:St):Prop:=∃ i:Nat,n=l.length-i/\i<=l.length/\
 s=⟨[(51,I i),(50,I l.length),(49,.au (l.flatMap fC) l.length),(9,.ax 18 0),(7,.bool false),(6,.ax 2 0)],[(19,⟨87,3,(l.take i).flatMap fC⟩),(18,⟨90,0,[I o,I t,.bool g,I a1,I a2,.str a3,.au a4 a5,.bool p1,I p2,.au p3 p4,.au L Ln,.bg 19 0 i]⟩),(2,⟨90,0,[I 0,I 0,.bool false,I 0,I 0,.str eS,.ak,.bool false,I 0,.ak,.ak,.ak]⟩)],20⟩
theorem xA (u:Un)(s:Sy)(t:Int)(hb:s.ts.length<=1000000/\∀ l∈s.ts,l.length<=1000000)(hf:ur u s)(hz:∀ z,dR u s t=some z->(iL z).length<=1000/\(iQ z).length<=1000):af prog 33 [cb u,bp s,I t] (gg (dR u s t)):=by
 have Q2:=qE s t hb;have O1:tree (gg (dR u s t))=true:=by
  cases dR u s t with
  | none=>rfl
  | some i=>simp only[gg,tree,trees,eE,Bool.and_self]
 have PR:=bt u;simp only[eD,ints] at PR;have P7:trees [bp s,I t]=true:=by simp only[trees,tree,bp,dK,ints,Bool.and_self]
 refine af.aC ag Tryz.func33 rfl GK (by simp[Tryz.ntmps33]) O1 λ C hC OR=>?_;rw[Tryz.ntmps33] at hC;simp only[bp,dK,cb,eD,ints] at Q2 P7 |-;apply aq;simp[hC];apply aq;simp[hC];refine ct P7 Q2 ?_
 cases R2:cN s t with
 | none=>
  have hn:dR u s t=none:=by simp[dR,R2]
  rw[hn];simp[hC,rN];apply aT;simp[hC];refine cX ?_;simp;apply aq;simp[hC];apply T.ret;refine aa.le (Le.trim [6,7] [2] 3 xr yA) ?_;simp;refine aa.le (Le.nz [] [2]) ?_;apply aa.here;simp[gg,eS]
 | some f=>
  obtain⟨l,Rd,P3⟩:=qo R2;obtain⟨q,hq,gJ⟩:=hf l Rd f P3;obtain⟨z,XP⟩:∃ z,q.code[f.pc]? = some z:=⟨_,getElem?_eq_getElem gJ⟩;have hn:dR u s t=some z:=by simp[dR,R2,hq,XP]
  obtain⟨Sc,Qs⟩:=hz z hn;rw[hn];have Qx:=(List.getElem?_eq_some_iff.1 hq).1;have OS:=cq (f:=mw) (n:=5) jM hq 4 yA;have Ub:=aH (f:=df) (n:=12) jS XP;have VZ:=FD z;have QJ:=vB (inE z);have hxp:=xO (iP z);have Uy:=xR (iL z) Sc;have te:trees [.agg (a8 (inE z))]=true:=by simp only[trees,tree,aJ,Bool.and_self]
  have tp:trees [.agg (fC (iP z))]=true:=by simp only[trees,tree,cJ,Bool.and_self]
  have tl:trees [.au ((iL z).flatMap a8) (iL z).length]=true:=by simp only[trees,tree,Bool.and_self]
  obtain⟨a1,a2,a3,a4,a5,V3,tea⟩:=fe (inE z);obtain⟨p1,p2,p3,p4,UI,WK⟩:=lp (iP z);rw[V3,UI] at VZ;rw[V3] at QJ te;rw[UI] at hxp tp;simp only[cons_append,nil_append] at VZ;rw[VZ] at Ub;simp[hC,rN,cZ];apply aT;simp[hC];refine eQ ?_;simp;refine T.seq (T.rx ag follows [0,1,2,3,4,5,6,7,8,9,10,11,12,13,14,15,16] [(1,15),(5,15),(8,15),(12,15),(14,15)] GK ?_);simp[hC,Qx,OS,mw,gJ,Ub];refine T.seq (T.rx ag follows [0,1,3,4,6,7,2,9,5,8,10,11,12,13,14] [(4,2),(7,2),(7,5)] GK ?_);simp[hC];refine RX.call rfl rfl rfl rfl rfl te QJ ?_;simp;refine RX.call rfl rfl rfl rfl rfl tp hxp ?_;simp;refine RX.call rfl rfl rfl rfl rfl tl Uy ?_;simp;have tL:trees ((iL z).flatMap a8)=true:=ah aJ _;have tQ:trees ((iQ z).flatMap fC)=true:=ah cJ _;apply aq;simp[hC];apply aq;simp[hC];apply aT;simp[hC];apply T.block;refine T.le (Le.trim [51,50,49,9,7,6] [18,2] 19 Qr yA) ?_;simp;refine T.aQ (J44 (iQ z) (DK z) (iT z) (iG z) a1 a2 a3 a4 a5 p1 p2 p3 p4 ((iL z).flatMap a8) (iL z).length) (n:=(iQ z).length) ?_ ?_
  .refine aa.le (Le.lq 18 11 87 3 rfl rfl) ?_;simp;refine aa.here ⟨0,by omega,by omega,?_⟩;simp[eS]
  .rintro n s ⟨i,rfl,hi,rfl⟩;by_cases OP:i<(iQ z).length
   .obtain⟨a,Uc⟩:∃ a,(iQ z)[i]? = some a:=⟨_,getElem?_eq_getElem OP⟩;have Uz:=xO a;have OQ:trees [.agg (fC a)]=true:=by simp only[trees,tree,cJ,Bool.and_self]
    have SG:=aH (f:=fC) (n:=3) jN Uc;have UR:=aA jN ((iQ z).take i);have Pb:=rO fC Uc;have wi:=cw ((i:Int)+1) yA yA;obtain⟨c1,c2,c3,c4,Pc,tca⟩:=lp a;rw[Pc] at SG Uz OQ Pb;have tB:trees (((iQ z).take i).flatMap fC)=true:=ah cJ _;have tC:trees (((iQ z).take (i+1)).flatMap fC)=true:=ah cJ _;have Rd:((iQ z).take i).length=i:=by simp;omega
    rw[Rd] at UR;have b1:(i+1)*40<=140737488355328:=by omega
    have b2:i*3+3=(i+1)*3:=by omega
    generalize ((iQ z).take i).flatMap fC=B at UR Pb tB;apply aq;simp[hC,OP];refine T.seq (T.cond (b:=true) rfl (T.skip ?_));simp;apply eZ;apply aq;simp[hC,OP,SG];refine T.rx ag follows [0,1,2,3,4,5,6,7] [(1,3),(1,4)] GK ?_;simp[hC];refine RX.call rfl rfl rfl rfl rfl OQ Uz ?_;simp[UR,b1,aS];apply aG;simp[hC,wi];refine⟨(iQ z).length-(i+1),by omega,?_⟩;have Ve:trees (B++[.bool c1,I c2,.au c3 c4])=true:=by rw[Pb];exact tC
    have VG:=λ ρ=>ae ρ _ Ve;have rL:=λ ρ=>ae ρ _ tL;have rQ:=λ ρ=>ae ρ _ tQ;have r4:=λ ρ=>ae ρ _ tea;have r5:=λ ρ=>ae ρ _ WK;refine aa.le (Le.norm [51,50,49,9,7,6] [(29,19),(18,18),(2,2)] 0 20 Px Pw Yp yA) ?_;simp[cz,bf,aL,cQ,dW,assoc,VG];refine aa.here ⟨i+1,rfl,by omega,?_⟩;rw[<- Pb];simp
   .have OV:i=(iQ z).length:=by omega
    subst OV;apply aq;simp[hC];apply T.seq;refine T.cond (b:=false) PC ?_;simp;apply T.exit;simp;apply aq;simp[hC];apply T.ret;have Zt:take ((iQ z).length*3) ((iQ z).flatMap fC)=(iQ z).flatMap fC:=take_of_length_le (by rw[aA jN];omega);refine aa.le (Le.trim [6,7] [2,19] 20 (by simp[-all_eq_true,-all_flatMap,-all_map,aj tQ]) yA) ?_;simp;refine aa.le (Le.cF (o:=19) rfl tQ) ?_;simp[Zt];apply aa.here;simp[gg,VZ]
end Go.Proofs.YtlkmbdfhdknlgaaGreat
