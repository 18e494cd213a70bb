/- Picks, states, threads. -/
import Derived.Test.YtlkmbdfhdknlgaaGreatV42
set_option maxHeartbeats 2000000
namespace Go.Proofs.YtlkmbdfhdknlgaaGreat
open Go.Can Go.aV List Tryz
def vi (x:Int):Int:=if x.tmod 16=7 then x else x % 4
def cV (l:List Int)(n:Nat):List Int:=(l.take n).map vi
def J38n (l:List Int)(n:Nat)(m:Nat)(s:St):Prop:=∃ i:Nat,m=min l.length n-i/\i<=min l.length n/\
 s=⟨[(6,I i),(5,.bg 0 0 i),(1,I n),(0,.au (l.map bj) l.length)],[(0,⟨3,1,(cV l i).map bj⟩)],1⟩
theorem gH (l:List Int)(n:Nat):(cV l n).length=min l.length n:=by simp[cV,Nat.min_comm]
theorem G9 (l:List Int)(hl:l.length<=9223372036854775807)(n:Nat)(hn:n<=1000):af prog 9 [ints l,I n] (ints (cV l n)):=by
 have tl:trees (l.map bj)=true:=aB l;refine af.aC ag Tryz.func9 rfl GK (by simp[Tryz.ntmps9]) rfl λ C hC OR=>?_;rw[Tryz.ntmps9] at hC;simp only[ints];apply aq;simp[hC];apply aq;simp[hC];apply aT;simp[hC];apply T.block;refine T.aQ (J38n l n) (n:=min l.length n) ?_ ?_
 .refine aa.le (Le.own 5 3 1 rfl) ?_;simp[St.own];refine aa.trim [6,5,1,0] [0] 1 (by simp[-all_eq_true,-all_map]) yA ⟨0,by omega,by omega,?_⟩;simp[cV]
 .rintro m s ⟨i,rfl,hi,rfl⟩;have tp:trees ((cV l i).map bj)=true:=aB _;have Qx:(cV l i).length=i:=by rw[gH];omega
  by_cases OP:i<l.length
  .by_cases OZ:i<n
   .obtain⟨x,hx⟩:∃ x,l[i]? = some x:=⟨_,getElem?_eq_getElem OP⟩;have R9:(l.map bj).drop i=I x::(l.map bj).drop (i+1):=by
     rw[drop_eq_getElem_cons (by simpa using OP)];simp[(List.getElem?_eq_some_iff.1 hx).2]
    have wi:=cw ((i:Int)+1) yA yA;have Pk:cV l (i+1)=cV l i++[vi x]:=by
     simp only[cV];rw[take_add_one,hx];simp
    have bd:(i+1)*8<=140737488355328:=by omega
    have tp1:trees ((cV l i).map bj++[I (vi x)])=true:=by rw[aF,tp];rfl
    have rp1:=λ ρ=>ae ρ _ tp1;apply aT;simp[hC,OP,OZ];refine T.cond (b:=true) PC (T.skip ?_);simp;apply eZ;by_cases h7:x.tmod 16=7
    .have hz:vi x=x:=by simp[vi,h7]
     rw[hz] at Pk tp1 rp1;apply aq;simp[hC,OP,R9,h7];refine cX ?_;simp;apply aG;simp[hC,OP,R9,bd,Qx,aS];apply aG;simp[hC,wi];refine⟨min l.length n-(i+1),by omega,?_⟩;refine aa.le (Le.norm [6,5,1,0] [(2,0)] 0 1 Px Pw yE yA) ?_;simp[cz,bf,cQ,dW,assoc,rp1];refine aa.here ⟨i+1,rfl,by omega,?_⟩;rw[Pk];simp
    .have hz:vi x=x % 4:=by simp[vi,h7]
     rw[hz] at Pk tp1 rp1;have h7b:(x.tmod 16 == 7)=false:=by rw[beq_eq_false_iff_ne];exact h7
     have YN:=oG x 4 yA yA;apply aq;simp[hC,OP,R9];refine T.cond (b:=false) (by simp[ev,assoc,h7b]) ?_;simp;apply aG;simp[hC,OP,R9];refine ct rfl YN ?_;simp[hC,bd,Qx,aS];apply aG;simp[hC,wi];refine⟨min l.length n-(i+1),by omega,?_⟩;refine aa.le (Le.norm [6,5,1,0] [(2,0)] 0 1 Px Pw yE yA) ?_;simp[cz,bf,cQ,dW,assoc,rp1];refine aa.here ⟨i+1,rfl,by omega,?_⟩;rw[Pk];simp
   .have OV:i=min l.length n:=by omega
    apply aT;simp[hC,OP,OZ];refine T.cond (b:=false) PC ?_;simp;apply T.exit;simp;apply aq;simp[hC];apply T.ret;have VQ:cV l i=cV l n:=by
     have:l.take i=l.take n:=by
      rw[take_eq_take_iff];omega
     rw[cV,this,cV]
    have kp:take i ((cV l n).map bj)=(cV l n).map bj:=take_of_length_le (by simp[gH];omega);have Yr:trees ((cV l n).map bj)=true:=aB _;rw[VQ];refine aa.le (Le.trim [4] [0] 1 (by simp[-all_eq_true,-all_map,aj Yr]) yA) ?_;simp;refine aa.le (Le.cF (o:=0) rfl Yr) ?_;simp[kp];apply aa.here;simp[gH];omega
  .apply aT;simp[hC,OP];refine T.cond (b:=false) PC ?_;simp;apply T.exit;simp;apply aq;simp[hC];apply T.ret;have VQ:cV l i=cV l n:=by
    have:l.take i=l.take n:=by
     rw[take_eq_take_iff];omega
    rw[cV,this,cV]
   have kp:take i ((cV l n).map bj)=(cV l n).map bj:=take_of_length_le (by simp[gH];omega);have Yr:trees ((cV l n).map bj)=true:=aB _;rw[VQ];refine aa.le (Le.trim [4] [0] 1 (by simp[-all_eq_true,-all_map,aj Yr]) yA) ?_;simp;refine aa.le (Le.cF (o:=0) rfl Yr) ?_;simp[kp];apply aa.here;simp[gH];omega
def J37n (u:Un)(l:List Int)(m:Nat)(s:St):Prop:=∃ (i Xu:Nat) (y:Sy),m=l.length-i/\i<=l.length/\Xu<=i/\nK u i y/\nZ u l (iJ u)=nZ u (l.drop i) y/\runN u l (iJ u)=Xu+runN u (l.drop i) y/\
 s=⟨[(8,I i),(7,I Xu),(6,.ax 2 0),(4,.ax 1 0),(2,.ax 0 0),(1,.au (l.map bj) l.length)],[(2,⟨40,0,dK y⟩),(1,⟨40,0,[.ak,.ak,.ak,I 0]⟩),(0,⟨30,0,eD u⟩)],3⟩
theorem Md {u:Un}(hu:jx u)(l:List Int)(hl:l.length<=1000):af prog 47 [cb u,ints l] (.bY [bp (nZ u l (iJ u)),I (runN u l (iJ u))]):=by
 have RC:=mj hu;obtain⟨q0,W1⟩:∃ q,u.ps[u.main]? = some q:=⟨_,getElem?_eq_getElem (by have:=hu.np;rw[hu.main];omega)⟩;have hq0v:=hu.pr q0 (mem_of_getElem? W1);have Pp:=MK u RC (by have:=hu.ng;omega) q0 W1 yA;have PR:=bt u;have tl:trees (l.map bj)=true:=aB l;have OQ:trees [cb u]=true:=by simp only[trees,tree,cb,PR,Bool.and_self]
 have O1:tree (.bY [bp (nZ u l (iJ u)),I (runN u l (iJ u))])=true:=by
  simp only[bp,dK,tree,trees,bD,Bool.and_self]
 refine af.aC ag Tryz.func47 rfl GK (by simp[Tryz.ntmps47]) O1 λ C hC OR=>?_;rw[Tryz.ntmps47] at hC;simp only[bp,cb,eD,ints] at Pp OQ |-;have syN:dK (iJ u)=[ints (iJ u).gs,.au ((iJ u).tb.flatMap cg) (iJ u).tb.length,.au ((iJ u).ts.flatMap cd) (iJ u).ts.length,I (iJ u).fault]:=rfl;rw[syN] at Pp;apply aq;simp[hC];apply aq;simp[hC];refine ct OQ Pp ?_;simp[hC];apply aT;simp[hC];apply T.block;have tG:∀ y:Sy,trees (y.gs.map bj)=true:=λ y=>aB y.gs;have tT:∀ y:Sy,trees (y.tb.flatMap cg)=true:=λ y=>ah ba _;have tS:∀ y:Sy,trees (y.ts.flatMap cd)=true:=λ y=>ah aK _;have Tk:trees (u.gs.map bj)=true:=aB u.gs;have Tj:=dm u.ms;have bY:trees (u.ps.flatMap mw)=true:=ah eX u.ps;refine T.aQ (J37n u l) (n:=l.length) ?_ ?_
 .refine aa.trim [8,7,6,4,2,1] [2,1,0] 3 (by simp[-all_eq_true,-all_flatMap,-all_map,ints]) yA ⟨0,0,iJ u,by omega,by omega,by omega,vt hu,by simp,by simp,?_⟩;simp[eD,ints,dK]
 .rintro m s ⟨i,Xu,y,rfl,hi,X7,hy,Qg,PL,rfl⟩;simp only[dK,eD,ints];by_cases OP:i<l.length
  .obtain⟨x,hx⟩:∃ x,l[i]? = some x:=⟨_,getElem?_eq_getElem OP⟩;have R9:(l.map bj).drop i=I x::(l.map bj).drop (i+1):=by
    rw[drop_eq_getElem_cons (by simpa using OP)];simp[(List.getElem?_eq_some_iff.1 hx).2]
   have OS:l.drop i=x::l.drop (i+1):=by rw[drop_eq_getElem_cons OP];simp[(List.getElem?_eq_some_iff.1 hx).2]
   have wi:=cw ((i:Int)+1) yA yA;have wc:=cw ((Xu:Int)+1) yA yA;have Pk:=GI hu yA hy x;have SL:=qz hu hy x;rw[OS] at Qg PL;simp only[nZ,runN] at Qg PL;have Ph:trees [cb u,bp y,I x]=true:=by
    simp only[trees,tree,bp,dK,cb,PR,ints,Bool.and_self]
   generalize fy u y x=r at Pk SL Qg PL;obtain⟨z,ok⟩:=r;simp only[bp,dK,cb,eD,ints] at Pk Ph;apply aT;simp[hC,OP];refine iI ?_;simp;apply eZ;refine T.seq (T.rx ag follows [0,1,2,3,4,5,10,6,7,8,9,11,12] [(0,10),(1,10),(5,10),(10,6)] GK ?_);simp[hC,OP,R9];refine RX.call rfl rfl rfl rfl rfl Ph Pk ?_;simp
   cases ok with
   | true=>
    apply aq;simp[hC];refine cX ?_;simp;apply aG;simp[hC,wc];apply aG;simp[hC,wi];refine⟨l.length-(i+1),by omega,?_⟩;refine aa.trim [8,7,6,4,2,1] [2,1,0] 3 Qr yA ⟨i+1,Xu+1,z,rfl,by omega,by omega,SL,Qg,by rw[PL];simp;omega,?_⟩;simp[eD,ints,dK]
   | false=>
    apply aq;simp[hC];refine eQ ?_;simp;apply aG;simp[hC,wi];refine⟨l.length-(i+1),by omega,?_⟩;refine aa.trim [8,7,6,4,2,1] [2,1,0] 3 Qr yA ⟨i+1,Xu,y,rfl,by omega,by omega,hy.mono yA,Qg,by rw[PL];simp,?_⟩;simp[eD,ints,dK]
  .have OV:i=l.length:=by omega
   subst OV;simp[nZ,runN] at Qg PL;apply aT;simp[hC];refine T.cond (b:=false) PC ?_;simp;apply T.exit;simp;apply aq;simp[hC];apply T.ret;rw[Qg,PL];refine aa.le (Le.trim [5,4] [1] 3 Qr yA) ?_;simp;apply aa.here;simp
theorem GL {u:Un}(hu:jx u)(l:List Int)(hl:l.length<=9223372036854775807):af prog 16 [cb u,ints l] (bp (nZ u (cV l 60) (iJ u))):=by
 have Rv:=G9 l hl 60 yA;have W0:=Md hu (cV l 60) (by rw[gH];omega);have PR:=bt u;have OQ:trees [cb u,ints (cV l 60)]=true:=by simp only[trees,tree,cb,PR,ints,Bool.and_self]
 have We:trees [ints l,I (60:Nat)]=true:=by simp only[trees,tree,ints,Bool.and_self]
 generalize nZ u (cV l 60) (iJ u)=y at W0 |-;generalize runN u (cV l 60) (iJ u)=n at W0;have O1:tree (bp y)=true:=by
  simp only[bp,dK,tree,trees,bD,Bool.and_self]
 refine af.aC ag Tryz.func16 rfl GK (by simp[Tryz.ntmps16]) O1 λ C hC OR=>?_;rw[Tryz.ntmps16] at hC;simp only[bp,dK,cb,eD,ints] at Rv W0 OQ We |-;apply aq;simp[hC];refine T.seq (T.rx ag follows [0,1,7,2,3,4,5,6,8,9] [(0,7),(0,2),(7,2),(7,3)] GK ?_);simp[hC];refine RX.call rfl rfl rfl rfl rfl We Rv ?_;simp;refine RX.call rfl rfl rfl rfl rfl OQ W0 ?_;simp;apply aq;simp[hC];apply T.ret;apply aa.here;simp[Tryz.results16]
theorem EJ (y:Sy)(h1:1<=y.ts.length)(h2:y.ts.length<=1000000)(x:Int):af prog 17 [bp y,I x] (I (x % y.ts.length)):=by
 have YN:=oG x y.ts.length yA yA;refine af.aC ag Tryz.func17 rfl GK (by simp[Tryz.ntmps17]) rfl λ C hC OR=>?_;rw[Tryz.ntmps17] at hC;simp only[bp,dK,ints];apply aq;simp[hC];apply aq;simp[hC];refine ct rfl YN ?_;simp[hC];apply T.ret;apply aa.here;simp[Tryz.results17]
theorem Fx (u:Un)(h1:1<=u.ms.length)(h2:u.ms.length<=1000000)(x:Int):af prog 18 [cb u,I x] (I (x % u.ms.length)):=by
 have YN:=oG x u.ms.length yA yA;refine af.aC ag Tryz.func18 rfl GK (by simp[Tryz.ntmps18]) rfl λ C hC OR=>?_;rw[Tryz.ntmps18] at hC;simp only[cb,eD,ints];apply aq;simp[hC];apply aq;simp[hC];refine ct rfl YN ?_;simp[hC];apply T.ret;apply aa.here;simp[Tryz.results18]
theorem yH {u:Un}(hu:jx u){x:Is}(hx:B5 u x):∀ (c:List In) (l:List Is) (r:List Nat),(∀ i∈c,i∈bN u x)->wD u l->wD u (g6 x c l r).1
 | [],_,_,_,h=>h
 | i::c,l,r,hc,h=>by
  simp only[g6];split
  .exact yH hu hx c l r (λ j hj=>hc j (mem_cons_of_mem _ hj)) h
  .rename_i y hy;have SL:=Df hu hx (hc i mem_cons_self) hy;exact yH hu hx c _ _ (λ j hj=>hc j (mem_cons_of_mem _ hj)) ⟨nh h.nd,Dl h.v SL⟩
theorem BH {u:Un}(hu:jx u):∀ (f i:Nat) (l:List Is) (cs:List (List Int)) (r:List Nat),wD u l->wD u (mT u f i l cs r).is/\l.length<=(mT u f i l cs r).is.length
 | 0,_,l,_,_,h=>⟨h,Nat.le_refl _⟩
 | f+1,i,l,cs,r,h=>by
  simp only[mT];split
  .exact⟨h,Nat.le_refl _⟩
  .rename_i x hx;have hs:=yH hu (h.v x (mem_of_getElem? hx)) (bN u x) l r (λ _ hi=>hi) h;obtain⟨h1,h2⟩:=BH hu f (i+1) (g6 x (bN u x) l r).1 (cs++[(g6 x (bN u x) l r).2.1]) (g6 x (bN u x) l r).2.2 hs;obtain⟨t,ht⟩:=qA x (bN u x) l r;refine⟨h1,Nat.le_trans ?_ h2⟩;rw[ht];simp
theorem BG {u:Un}(hu:jx u):wD u (cc u).is/\0<(cc u).is.length:=by
 have h0:wD u [⟨u.main,[]⟩]:=⟨by simp,λ x hx=>by
  rw[mem_singleton.1 hx];have hp:=hu.np.1;obtain⟨q,hq⟩:∃ q,u.ps[0]? = some q:=⟨_,getElem?_eq_getElem yA⟩;exact⟨⟨q,by rw[hu.main];exact hq,by rw[(hu.p0 q hq).2];rfl⟩,λ l hl=>by cases hl⟩⟩
 obtain⟨h1,h2⟩:=BH hu 100 0 [⟨u.main,[]⟩] [] [0] h0;exact⟨h1,h2⟩
theorem Kf {u:Un}(hu:jx u){x:Is}(h:B5 u x):x.bz.length<=2:=by
 obtain⟨⟨q,hq,hl⟩,_⟩:=h;have:=(hu.pr q (mem_of_getElem? hq)).2.1;omega
theorem zu {u:Un}(hu:jx u):(cc u).is.length<=49/\∀ z∈(cc u).is,z.bz.length<=6/\zM z.proc=true/\∀ n∈z.bz,zM (n:Int)=true:=by
 obtain⟨hI,VN⟩:=BG hu;refine⟨kq hu hI.nd hI.v,λ z hz=>?_⟩;have h1:=hI.v z hz;have h2:=Kf hu h1;obtain⟨⟨q,hq,_⟩,hm⟩:=h1;have h3:=(List.getElem?_eq_some_iff.1 hq).1;have h4:=hu.np;have h5:=hu.nm;have OZ:∀ n:Nat,n<10->zM (n:Int)=true:=λ n hn=>by simp only[zM,Bool.and_eq_true,decide_eq_true_eq];omega
 exact⟨by omega,OZ _ yA,λ n hn=>OZ _ (by have:=hm n hn;omega)⟩
theorem Kt {u:Un}(hu:jx u){x:Is}(hx:x∈(cc u).is):af prog 79 [oZ (cc u),.agg (gI x)] (I (fc (cc u).is x))/\af prog 72 [oZ (cc u),.agg (gI x)] (I (fc (cc u).is x)):=by
 obtain⟨h1,h2⟩:=zu hu;obtain⟨_,h3,h4⟩:=h2 x hx;have h5:=uF x (cc u).is 0;rw[if_pos hx] at h5;have Vb:=bT (cc u).roots;have tc:tree (.au ((cc u).calls.map ints) (cc u).calls.length)=true:=by simp only[tree]
 have a1:=HQ (cc u).is yA h2 (.au ((cc u).calls.map ints) (cc u).calls.length) (aN (cc u).roots) tc Vb x.proc (x.bz.map λ n:Nat=>(n:Int)) h3 (λ n hn=>by
  rw[mem_map] at hn;obtain⟨m,hm,rfl⟩:=hn;exact h4 m hm)
 have a2:=GX (cc u).is yA (λ z hz=>by have:=(h2 z hz).1;omega) (.au ((cc u).calls.map ints) (cc u).calls.length) (aN (cc u).roots) tc Vb x.proc (x.bz.map λ n:Nat=>(n:Int));rw[show ((0:Nat):Int)=0 from rfl] at h5;rw[h5,Nat.add_zero] at a1 a2;rw[<- j6] at a1 a2;exact⟨a1,a2⟩
def nk (p:Nat×Nat):List CV:=[I p.1,I p.2]
theorem qF (p:Nat×Nat):(nk p).length=2:=rfl
theorem fZ (p:Nat×Nat):trees (nk p)=true:=rfl
def BW (u:Un)(f:Fr):Nat×Nat:=(fc (cc u).is (mG u.ms f),f.pc)
def nH (d:Nat)(l:List (Nat×Nat)):List CV:=[I d,.au (l.flatMap nk) l.length]
def Lu:Option (Nat×List (Nat×Nat))->CV
 | some x=>.bY [.agg (nH x.1 x.2),.bool true]
 | none=>.bY [.agg [I 0,.au [] 0],.bool false]
def Lv:Option (Nat×List (Nat×Nat))->CV
 | some x=>.iface 48 [.agg (nH x.1 x.2)]
 | none=>.iface 0 []
def gz (u:Un)(s:Sy)(t:Int)(m:Nat):Option (Nat×List (Nat×Nat)):=if t<0 then none else match s.ts[t.toNat]? with
 | none=>none
 | some l=>match u.ms[m]? with
  | none=>none
  | some x=>some (min (gv u.ms s.tb m t.toNat) (mW x),l.map (BW u))
theorem Gy (o:Option (Nat×List (Nat×Nat))):tree (Lv o)=true:=by
 cases o with
 | none=>rfl
 | some x=>simp only[Lv,tree,trees,nH,Bool.and_self]
def J39 (u:Un)(l:List Fr)(d:Nat)(n:Nat)(s:St):Prop:=∃ i:Nat,n=l.length-i/\i<=l.length/\
 s=⟨[(46,I i),(45,I l.length),(44,.au (l.flatMap cZ) l.length),(11,.ax 18 0),(6,.ax 1 0),(5,.ax 0 0)],[(19,⟨54,2,((l.take i).map (BW u)).flatMap nk⟩),(18,⟨48,0,[I d,.bg 19 0 i]⟩),(1,⟨34,0,oY (cc u)⟩),(0,⟨30,0,eD u⟩)],20⟩
theorem CD {u:Un}(hu:jx u){k:Nat}(hk:k<=1000){s:Sy}(hs:nK u k s)(t:Int)(m:Nat)(hm:m<u.ms.length):af prog 36 [cb u,oZ (cc u),bp s,I t,I m] (Lv (gz u s t m)):=by
 obtain⟨h1,h2,h3,h4,h5⟩:=hs.bounds hu hk;have RC:=mj hu;obtain⟨x,hx⟩:∃ x,u.ms[m]? = some x:=⟨_,getElem?_eq_getElem hm⟩;refine af.aC ag Tryz.func36 rfl GK (by simp[Tryz.ntmps36]) (Gy _) λ C hC OR=>?_;rw[Tryz.ntmps36] at hC;have tG:trees (s.gs.map bj)=true:=aB s.gs;have tT:trees (s.tb.flatMap cg)=true:=ah ba _;have tS:trees (s.ts.flatMap cd)=true:=ah aK _;have Tk:trees (u.gs.map bj)=true:=aB u.gs;have Tj:=dm u.ms;have bY:trees (u.ps.flatMap mw)=true:=ah eX u.ps;have Ug:=ah cP (cc u).is;have Qy:=jn (cc u).calls;have Vb:=aM (cc u).roots;simp only[bp,dK,cb,eD,oZ,oY,ints,aN];apply aq;simp[hC];by_cases h0:t<0
 .have hn:gz u s t m=none:=by simp[gz,h0]
  rw[hn];apply aT;simp[hC,h0];refine T.cond (b:=true) PC ?_;simp;apply aq;simp[hC];apply T.ret;apply aa.here;simp[Tryz.results36,Lv]
 .obtain⟨j,rfl⟩:∃ j:Nat,t=j:=⟨t.toNat,by omega⟩;by_cases hj:j<s.ts.length
  .obtain⟨l,hl⟩:∃ l,s.ts[j]? = some l:=⟨_,getElem?_eq_getElem hj⟩;have hn:gz u s j m=some (min (gv u.ms s.tb m j) (mW x),l.map (BW u)):=by simp[gz,hl,hx]
   rw[hn];have Sp:=xD u.ms RC s.tb m j x hx hs.tb yA λ h hh=>⟨by have:=(hs.hd h hh).1;omega,by have:=hs.ho h hh;omega⟩;have Pc:=JK x;have R9:=aH (f:=cI) (n:=3) ir hx;have Q4:=EK hl;have QE:¬ ((s.ts.length:Int)<=(j:Int)):=by omega
   have OQ:trees [.au (u.ms.flatMap cI) u.ms.length,.au (s.tb.flatMap cg) s.tb.length,I m,I j]=true:=by simp only[trees,tree,Bool.and_self]
   have Ph:trees [.agg (cI x)]=true:=rfl;have Sh:(if mW x<gv u.ms s.tb m j then (mW x:Int) else (gv u.ms s.tb m j:Int))=((min (gv u.ms s.tb m j) (mW x):Nat):Int):=by split<;>omega
   generalize gv u.ms s.tb m j=dd at Sp Sh |-;generalize P9:min dd (mW x)=d at Sh |-;apply aT;simp[hC,h0,QE];refine T.cond (b:=false) PC (T.skip ?_);simp;refine T.seq (T.rx ag follows [0,1,2,3,4,5,7,8,9,10,11,15,6,12,13,14,16] [(1,15),(3,15),(8,15),(8,6),(11,15),(11,6),(15,6),(15,12)] GK ?_);simp[hC,hm,R9,cI];refine RX.call rfl rfl rfl rfl rfl OQ Sp ?_;simp;refine RX.call rfl rfl rfl rfl rfl Ph Pc ?_;simp[Sh];have tF:trees (l.flatMap cZ)=true:=ah bX _;have hlb:=h4 l (mem_of_getElem? hl);apply aT;simp[hC,hj,Q4,cd];refine T.le (Le.trim [46,45,44,11,6,5] [18,1,0] 19 Qr yA) ?_;simp;apply T.block;refine T.aQ (J39 u l d) (n:=l.length) ?_ ?_
   .refine aa.le (Le.lq 18 1 54 2 rfl rfl) ?_;simp;refine aa.here ⟨0,by omega,by omega,?_⟩;simp[eD,oY,ints,aN]
   .rintro n σ ⟨i,rfl,hi,rfl⟩;simp only[eD,oY,ints,aN];by_cases OP:i<l.length
    .obtain⟨f,X5⟩:∃ f,l[i]? = some f:=⟨_,getElem?_eq_getElem OP⟩;have T9:=hs.fr l (mem_of_getElem? hl) f (mem_of_getElem? X5);obtain⟨q,hq,gJ,Tm,O7⟩:=T9.q;have XT:=hu.pr q (mem_of_getElem? hq);have QM:=xU hu f yA T9.el;have Tt:=(Kt hu T9.ic).1;have Wd:trees [cb u,.agg (cZ f)]=true:=by
      have:=bt u;simp only[trees,tree,cb,this,bX,Bool.and_self]
     have Ux:trees [oZ (cc u),.agg (gI (mG u.ms f))]=true:=by
      simp only[trees,tree,oZ,oY,aN,cP,Bool.and_self]
     have So:=aH (f:=cZ) (n:=4) cL X5;have wi:=cw ((i:Int)+1) yA yA;have Pb:(l.take (i+1)).map (BW u)=(l.take i).map (BW u)++[(fc (cc u).is (mG u.ms f),f.pc)]:=by
      rw[take_add_one,X5];simp[BW]
     have Rd:((l.take i).map (BW u)).length=i:=by simp;omega
     generalize (l.take i).map (BW u)=B at Rd Pb;have hBl:=aA qF B;rw[Rd] at hBl;have tB:trees (B.flatMap nk)=true:=ah fZ _;have bd:(i+1)*16<=140737488355328:=by omega
     have b2:i*2+2=(i+1)*2:=by omega
     have VU:¬ ((fc (cc u).is (mG u.ms f):Nat):Int)<0:=by omega
     generalize fc (cc u).is (mG u.ms f)=ix at Tt Pb VU;obtain⟨i1,i2,i3,i4⟩:∃ p ls n,gI (mG u.ms f)=[I p,.au ls n]/\trees ls=true:=⟨_,_,_,rfl,aM _⟩;rw[i4.1] at QM Tt Ux;simp only[cb,eD,oZ,oY,ints,aN,cZ] at QM Tt Wd Ux;apply aq;simp[hC,OP];refine T.seq (T.cond (b:=true) rfl (T.skip ?_));simp;apply eZ;apply aq;simp[hC,OP,So,cZ,ints,aN];refine T.seq (T.rx ag follows [0,1,2,3,4,5] [(0,3)] GK ?_);simp[hC];refine RX.call rfl rfl rfl rfl rfl Wd QM ?_;simp;refine RX.call rfl rfl rfl rfl rfl Ux Tt ?_;simp;apply aT;simp[hC,VU];refine eQ ?_;simp;apply aG;simp[hC,hBl,bd,aS];apply aG;simp[hC,wi];refine⟨l.length-(i+1),by omega,?_⟩;have Ve:trees (B.flatMap nk++[I ix,I f.pc])=true:=by rw[aF,tB];rfl
     have VG:=λ ρ=>ae ρ _ Ve;have r1:=λ ρ=>ae ρ _ tF;have r2:=λ ρ=>ae ρ _ Tk;have r3:=λ ρ=>ae ρ _ Tj;have r4:=λ ρ=>ae ρ _ bY;have r5:=λ ρ=>ae ρ _ Ug;have r6:=λ ρ=>ae ρ _ Qy;have r7:=λ ρ=>ae ρ _ Vb;refine aa.le (Le.norm [46,45,44,11,6,5] [(28,19),(18,18),(1,1),(0,0)] 0 20 Px Pw Yp yA) ?_;simp[cz,bf,aL,cQ,dW,assoc,VG];refine aa.here ⟨i+1,rfl,by omega,?_⟩;rw[Pb];simp[eD,oY,ints,aN,nk]
    .have OV:i=l.length:=by omega
     subst OV;rw[take_length];have tP:trees ((l.map (BW u)).flatMap nk)=true:=ah fZ _;have Ys:take (l.length*2) ((l.map (BW u)).flatMap nk)=(l.map (BW u)).flatMap nk:=take_of_length_le (by rw[aA qF];simp);have Yf:(l.map (BW u)).length=l.length:=by simp
     generalize l.map (BW u)=B at tP Ys Yf |-;apply aq;simp[hC];apply T.seq;refine T.cond (b:=false) PC ?_;simp;apply T.exit;simp;refine T.seq (T.region (TL.some ag 1 ?_));simp[hC];refine l9 rfl (A9 (d:=.bI [(0,3),(1,46)]) (c:=.agg [I d,.bg 19 0 l.length]) ag OU rfl xr rfl (λ h=>by cases h)) (TL.go' ag ?_);simp[hC];apply T.ret;refine aa.le (Le.trim [10] [19] 20 (by simp[-all_eq_true,-all_flatMap,-all_map,aj tP]) yA) ?_;simp;refine aa.le (Le.cF (o:=19) rfl tP) ?_;simp[Ys];apply aa.here;simp[Lv,nH,Yf]
  .have hn:gz u s j m=none:=by simp[gz,getElem?_eq_none (Nat.le_of_not_lt hj)]
   have QE:(s.ts.length:Int)<=(j:Int):=by omega
   rw[hn];apply aT;simp[hC,h0,QE];refine T.cond (b:=true) PC ?_;simp;apply aq;simp[hC];apply T.ret;apply aa.here;simp[Tryz.results36,Lv]
theorem Gx (o:Option (Nat×List (Nat×Nat))):tree (Lu o)=true:=by
 cases o with
 | none=>rfl
 | some x=>simp only[Lu,tree,trees,nH,Bool.and_self]
theorem n8 {u:Un}(hu:jx u){k:Nat}(hk:k<=1000){s:Sy}(hs:nK u k s)(t:Int)(m:Nat)(hm:m<u.ms.length):af prog 11 [cb u,oZ (cc u),bp s,I t,I m] (Lu (gz u s t m)):=by
 have Tn:=CD hu hk hs t m hm;have Ug:=ah cP (cc u).is;have Qy:=jn (cc u).calls;have Vb:=aM (cc u).roots;have OQ:trees [cb u,oZ (cc u),bp s,I t,I m]=true:=by
  have:=bt u;simp only[trees,tree,cb,this,oZ,oY,aN,bp,dK,ints,Bool.and_self]
 refine af.aC ag Tryz.func11 rfl GK (by simp[Tryz.ntmps11]) (Gx _) λ C hC OR=>?_;rw[Tryz.ntmps11] at hC;simp only[bp,dK,cb,eD,oZ,oY,ints,aN] at Tn OQ |-;generalize gz u s t m=o at Tn |-;apply aq;simp[hC];apply aq;simp[hC]
 cases o with
 | none=>
  refine TL.call OU rfl rfl (bR.of rfl OQ Tn) ?_;refine l9 rfl (Dj (c:=.agg [I 0,.ak]) (z:=.agg #[.int .i64 0,.slice none 0 0]) ag OU rfl (by simp[Lv]) rfl (λ h=>by cases h) GK rfl) (TL.go' ag ?_);simp[hC];apply aq;simp[hC];apply T.ret;refine aa.le (Le.trim [10,11] [3] 4 xr yA) ?_;simp;refine aa.le (Le.nz [] [3]) ?_;apply aa.here;simp[Lu]
 | some x=>
  have tP:trees (x.2.flatMap nk)=true:=ah fZ _;refine TL.call OU rfl rfl (bR.of rfl OQ Tn) ?_;refine l9 rfl (F0 (c:=.agg (nH x.1 x.2)) ag OU rfl (by simp[Lv]) rfl (λ h=>by cases h)) (TL.go' ag ?_);simp[hC,nH];apply aq;simp[hC];apply T.ret;apply aa.here;simp[Tryz.results11,Lu,nH]
end Go.Proofs.YtlkmbdfhdknlgaaGreat
namespace Go.Can
open Go.RowKit
variable {P:Program}{s:St}{W:List rz}
theorem XV.neq {t:TypeId}{kb:Value->Bool}(hT:EqT P t kb){o:Oper}{x y:Operand}{q:TypeId}{cx cy:CV}{vx vy:Value}(ho:o.op=.binOp .neq t x y q)(hx:ev s x=some cx)(hy:ev s y=some cy)(h4:ju cx=some vx)(h5:ju cy=some vy)(k1:kb vx=true)(k2:kb vy=true):XV P W o s (.bool (!(wJ vx vy))):=λ C σ s1 a w he _ hr=>by
 obtain⟨e1,_⟩:=kz h4 (bG hr ((he x (by simp[ho,Op.operands])).trans hx));obtain⟨e2,_⟩:=kz h5 (bG hr ((he y (by simp[ho,Op.operands])).trans hy));obtain⟨xs,rfl⟩:=hT.agg vx k1;obtain⟨ys,rfl⟩:=hT.agg vy k2;refine⟨_,?_,dL _⟩;simp only[execOp,ho,e1,e2,Sem.run_bind,run_eqGuard_agg w _ t x y xs ys hT.guard,Result.andThen_ok,run_neq_struct,hT.eq w _ _ k1 k2,Sem.run_pure]
end Go.Can
namespace Go.Proofs.YtlkmbdfhdknlgaaGreat
open Go.Can Go.aV List Tryz
theorem Mt:x9 prog 3 2 54=true:=by kernel_rfl
theorem ptEq:EqT prog 54 (n7 2):=Bn yA Mt GK
theorem ptEI:IY prog [⟨54,n7 2⟩]:=λ x hx=>by
 simp only[mem_cons,not_mem_nil,or_false] at hx;subst hx;exact ptEq
def E7 (p:Nat×Nat):Value:=.agg #[.int .i64 p.1,.int .i64 p.2]
theorem K7 {p:Nat×Nat}(h:p.1<=1000000/\p.2<=1000000):n7 2 (E7 p)=true:=by
 simp[n7,E7,wI,zM];omega
theorem K8 {p p':Nat×Nat}(hp:p.1<=1000000/\p.2<=1000000)(SR:p'.1<=1000000/\p'.2<=1000000){W:List rz}{s:St}{o:Oper}{x y:Operand}{q:TypeId}(ho:o.op=.binOp .neq 54 x y q)(hx:ev s x=some (.agg (nk p)))(hy:ev s y=some (.agg (nk p'))):XV prog W o s (.bool (!decide (p=p'))):=by
 have h:=XV.neq (W:=W) ptEq ho hx hy (vx:=E7 p) (vy:=E7 p') rfl rfl (K7 hp) (K7 SR);have e:wJ (E7 p) (E7 p')=decide (p=p'):=by
  obtain⟨a,b⟩:=p;obtain⟨c,d⟩:=p';simp only[E7,wJ,ub,yu,decide_true,Bool.true_and,Bool.and_true];rw[Bool.eq_iff_iff];simp
 rwa [e] at h
def J16 (d:Nat)(l:List (Nat×Nat))(n:Nat)(s:St):Prop:=∃ i:Nat,n=l.length-i/\i<=l.length/\
 s=⟨[(5,I i),(3,.ax 1 0),(2,.ax 0 0)],[(1,⟨48,0,nH d l⟩),(0,⟨48,0,nH d l⟩)],2⟩
theorem Jy (d:Nat)(l:List (Nat×Nat))(hl:l.length<=1000000)(hp:∀ p∈l,p.1<=1000000/\p.2<=1000000):af prog 19 [.agg (nH d l),.agg (nH d l)] (.bool true):=by
 have tP:trees (l.flatMap nk)=true:=ah fZ _;refine af.aC ag Tryz.func19 rfl GK (by simp[Tryz.ntmps19]) rfl λ C hC OR=>?_;rw[Tryz.ntmps19] at hC;simp only[nH];apply aq;simp[hC];apply aT;simp[hC];refine T.cond (b:=false) PC (T.skip ?_);simp;apply aT;simp[hC];apply T.block;refine T.aQ (J16 d l) (n:=l.length) ?_ ?_
 .refine aa.trim [5,3,2] [1,0] 2 Qr yA ⟨0,by omega,by omega,?_⟩;simp[nH]
 .rintro n s ⟨i,rfl,hi,rfl⟩;simp only[nH];by_cases OP:i<l.length
  .obtain⟨p,Rv⟩:∃ p,l[i]? = some p:=⟨_,getElem?_eq_getElem OP⟩;have Wz:=aH (f:=nk) (n:=2) qF Rv;obtain⟨b1,b2⟩:=hp p (mem_of_getElem? Rv);have wi:=cw ((i:Int)+1) yA yA;apply aT;simp[hC,OP];refine iI ?_;simp;apply eZ;refine T.seq (T.rx ag follows [0,1,2,3,4,5,6,7,8,9,10] [] GK ?_);simp[hC,OP,Wz,nk];refine RX.quiet (.bool (!decide (p=p))) rfl xr rfl (K8 (p:=p) (p':=p) ⟨b1,b2⟩ ⟨b1,b2⟩ rfl rfl rfl) ?_;simp;refine eQ ?_;simp;apply aG;simp[hC,wi];refine⟨l.length-(i+1),by omega,aa.trim [5,3,2] [1,0] 2 Qr yA ⟨i+1,rfl,by omega,?_⟩⟩;simp[nH]
  .have OV:i=l.length:=by omega
   subst OV;apply aT;simp[hC];refine T.cond (b:=false) PC ?_;simp;apply T.exit;simp;apply aq;simp[hC];apply T.ret;apply aa.here;simp[Tryz.results19]
def J48 (a b:List (Nat×Nat))(k:Nat)(s:St):Prop:=∃ j:Nat,k=a.length-j/\j<=a.length/\a.take j=b.take j/\s=⟨[(13,I j),(12,I a.length),(1,.au (b.flatMap nk) b.length),(0,.au (a.flatMap nk) a.length)],[],0⟩
theorem Fi (a b:List (Nat×Nat))(ha:a.length<=1000000)(hb:b.length<=1000000)(hp:∀ p∈a,p.1<=1000000/\p.2<=1000000)(hq:∀ p∈b,p.1<=1000000/\p.2<=1000000):af prog 48 [.au (a.flatMap nk) a.length,.au (b.flatMap nk) b.length] (.bool (decide (a=b))):=by
 have ta:trees (a.flatMap nk)=true:=ah fZ _;have tb:trees (b.flatMap nk)=true:=ah fZ _;refine af.aC ag Tryz.func48 rfl GK (by simp[Tryz.ntmps48]) rfl λ C hC OR=>?_;rw[Tryz.ntmps48] at hC;by_cases hl:a.length=b.length
 .apply aq;simp[hC];apply aT;simp[hC];refine T.cond (b:=false) (by simp[ev,assoc,hl]) (T.skip ?_);simp;apply aT;simp[hC];apply T.block;refine T.aQ (J48 a b) (n:=a.length) ?_ ?_
  .refine aa.trim [13,12,1,0] [] 0 RY yA ⟨0,by omega,by omega,by simp,?_⟩;simp
  .rintro k s ⟨j,rfl,hj,Pb,rfl⟩;by_cases QL:j<a.length
   .obtain⟨x,hx⟩:∃ x,a[j]? = some x:=⟨_,getElem?_eq_getElem QL⟩;obtain⟨y,hy⟩:∃ y,b[j]? = some y:=⟨_,getElem?_eq_getElem yA⟩;have hjb:j<b.length:=by omega
    have R9:=aH (f:=nk) (n:=2) qF hx;have hdy:=aH (f:=nk) (n:=2) qF hy;have wj:=cw ((j:Int)+1) yA yA;apply aq;simp[hC,QL];refine T.seq (T.cond (b:=true) rfl (T.skip ?_));simp;apply eZ;apply aq;simp[hC];refine T.seq (T.rx ag follows [0,1,2,3,4,5,6,7,8] [] GK ?_);simp[hC,QL,hjb,R9,hdy,nk];refine RX.quiet (.bool (!decide (x=y))) rfl xr rfl (K8 (hp x (mem_of_getElem? hx)) (hq y (mem_of_getElem? hy)) rfl rfl rfl) ?_;simp;by_cases SB:x=y
    .refine T.cond (b:=false) yCr (T.skip ?_);simp;apply aG;simp[hC,wj];refine⟨a.length-(j+1),by omega,aa.trim [13,12,1,0] [] 0 RY yA ⟨j+1,rfl,by omega,?_,?_⟩⟩
     .rw[take_add_one,take_add_one,hx,hy,Pb,SB]
     .simp
    .have U5:¬ a=b:=λ h=>by
      subst h;rw[hx] at hy;cases hy;exact SB rfl
     refine T.cond (b:=true) yCr ?_;simp;apply aq;simp[hC];apply T.ret;apply aa.here;simp[Tryz.results48,U5]
   .have Vn:j=a.length:=by omega
    have U5:a=b:=by
     rw[Vn,take_length,hl,take_length] at Pb;exact Pb
    subst Vn;apply aq;simp[hC];refine T.seq (T.cond (b:=false) rfl (T.exit ?_));simp;apply aq;simp[hC];apply T.ret;apply aa.here;simp[Tryz.results48,U5]
 .have U5:¬ a=b:=λ h=>hl (by rw[h]);have P3:((a.length:Int) != b.length)=true:=by rw[bne_iff_ne];omega
  apply aq;simp[hC];apply aT;simp[hC,P3];refine T.cond (b:=true) PC ?_;simp;apply aq;simp[hC];apply T.ret;apply aa.here;simp[Tryz.results48,U5]
theorem G5 (d e:Nat)(a b:List (Nat×Nat))(ha:a.length<=1000000)(hb:b.length<=1000000)(hp:∀ p∈a,p.1<=1000000/\p.2<=1000000)(hq:∀ p∈b,p.1<=1000000/\p.2<=1000000):af prog 20 [.agg (nH d a),.agg (nH e b)] (.bool (decide (d=e) && decide (a=b))):=by
 have ta:trees (a.flatMap nk)=true:=ah fZ _;have tb:trees (b.flatMap nk)=true:=ah fZ _;have he:=Fi a b ha hb hp hq;have tt:trees [.au (a.flatMap nk) a.length,.au (b.flatMap nk) b.length]=true:=by simp only[trees,tree,Bool.and_self]
 refine af.aC ag Tryz.func20 rfl GK (by simp[Tryz.ntmps20]) rfl λ C hC OR=>?_;rw[Tryz.ntmps20] at hC;simp only[nH];apply aq;simp[hC];by_cases Sp:d=e
 .subst Sp;apply aq;simp[hC];refine TL.cU OU rfl rfl rfl rfl (bR.of rfl tt he) (TL.go' ag ?_);simp[hC];apply T.ret;apply aa.here;simp[Tryz.results20]
 .have Td:((d:Int) == (e:Int))=false:=by rw[beq_eq_false_iff_ne];omega
  apply aq;simp[hC,Td];apply T.ret;apply aa.here;simp[Tryz.results20,Sp]
theorem Ff (c:Cl)(r:Nat):af prog 21 [oZ c,I r] (.agg (nH 0 [(r,0)])):=by
 refine af.aC ag Tryz.func21 rfl GK (by simp[Tryz.ntmps21]) rfl λ C hC OR=>?_;rw[Tryz.ntmps21] at hC;simp only[oZ,oY,aN];apply aq;simp[hC];refine T.seq (T.region (TL.some ag 3 ?_));simp[hC,aS];refine TL.le (Le.cF (o:=2) rfl rfl) ?_;simp;refine TL.go' ag ?_;simp[hC];apply T.ret;apply aa.here;simp[Tryz.results21,nH,nk]
end Go.Proofs.YtlkmbdfhdknlgaaGreat
