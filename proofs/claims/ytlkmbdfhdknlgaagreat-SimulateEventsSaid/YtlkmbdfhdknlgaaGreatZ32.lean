/- block: lock, unlock, retur -/
import Derived.Test.YtlkmbdfhdknlgaaGreatZ31
namespace Go.Proofs.YtlkmbdfhdknlgaaGreat
open Go.Can Go.aJ List Tryz
set_option maxHeartbeats 4000000 in
theorem Nv {C:Cx}{Q:Exit->St->Prop}(hC:C.nt=253)(RR:C.n0=3)(p:Pg)(E0:List En)(l:List Sm)(i:Nat){g:Nat}{fs:List (ByteArray×List Pm)}{ps:List Pm}{V:List ByteArray}(E:List En)(k st:Nat)(c:List In)(s:List Nat)(n:Nat)
  (hE:EW g p.ms fs ps V E k) (hl:E.length<=100000) (hm:p.ms.length<=1000) (hc:c.length<=9000) (hs:s.length<=9000) (u:Bool) (r:Rf) (hr:Iz p.ms ps V r) :
  T prog C (kf Tryz.f129 2) (MS p E0 l i E k st c s (.dP u r) n) (fy (aa C (λ z=>z=NS p E0 l i E k st (c++[.lock u (Ao E r)]) (s++[n]))) Q):=by
 have hb:=Gd p E k st c.length s.length hE hl hm n r hr;obtain⟨b1,b2,b3,b4,hp,ht⟩:=oL (Ao E r);obtain⟨a1,a2,a3,hrf,hta⟩:=Pn r;have R4:cW (.lock u (Ao E r))=[I (if u then 5 else 4),I 0,.bool false,I 0,I 0,.str eS,.ax [] 0,.bool b1,I b2,.ax b3 b4,.ax [] 0,.ax [] 0]:=by simp[cW,hp,bf]
 rw[hp,hrf] at hb;apply T.block;have UP:iR (.dP u r)=[I (if u then 6 else 5),.str eS,I 0,I 0,.str eS,.ax [] 0,.str a1,.ax a2 a3,.ax [] 0,.ax [] 0,.ax [] 0]:=by simp[iR,hrf,bf]
 simp only[MS,mE,mH,Kh,UP]
 cases u with
 | false=>
  apply aq;simp[hC];refine a9 ?_;simp;apply aq;simp[hC];refine a9 ?_;simp;apply aW;simp[hC];refine a9 ?_;simp;apply aN;simp[hC];refine a9 ?_;simp;apply aq;simp[hC];refine dy ?_;simp;apply aN;simp[hC];refine TL.iq (hb) yA rfl RT rfl rfl UD UF UE (TL.go' ah ?_);simp[hC];refine TL.iM (wO p E k st c s [I 4,I 0,.bool false,I 0,I 0,.str eS,.aj,.bool b1,I b2,.ax b3 b4,.aj,.aj] rfl (by simp[trees,tree]) n yA yA) Uo (a8 _) Uo (a8 _) yA rfl RT rfl rfl UD UF UE (TL.go' ah ?_);simp;refine aa.le (lQ RR [5,4,0,1] 6 7 (e:=bE E0 l i) rfl (qp _ _ _) (qt _ _ _) rfl rfl rfl rfl (jI _ _ (.lock false (Ao E r)) (by simp[R4])) rfl xr xr) (aa.here rfl)
 | true=>
  apply aq;simp[hC];refine a9 ?_;simp;apply aq;simp[hC];refine a9 ?_;simp;apply aW;simp[hC];refine a9 ?_;simp;apply aN;simp[hC];refine a9 ?_;simp;apply aq;simp[hC];refine a9 ?_;simp;apply aq;simp[hC];refine dy ?_;simp;apply aN;simp[hC];refine TL.iq (hb) yA rfl RT rfl rfl UD UF UE (TL.go' ah ?_);simp[hC];refine TL.iM (wO p E k st c s [I 5,I 0,.bool false,I 0,I 0,.str eS,.aj,.bool b1,I b2,.ax b3 b4,.aj,.aj] rfl (by simp[trees,tree]) n yA yA) Uo (a8 _) Uo (a8 _) yA rfl RT rfl rfl UD UF UE (TL.go' ah ?_);simp;refine aa.le (lQ RR [5,4,0,1] 6 7 (e:=bE E0 l i) rfl (qp _ _ _) (qt _ _ _) rfl rfl rfl rfl (jI _ _ (.lock true (Ao E r)) (by simp[R4])) rfl xr xr) (aa.here rfl)
set_option maxHeartbeats 4000000 in
theorem Qq {C:Cx}{Q:Exit->St->Prop}(hC:C.nt=253)(RR:C.n0=3)(p:Pg)(E0:List En)(l:List Sm)(i:Nat)(E:List En)(k st:Nat)(c:List In)(s:List Nat)(n:Nat)
  (hc:c.length<=9000) (hs:s.length<=9000) :
  T prog C (kf Tryz.f129 2) (MS p E0 l i E k st c s .jP n) (fy (aa C (λ z=>z=NS p E0 l i E k st (c++[.ret]) (s++[n]))) Q):=by
 apply T.block;simp only[MS,mE,mH,Kh,iR];apply aq;simp[hC];refine a9 ?_;simp;apply aq;simp[hC];refine a9 ?_;simp;apply aW;simp[hC];refine a9 ?_;simp;apply aN;simp[hC];refine a9 ?_;simp;apply aq;simp[hC];refine a9 ?_;simp;apply aq;simp[hC];refine a9 ?_;simp;apply aq;simp[hC];refine a9 ?_;simp;apply aq;simp[hC];refine a9 ?_;simp;apply aN;simp[hC];refine TL.iM (wO p E k st c s [I 8,I 0,.bool false,I 0,I 0,.str eS,.aj,.bool false,I 0,.aj,.aj,.aj] rfl rfl n yA yA) Uo (a8 _) Uo (a8 _) yA rfl RT rfl rfl UD UF UE (TL.go' ah ?_);simp;refine aa.le (lQ RR [5,4,0,1] 6 7 (e:=bE E0 l i) rfl (qp _ _ _) (qt _ _ _) rfl rfl rfl rfl (jI _ _ (.ret) (by simp[cW,bf,nZ])) rfl xr xr) (aa.here rfl)
set_option maxHeartbeats 4000000 in
theorem Nw {C:Cx}{Q:Exit->St->Prop}(hC:C.nt=253)(RR:C.n0=3)(p:Pg)(E0:List En)(l:List Sm)(i:Nat){g:Nat}{ps:List Pm}{V:List ByteArray}(E:List En)(k st:Nat)(c:List In)(s:List Nat)(n:Nat)
  (hE:EW g p.ms (p.fs.map λ f=>(f.name,f.params)) ps V E k) (hl:E.length<=100000) (hm:p.ms.length<=1000) (SK:p.fs.length<=1000) (hc:c.length<=9000) (hs:s.length<=9000) (go:Bool) (nm:ByteArray) (gp:List Pm) (al:List Ar)
  (hg:(nm,gp)∈p.fs.map λ f=>(f.name,f.params)) (hw:jD p.ms ps V gp al) (W1:gp.length<=1000) :
  T prog C (kf Tryz.f129 2) (MS p E0 l i E k st c s (.eJ go nm al) n) (fy (aa C (λ z=>z=NS p E0 l i E k st (c++[.call go (mJ E nm).n (dt E al) (fD E al)]) (s++[n]))) Q):=by
 have hb:=Kg p E k st c.length s.length hE hl hm SK n go nm gp al hg hw W1;have ZK:=fK (.call go (mJ E nm).n (dt E al) (fD E al));have lin:=gB (.call go (mJ E nm).n (dt E al) (fD E al));have nin:=JP (.call go (mJ E nm).n (dt E al) (fD E al));have tsm:=iZ (.eJ go nm al);have lsm:=lg (.eJ go nm al);generalize hX:cW (.call go (mJ E nm).n (dt E al) (fD E al))=X at hb ZK lin nin;have hS:iR (.eJ go nm al)=qv (if go=true then 4 else 3) nm al:=rfl;rw[hS] at hb;apply T.block;simp only[MS,mE,mH,Kh,hS,qv];simp only[qv] at hb
 cases go with
 | false=>
  apply aq;simp[hC];refine a9 ?_;simp;apply aq;simp[hC];refine a9 ?_;simp;apply aW;simp[hC];refine gw ?_;simp;refine dy ?_;simp;apply aN;simp[hC];refine TL.iq (hb) yA rfl RT rfl rfl UD UF UE (TL.go' ah ?_);simp[hC];refine TL.iM (wO p E k st c s X lin ZK n yA yA) Uo (a8 _) Uo (a8 _) yA rfl RT rfl rfl UD UF UE (TL.go' ah ?_);simp;refine aa.le (lQ RR [5,4,0,1] 6 7 (e:=bE E0 l i) rfl (qp _ _ _) (qt _ _ _) rfl rfl rfl rfl (jI _ _ (.call false (mJ E nm).n (dt E al) (fD E al)) (by simp[nin,hX])) rfl xr xr) (aa.here rfl)
 | true=>
  apply aq;simp[hC];refine a9 ?_;simp;apply aq;simp[hC];refine a9 ?_;simp;apply aW;simp[hC];refine a9 ?_;simp;apply aN;simp[hC];refine dy ?_;simp;apply aN;simp[hC];refine TL.iq (hb) yA rfl RT rfl rfl UD UF UE (TL.go' ah ?_);simp[hC];refine TL.iM (wO p E k st c s X lin ZK n yA yA) Uo (a8 _) Uo (a8 _) yA rfl RT rfl rfl UD UF UE (TL.go' ah ?_);simp;refine aa.le (lQ RR [5,4,0,1] 6 7 (e:=bE E0 l i) rfl (qp _ _ _) (qt _ _ _) rfl rfl rfl rfl (jI _ _ (.call true (mJ E nm).n (dt E al) (fD E al)) (by simp[nin,hX])) rfl xr xr) (aa.here rfl)
set_option maxHeartbeats 4000000 in
theorem Qs {C:Cx}{Q:Exit->St->Prop}(hC:C.nt=253)(RR:C.n0=3)(p:Pg)(E0:List En)(l:List Sm)(i:Nat){g:Nat}{fs:List (ByteArray×List Pm)}{ps:List Pm}{V:List ByteArray}(E:List En)(k st:Nat)(c:List In)(s:List Nat)(n:Nat)
  (hE:EW g p.ms fs ps V E k) (hl:E.length<=100000) (hc:c.length<=9000) (hs:s.length<=9000) (nm:ByteArray) (x:Ex) (hn:nm∈V) (hx:gu V 2 x) :
  T prog C (kf Tryz.f129 2) (MS p E0 l i E k st c s (.jd nm x) n) (fy (aa C (λ z=>z=NS p E0 l i E k st (c++[.set (mJ E nm).n (decide ((mJ E nm).kind=1)) (eB E x)]) (s++[n]))) Q):=by
 obtain⟨kd,j,hf,hkd⟩:=hE.v nm hn;have hv:=uM p E k st c.length s.length hl nm _ hf ZE n;rw[iF hf];have hb:=kI p E k st c.length s.length hE hl n 2 x hx;obtain⟨a1,a2,a3,a4,a5,ha,hta⟩:=fQ x;obtain⟨b1,b2,b3,b4,b5,Sf,htb⟩:=fQ (eB E x);have R4:cW (.set j (decide (kd=1)) (eB E x))=[I 1,I j,.bool (decide (kd=1)),I b1,I b2,.str b3,.ax b4 b5,.bool false,I 0,.ax [] 0,.ax [] 0,.ax [] 0]:=by simp[cW,Sf,nZ]
 have UP:iR (.jd nm x)=[I 2,.str nm,I a1,I a2,.str a3,.ax a4 a5,.str eS,.ax [] 0,.ax [] 0,.ax [] 0,.ax [] 0]:=by simp[iR,ha,lP]
 rw[ha,Sf] at hb;have V6:((kd:Int) == 1)=decide (kd=1):=by rcases hkd with ⟨rfl,_⟩ | ⟨rfl,_⟩<;>rfl
 apply T.block;simp only[MS,mE,mH,Kh,UP];apply aq;simp[hC];refine a9 ?_;simp;apply aq;simp[hC];refine dy ?_;simp;apply aq;simp[hC];refine TL.iq (hv) yA rfl RT rfl rfl UD UF UE (TL.go' ah ?_);simp[hC,iS];refine T.le (Le.trim [6,7,5,4,0,1,11] [0,3,4,5,6] 7 Vz yA) ?_;simp;refine T.rx ah follows [0,1,2,3,4,5,6,7,8,9,12,10,11,13] [(2,10),(4,10)] Ix ?_;simp[hC];refine RX.iq (hb) yA rfl rfl xr rfl rfl UD UF UE xr ?_;simp;refine RX.iM (wO p E k st c s [I 1,I j,.bool (decide (kd=1)),I b1,I b2,.str b3,.ax b4 b5,.bool false,I 0,.aj,.aj,.aj] rfl Ws n yA yA) Uo (a8 _) Uo (a8 _) yA rfl rfl xr rfl rfl UD UF UE xr ?_;simp;refine aa.le (lQ RR [5,4,0,1] 21 22 (e:=bE E0 l i) rfl (qp _ _ _) (qt _ _ _) rfl rfl rfl rfl (jI _ _ (.set j (decide (kd=1)) (eB E x)) (by simp[R4])) rfl xr xr) (aa.here rfl)
set_option maxHeartbeats 4000000 in
theorem Qp {C:Cx}{Q:Exit->St->Prop}(hC:C.nt=253)(RR:C.n0=3)(p:Pg)(E0:List En)(l:List Sm)(i:Nat){g:Nat}{fs:List (ByteArray×List Pm)}{ps:List Pm}{V:List ByteArray}(E:List En)(k st:Nat)(c:List In)(s:List Nat)(n:Nat)
  (hE:EW g p.ms fs ps V E k) (hl:E.length<=90000) (hk:k<=9000) (hc:c.length<=9000) (hs:s.length<=9000) (nm:ByteArray) (x:Ex) (hn:jm E nm=none) (hx:gu V 2 x) :
  T prog C (kf Tryz.f129 2) (MS p E0 l i E k st c s (.iz nm x) n) (fy (aa C (λ z=>z=NS p E0 l i (E++[⟨nm,4,k⟩]) (k+1) st (c++[.set k false (eB E x)]) (s++[n]))) Q):=by
 have hb:=kI p E k st c.length s.length hE yA n 2 x hx;have Vd:=sr E nm yA;rw[hn] at Vd;obtain⟨a1,a2,a3,a4,a5,ha,hta⟩:=fQ x;obtain⟨b1,b2,b3,b4,b5,Sf,htb⟩:=fQ (eB E x);have R4:cW (.set k false (eB E x))=[I 1,I k,.bool false,I b1,I b2,.str b3,.ax b4 b5,.bool false,I 0,.ax [] 0,.ax [] 0,.ax [] 0]:=by simp[cW,Sf,nZ]
 have UP:iR (.iz nm x)=[I 1,.str nm,I a1,I a2,.str a3,.ax a4 a5,.str eS,.ax [] 0,.ax [] 0,.ax [] 0,.ax [] 0]:=by simp[iR,ha,lP]
 rw[ha,Sf] at hb;apply T.block;simp only[MS,mE,mH,Kh,UP];apply aq;simp[hC];refine dy ?_;simp;refine T.seq (T.seq ?_);refine T.rx ah follows [0,1,2,3,4,5,10,6,7,8,9,11,12] [(3,10),(5,10),(10,6)] Ix ?_;simp[hC,gz];refine RX.call rfl xr rfl rfl rfl R2 (Vd) ?_;simp[sq];apply aq;simp[hC];refine fX ?_;simp;refine T.le (Le.to (s':=MZ p E0 l i E k st c s [I 1,.str nm,I a1,I a2,.str a3,.ax a4 a5,.str eS,.ax [] 0,.ax [] 0,.ax [] 0,.ax [] 0] n) [6,7,5,4,0,1] [0,3,4,5] 6 Vz yA rfl) ?_;simp only[MZ,mE];apply aq;simp[hC];refine TL.iq (hb) yA rfl RT rfl rfl UD UF UE (TL.go' ah ?_);simp[hC];refine T.le (Le.trim [6,7,5,4,0,1,10] [0,3,4,5,6] 7 Vz yA) ?_;simp;apply T.seq;refine T.rx ah follows [0,1,2,3,4,5,6,7,8] [] Ix ?_;simp[hC,gz];refine RX.iM (wO p E k st c s [I 1,I k,.bool false,I b1,I b2,.str b3,.ax b4 b5,.bool false,I 0,.aj,.aj,.aj] rfl Ws n yA yA) Uo (a8 _) Uo (a8 _) yA rfl rfl xr rfl rfl UD UF UE xr ?_;simp;refine T.le (jR RR [6,7,5,4,0,1] 16 17 (e:=mE E0 l i n) rfl Ys rfl rfl rfl rfl rfl Ws (jI _ _ (.set k false (eB E x)) (by simp[R4])) rfl xr xr) ?_;simp only[mE];have f1:=aC (f:=iS) (n:=3) lv E;have Wa:E.length*32<=140737488355328:=by omega
 have bd2:(E.length+1)*32<=140737488355328:=by omega
 apply T.seq;refine T.rx ah follows [0,1,2,3,4,5,6,7,8,9,10,11,12,13,14,15,16,17,18] [(1,5),(1,8),(1,12),(1,14),(5,14),(6,8),(6,12),(6,14)] Ix ?_;simp[hC,gz,f1,Wa,bd2,aY];have wk:=cF ((k:Int)+1) yA yA;have tn:trees (E.flatMap iS++[.str nm,I 4,I k])=true:=by rw[bg,cG];rfl
 have tk:take ((E.length+1)*3) (E.flatMap iS++[.str nm,I 4,I k])=E.flatMap iS++[.str nm,I 4,I k]:=take_of_length_le (by simp only[length_append,f1,length_cons,length_nil];omega);have q1:=ai (jr p.gs);have q2:=ai (dG p.ms);have q3:=ai (cV p.fs);have q4:=ai (cG E);have q5:=ai (cG E0);have q6:=ai (bQ l);apply aN;simp[hC,wk];refine aa.le (Le.trim [5,4,0,1] [0,26,3,4] 27 (by simp[-all_eq_true,-all_flatMap,q4]) yA) ?_;simp;refine aa.le (Le.dn (o:=26) rfl tn) ?_;simp[tk];refine aa.trim [5,4,0,1] [0,3,4] 5 Vz yA ?_;simp[NS,bE,gz,iS]
theorem Bb (c S:List In){i0 i1:In}{a b d:CV}{r:List CV}(h0:cW i0=a::b::r)(h1:cW i1=a::d::r) :
  take (c.length*12+1) (fJ (c++i0::S)).cells++d::drop (c.length*12+1+1) (fJ (c++i0::S)).cells=(fJ (c++i1::S)).cells:=by
 have e0:(fJ (c++i0::S)).cells=c.flatMap cW++(a::b::(r++S.flatMap cW)):=by simp[fJ,h0]
 have e1:(fJ (c++i1::S)).cells=c.flatMap cW++(a::d::(r++S.flatMap cW)):=by simp[fJ,h1]
 rw[e0,e1,<- Bc c];rw[take_append,drop_append,take_of_length_le yA,drop_of_length_le yA];have k1:(c.flatMap cW).length+1-(c.flatMap cW).length=1:=by omega
 have k2:(c.flatMap cW).length+1+1-(c.flatMap cW).length=2:=by omega
 rw[k1,k2];simp
theorem Bd (c S:List In)(i0:In):c.length*12+1+1<=(fJ (c++i0::S)).cells.length:=by
 simp only[fJ,Bc,length_append,length_cons];omega
def IB (p:Pg)(l:List Sm)(E:List En)(k st:Nat)(c:List In)(s:List Nat):Prop:=
 Body prog av 129 [.aw 0 0,.ax (bO l) l.length] (T3 p E k st c.length s.length (fJ c) (gH s)) 3
  (jC (.cB []) (T4 p E (cb l E k c.length).2 (st+fO l) (c.length+(cb l E k c.length).1.length) (s.length+(jc l st).length) (fJ (c++(cb l E k c.length).1)) (gH (s++jc l st))) (3+2))
set_option maxHeartbeats 4000000 in
theorem cs_if {C:Cx}{Q:Exit->St->Prop}(hC:C.nt=253)(RR:C.n0=3)(p:Pg)(E0:List En)(l:List Sm)(i:Nat){g:Nat}{fs:List (ByteArray×List Pm)}{ps:List Pm}{V:List ByteArray}(E:List En)(k st:Nat)(c:List In)(s:List Nat)(n:Nat)
  (hE:EW g p.ms fs ps V E k) (hl:E.length<=90000) (_hk:k<=9000) (hc:c.length<=9000) (hs:s.length<=9000) (x:Ex) (th el:List Sm) (hx:gu V 2 x)
  (RW:st=n+1) (h1:IB p th E k st (c++[.branch 0 (eB E x)]) (s++[n])) (R7:el.length=0) :
  T prog C (kf Tryz.f129 2) (MS p E0 l i E k st c s (.mf x th el) n) (fy (aa C (λ z=>z=NS p E0 l i E (cb th E k (c.length+1)).2 (st+fO th) (c++(eM (.mf x th el) E k c.length).1) (s++yg (.mf x th el) n))) Q):=by
 subst RW;simp only[IB,length_append,length_singleton] at h1;have hb:=kI p E k (n+1) c.length s.length hE yA n 2 x hx;obtain⟨a1,a2,a3,a4,a5,ha,hta⟩:=fQ x;obtain⟨b1,b2,b3,b4,b5,Sf,htb⟩:=fQ (eB E x);have R4:cW (.branch 0 (eB E x))=[I 6,I 0,.bool false,I b1,I b2,.str b3,.ax b4 b5,.bool false,I 0,.ax [] 0,.ax [] 0,.ax [] 0]:=by simp[cW,Sf,nZ]
 have UP:iR (.mf x th el)=[I 7,.str eS,I a1,I a2,.str a3,.ax a4 a5,.str eS,.ax [] 0,.ax [] 0,.ax (bO th) th.length,.ax (bO el) el.length]:=by simp[iR,ha,lP]
 rw[ha,Sf] at hb;have t1:=bQ th;have t2:=bQ el;have q5:=ai (cG E0);have q6:=ai (bQ l);apply T.block;simp only[MS,mE,mH,Kh,UP];apply aq;simp[hC];refine a9 ?_;simp;apply aq;simp[hC];refine a9 ?_;simp;apply aW;simp[hC];refine a9 ?_;simp;apply aN;simp[hC];refine a9 ?_;simp;apply aq;simp[hC];refine a9 ?_;simp;apply aq;simp[hC];refine a9 ?_;simp;apply aq;simp[hC];refine dy ?_;simp;apply aq;simp[hC];refine TL.iq (hb) yA rfl RT rfl rfl UD UF UE (TL.go' ah ?_);simp[hC];refine TL.iM (wO p E k (n+1) c s [I 6,I 0,.bool false,I b1,I b2,.str b3,.ax b4 b5,.bool false,I 0,.aj,.aj,.aj] rfl Ws n yA yA) Uo (a8 _) Uo (a8 _) yA rfl RT rfl rfl UD UF UE (TL.go' ah ?_);simp[hC];refine T.le (jR RR [12,6,7,5,4,0,1] 6 7 (e:=(12,I c.length)::mE E0 l i n) rfl Ys rfl rfl rfl rfl rfl Ws (jI _ _ (.branch 0 (eB E x)) (by simp[R4])) rfl xr xr) ?_;simp only[mE];apply aq;simp[hC];refine TL.iM h1 (cu _) (a8 _) (cu _) (a8 _) yA rfl RT rfl rfl rfl yCn rfl (TL.go' ah ?_);generalize hS:cb th E k (c.length+1)=S at h1;obtain⟨S1,S2⟩:=S;generalize hT:jc th (n+1)=S3 at h1;simp only at h1;simp[R7];have XY:cW (.branch (c.length+1+S1.length) (eB E x))=[I 6,I ((c.length+1+S1.length:Nat):Int),.bool false,I b1,I b2,.str b3,.ax b4 b5,.bool false,I 0,.ax [] 0,.ax [] 0,.ax [] 0]:=by simp[cW,Sf,nZ]
 have TN:=Bb c S1 R4 XY;have hcf:=Bd c S1 (.branch 0 (eB E x));simp only[Int.natCast_add,Int.cast_ofNat_Int] at TN;apply aq;simp[hC];refine a9 ?_;simp;refine T.rx ah follows [0,1,2,3,4,5,6,7,8,9,10,11,12] [] Ix ?_;have RS:(c.length:Int)<(c.length:Int)+1+(S1.length:Int):=by omega
 simp[hC,gz,RS,hcf,TN];refine aa.le (lQ RR [5,4,0,1] 6 7 (e:=bE E0 l i) rfl (qp _ _ _) (qt _ _ _) rfl rfl rfl rfl (c':=c++.branch (c.length+1+S1.length) (eB E x)::S1) (s':=s++n::S3) (r9 _) rfl SO SO) (aa.here ?_);simp[eM,yg,R7,hS,hT,NS]
set_option maxHeartbeats 4000000 in
theorem Qr {C:Cx}{Q:Exit->St->Prop}(hC:C.nt=253)(RR:C.n0=3)(p:Pg)(E0:List En)(l:List Sm)(i:Nat){g:Nat}{fs:List (ByteArray×List Pm)}{ps:List Pm}{V:List ByteArray}(E:List En)(k st:Nat)(c:List In)(s:List Nat)(n:Nat)
  (hE:EW g p.ms fs ps V E k) (hl:E.length<=90000) (_hk:k<=9000) (hc:c.length<=9000) (hs:s.length<=9000) (x:Ex) (th el:List Sm) (hx:gu V 2 x)
  (RW:st=n+1) (h1:IB p th E k st (c++[.branch 0 (eB E x)]) (s++[n])) (h2:IB p el E (cb th E k (c.length+1)).2 (n+1+fO th) (c++.branch (c.length+2+(cb th E k (c.length+1)).1.length) (eB E x)::((cb th E k (c.length+1)).1++[.jump 0])) (s++n::(jc th (n+1)++[n]))) (R7:0<el.length) (RY:c.length+(cb th E k (c.length+1)).1.length<=9000) (VH:s.length+(jc th (n+1)).length<=9000) :
  T prog C (kf Tryz.f129 2) (MS p E0 l i E k st c s (.mf x th el) n) (fy (aa C (λ z=>z=NS p E0 l i E (cb el E (cb th E k (c.length+1)).2 (c.length+2+(cb th E k (c.length+1)).1.length)).2 (st+fO th+fO el) (c++(eM (.mf x th el) E k c.length).1) (s++yg (.mf x th el) n))) Q):=by
 subst RW;simp only[IB,length_append,length_singleton] at h1;simp only[IB,length_append,length_cons,length_nil,Nat.zero_add] at h2;have hb:=kI p E k (n+1) c.length s.length hE yA n 2 x hx;obtain⟨a1,a2,a3,a4,a5,ha,hta⟩:=fQ x;obtain⟨b1,b2,b3,b4,b5,Sf,htb⟩:=fQ (eB E x);have R4:cW (.branch 0 (eB E x))=[I 6,I 0,.bool false,I b1,I b2,.str b3,.ax b4 b5,.bool false,I 0,.ax [] 0,.ax [] 0,.ax [] 0]:=by simp[cW,Sf,nZ]
 have UP:iR (.mf x th el)=[I 7,.str eS,I a1,I a2,.str a3,.ax a4 a5,.str eS,.ax [] 0,.ax [] 0,.ax (bO th) th.length,.ax (bO el) el.length]:=by simp[iR,ha,lP]
 rw[ha,Sf] at hb;have t1:=bQ th;have t2:=bQ el;have q5:=ai (cG E0);have q6:=ai (bQ l);apply T.block;simp only[MS,mE,mH,Kh,UP];apply aq;simp[hC];refine a9 ?_;simp;apply aq;simp[hC];refine a9 ?_;simp;apply aW;simp[hC];refine a9 ?_;simp;apply aN;simp[hC];refine a9 ?_;simp;apply aq;simp[hC];refine a9 ?_;simp;apply aq;simp[hC];refine a9 ?_;simp;apply aq;simp[hC];refine dy ?_;simp;apply aq;simp[hC];refine TL.iq (hb) yA rfl RT rfl rfl UD UF UE (TL.go' ah ?_);simp[hC];refine TL.iM (wO p E k (n+1) c s [I 6,I 0,.bool false,I b1,I b2,.str b3,.ax b4 b5,.bool false,I 0,.aj,.aj,.aj] rfl Ws n yA yA) Uo (a8 _) Uo (a8 _) yA rfl RT rfl rfl UD UF UE (TL.go' ah ?_);simp[hC];refine T.le (jR RR [12,6,7,5,4,0,1] 6 7 (e:=(12,I c.length)::mE E0 l i n) rfl Ys rfl rfl rfl rfl rfl Ws (jI _ _ (.branch 0 (eB E x)) (by simp[R4])) rfl xr xr) ?_;simp only[mE];apply aq;simp[hC];refine TL.iM h1 (cu _) (a8 _) (cu _) (a8 _) yA rfl RT rfl rfl rfl yCn rfl (TL.go' ah ?_);generalize hS:cb th E k (c.length+1)=S at h1 h2 RY;obtain⟨S1,S2⟩:=S;generalize hT:jc th (n+1)=S3 at h1 h2 VH;simp only at h1 h2 RY;have hlen:c.length+(S1.length+1+1)=c.length+2+S1.length:=by omega
 generalize hS':cb el E S2 (c.length+(S1.length+1+1))=S' at h2;obtain⟨S4,S5⟩:=S';generalize hT':jc el (n+1+fO th)=S6 at h2;simp only at h2;simp;refine T.le (jR RR [12,6,7,5,4,0,1] 6 7 (e:=(12,I c.length)::mE E0 l i n) (c':=c++.branch 0 (eB E x)::S1) (s':=s++n::S3) rfl Ys rfl rfl rfl rfl rfl Ws (r9 _) rfl SO SO) ?_;simp only[mE];have hel':0<el.length:=R7;apply aq;simp[hC,hel'];refine dy ?_;simp;apply aq;simp[hC];refine TL.iM (PB p E S2 (n+1+fO th) (c++.branch 0 (eB E x)::S1) (s++n::S3) (c.length+(S1.length+1)) (s.length+(S3.length+1)) xr xr [I 7,I 0,.bool false,I 0,I 0,.str eS,.aj,.bool false,I 0,.aj,.aj,.aj] rfl rfl n yA yA) Uo (a8 _) Uo (a8 _) yA rfl RT rfl rfl UD UF UE (TL.go' ah ?_);simp[hC];refine T.le (jR RR [13,12,6,7,5,4,0,1] 6 7 (e:=(13,I (c.length+(S1.length+1)))::(12,I c.length)::mE E0 l i n) (c':=c++.branch 0 (eB E x)::(S1++[.jump 0])) (s':=s++n::(S3++[n])) rfl Ys rfl rfl rfl rfl rfl Ws (by simpa using jI (c++In.branch 0 (eB E x)::S1) [I 7,I 0,.bool false,I 0,I 0,.str eS,.aj,.bool false,I 0,.aj,.aj,.aj] (.jump 0) (by simp[cW,bf,nZ])) rfl SO SO) ?_;simp only[mE];have XY:cW (.branch (c.length+2+S1.length) (eB E x))=[I 6,I ((c.length:Int)+((S1.length:Int)+1+1)),.bool false,I b1,I b2,.str b3,.ax b4 b5,.bool false,I 0,.ax [] 0,.ax [] 0,.ax [] 0]:=by
  simp[cW,Sf,nZ];omega
 have TN:=Bb c (S1++[.jump 0]) R4 XY;have hcf:=Bd c (S1++[.jump 0]) (.branch 0 (eB E x));have RS:(c.length:Int)<(c.length:Int)+((S1.length:Int)+1+1):=by omega
 apply T.seq;refine T.rx ah follows [0,1,2,3,4,5,6,7,8,9,10,11,12] [] Ix ?_;simp[hC,gz,RS,hcf,TN];refine T.le (jR RR [13,12,6,7,5,4,0,1] 3 4 (e:=(13,I (c.length+(S1.length+1)))::(12,I c.length)::mE E0 l i n) (c':=c++In.branch (c.length+2+S1.length) (eB E x)::(S1++[In.jump 0])) (s':=s++n::(S3++[n])) rfl Ys rfl rfl rfl rfl rfl Ws (r9 _) rfl xr xr) ?_;simp only[mE];apply aq;simp[hC];refine TL.iM h2 (cu _) (a8 _) (cu _) (a8 _) yA rfl RT rfl rfl rfl yCn rfl (TL.go' ah ?_);simp;have hin0:cW (.jump 0)=[I 7,I 0,.bool false,I 0,I 0,.str eS,.ax [] 0,.bool false,I 0,.ax [] 0,.ax [] 0,.ax [] 0]:=by simp[cW,bf,nZ]
 have hin2:cW (.jump (c.length+2+S1.length+S4.length))=[I 7,I ((c.length:Int)+((S1.length:Int)+1+1)+(S4.length:Int)),.bool false,I 0,I 0,.str eS,.ax [] 0,.bool false,I 0,.ax [] 0,.ax [] 0,.ax [] 0]:=by
  simp[cW,bf,nZ];omega
 have hco2:=Bb (c++In.branch (c.length+2+S1.length) (eB E x)::S1) S4 hin0 hin2;have hcf2:=Bd (c++In.branch (c.length+2+S1.length) (eB E x)::S1) S4 (.jump 0);simp only[length_append,length_cons,append_assoc,cons_append] at hco2 hcf2;have T7:(c.length:Int)+((S1.length:Int)+1)<(c.length:Int)+((S1.length:Int)+1+1)+(S4.length:Int):=by omega
 have Zm:(0:Int)<=(c.length:Int)+((S1.length:Int)+1):=by omega
 have htn:((c.length:Int)+((S1.length:Int)+1)).toNat=c.length+(S1.length+1):=by omega
 refine T.rx ah follows [0,1,2,3,4,5,6,7,8,9,10,11,12] [] Ix ?_;simp[hC,gz,T7,Zm,htn,hcf2,hco2];have Sb:¬ el.length=0:=by omega
 have Zy:cb el E S2 (c.length+2+S1.length)=(S4,S5):=by rw[<- hlen];exact hS'
 refine aa.le (lQ RR [5,4,0,1] 6 7 (e:=bE E0 l i) rfl (qp _ _ _) (qt _ _ _) rfl rfl rfl rfl (c':=c++In.branch (c.length+2+S1.length) (eB E x)::(S1++In.jump (c.length+2+S1.length+S4.length)::S4)) (s':=s++n::(S3++n::S6)) (r9 _) rfl SO SO) (aa.here ?_);simp[eM,yg,Sb,hS,Zy,hT,hT',NS]
set_option maxHeartbeats 4000000 in
theorem K4 {C:Cx}{Q:Exit->St->Prop}(hC:C.nt=253)(RR:C.n0=3)(p:Pg)(E0:List En)(l:List Sm)(i:Nat){g:Nat}{fs:List (ByteArray×List Pm)}{ps:List Pm}{V:List ByteArray}(E:List En)(k st:Nat)(c:List In)(s:List Nat)(n:Nat)
  (hE:EW g p.ms fs ps V E k) (hl:E.length<=90000) (_hk:k<=9000) (hc:c.length<=9000) (hs:s.length<=9000) (x:Ex) (th:List Sm) (hx:gu V 2 x)
  (RW:st=n+1) (h1:IB p th E k st (c++[.branch 0 (eB E x)]) (s++[n])) (RY:c.length+(cb th E k (c.length+1)).1.length<=9000) (VH:s.length+(jc th (n+1)).length<=9000) :
  T prog C (kf Tryz.f129 2) (MS p E0 l i E k st c s (.cS x th) n) (fy (aa C (λ z=>z=NS p E0 l i E (cb th E k (c.length+1)).2 (st+fO th) (c++(eM (.cS x th) E k c.length).1) (s++yg (.cS x th) n))) Q):=by
 subst RW;simp only[IB,length_append,length_singleton] at h1;have hb:=kI p E k (n+1) c.length s.length hE yA n 2 x hx;obtain⟨a1,a2,a3,a4,a5,ha,hta⟩:=fQ x;obtain⟨b1,b2,b3,b4,b5,Sf,htb⟩:=fQ (eB E x);have R4:cW (.branch 0 (eB E x))=[I 6,I 0,.bool false,I b1,I b2,.str b3,.ax b4 b5,.bool false,I 0,.ax [] 0,.ax [] 0,.ax [] 0]:=by simp[cW,Sf,nZ]
 have UP:iR (.cS x th)=[I 8,.str eS,I a1,I a2,.str a3,.ax a4 a5,.str eS,.ax [] 0,.ax [] 0,.ax (bO th) th.length,.ax [] 0]:=by simp[iR,ha,lP]
 rw[ha,Sf] at hb;have t1:=bQ th;have q5:=ai (cG E0);have q6:=ai (bQ l);apply T.block;simp only[MS,mE,mH,Kh,UP];apply aq;simp[hC];refine a9 ?_;simp;apply aq;simp[hC];refine a9 ?_;simp;apply aW;simp[hC];refine a9 ?_;simp;apply aN;simp[hC];refine a9 ?_;simp;apply aq;simp[hC];refine a9 ?_;simp;apply aq;simp[hC];refine a9 ?_;simp;apply aq;simp[hC];refine a9 ?_;simp;apply aq;simp[hC];refine dy ?_;simp;apply aq;simp[hC];refine TL.iq (hb) yA rfl RT rfl rfl UD UF UE (TL.go' ah ?_);simp[hC];refine TL.iM (wO p E k (n+1) c s [I 6,I 0,.bool false,I b1,I b2,.str b3,.ax b4 b5,.bool false,I 0,.aj,.aj,.aj] rfl Ws n yA yA) Uo (a8 _) Uo (a8 _) yA rfl RT rfl rfl UD UF UE (TL.go' ah ?_);simp[hC];refine T.le (jR RR [14,6,7,5,4,0,1] 6 7 (e:=(14,I c.length)::mE E0 l i n) rfl Ys rfl rfl rfl rfl rfl Ws (jI _ _ (.branch 0 (eB E x)) (by simp[R4])) rfl xr xr) ?_;simp only[mE];apply aq;simp[hC];refine TL.iM h1 (cu _) (a8 _) (cu _) (a8 _) yA rfl RT rfl rfl rfl yCn rfl (TL.go' ah ?_);generalize hS:cb th E k (c.length+1)=S at h1 RY;obtain⟨S1,S2⟩:=S;generalize hT:jc th (n+1)=S3 at h1 VH;simp only at h1 RY;simp;refine T.le (jR RR [14,6,7,5,4,0,1] 6 7 (e:=(14,I c.length)::mE E0 l i n) (c':=c++In.branch 0 (eB E x)::S1) (s':=s++n::S3) rfl Ys rfl rfl rfl rfl rfl Ws (r9 _) rfl SO SO) ?_;simp only[mE];apply aq;simp[hC];refine TL.iM (PB p E S2 (n+1+fO th) (c++In.branch 0 (eB E x)::S1) (s++n::S3) (c.length+(S1.length+1)) (s.length+(S3.length+1)) xr xr [I 7,I c.length,.bool false,I 0,I 0,.str eS,.aj,.bool false,I 0,.aj,.aj,.aj] rfl rfl n yA yA) Uo (a8 _) Uo (a8 _) yA rfl RT rfl rfl UD UF UE (TL.go' ah ?_);simp;refine T.le (jR RR [14,6,7,5,4,0,1] 6 7 (e:=(14,I c.length)::mE E0 l i n) (c':=c++In.branch 0 (eB E x)::(S1++[In.jump c.length])) (s':=s++n::(S3++[n])) rfl Ys rfl rfl rfl rfl rfl Ws (by simpa using jI (c++In.branch 0 (eB E x)::S1) [I 7,I c.length,.bool false,I 0,I 0,.str eS,.aj,.bool false,I 0,.aj,.aj,.aj] (.jump c.length) (by simp[cW,bf,nZ])) rfl SO SO) ?_;simp only[mE];have XY:cW (.branch (c.length+2+S1.length) (eB E x))=[I 6,I ((c.length:Int)+((S1.length:Int)+1+1)),.bool false,I b1,I b2,.str b3,.ax b4 b5,.bool false,I 0,.ax [] 0,.ax [] 0,.ax [] 0]:=by
  simp[cW,Sf,nZ];omega
 have TN:=Bb c (S1++[.jump c.length]) R4 XY;have hcf:=Bd c (S1++[.jump c.length]) (.branch 0 (eB E x));have RS:(c.length:Int)<(c.length:Int)+((S1.length:Int)+1+1):=by omega
 refine T.rx ah follows [0,1,2,3,4,5,6,7,8,9,10,11,12] [] Ix ?_;simp[hC,gz,RS,hcf,TN];refine aa.le (lQ RR [5,4,0,1] 3 4 (e:=bE E0 l i) rfl (qp _ _ _) (qt _ _ _) rfl rfl rfl rfl (c':=c++In.branch (c.length+2+S1.length) (eB E x)::(S1++[In.jump c.length])) (s':=s++n::(S3++[n])) (r9 _) rfl xr xr) (aa.here ?_);simp[eM,yg,hS,hT,NS]
theorem vD:(∀ x:Sm,∀ E k b n,(yg x n).length=(eM x E k b).1.length)/\(∀ l:List Sm,∀ E k b n,(jc l n).length=(cb l E k b).1.length):=by
 let M1:Sm->Prop:=λ x=>∀ E k b n,(yg x n).length=(eM x E k b).1.length
 let M2:List Sm->Prop:=λ l=>∀ E k b n,(jc l n).length=(cb l E k b).1.length
 have A1:∀ (s:ByteArray) (e:Ex),M1 (.iz s e):=λ s e E k b n=>by simp[yg,eM]
 have A2:∀ (s:ByteArray) (e:Ex),M1 (.jd s e):=λ s e E k b n=>by simp[yg,eM]
 have A3:∀ (g:Bool) (s:ByteArray) (l:List Ar),M1 (.eJ g s l):=λ g s l E k b n=>by simp[yg,eM]
 have A4:∀ (u:Bool) (r:Rf),M1 (.dP u r):=λ u r E k b n=>by simp[yg,eM]
 have A5:∀ (e:Ex) (th el:List Sm),M2 th->M2 el->M1 (.mf e th el):=λ e th el h1 h2 E k b n=>by
  simp only[yg,eM];split
  ·simp[h1 E k (b+1) (n+1)]
  ·simp[h1 E k (b+1) (n+1),h2 E (cb th E k (b+1)).2 (b+2+(cb th E k (b+1)).1.length) (n+1+fO th)]
 have A6:∀ (e:Ex) (th:List Sm),M2 th->M1 (.cS e th):=λ e th h1 E k b n=>by
  simp[yg,eM,h1 E k (b+1) (n+1)]
 have A7:M1 .jP:=λ E k b n=>by simp[yg,eM]
 have A0:M2 []:=λ E k b n=>by simp[jc,cb]
 have A8:∀ (s:Sm) (r:List Sm),M1 s->M2 r->M2 (s::r):=λ s r h1 h2 E k b n=>by
  simp only[jc,cb,length_append];rw[h1 E k b n,h2 (E++fU k s) (eM s E k b).2 (b+(eM s E k b).1.length) (n+pC s)]
 exact⟨λ s=>Sm.rec (motive_1:=M1) (motive_2:=M2) A1 A2 A3 A4 A5 A6 A7 A0 A8 s,λ l=>Sm.rec_1 (motive_1:=M1) (motive_2:=M2) A1 A2 A3 A4 A5 A6 A7 A0 A8 l⟩
theorem Pa (x:Sm):∃ cs,iR x=I (Kh x)::cs/\cs.length=10:=by
 have h:∃ cs,iR x=I (Kh x)::cs:=by cases x<;>exact⟨_,rfl⟩
 obtain⟨cs,h⟩:=h;have:=lg x;rw[h] at this;exact⟨cs,h,by simpa using this⟩
theorem T.cutL {P:Program}{C:Cx}{s:St}{c:Code}{Q:Exit->St->Prop}(J:St->Prop)(h:T P C c s (fy (aa C J) Q))(hJ:∀ s',J s'->Q .normal s'):T P C c s Q:=by
 refine T.post h λ e s' q=>?_
 cases e with
 | normal=>
  obtain⟨T2,hj,hl⟩:=q;exact⟨T2,hJ T2 hj,hl⟩
 | _=>exact⟨s',q,Le.refl _⟩
structure PgB (p:Pg):Prop where
 m:p.ms.length<=1000
 f:p.fs.length<=1000
 p:∀ f∈p.fs,f.params.length<=1000
theorem Mb {C:Cx}{Q:Exit->St->Prop}(hC:C.nt=253)(RR:C.n0=3){p:Pg}(hp:PgB p)(E0:List En)(l:List Sm)(i:Nat){g:Nat}{ps:List Pm}{d:Nat}{V:List ByteArray}{E:List En}{k:Nat}{c:List In}{s:List Nat}{n:Nat}{x:Sm}
  (hE:EW g p.ms (p.fs.map λ f=>(f.name,f.params)) ps V E k) (hx:eD p.ms (p.fs.map λ f=>(f.name,f.params)) ps d V x) (hl:E.length+fc x<=5000) (hk:k+fc x<=5000) (hc:c.length+fc x<=5000) (hs:s.length+fc x<=5000) (RW:n+fc x<=1000000)
  (rec:∀ d' < d,∀ (l:List Sm) (V:List ByteArray) (E:List En) (k st:Nat) (c:List In) (s:List Nat),EW g p.ms (p.fs.map λ f=>(f.name,f.params)) ps V E k->df p.ms (p.fs.map λ f=>(f.name,f.params)) ps d' V l->E.length+bV l<=5000->k+bV l<=5000->c.length+bV l<=5000->s.length+bV l<=5000->st+bV l<=1000000->IB p l E k st c s) :
  T prog C (kf Tryz.f129 2) (MS p E0 l i E k (n+1) c s x n) (fy (aa C (λ z=>z=NS p E0 l i (E++fU k x) (eM x E k c.length).2 (n+pC x) (c++(eM x E k c.length).1) (s++yg x n))) Q):=by
 cases x with
 | iz nm e=>
  simp only[eD] at hx;obtain⟨⟨j,hj,rfl⟩,hv,he⟩:=hx;simp only[fc] at hl hk hc hs RW;exact Qp hC RR p E0 l i E k (n+1) c s n hE yA yA yA yA _ e (hE.o _ hv (yI j hj)) he
 | jd nm e=>
  simp only[eD] at hx;simp only[fc] at hl hk hc hs RW
  simpa only[fU,eM,pC,yg,append_nil] using Qs (Q:=Q) hC RR p E0 l i E k (n+1) c s n hE yA yA yA nm e hx.1 hx.2
 | eJ go nm al=>
  simp only[eD] at hx;obtain⟨gp,h1,h2⟩:=hx;simp only[fc] at hl hk hc hs RW;have W1:gp.length<=1000:=by
   obtain⟨f,hf,he⟩:=mem_map.1 h1;have:=hp.p f hf;simp only[Prod.mk.injEq] at he;rw[<- he.2];exact this
  simpa only[fU,eM,pC,yg,append_nil] using Nw (Q:=Q) hC RR p E0 l i E k (n+1) c s n hE yA hp.m hp.f yA yA go nm gp al h1 h2 W1
 | dP u r=>
  simp only[eD] at hx;simp only[fc] at hl hk hc hs RW
  simpa only[fU,eM,pC,yg,append_nil] using Nv (Q:=Q) hC RR p E0 l i E k (n+1) c s n hE yA hp.m yA yA u r hx
 | jP=>
  simp only[fc] at hl hk hc hs RW
  simpa only[fU,eM,pC,yg,append_nil] using Qq (Q:=Q) hC RR p E0 l i E k (n+1) c s n yA yA
 | mf e th el=>
  cases d with
  | zero=>simp only[eD] at hx
  | succ d=>
   simp only[eD] at hx;simp only[fc] at hl hk hc hs RW;obtain⟨v1,_,v3,v4⟩:=BW.2 th d V E k (c.length+1) hE hx.2.1;have v5:=vD.2 th E k (c.length+1) (n+1);have v6:=Ah.2 th;have h1:=rec d yA th V E k (n+1) (c++[.branch 0 (eB E e)]) (s++[n]) hE hx.2.1 yA yA SO SO yA;by_cases R7:el.length=0
   ·have T9:el=[]:=eq_nil_of_length_eq_zero R7;have:=cs_if (Q:=Q) hC RR p E0 l i E k (n+1) c s n hE yA yA yA yA e th el hx.1 rfl h1 R7;subst T9;have e1:n+pC (.mf e th [])=n+1+fO th:=by simp only[pC,fO];omega
    have e2:(eM (.mf e th []) E k c.length).2=(cb th E k (c.length+1)).2:=by simp[eM]
    rw[e1,e2]
    simpa only[fU,append_nil] using this
   ·have h2:=rec d yA el V E (cb th E k (c.length+1)).2 (n+1+fO th) (c++.branch (c.length+2+(cb th E k (c.length+1)).1.length) (eB E e)::((cb th E k (c.length+1)).1++[.jump 0])) (s++n::(jc th (n+1)++[n])) (hE.up v1) hx.2.2 yA yA SO SO yA;have:=Qr (Q:=Q) hC RR p E0 l i E k (n+1) c s n hE yA yA yA yA e th el hx.1 rfl h1 h2 yA yA yA;have e1:n+pC (.mf e th el)=n+1+fO th+fO el:=by simp only[pC];omega
    have e2:(eM (.mf e th el) E k c.length).2=(cb el E (cb th E k (c.length+1)).2 (c.length+2+(cb th E k (c.length+1)).1.length)).2:=by simp[eM,R7]
    rw[e1,e2]
    simpa only[fU,append_nil] using this
 | cS e th=>
  cases d with
  | zero=>simp only[eD] at hx
  | succ d=>
   simp only[eD] at hx;simp only[fc] at hl hk hc hs RW;obtain⟨v1,_,v3,v4⟩:=BW.2 th d V E k (c.length+1) hE hx.2;have v5:=vD.2 th E k (c.length+1) (n+1);have h1:=rec d yA th V E k (n+1) (c++[.branch 0 (eB E e)]) (s++[n]) hE hx.2 yA yA SO SO yA;have:=K4 (Q:=Q) hC RR p E0 l i E k (n+1) c s n hE yA yA yA yA e th hx.1 rfl h1 yA yA;have e1:n+pC (.cS e th)=n+1+fO th:=by simp only[pC];omega
   have e2:(eM (.cS e th) E k c.length).2=(cb th E k (c.length+1)).2:=by simp[eM]
   rw[e1,e2]
   simpa only[fU,append_nil] using this
theorem CJ:∀ l:List Sm,l.length<=bV l
 | []=>Nat.le_refl _
 | x::r=>by
  have:=CJ r;have h:1<=fc x:=by cases x<;>simp only[fc]<;>omega
  simp only[length_cons,bV];omega
theorem PL {c:CV}(h:okW c=true){m:List (Nat×Nat)}(h0:(assoc m 0).isSome=true):oe m c=true:=by
 cases c with
 | aw q f=>
  cases f with
  | zero=>
   simp only[okW,beq_iff_eq] at h;subst h;exact h0
  | succ f=>simp[okW,tree] at h
 | agg cs=>simp only[okW,tree] at h;exact au h m
 | cB cs=>simp only[okW,tree] at h;exact au h m
 | _=>first | exact h | simp[okW,tree] at h
theorem FZ {m:List (Nat×Nat)}{n:Nat}(h0:dZ m n 0=0):∀ {e:List (Nat×CV)},(e.all λ x=>okW x.2)=true->cm (dZ m n) e=e
 | [],_=>rfl
 | (t,c)::e,h=>by
  simp only[all_cons,Bool.and_eq_true] at h;rw[cm,JK h.1 _ h0,FZ h0 h.2]
theorem ms_le {C:Cx}{s:St}{p:Pg}(RR:C.n0=3)(ks:List Nat)(o:Nat)(ho:5<o){kd:Int}{e:List (Nat×CV)}{E:List En}{k st cl sl:Nat}{cs:List CV}{c':List In}{s':List Nat}(he:pick s.env (41::6::ks)=(41,I kd)::(6,.aw o 0)::e)(Sg:(e.all λ x=>okW x.2)=true)
  (h0:assoc s.heap 0=some (gz p E k st 3 cl 4 sl)) (h3:assoc s.heap 3=some (fJ c')) (h4:assoc s.heap 4=some (gH s')) (h5:assoc s.heap o=some ⟨207,0,cs⟩) (Sw:trees cs=true) :
  Le C s ⟨(41,I kd)::(6,.aw 5 0)::e,[(0,gz p E k st 3 cl 4 sl),(3,fJ c'),(4,gH s'),(5,⟨207,0,cs⟩)],6⟩:=by
 have n0:¬ 0=o:=by omega
 have n3:¬ 3=o:=by omega
 have n4:¬ 4=o:=by omega
 have r0:dZ [(0,0),(3,3),(4,4),(o,5)] 6 0=0:=rfl;have r3:dZ [(0,0),(3,3),(4,4),(o,5)] 6 3=3:=rfl;have r4:dZ [(0,0),(3,3),(4,4),(o,5)] 6 4=4:=rfl;have ro:dZ [(0,0),(3,3),(4,4),(o,5)] 6 o=5:=by simp[dZ,assoc,n0,n3,n4]
 have ao:(assoc [(0,0),(3,3),(4,4),(o,5)] o).isSome=true:=by simp[assoc,n0,n3,n4]
 have SV:=Le.norm (C:=C) (s:=s) (41::6::ks) [(0,0),(3,3),(4,4),(o,5)] 3 6 (by simp[xk,n0,n3,n4]) (by simp only[all_cons,all_nil,h0,h3,h4,h5];rfl) ?_ yA
 ·rw[he] at SV;simp only[map_cons,map_nil,pick,h0,h3,h4,h5,bC,cm] at SV;rw[FZ r0 Sg,r0,r3,r4,ro,tJ,r3,r4,fJ,gH,dg _ _ _ (cu c'),dg _ _ _ (a8 s'),dg _ _ _ Sw] at SV;simp only[cN,ro] at SV;exact SV
 ·unfold cI;rw[he];simp only[map_cons,map_nil,pick,h0,h3,h4,h5,all_cons,all_nil,Bool.and_true,Bool.and_eq_true,all_eq_true (l:=e)];refine⟨⟨rfl,ao,λ x hx=>PL ((all_eq_true.1 Sg) x hx) rfl⟩,Ea E k st 3 _ 4 _ _ rfl rfl,au (cu c') _,au (a8 s') _,au Sw _⟩
structure InvB (p:Pg)(g:Nat)(ps:List Pm)(d:Nat)(l:List Sm)(E:List En)(k st:Nat)(c:List In)(s:List Nat)(i:Nat)(V:List ByteArray)(Ei:List En)(ki Ww:Nat)(ci:List In)(si:List Nat):Prop where
 hi:i<=l.length
 he:EW g p.ms (p.fs.map λ f=>(f.name,f.params)) ps V Ei ki
 w:df p.ms (p.fs.map λ f=>(f.name,f.params)) ps d V (l.drop i)
 l1:Ei.length+bV (l.drop i)<=5000
 l2:ki+bV (l.drop i)<=5000
 l3:ci.length+bV (l.drop i)<=5000
 l4:si.length+bV (l.drop i)<=5000
 l5:Ww+bV (l.drop i)<=1000000
 r1:(cb l E k c.length).2=(cb (l.drop i) Ei ki ci.length).2
 r2:c++(cb l E k c.length).1=ci++(cb (l.drop i) Ei ki ci.length).1
 r3:s++jc l st=si++jc (l.drop i) Ww
 r4:st+fO l=Ww+fO (l.drop i)
def JB (p:Pg)(g:Nat)(ps:List Pm)(d:Nat)(l:List Sm)(E:List En)(k st:Nat)(c:List In)(s:List Nat)(m:Nat)(z:St):Prop:=
 ∃ i V Ei ki Ww ci si,m=l.length-i/\InvB p g ps d l E k st c s i V Ei ki Ww ci si/\z=NS p E l i Ei ki Ww ci si
theorem Lk {p:Pg}(hp:PgB p){g:Nat}{ps:List Pm}:∀ (d:Nat) (l:List Sm) (V:List ByteArray) (E:List En) (k st:Nat) (c:List In) (s:List Nat),
  EW g p.ms (p.fs.map λ f=>(f.name,f.params)) ps V E k->df p.ms (p.fs.map λ f=>(f.name,f.params)) ps d V l->E.length+bV l<=5000->k+bV l<=5000->c.length+bV l<=5000->s.length+bV l<=5000->st+bV l<=1000000->IB p l E k st c s:=by
 intro d
 induction d using Nat.strongRecOn with
 | _ d ih=>
 intro l V E k st c s hE hw hl hk hc hs RW;unfold IB;refine Body.jv Tryz.func129 rfl Ix (by simp[Tryz.ntmps129]) λ C hC RR=>?_;rw[Tryz.ntmps129] at hC;simp only[T3];have q1:=ai (jr p.gs);have q2:=ai (dG p.ms);have q3:=ai (cV p.fs);have q4:=ai (cG E);have q6:=ai (bQ l);apply aq;simp[hC,gz];apply aW;simp[hC];apply T.block;refine T.aH (JB p g ps d l E k st c s) (n:=l.length) ?_ ?_
 ·refine aa.le (Le.up 5 xr) ?_;refine aa.le (lQ (p:=p) (E:=E) (k:=k) (st:=st) RR [5,4,0,1] 1 2 (e:=bE E l 0) (c':=c) (s':=s) rfl (qp _ _ _) (qt _ _ _) rfl rfl rfl rfl (r9 _) rfl rfl rfl) (aa.here ?_);exact⟨0,V,E,k,st,c,s,by omega,⟨by omega,hE,hw,hl,hk,hc,hs,RW,rfl,rfl,rfl,rfl⟩,rfl⟩
 ·rintro m z ⟨i,Vi,Ei,ki,Ww,ci,si,rfl,hI,rfl⟩;by_cases Og:i<l.length
  ·obtain⟨x,US⟩:∃ x,l[i]? = some x:=⟨l[i],getElem?_eq_getElem Og⟩;have Uk:l.drop i=x::l.drop (i+1):=by
    rw[drop_eq_getElem_cons Og,(List.getElem?_eq_some_iff.1 US).2]
   obtain⟨i1,i2,i3,i4,i5,i6,i7,i8,i9,i10,i11,i12⟩:=hI;rw[Uk] at i3 i4 i5 i6 i7 i8 i9 i10 i11 i12;simp only[df,bV,cb,jc,fO] at i3 i4 i5 i6 i7 i8 i9 i10 i11 i12;obtain⟨hx1,UG⟩:=i3;have du:=λ Q C hC RR=>Mb (C:=C) (Q:=Q) hC RR hp E l i (n:=Ww) (c:=ci) (s:=si) i2 hx1 yA yA yA yA yA (λ d' Ss l V E k st c s=>ih d' Ss l V E k st c s);obtain⟨v1,_,v3,v4,v5⟩:=BW.1 x d Vi Ei ki ci.length i2 hx1;have v6:=vD.1 x Ei ki ci.length Ww;have v7:=Ah.1 x;obtain⟨xc,UT,Wz⟩:=Pa x;have Qd:drop (i*11) (bO l)=iR x++bO (l.drop (i+1)):=by rw[pB,pB];exact aI (f:=iR) (n:=11) lg US
   have Tg:=CJ l;have wi:=cF ((i:Int)+1) yA yA;have wst:=cF ((Ww:Int)+1) yA yA;have txc:trees xc=true:=by
    have:=iZ x;rw[UT,trees] at this;exact (Bool.and_eq_true _ _ ▸ this).2
   have R3:take 10 (xc++bO (l.drop (i+1)))=xc:=by rw[<- Wz,take_left]
   rw[UT] at Qd;simp only[NS,bE];apply aW;simp[hC,Og];refine gw ?_;simp;apply eN;apply T.seq;refine T.rx ah follows [0,1,2,3,4,5,6,7,8,9,10] [(3,8),(7,8),(7,9)] Ix ?_;simp[hC,Og,Qd,gz,Wz,R3];apply aq;simp[hC,wst];apply aq;simp[hC];refine T.le (ms_le (p:=p) (E:=Ei) (k:=ki) (st:=Ww+1) (cl:=ci.length) (sl:=si.length) (e:=[(7,I Ww),(5,I i),(4,.ax (E.flatMap iS) E.length),(0,.aw 0 0),(1,.ax (bO l) l.length)]) RR [7,5,4,0,1] 13 yA rfl (by simp[okW,tree]) rfl rfl rfl rfl (by rw[trees,txc];rfl)) ?_;rw[<- UT];refine T.cutL _ (du _ C hC RR) ?_;rintro z rfl;simp only[qQ,fy,NS,bE];apply aN;simp[hC,wi];have Xj:(Ei++fU ki x).length<=Ei.length+1:=by cases x<;>simp[fU]
   have hde2:1<=fc x:=by cases x<;>simp only[fc]<;>omega
   refine⟨l.length-(i+1),by omega,aa.trim [5,4,0,1] [0,3,4] 5 Vz yA ⟨i+1,Vi++eH x,Ei++fU ki x,(eM x Ei ki ci.length).2,Ww+pC x,ci++(eM x Ei ki ci.length).1,si++yg x Ww,rfl,⟨by omega,v3,UG,by omega,by omega,by simp only[length_append];omega,by simp only[length_append];omega,by omega,?_,?_,?_,?_⟩,?_⟩⟩
   ·rw[i9,length_append]
   ·rw[i10,length_append,append_assoc]
   ·rw[i11,append_assoc]
   ·rw[i12];omega
   ·simp[NS,bE]
  ·have RU:i=l.length:=by have:=hI.hi;omega
   obtain⟨i1,i2,i3,i4,i5,i6,i7,i8,i9,i10,i11,i12⟩:=hI;rw[RU,drop_length] at i9 i10 i11 i12;simp only[cb,jc,fO,append_nil,Nat.add_zero] at i9 i10 i11 i12;simp only[NS,bE];apply aW;simp[hC,Og];refine a9 ?_;simp;apply T.exit;simp;apply aN;simp[hC,gz];refine aa.trim [] [0,3,4] 5 Vz yA ⟨_,rfl,rfl,?_,rfl⟩;have e1:c.length+(cb l E k c.length).1.length=ci.length:=by rw[<- i10,length_append]
   have e2:s.length+(jc l st).length=si.length:=by rw[<- i11,length_append]
   rw[e1,e2,i9,i10,i11,i12];simp[T4,gz]
end Go.Proofs.YtlkmbdfhdknlgaaGreat
