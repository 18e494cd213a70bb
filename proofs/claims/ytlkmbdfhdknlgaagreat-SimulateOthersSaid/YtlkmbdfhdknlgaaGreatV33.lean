/- block: lock, unlock, retur -/
import Derived.Test.YtlkmbdfhdknlgaaGreatV32
namespace Go.Proofs.YtlkmbdfhdknlgaaGreat
open Go.Can Go.aV List Tryz
set_option maxHeartbeats 4000000 in
theorem KC {C:Cx}{Q:Exit->St->Prop}(hC:C.nt=253)(OR:C.n0=3)(p:Pg)(E0:List En)(l:List Sm)(i:Nat){g:Nat}{fs:List (ByteArray×List Pm)}{ps:List Pm}{V:List ByteArray}(E:List En)(k st:Nat)(c:List In)(s:List Nat)(n:Nat)
  (hE:EW g p.ms fs ps V E k) (hl:E.length<=100000) (hm:p.ms.length<=1000) (hc:c.length<=9000) (hs:s.length<=9000) (u:Bool) (r:Rf) (hr:Gc p.ms ps V r) :
  T prog C (j7 Tryz.f129 2) (MS p E0 l i E k st c s (.dP u r) n) (fj (aa C (λ z=>z=NS p E0 l i E k st (c++[.lock u (yP E r)]) (s++[n]))) Q):=by
 have hb:=DY p E k st c.length s.length hE hl hm n r hr;obtain⟨b1,b2,b3,b4,hp,ht⟩:=lp (yP E r);obtain⟨a1,a2,a3,Y3,YR⟩:=Mf r;have OZ:df (.lock u (yP E r))=[I (if u then 5 else 4),I 0,.bool false,I 0,I 0,.str eS,.au [] 0,.bool b1,I b2,.au b3 b4,.au [] 0,.au [] 0]:=by simp[df,hp,a8]
 rw[hp,Y3] at hb;apply T.block;have Rz:iD (.dP u r)=[I (if u then 6 else 5),.str eS,I 0,I 0,.str eS,.au [] 0,.str a1,.au a2 a3,.au [] 0,.au [] 0,.au [] 0]:=by simp[iD,Y3,a8]
 simp only[MS,mE,mH,HF,Rz]
 cases u with
 | false=>
  apply aq;simp[hC];refine bh ?_;simp;apply aq;simp[hC];refine bh ?_;simp;apply aT;simp[hC];refine bh ?_;simp;apply aG;simp[hC];refine bh ?_;simp;apply aq;simp[hC];refine cX ?_;simp;apply aG;simp[hC];refine TL.gY (hb) yA rfl OU rfl rfl RI RK RJ (TL.go' ag ?_);simp[hC];refine TL.iA (vc p E k st c s [I 4,I 0,.bool false,I 0,I 0,.str eS,.ak,.bool b1,I b2,.au b3 b4,.ak,.ak] rfl (by simp[trees,tree]) n yA yA) Rt (bb _) Rt (bb _) yA rfl OU rfl rfl RI RK RJ (TL.go' ag ?_);simp;refine aa.le (lj OR [5,4,0,1] 6 7 (e:=bE E0 l i) rfl (pJ _ _ _) (pK _ _ _) rfl rfl rfl rfl (jC _ _ (.lock false (yP E r)) (by simp[OZ])) rfl xr xr) (aa.here rfl)
 | true=>
  apply aq;simp[hC];refine bh ?_;simp;apply aq;simp[hC];refine bh ?_;simp;apply aT;simp[hC];refine bh ?_;simp;apply aG;simp[hC];refine bh ?_;simp;apply aq;simp[hC];refine bh ?_;simp;apply aq;simp[hC];refine cX ?_;simp;apply aG;simp[hC];refine TL.gY (hb) yA rfl OU rfl rfl RI RK RJ (TL.go' ag ?_);simp[hC];refine TL.iA (vc p E k st c s [I 5,I 0,.bool false,I 0,I 0,.str eS,.ak,.bool b1,I b2,.au b3 b4,.ak,.ak] rfl (by simp[trees,tree]) n yA yA) Rt (bb _) Rt (bb _) yA rfl OU rfl rfl RI RK RJ (TL.go' ag ?_);simp;refine aa.le (lj OR [5,4,0,1] 6 7 (e:=bE E0 l i) rfl (pJ _ _ _) (pK _ _ _) rfl rfl rfl rfl (jC _ _ (.lock true (yP E r)) (by simp[OZ])) rfl xr xr) (aa.here rfl)
set_option maxHeartbeats 4000000 in
theorem Nl {C:Cx}{Q:Exit->St->Prop}(hC:C.nt=253)(OR:C.n0=3)(p:Pg)(E0:List En)(l:List Sm)(i:Nat)(E:List En)(k st:Nat)(c:List In)(s:List Nat)(n:Nat)
  (hc:c.length<=9000) (hs:s.length<=9000) :
  T prog C (j7 Tryz.f129 2) (MS p E0 l i E k st c s .jJ n) (fj (aa C (λ z=>z=NS p E0 l i E k st (c++[.ret]) (s++[n]))) Q):=by
 apply T.block;simp only[MS,mE,mH,HF,iD];apply aq;simp[hC];refine bh ?_;simp;apply aq;simp[hC];refine bh ?_;simp;apply aT;simp[hC];refine bh ?_;simp;apply aG;simp[hC];refine bh ?_;simp;apply aq;simp[hC];refine bh ?_;simp;apply aq;simp[hC];refine bh ?_;simp;apply aq;simp[hC];refine bh ?_;simp;apply aq;simp[hC];refine bh ?_;simp;apply aG;simp[hC];refine TL.iA (vc p E k st c s [I 8,I 0,.bool false,I 0,I 0,.str eS,.ak,.bool false,I 0,.ak,.ak,.ak] rfl rfl n yA yA) Rt (bb _) Rt (bb _) yA rfl OU rfl rfl RI RK RJ (TL.go' ag ?_);simp;refine aa.le (lj OR [5,4,0,1] 6 7 (e:=bE E0 l i) rfl (pJ _ _ _) (pK _ _ _) rfl rfl rfl rfl (jC _ _ (.ret) (by simp[df,a8,kI])) rfl xr xr) (aa.here rfl)
set_option maxHeartbeats 4000000 in
theorem KD {C:Cx}{Q:Exit->St->Prop}(hC:C.nt=253)(OR:C.n0=3)(p:Pg)(E0:List En)(l:List Sm)(i:Nat){g:Nat}{ps:List Pm}{V:List ByteArray}(E:List En)(k st:Nat)(c:List In)(s:List Nat)(n:Nat)
  (hE:EW g p.ms (p.fs.map λ f=>(f.name,f.params)) ps V E k) (hl:E.length<=100000) (hm:p.ms.length<=1000) (PS:p.fs.length<=1000) (hc:c.length<=9000) (hs:s.length<=9000) (go:Bool) (nm:ByteArray) (gp:List Pm) (al:List Ar)
  (hg:(nm,gp)∈p.fs.map λ f=>(f.name,f.params)) (hw:jy p.ms ps V gp al) (T8:gp.length<=1000) :
  T prog C (j7 Tryz.f129 2) (MS p E0 l i E k st c s (.en go nm al) n) (fj (aa C (λ z=>z=NS p E0 l i E k st (c++[.call go (l8 E nm).n (dx E al) (fq E al)]) (s++[n]))) Q):=by
 have hb:=HE p E k st c.length s.length hE hl hm PS n go nm gp al hg hw T8;have XG:=eE (.call go (l8 E nm).n (dx E al) (fq E al));have lin:=jS (.call go (l8 E nm).n (dx E al) (fq E al));have nin:=Hj (.call go (l8 E nm).n (dx E al) (fq E al));have XF:=iS (.en go nm al);have lsm:=kN (.en go nm al);generalize hX:df (.call go (l8 E nm).n (dx E al) (fq E al))=X at hb XG lin nin;have hS:iD (.en go nm al)=pQ (if go=true then 4 else 3) nm al:=rfl;rw[hS] at hb;apply T.block;simp only[MS,mE,mH,HF,hS,pQ];simp only[pQ] at hb
 cases go with
 | false=>
  apply aq;simp[hC];refine bh ?_;simp;apply aq;simp[hC];refine bh ?_;simp;apply aT;simp[hC];refine iI ?_;simp;refine cX ?_;simp;apply aG;simp[hC];refine TL.gY (hb) yA rfl OU rfl rfl RI RK RJ (TL.go' ag ?_);simp[hC];refine TL.iA (vc p E k st c s X lin XG n yA yA) Rt (bb _) Rt (bb _) yA rfl OU rfl rfl RI RK RJ (TL.go' ag ?_);simp;refine aa.le (lj OR [5,4,0,1] 6 7 (e:=bE E0 l i) rfl (pJ _ _ _) (pK _ _ _) rfl rfl rfl rfl (jC _ _ (.call false (l8 E nm).n (dx E al) (fq E al)) (by simp[nin,hX])) rfl xr xr) (aa.here rfl)
 | true=>
  apply aq;simp[hC];refine bh ?_;simp;apply aq;simp[hC];refine bh ?_;simp;apply aT;simp[hC];refine bh ?_;simp;apply aG;simp[hC];refine cX ?_;simp;apply aG;simp[hC];refine TL.gY (hb) yA rfl OU rfl rfl RI RK RJ (TL.go' ag ?_);simp[hC];refine TL.iA (vc p E k st c s X lin XG n yA yA) Rt (bb _) Rt (bb _) yA rfl OU rfl rfl RI RK RJ (TL.go' ag ?_);simp;refine aa.le (lj OR [5,4,0,1] 6 7 (e:=bE E0 l i) rfl (pJ _ _ _) (pK _ _ _) rfl rfl rfl rfl (jC _ _ (.call true (l8 E nm).n (dx E al) (fq E al)) (by simp[nin,hX])) rfl xr xr) (aa.here rfl)
set_option maxHeartbeats 4000000 in
theorem Nn {C:Cx}{Q:Exit->St->Prop}(hC:C.nt=253)(OR:C.n0=3)(p:Pg)(E0:List En)(l:List Sm)(i:Nat){g:Nat}{fs:List (ByteArray×List Pm)}{ps:List Pm}{V:List ByteArray}(E:List En)(k st:Nat)(c:List In)(s:List Nat)(n:Nat)
  (hE:EW g p.ms fs ps V E k) (hl:E.length<=100000) (hc:c.length<=9000) (hs:s.length<=9000) (nm:ByteArray) (x:Ex) (hn:nm∈V) (hx:fV V 2 x) :
  T prog C (j7 Tryz.f129 2) (MS p E0 l i E k st c s (.iX nm x) n) (fj (aa C (λ z=>z=NS p E0 l i E k st (c++[.set (l8 E nm).n (decide ((l8 E nm).kind=1)) (ed E x)]) (s++[n]))) Q):=by
 obtain⟨kd,j,hf,hkd⟩:=hE.v nm hn;have hv:=sL p E k st c.length s.length hl nm _ hf WG n;rw[iu hf];have hb:=kk p E k st c.length s.length hE hl n 2 x hx;obtain⟨a1,a2,a3,a4,a5,ha,YR⟩:=fe x;obtain⟨b1,b2,b3,b4,b5,Pf,Wl⟩:=fe (ed E x);have OZ:df (.set j (decide (kd=1)) (ed E x))=[I 1,I j,.bool (decide (kd=1)),I b1,I b2,.str b3,.au b4 b5,.bool false,I 0,.au [] 0,.au [] 0,.au [] 0]:=by simp[df,Pf,kI]
 have Rz:iD (.iX nm x)=[I 2,.str nm,I a1,I a2,.str a3,.au a4 a5,.str eS,.au [] 0,.au [] 0,.au [] 0,.au [] 0]:=by simp[iD,ha,lh]
 rw[ha,Pf] at hb;have RU:((kd:Int) == 1)=decide (kd=1):=by rcases hkd with ⟨rfl,_⟩ | ⟨rfl,_⟩<;>rfl
 apply T.block;simp only[MS,mE,mH,HF,Rz];apply aq;simp[hC];refine bh ?_;simp;apply aq;simp[hC];refine cX ?_;simp;apply aq;simp[hC];refine TL.gY (hv) yA rfl OU rfl rfl RI RK RJ (TL.go' ag ?_);simp[hC,iF];refine T.le (Le.trim [6,7,5,4,0,1,11] [0,3,4,5,6] 7 RY yA) ?_;simp;refine T.rx ag follows [0,1,2,3,4,5,6,7,8,9,12,10,11,13] [(2,10),(4,10)] GK ?_;simp[hC];refine RX.gY (hb) yA rfl rfl xr rfl rfl RI RK RJ xr ?_;simp;refine RX.iA (vc p E k st c s [I 1,I j,.bool (decide (kd=1)),I b1,I b2,.str b3,.au b4 b5,.bool false,I 0,.ak,.ak,.ak] rfl Ty n yA yA) Rt (bb _) Rt (bb _) yA rfl rfl xr rfl rfl RI RK RJ xr ?_;simp;refine aa.le (lj OR [5,4,0,1] 21 22 (e:=bE E0 l i) rfl (pJ _ _ _) (pK _ _ _) rfl rfl rfl rfl (jC _ _ (.set j (decide (kd=1)) (ed E x)) (by simp[OZ])) rfl xr xr) (aa.here rfl)
set_option maxHeartbeats 4000000 in
theorem Nk {C:Cx}{Q:Exit->St->Prop}(hC:C.nt=253)(OR:C.n0=3)(p:Pg)(E0:List En)(l:List Sm)(i:Nat){g:Nat}{fs:List (ByteArray×List Pm)}{ps:List Pm}{V:List ByteArray}(E:List En)(k st:Nat)(c:List In)(s:List Nat)(n:Nat)
  (hE:EW g p.ms fs ps V E k) (hl:E.length<=90000) (hk:k<=9000) (hc:c.length<=9000) (hs:s.length<=9000) (nm:ByteArray) (x:Ex) (hn:jh E nm=none) (hx:fV V 2 x) :
  T prog C (j7 Tryz.f129 2) (MS p E0 l i E k st c s (.ia nm x) n) (fj (aa C (λ z=>z=NS p E0 l i (E++[⟨nm,4,k⟩]) (k+1) st (c++[.set k false (ed E x)]) (s++[n]))) Q):=by
 have hb:=kk p E k st c.length s.length hE yA n 2 x hx;have Sl:=qR E nm yA;rw[hn] at Sl;obtain⟨a1,a2,a3,a4,a5,ha,YR⟩:=fe x;obtain⟨b1,b2,b3,b4,b5,Pf,Wl⟩:=fe (ed E x);have OZ:df (.set k false (ed E x))=[I 1,I k,.bool false,I b1,I b2,.str b3,.au b4 b5,.bool false,I 0,.au [] 0,.au [] 0,.au [] 0]:=by simp[df,Pf,kI]
 have Rz:iD (.ia nm x)=[I 1,.str nm,I a1,I a2,.str a3,.au a4 a5,.str eS,.au [] 0,.au [] 0,.au [] 0,.au [] 0]:=by simp[iD,ha,lh]
 rw[ha,Pf] at hb;apply T.block;simp only[MS,mE,mH,HF,Rz];apply aq;simp[hC];refine cX ?_;simp;refine T.seq (T.seq ?_);refine T.rx ag follows [0,1,2,3,4,5,10,6,7,8,9,11,12] [(3,10),(5,10),(10,6)] GK ?_;simp[hC,gf];refine RX.call rfl xr rfl rfl rfl O4 (Sl) ?_;simp[qQ];apply aq;simp[hC];refine eQ ?_;simp;refine T.le (Le.to (s':=MZ p E0 l i E k st c s [I 1,.str nm,I a1,I a2,.str a3,.au a4 a5,.str eS,.au [] 0,.au [] 0,.au [] 0,.au [] 0] n) [6,7,5,4,0,1] [0,3,4,5] 6 RY yA rfl) ?_;simp only[MZ,mE];apply aq;simp[hC];refine TL.gY (hb) yA rfl OU rfl rfl RI RK RJ (TL.go' ag ?_);simp[hC];refine T.le (Le.trim [6,7,5,4,0,1,10] [0,3,4,5,6] 7 RY yA) ?_;simp;apply T.seq;refine T.rx ag follows [0,1,2,3,4,5,6,7,8] [] GK ?_;simp[hC,gf];refine RX.iA (vc p E k st c s [I 1,I k,.bool false,I b1,I b2,.str b3,.au b4 b5,.bool false,I 0,.ak,.ak,.ak] rfl Ty n yA yA) Rt (bb _) Rt (bb _) yA rfl rfl xr rfl rfl RI RK RJ xr ?_;simp;refine T.le (jL OR [6,7,5,4,0,1] 16 17 (e:=mE E0 l i n) rfl Vv rfl rfl rfl rfl rfl Ty (jC _ _ (.set k false (ed E x)) (by simp[OZ])) rfl xr xr) ?_;simp only[mE];have f1:=aA (f:=iF) (n:=3) kU E;have SJ:E.length*32<=140737488355328:=by omega
 have bd2:(E.length+1)*32<=140737488355328:=by omega
 apply T.seq;refine T.rx ag follows [0,1,2,3,4,5,6,7,8,9,10,11,12,13,14,15,16,17,18] [(1,5),(1,8),(1,12),(1,14),(5,14),(6,8),(6,12),(6,14)] GK ?_;simp[hC,gf,f1,SJ,bd2,aS];have wk:=cw ((k:Int)+1) yA yA;have tn:trees (E.flatMap iF++[.str nm,I 4,I k])=true:=by rw[aF,cM];rfl
 have tk:take ((E.length+1)*3) (E.flatMap iF++[.str nm,I 4,I k])=E.flatMap iF++[.str nm,I 4,I k]:=take_of_length_le (by simp only[length_append,f1,length_cons,length_nil];omega);have q1:=aj (jm p.gs);have q2:=aj (dm p.ms);have q3:=aj (dj p.fs);have q4:=aj (cM E);have q5:=aj (cM E0);have q6:=aj (bU l);apply aG;simp[hC,wk];refine aa.le (Le.trim [5,4,0,1] [0,26,3,4] 27 (by simp[-all_eq_true,-all_flatMap,q4]) yA) ?_;simp;refine aa.le (Le.cF (o:=26) rfl tn) ?_;simp[tk];refine aa.trim [5,4,0,1] [0,3,4] 5 RY yA ?_;simp[NS,bE,gf,iF]
theorem zq (c S:List In){i0 i1:In}{a b d:CV}{r:List CV}(h0:df i0=a::b::r)(h1:df i1=a::d::r) :
  take (c.length*12+1) (fB (c++i0::S)).cells++d::drop (c.length*12+1+1) (fB (c++i0::S)).cells=(fB (c++i1::S)).cells:=by
 have e0:(fB (c++i0::S)).cells=c.flatMap df++(a::b::(r++S.flatMap df)):=by simp[fB,h0]
 have e1:(fB (c++i1::S)).cells=c.flatMap df++(a::d::(r++S.flatMap df)):=by simp[fB,h1]
 rw[e0,e1,<- zr c];rw[take_append,drop_append,take_of_length_le yA,drop_of_length_le yA];have k1:(c.flatMap df).length+1-(c.flatMap df).length=1:=by omega
 have k2:(c.flatMap df).length+1+1-(c.flatMap df).length=2:=by omega
 rw[k1,k2];simp
theorem zt (c S:List In)(i0:In):c.length*12+1+1<=(fB (c++i0::S)).cells.length:=by
 simp only[fB,zr,length_append,length_cons];omega
def Gd (p:Pg)(l:List Sm)(E:List En)(k st:Nat)(c:List In)(s:List Nat):Prop:=
 Body prog av 129 [.ax 0 0,.au (bS l) l.length] (T3 p E k st c.length s.length (fB c) (gm s)) 3
  (jk (.bY []) (T4 p E (cf l E k c.length).2 (st+fG l) (c.length+(cf l E k c.length).1.length) (s.length+(iW l st).length) (fB (c++(cf l E k c.length).1)) (gm (s++iW l st))) (3+2))
set_option maxHeartbeats 4000000 in
theorem cs_if {C:Cx}{Q:Exit->St->Prop}(hC:C.nt=253)(OR:C.n0=3)(p:Pg)(E0:List En)(l:List Sm)(i:Nat){g:Nat}{fs:List (ByteArray×List Pm)}{ps:List Pm}{V:List ByteArray}(E:List En)(k st:Nat)(c:List In)(s:List Nat)(n:Nat)
  (hE:EW g p.ms fs ps V E k) (hl:E.length<=90000) (_hk:k<=9000) (hc:c.length<=9000) (hs:s.length<=9000) (x:Ex) (th el:List Sm) (hx:fV V 2 x)
  (Pk:st=n+1) (h1:Gd p th E k st (c++[.branch 0 (ed E x)]) (s++[n])) (O7:el.length=0) :
  T prog C (j7 Tryz.f129 2) (MS p E0 l i E k st c s (.lO x th el) n) (fj (aa C (λ z=>z=NS p E0 l i E (cf th E k (c.length+1)).2 (st+fG th) (c++(eB (.lO x th el) E k c.length).1) (s++wF (.lO x th el) n))) Q):=by
 subst Pk;simp only[Gd,length_append,length_singleton] at h1;have hb:=kk p E k (n+1) c.length s.length hE yA n 2 x hx;obtain⟨a1,a2,a3,a4,a5,ha,YR⟩:=fe x;obtain⟨b1,b2,b3,b4,b5,Pf,Wl⟩:=fe (ed E x);have OZ:df (.branch 0 (ed E x))=[I 6,I 0,.bool false,I b1,I b2,.str b3,.au b4 b5,.bool false,I 0,.au [] 0,.au [] 0,.au [] 0]:=by simp[df,Pf,kI]
 have Rz:iD (.lO x th el)=[I 7,.str eS,I a1,I a2,.str a3,.au a4 a5,.str eS,.au [] 0,.au [] 0,.au (bS th) th.length,.au (bS el) el.length]:=by simp[iD,ha,lh]
 rw[ha,Pf] at hb;have t1:=bU th;have t2:=bU el;have q5:=aj (cM E0);have q6:=aj (bU l);apply T.block;simp only[MS,mE,mH,HF,Rz];apply aq;simp[hC];refine bh ?_;simp;apply aq;simp[hC];refine bh ?_;simp;apply aT;simp[hC];refine bh ?_;simp;apply aG;simp[hC];refine bh ?_;simp;apply aq;simp[hC];refine bh ?_;simp;apply aq;simp[hC];refine bh ?_;simp;apply aq;simp[hC];refine cX ?_;simp;apply aq;simp[hC];refine TL.gY (hb) yA rfl OU rfl rfl RI RK RJ (TL.go' ag ?_);simp[hC];refine TL.iA (vc p E k (n+1) c s [I 6,I 0,.bool false,I b1,I b2,.str b3,.au b4 b5,.bool false,I 0,.ak,.ak,.ak] rfl Ty n yA yA) Rt (bb _) Rt (bb _) yA rfl OU rfl rfl RI RK RJ (TL.go' ag ?_);simp[hC];refine T.le (jL OR [12,6,7,5,4,0,1] 6 7 (e:=(12,I c.length)::mE E0 l i n) rfl Vv rfl rfl rfl rfl rfl Ty (jC _ _ (.branch 0 (ed E x)) (by simp[OZ])) rfl xr xr) ?_;simp only[mE];apply aq;simp[hC];refine TL.iA h1 (cC _) (bb _) (cC _) (bb _) yA rfl OU rfl rfl rfl Yn rfl (TL.go' ag ?_);generalize hS:cf th E k (c.length+1)=S at h1;obtain⟨S1,S2⟩:=S;generalize hT:iW th (n+1)=S3 at h1;simp only at h1;simp[O7];have UU:df (.branch (c.length+1+S1.length) (ed E x))=[I 6,I ((c.length+1+S1.length:Nat):Int),.bool false,I b1,I b2,.str b3,.au b4 b5,.bool false,I 0,.au [] 0,.au [] 0,.au [] 0]:=by simp[df,Pf,kI]
 have PN:=zq c S1 OZ UU;have ZP:=zt c S1 (.branch 0 (ed E x));simp only[Int.natCast_add,Int.cast_ofNat_Int] at PN;apply aq;simp[hC];refine bh ?_;simp;refine T.rx ag follows [0,1,2,3,4,5,6,7,8,9,10,11,12] [] GK ?_;have OT:(c.length:Int)<(c.length:Int)+1+(S1.length:Int):=by omega
 simp[hC,gf,OT,ZP,PN];refine aa.le (lj OR [5,4,0,1] 6 7 (e:=bE E0 l i) rfl (pJ _ _ _) (pK _ _ _) rfl rfl rfl rfl (c':=c++.branch (c.length+1+S1.length) (ed E x)::S1) (s':=s++n::S3) (qJ _) rfl PA PA) (aa.here ?_);simp[eB,wF,O7,hS,hT,NS]
set_option maxHeartbeats 4000000 in
theorem Nm {C:Cx}{Q:Exit->St->Prop}(hC:C.nt=253)(OR:C.n0=3)(p:Pg)(E0:List En)(l:List Sm)(i:Nat){g:Nat}{fs:List (ByteArray×List Pm)}{ps:List Pm}{V:List ByteArray}(E:List En)(k st:Nat)(c:List In)(s:List Nat)(n:Nat)
  (hE:EW g p.ms fs ps V E k) (hl:E.length<=90000) (_hk:k<=9000) (hc:c.length<=9000) (hs:s.length<=9000) (x:Ex) (th el:List Sm) (hx:fV V 2 x)
  (Pk:st=n+1) (h1:Gd p th E k st (c++[.branch 0 (ed E x)]) (s++[n])) (h2:Gd p el E (cf th E k (c.length+1)).2 (n+1+fG th) (c++.branch (c.length+2+(cf th E k (c.length+1)).1.length) (ed E x)::((cf th E k (c.length+1)).1++[.jump 0])) (s++n::(iW th (n+1)++[n]))) (O7:0<el.length) (O2:c.length+(cf th E k (c.length+1)).1.length<=9000) (VK:s.length+(iW th (n+1)).length<=9000) :
  T prog C (j7 Tryz.f129 2) (MS p E0 l i E k st c s (.lO x th el) n) (fj (aa C (λ z=>z=NS p E0 l i E (cf el E (cf th E k (c.length+1)).2 (c.length+2+(cf th E k (c.length+1)).1.length)).2 (st+fG th+fG el) (c++(eB (.lO x th el) E k c.length).1) (s++wF (.lO x th el) n))) Q):=by
 subst Pk;simp only[Gd,length_append,length_singleton] at h1;simp only[Gd,length_append,length_cons,length_nil,Nat.zero_add] at h2;have hb:=kk p E k (n+1) c.length s.length hE yA n 2 x hx;obtain⟨a1,a2,a3,a4,a5,ha,YR⟩:=fe x;obtain⟨b1,b2,b3,b4,b5,Pf,Wl⟩:=fe (ed E x);have OZ:df (.branch 0 (ed E x))=[I 6,I 0,.bool false,I b1,I b2,.str b3,.au b4 b5,.bool false,I 0,.au [] 0,.au [] 0,.au [] 0]:=by simp[df,Pf,kI]
 have Rz:iD (.lO x th el)=[I 7,.str eS,I a1,I a2,.str a3,.au a4 a5,.str eS,.au [] 0,.au [] 0,.au (bS th) th.length,.au (bS el) el.length]:=by simp[iD,ha,lh]
 rw[ha,Pf] at hb;have t1:=bU th;have t2:=bU el;have q5:=aj (cM E0);have q6:=aj (bU l);apply T.block;simp only[MS,mE,mH,HF,Rz];apply aq;simp[hC];refine bh ?_;simp;apply aq;simp[hC];refine bh ?_;simp;apply aT;simp[hC];refine bh ?_;simp;apply aG;simp[hC];refine bh ?_;simp;apply aq;simp[hC];refine bh ?_;simp;apply aq;simp[hC];refine bh ?_;simp;apply aq;simp[hC];refine cX ?_;simp;apply aq;simp[hC];refine TL.gY (hb) yA rfl OU rfl rfl RI RK RJ (TL.go' ag ?_);simp[hC];refine TL.iA (vc p E k (n+1) c s [I 6,I 0,.bool false,I b1,I b2,.str b3,.au b4 b5,.bool false,I 0,.ak,.ak,.ak] rfl Ty n yA yA) Rt (bb _) Rt (bb _) yA rfl OU rfl rfl RI RK RJ (TL.go' ag ?_);simp[hC];refine T.le (jL OR [12,6,7,5,4,0,1] 6 7 (e:=(12,I c.length)::mE E0 l i n) rfl Vv rfl rfl rfl rfl rfl Ty (jC _ _ (.branch 0 (ed E x)) (by simp[OZ])) rfl xr xr) ?_;simp only[mE];apply aq;simp[hC];refine TL.iA h1 (cC _) (bb _) (cC _) (bb _) yA rfl OU rfl rfl rfl Yn rfl (TL.go' ag ?_);generalize hS:cf th E k (c.length+1)=S at h1 h2 O2;obtain⟨S1,S2⟩:=S;generalize hT:iW th (n+1)=S3 at h1 h2 VK;simp only at h1 h2 O2;have hlen:c.length+(S1.length+1+1)=c.length+2+S1.length:=by omega
 generalize hS':cf el E S2 (c.length+(S1.length+1+1))=S' at h2;obtain⟨S4,S5⟩:=S';generalize hT':iW el (n+1+fG th)=S6 at h2;simp only at h2;simp;refine T.le (jL OR [12,6,7,5,4,0,1] 6 7 (e:=(12,I c.length)::mE E0 l i n) (c':=c++.branch 0 (ed E x)::S1) (s':=s++n::S3) rfl Vv rfl rfl rfl rfl rfl Ty (qJ _) rfl PA PA) ?_;simp only[mE];have ZG:0<el.length:=O7;apply aq;simp[hC,ZG];refine cX ?_;simp;apply aq;simp[hC];refine TL.iA (Ms p E S2 (n+1+fG th) (c++.branch 0 (ed E x)::S1) (s++n::S3) (c.length+(S1.length+1)) (s.length+(S3.length+1)) xr xr [I 7,I 0,.bool false,I 0,I 0,.str eS,.ak,.bool false,I 0,.ak,.ak,.ak] rfl rfl n yA yA) Rt (bb _) Rt (bb _) yA rfl OU rfl rfl RI RK RJ (TL.go' ag ?_);simp[hC];refine T.le (jL OR [13,12,6,7,5,4,0,1] 6 7 (e:=(13,I (c.length+(S1.length+1)))::(12,I c.length)::mE E0 l i n) (c':=c++.branch 0 (ed E x)::(S1++[.jump 0])) (s':=s++n::(S3++[n])) rfl Vv rfl rfl rfl rfl rfl Ty (by simpa using jC (c++In.branch 0 (ed E x)::S1) [I 7,I 0,.bool false,I 0,I 0,.str eS,.ak,.bool false,I 0,.ak,.ak,.ak] (.jump 0) (by simp[df,a8,kI])) rfl PA PA) ?_;simp only[mE];have UU:df (.branch (c.length+2+S1.length) (ed E x))=[I 6,I ((c.length:Int)+((S1.length:Int)+1+1)),.bool false,I b1,I b2,.str b3,.au b4 b5,.bool false,I 0,.au [] 0,.au [] 0,.au [] 0]:=by
  simp[df,Pf,kI];omega
 have PN:=zq c (S1++[.jump 0]) OZ UU;have ZP:=zt c (S1++[.jump 0]) (.branch 0 (ed E x));have OT:(c.length:Int)<(c.length:Int)+((S1.length:Int)+1+1):=by omega
 apply T.seq;refine T.rx ag follows [0,1,2,3,4,5,6,7,8,9,10,11,12] [] GK ?_;simp[hC,gf,OT,ZP,PN];refine T.le (jL OR [13,12,6,7,5,4,0,1] 3 4 (e:=(13,I (c.length+(S1.length+1)))::(12,I c.length)::mE E0 l i n) (c':=c++In.branch (c.length+2+S1.length) (ed E x)::(S1++[In.jump 0])) (s':=s++n::(S3++[n])) rfl Vv rfl rfl rfl rfl rfl Ty (qJ _) rfl xr xr) ?_;simp only[mE];apply aq;simp[hC];refine TL.iA h2 (cC _) (bb _) (cC _) (bb _) yA rfl OU rfl rfl rfl Yn rfl (TL.go' ag ?_);simp;have hin0:df (.jump 0)=[I 7,I 0,.bool false,I 0,I 0,.str eS,.au [] 0,.bool false,I 0,.au [] 0,.au [] 0,.au [] 0]:=by simp[df,a8,kI]
 have hin2:df (.jump (c.length+2+S1.length+S4.length))=[I 7,I ((c.length:Int)+((S1.length:Int)+1+1)+(S4.length:Int)),.bool false,I 0,I 0,.str eS,.au [] 0,.bool false,I 0,.au [] 0,.au [] 0,.au [] 0]:=by
  simp[df,a8,kI];omega
 have ZL:=zq (c++In.branch (c.length+2+S1.length) (ed E x)::S1) S4 hin0 hin2;have ZO:=zt (c++In.branch (c.length+2+S1.length) (ed E x)::S1) S4 (.jump 0);simp only[length_append,length_cons,append_assoc,cons_append] at ZL ZO;have QK:(c.length:Int)+((S1.length:Int)+1)<(c.length:Int)+((S1.length:Int)+1+1)+(S4.length:Int):=by omega
 have Wt:(0:Int)<=(c.length:Int)+((S1.length:Int)+1):=by omega
 have htn:((c.length:Int)+((S1.length:Int)+1)).toNat=c.length+(S1.length+1):=by omega
 refine T.rx ag follows [0,1,2,3,4,5,6,7,8,9,10,11,12] [] GK ?_;simp[hC,gf,QK,Wt,htn,ZO,ZL];have Pp:¬ el.length=0:=by omega
 have Ye:cf el E S2 (c.length+2+S1.length)=(S4,S5):=by rw[<- hlen];exact hS'
 refine aa.le (lj OR [5,4,0,1] 6 7 (e:=bE E0 l i) rfl (pJ _ _ _) (pK _ _ _) rfl rfl rfl rfl (c':=c++In.branch (c.length+2+S1.length) (ed E x)::(S1++In.jump (c.length+2+S1.length+S4.length)::S4)) (s':=s++n::(S3++n::S6)) (qJ _) rfl PA PA) (aa.here ?_);simp[eB,wF,Pp,hS,Ye,hT,hT',NS]
set_option maxHeartbeats 4000000 in
theorem Ip {C:Cx}{Q:Exit->St->Prop}(hC:C.nt=253)(OR:C.n0=3)(p:Pg)(E0:List En)(l:List Sm)(i:Nat){g:Nat}{fs:List (ByteArray×List Pm)}{ps:List Pm}{V:List ByteArray}(E:List En)(k st:Nat)(c:List In)(s:List Nat)(n:Nat)
  (hE:EW g p.ms fs ps V E k) (hl:E.length<=90000) (_hk:k<=9000) (hc:c.length<=9000) (hs:s.length<=9000) (x:Ex) (th:List Sm) (hx:fV V 2 x)
  (Pk:st=n+1) (h1:Gd p th E k st (c++[.branch 0 (ed E x)]) (s++[n])) (O2:c.length+(cf th E k (c.length+1)).1.length<=9000) (VK:s.length+(iW th (n+1)).length<=9000) :
  T prog C (j7 Tryz.f129 2) (MS p E0 l i E k st c s (.dh x th) n) (fj (aa C (λ z=>z=NS p E0 l i E (cf th E k (c.length+1)).2 (st+fG th) (c++(eB (.dh x th) E k c.length).1) (s++wF (.dh x th) n))) Q):=by
 subst Pk;simp only[Gd,length_append,length_singleton] at h1;have hb:=kk p E k (n+1) c.length s.length hE yA n 2 x hx;obtain⟨a1,a2,a3,a4,a5,ha,YR⟩:=fe x;obtain⟨b1,b2,b3,b4,b5,Pf,Wl⟩:=fe (ed E x);have OZ:df (.branch 0 (ed E x))=[I 6,I 0,.bool false,I b1,I b2,.str b3,.au b4 b5,.bool false,I 0,.au [] 0,.au [] 0,.au [] 0]:=by simp[df,Pf,kI]
 have Rz:iD (.dh x th)=[I 8,.str eS,I a1,I a2,.str a3,.au a4 a5,.str eS,.au [] 0,.au [] 0,.au (bS th) th.length,.au [] 0]:=by simp[iD,ha,lh]
 rw[ha,Pf] at hb;have t1:=bU th;have q5:=aj (cM E0);have q6:=aj (bU l);apply T.block;simp only[MS,mE,mH,HF,Rz];apply aq;simp[hC];refine bh ?_;simp;apply aq;simp[hC];refine bh ?_;simp;apply aT;simp[hC];refine bh ?_;simp;apply aG;simp[hC];refine bh ?_;simp;apply aq;simp[hC];refine bh ?_;simp;apply aq;simp[hC];refine bh ?_;simp;apply aq;simp[hC];refine bh ?_;simp;apply aq;simp[hC];refine cX ?_;simp;apply aq;simp[hC];refine TL.gY (hb) yA rfl OU rfl rfl RI RK RJ (TL.go' ag ?_);simp[hC];refine TL.iA (vc p E k (n+1) c s [I 6,I 0,.bool false,I b1,I b2,.str b3,.au b4 b5,.bool false,I 0,.ak,.ak,.ak] rfl Ty n yA yA) Rt (bb _) Rt (bb _) yA rfl OU rfl rfl RI RK RJ (TL.go' ag ?_);simp[hC];refine T.le (jL OR [14,6,7,5,4,0,1] 6 7 (e:=(14,I c.length)::mE E0 l i n) rfl Vv rfl rfl rfl rfl rfl Ty (jC _ _ (.branch 0 (ed E x)) (by simp[OZ])) rfl xr xr) ?_;simp only[mE];apply aq;simp[hC];refine TL.iA h1 (cC _) (bb _) (cC _) (bb _) yA rfl OU rfl rfl rfl Yn rfl (TL.go' ag ?_);generalize hS:cf th E k (c.length+1)=S at h1 O2;obtain⟨S1,S2⟩:=S;generalize hT:iW th (n+1)=S3 at h1 VK;simp only at h1 O2;simp;refine T.le (jL OR [14,6,7,5,4,0,1] 6 7 (e:=(14,I c.length)::mE E0 l i n) (c':=c++In.branch 0 (ed E x)::S1) (s':=s++n::S3) rfl Vv rfl rfl rfl rfl rfl Ty (qJ _) rfl PA PA) ?_;simp only[mE];apply aq;simp[hC];refine TL.iA (Ms p E S2 (n+1+fG th) (c++In.branch 0 (ed E x)::S1) (s++n::S3) (c.length+(S1.length+1)) (s.length+(S3.length+1)) xr xr [I 7,I c.length,.bool false,I 0,I 0,.str eS,.ak,.bool false,I 0,.ak,.ak,.ak] rfl rfl n yA yA) Rt (bb _) Rt (bb _) yA rfl OU rfl rfl RI RK RJ (TL.go' ag ?_);simp;refine T.le (jL OR [14,6,7,5,4,0,1] 6 7 (e:=(14,I c.length)::mE E0 l i n) (c':=c++In.branch 0 (ed E x)::(S1++[In.jump c.length])) (s':=s++n::(S3++[n])) rfl Vv rfl rfl rfl rfl rfl Ty (by simpa using jC (c++In.branch 0 (ed E x)::S1) [I 7,I c.length,.bool false,I 0,I 0,.str eS,.ak,.bool false,I 0,.ak,.ak,.ak] (.jump c.length) (by simp[df,a8,kI])) rfl PA PA) ?_;simp only[mE];have UU:df (.branch (c.length+2+S1.length) (ed E x))=[I 6,I ((c.length:Int)+((S1.length:Int)+1+1)),.bool false,I b1,I b2,.str b3,.au b4 b5,.bool false,I 0,.au [] 0,.au [] 0,.au [] 0]:=by
  simp[df,Pf,kI];omega
 have PN:=zq c (S1++[.jump c.length]) OZ UU;have ZP:=zt c (S1++[.jump c.length]) (.branch 0 (ed E x));have OT:(c.length:Int)<(c.length:Int)+((S1.length:Int)+1+1):=by omega
 refine T.rx ag follows [0,1,2,3,4,5,6,7,8,9,10,11,12] [] GK ?_;simp[hC,gf,OT,ZP,PN];refine aa.le (lj OR [5,4,0,1] 3 4 (e:=bE E0 l i) rfl (pJ _ _ _) (pK _ _ _) rfl rfl rfl rfl (c':=c++In.branch (c.length+2+S1.length) (ed E x)::(S1++[In.jump c.length])) (s':=s++n::(S3++[n])) (qJ _) rfl xr xr) (aa.here ?_);simp[eB,wF,hS,hT,NS]
theorem uw:(∀ x:Sm,∀ E k b n,(wF x n).length=(eB x E k b).1.length)/\(∀ l:List Sm,∀ E k b n,(iW l n).length=(cf l E k b).1.length):=by
 let M1:Sm->Prop:=λ x=>∀ E k b n,(wF x n).length=(eB x E k b).1.length
 let M2:List Sm->Prop:=λ l=>∀ E k b n,(iW l n).length=(cf l E k b).1.length
 have A1:∀ (s:ByteArray) (e:Ex),M1 (.ia s e):=λ s e E k b n=>by simp[wF,eB]
 have A2:∀ (s:ByteArray) (e:Ex),M1 (.iX s e):=λ s e E k b n=>by simp[wF,eB]
 have A3:∀ (g:Bool) (s:ByteArray) (l:List Ar),M1 (.en g s l):=λ g s l E k b n=>by simp[wF,eB]
 have A4:∀ (u:Bool) (r:Rf),M1 (.dP u r):=λ u r E k b n=>by simp[wF,eB]
 have A5:∀ (e:Ex) (th el:List Sm),M2 th->M2 el->M1 (.lO e th el):=λ e th el h1 h2 E k b n=>by
  simp only[wF,eB];split
  ·simp[h1 E k (b+1) (n+1)]
  ·simp[h1 E k (b+1) (n+1),h2 E (cf th E k (b+1)).2 (b+2+(cf th E k (b+1)).1.length) (n+1+fG th)]
 have A6:∀ (e:Ex) (th:List Sm),M2 th->M1 (.dh e th):=λ e th h1 E k b n=>by
  simp[wF,eB,h1 E k (b+1) (n+1)]
 have A7:M1 .jJ:=λ E k b n=>by simp[wF,eB]
 have A0:M2 []:=λ E k b n=>by simp[iW,cf]
 have A8:∀ (s:Sm) (r:List Sm),M1 s->M2 r->M2 (s::r):=λ s r h1 h2 E k b n=>by
  simp only[iW,cf,length_append];rw[h1 E k b n,h2 (E++fI k s) (eB s E k b).2 (b+(eB s E k b).1.length) (n+oP s)]
 exact⟨λ s=>Sm.rec (motive_1:=M1) (motive_2:=M2) A1 A2 A3 A4 A5 A6 A7 A0 A8 s,λ l=>Sm.rec_1 (motive_1:=M1) (motive_2:=M2) A1 A2 A3 A4 A5 A6 A7 A0 A8 l⟩
theorem L6 (x:Sm):∃ cs,iD x=I (HF x)::cs/\cs.length=10:=by
 have h:∃ cs,iD x=I (HF x)::cs:=by cases x<;>exact⟨_,rfl⟩
 obtain⟨cs,h⟩:=h;have:=kN x;rw[h] at this;exact⟨cs,h,by simpa using this⟩
theorem T.cutL {P:Program}{C:Cx}{s:St}{c:Code}{Q:Exit->St->Prop}(J:St->Prop)(h:T P C c s (fj (aa C J) Q))(hJ:∀ s',J s'->Q .normal s'):T P C c s Q:=by
 refine T.post h λ e s' q=>?_
 cases e with
 | normal=>
  obtain⟨Q5,hj,hl⟩:=q;exact⟨Q5,hJ Q5 hj,hl⟩
 | _=>exact⟨s',q,Le.refl _⟩
structure PgB (p:Pg):Prop where
 m:p.ms.length<=1000
 f:p.fs.length<=1000
 p:∀ f∈p.fs,f.params.length<=1000
theorem Jo {C:Cx}{Q:Exit->St->Prop}(hC:C.nt=253)(OR:C.n0=3){p:Pg}(hp:PgB p)(E0:List En)(l:List Sm)(i:Nat){g:Nat}{ps:List Pm}{d:Nat}{V:List ByteArray}{E:List En}{k:Nat}{c:List In}{s:List Nat}{n:Nat}{x:Sm}
  (hE:EW g p.ms (p.fs.map λ f=>(f.name,f.params)) ps V E k) (hx:ef p.ms (p.fs.map λ f=>(f.name,f.params)) ps d V x) (hl:E.length+eN x<=5000) (hk:k+eN x<=5000) (hc:c.length+eN x<=5000) (hs:s.length+eN x<=5000) (Pk:n+eN x<=1000000)
  (rec:∀ d' < d,∀ (l:List Sm) (V:List ByteArray) (E:List En) (k st:Nat) (c:List In) (s:List Nat),EW g p.ms (p.fs.map λ f=>(f.name,f.params)) ps V E k->dn p.ms (p.fs.map λ f=>(f.name,f.params)) ps d' V l->E.length+bZ l<=5000->k+bZ l<=5000->c.length+bZ l<=5000->s.length+bZ l<=5000->st+bZ l<=1000000->Gd p l E k st c s) :
  T prog C (j7 Tryz.f129 2) (MS p E0 l i E k (n+1) c s x n) (fj (aa C (λ z=>z=NS p E0 l i (E++fI k x) (eB x E k c.length).2 (n+oP x) (c++(eB x E k c.length).1) (s++wF x n))) Q):=by
 cases x with
 | ia nm e=>
  simp only[ef] at hx;obtain⟨⟨j,hj,rfl⟩,hv,he⟩:=hx;simp only[eN] at hl hk hc hs Pk;exact Nk hC OR p E0 l i E k (n+1) c s n hE yA yA yA yA _ e (hE.o _ hv (wZ j hj)) he
 | iX nm e=>
  simp only[ef] at hx;simp only[eN] at hl hk hc hs Pk
  simpa only[fI,eB,oP,wF,append_nil] using Nn (Q:=Q) hC OR p E0 l i E k (n+1) c s n hE yA yA yA nm e hx.1 hx.2
 | en go nm al=>
  simp only[ef] at hx;obtain⟨gp,h1,h2⟩:=hx;simp only[eN] at hl hk hc hs Pk;have T8:gp.length<=1000:=by
   obtain⟨f,hf,he⟩:=mem_map.1 h1;have:=hp.p f hf;simp only[Prod.mk.injEq] at he;rw[<- he.2];exact this
  simpa only[fI,eB,oP,wF,append_nil] using KD (Q:=Q) hC OR p E0 l i E k (n+1) c s n hE yA hp.m hp.f yA yA go nm gp al h1 h2 T8
 | dP u r=>
  simp only[ef] at hx;simp only[eN] at hl hk hc hs Pk
  simpa only[fI,eB,oP,wF,append_nil] using KC (Q:=Q) hC OR p E0 l i E k (n+1) c s n hE yA hp.m yA yA u r hx
 | jJ=>
  simp only[eN] at hl hk hc hs Pk
  simpa only[fI,eB,oP,wF,append_nil] using Nl (Q:=Q) hC OR p E0 l i E k (n+1) c s n yA yA
 | lO e th el=>
  cases d with
  | zero=>simp only[ef] at hx
  | succ d=>
   simp only[ef] at hx;simp only[eN] at hl hk hc hs Pk;obtain⟨v1,_,v3,v4⟩:=Aa.2 th d V E k (c.length+1) hE hx.2.1;have v5:=uw.2 th E k (c.length+1) (n+1);have v6:=yJ.2 th;have h1:=rec d yA th V E k (n+1) (c++[.branch 0 (ed E e)]) (s++[n]) hE hx.2.1 yA yA PA PA yA;by_cases O7:el.length=0
   ·have P0:el=[]:=eq_nil_of_length_eq_zero O7;have:=cs_if (Q:=Q) hC OR p E0 l i E k (n+1) c s n hE yA yA yA yA e th el hx.1 rfl h1 O7;subst P0;have e1:n+oP (.lO e th [])=n+1+fG th:=by simp only[oP,fG];omega
    have e2:(eB (.lO e th []) E k c.length).2=(cf th E k (c.length+1)).2:=by simp[eB]
    rw[e1,e2]
    simpa only[fI,append_nil] using this
   ·have h2:=rec d yA el V E (cf th E k (c.length+1)).2 (n+1+fG th) (c++.branch (c.length+2+(cf th E k (c.length+1)).1.length) (ed E e)::((cf th E k (c.length+1)).1++[.jump 0])) (s++n::(iW th (n+1)++[n])) (hE.up v1) hx.2.2 yA yA PA PA yA;have:=Nm (Q:=Q) hC OR p E0 l i E k (n+1) c s n hE yA yA yA yA e th el hx.1 rfl h1 h2 yA yA yA;have e1:n+oP (.lO e th el)=n+1+fG th+fG el:=by simp only[oP];omega
    have e2:(eB (.lO e th el) E k c.length).2=(cf el E (cf th E k (c.length+1)).2 (c.length+2+(cf th E k (c.length+1)).1.length)).2:=by simp[eB,O7]
    rw[e1,e2]
    simpa only[fI,append_nil] using this
 | dh e th=>
  cases d with
  | zero=>simp only[ef] at hx
  | succ d=>
   simp only[ef] at hx;simp only[eN] at hl hk hc hs Pk;obtain⟨v1,_,v3,v4⟩:=Aa.2 th d V E k (c.length+1) hE hx.2;have v5:=uw.2 th E k (c.length+1) (n+1);have h1:=rec d yA th V E k (n+1) (c++[.branch 0 (ed E e)]) (s++[n]) hE hx.2 yA yA PA PA yA;have:=Ip (Q:=Q) hC OR p E0 l i E k (n+1) c s n hE yA yA yA yA e th hx.1 rfl h1 yA yA;have e1:n+oP (.dh e th)=n+1+fG th:=by simp only[oP];omega
   have e2:(eB (.dh e th) E k c.length).2=(cf th E k (c.length+1)).2:=by simp[eB]
   rw[e1,e2]
   simpa only[fI,append_nil] using this
theorem AR:∀ l:List Sm,l.length<=bZ l
 | []=>Nat.le_refl _
 | x::r=>by
  have:=AR r;have h:1<=eN x:=by cases x<;>simp only[eN]<;>omega
  simp only[length_cons,bZ];omega
theorem MC {c:CV}(h:okW c=true){m:List (Nat×Nat)}(h0:(assoc m 0).isSome=true):nu m c=true:=by
 cases c with
 | ax q f=>
  cases f with
  | zero=>
   simp only[okW,beq_iff_eq] at h;subst h;exact h0
  | succ f=>simp[okW,tree] at h
 | agg cs=>simp only[okW,tree] at h;exact aw h m
 | bY cs=>simp only[okW,tree] at h;exact aw h m
 | _=>first | exact h | simp[okW,tree] at h
theorem DN {m:List (Nat×Nat)}{n:Nat}(h0:dW m n 0=0):∀ {e:List (Nat×CV)},(e.all λ x=>okW x.2)=true->cz (dW m n) e=e
 | [],_=>rfl
 | (t,c)::e,h=>by
  simp only[all_cons,Bool.and_eq_true] at h;rw[cz,Hf h.1 _ h0,DN h0 h.2]
theorem ms_le {C:Cx}{s:St}{p:Pg}(OR:C.n0=3)(ks:List Nat)(o:Nat)(ho:5<o){kd:Int}{e:List (Nat×CV)}{E:List En}{k st cl sl:Nat}{cs:List CV}{c':List In}{s':List Nat}(he:pick s.env (41::6::ks)=(41,I kd)::(6,.ax o 0)::e)(O8:(e.all λ x=>okW x.2)=true)
  (h0:assoc s.heap 0=some (gf p E k st 3 cl 4 sl)) (h3:assoc s.heap 3=some (fB c')) (h4:assoc s.heap 4=some (gm s')) (h5:assoc s.heap o=some ⟨207,0,cs⟩) (PQ:trees cs=true) :
  Le C s ⟨(41,I kd)::(6,.ax 5 0)::e,[(0,gf p E k st 3 cl 4 sl),(3,fB c'),(4,gm s'),(5,⟨207,0,cs⟩)],6⟩:=by
 have n0:¬ 0=o:=by omega
 have n3:¬ 3=o:=by omega
 have n4:¬ 4=o:=by omega
 have r0:dW [(0,0),(3,3),(4,4),(o,5)] 6 0=0:=rfl;have r3:dW [(0,0),(3,3),(4,4),(o,5)] 6 3=3:=rfl;have r4:dW [(0,0),(3,3),(4,4),(o,5)] 6 4=4:=rfl;have ro:dW [(0,0),(3,3),(4,4),(o,5)] 6 o=5:=by simp[dW,assoc,n0,n3,n4]
 have ao:(assoc [(0,0),(3,3),(4,4),(o,5)] o).isSome=true:=by simp[assoc,n0,n3,n4]
 have P8:=Le.norm (C:=C) (s:=s) (41::6::ks) [(0,0),(3,3),(4,4),(o,5)] 3 6 (by simp[vD,n0,n3,n4]) (by simp only[all_cons,all_nil,h0,h3,h4,h5];rfl) ?_ yA
 ·rw[he] at P8;simp only[map_cons,map_nil,pick,h0,h3,h4,h5,br,cz] at P8;rw[DN r0 O8,r0,r3,r4,ro,rU,r3,r4,fB,gm,dp _ _ _ (cC c'),dp _ _ _ (bb s'),dp _ _ _ PQ] at P8;simp only[cQ,ro] at P8;exact P8
 ·unfold cO;rw[he];simp only[map_cons,map_nil,pick,h0,h3,h4,h5,all_cons,all_nil,Bool.and_true,Bool.and_eq_true,all_eq_true (l:=e)];refine⟨⟨rfl,ao,λ x hx=>MC ((all_eq_true.1 O8) x hx) rfl⟩,Cp E k st 3 _ 4 _ _ rfl rfl,aw (cC c') _,aw (bb s') _,aw PQ _⟩
structure InvB (p:Pg)(g:Nat)(ps:List Pm)(d:Nat)(l:List Sm)(E:List En)(k st:Nat)(c:List In)(s:List Nat)(i:Nat)(V:List ByteArray)(Ei:List En)(ki TC:Nat)(ci:List In)(si:List Nat):Prop where
 hi:i<=l.length
 he:EW g p.ms (p.fs.map λ f=>(f.name,f.params)) ps V Ei ki
 w:dn p.ms (p.fs.map λ f=>(f.name,f.params)) ps d V (l.drop i)
 l1:Ei.length+bZ (l.drop i)<=5000
 l2:ki+bZ (l.drop i)<=5000
 l3:ci.length+bZ (l.drop i)<=5000
 l4:si.length+bZ (l.drop i)<=5000
 l5:TC+bZ (l.drop i)<=1000000
 r1:(cf l E k c.length).2=(cf (l.drop i) Ei ki ci.length).2
 r2:c++(cf l E k c.length).1=ci++(cf (l.drop i) Ei ki ci.length).1
 r3:s++iW l st=si++iW (l.drop i) TC
 r4:st+fG l=TC+fG (l.drop i)
def JB (p:Pg)(g:Nat)(ps:List Pm)(d:Nat)(l:List Sm)(E:List En)(k st:Nat)(c:List In)(s:List Nat)(m:Nat)(z:St):Prop:=
 ∃ i V Ei ki TC ci si,m=l.length-i/\InvB p g ps d l E k st c s i V Ei ki TC ci si/\z=NS p E l i Ei ki TC ci si
theorem IB {p:Pg}(hp:PgB p){g:Nat}{ps:List Pm}:∀ (d:Nat) (l:List Sm) (V:List ByteArray) (E:List En) (k st:Nat) (c:List In) (s:List Nat),
  EW g p.ms (p.fs.map λ f=>(f.name,f.params)) ps V E k->dn p.ms (p.fs.map λ f=>(f.name,f.params)) ps d V l->E.length+bZ l<=5000->k+bZ l<=5000->c.length+bZ l<=5000->s.length+bZ l<=5000->st+bZ l<=1000000->Gd p l E k st c s:=by
 intro d
 induction d using Nat.strongRecOn with
 | _ d ih=>
 intro l V E k st c s hE hw hl hk hc hs Pk;unfold Gd;refine Body.jb Tryz.func129 rfl GK (by simp[Tryz.ntmps129]) λ C hC OR=>?_;rw[Tryz.ntmps129] at hC;simp only[T3];have q1:=aj (jm p.gs);have q2:=aj (dm p.ms);have q3:=aj (dj p.fs);have q4:=aj (cM E);have q6:=aj (bU l);apply aq;simp[hC,gf];apply aT;simp[hC];apply T.block;refine T.aQ (JB p g ps d l E k st c s) (n:=l.length) ?_ ?_
 ·refine aa.le (Le.up 5 xr) ?_;refine aa.le (lj (p:=p) (E:=E) (k:=k) (st:=st) OR [5,4,0,1] 1 2 (e:=bE E l 0) (c':=c) (s':=s) rfl (pJ _ _ _) (pK _ _ _) rfl rfl rfl rfl (qJ _) rfl rfl rfl) (aa.here ?_);exact⟨0,V,E,k,st,c,s,by omega,⟨by omega,hE,hw,hl,hk,hc,hs,Pk,rfl,rfl,rfl,rfl⟩,rfl⟩
 ·rintro m z ⟨i,Vi,Ei,ki,TC,ci,si,rfl,hI,rfl⟩;by_cases OP:i<l.length
  ·obtain⟨x,Rp⟩:∃ x,l[i]? = some x:=⟨l[i],getElem?_eq_getElem OP⟩;have Q4:l.drop i=x::l.drop (i+1):=by
    rw[drop_eq_getElem_cons OP,(List.getElem?_eq_some_iff.1 Rp).2]
   obtain⟨i1,i2,i3,i4,i5,i6,i7,i8,i9,i10,i11,i12⟩:=hI;rw[Q4] at i3 i4 i5 i6 i7 i8 i9 i10 i11 i12;simp only[dn,bZ,cf,iW,fG] at i3 i4 i5 i6 i7 i8 i9 i10 i11 i12;obtain⟨hx1,RL⟩:=i3;have jF:=λ Q C hC OR=>Jo (C:=C) (Q:=Q) hC OR hp E l i (n:=TC) (c:=ci) (s:=si) i2 hx1 yA yA yA yA yA (λ d' PG l V E k st c s=>ih d' PG l V E k st c s);obtain⟨v1,_,v3,v4,v5⟩:=Aa.1 x d Vi Ei ki ci.length i2 hx1;have v6:=uw.1 x Ei ki ci.length TC;have v7:=yJ.1 x;obtain⟨xc,WQ,Uy⟩:=L6 x;have OS:drop (i*11) (bS l)=iD x++bS (l.drop (i+1)):=by rw[oO,oO];exact aH (f:=iD) (n:=11) kN Rp
   have PV:=AR l;have wi:=cw ((i:Int)+1) yA yA;have wst:=cw ((TC:Int)+1) yA yA;have txc:trees xc=true:=by
    have:=iS x;rw[WQ,trees] at this;exact (Bool.and_eq_true _ _ ▸ this).2
   have Pb:take 10 (xc++bS (l.drop (i+1)))=xc:=by rw[<- Uy,take_left]
   rw[WQ] at OS;simp only[NS,bE];apply aT;simp[hC,OP];refine iI ?_;simp;apply eZ;apply T.seq;refine T.rx ag follows [0,1,2,3,4,5,6,7,8,9,10] [(3,8),(7,8),(7,9)] GK ?_;simp[hC,OP,OS,gf,Uy,Pb];apply aq;simp[hC,wst];apply aq;simp[hC];refine T.le (ms_le (p:=p) (E:=Ei) (k:=ki) (st:=TC+1) (cl:=ci.length) (sl:=si.length) (e:=[(7,I TC),(5,I i),(4,.au (E.flatMap iF) E.length),(0,.ax 0 0),(1,.au (bS l) l.length)]) OR [7,5,4,0,1] 13 yA rfl (by simp[okW,tree]) rfl rfl rfl rfl (by rw[trees,txc];rfl)) ?_;rw[<- WQ];refine T.cutL _ (jF _ C hC OR) ?_;rintro z rfl;simp only[qe,fj,NS,bE];apply aG;simp[hC,wi];have Sp:(Ei++fI ki x).length<=Ei.length+1:=by cases x<;>simp[fI]
   have hde2:1<=eN x:=by cases x<;>simp only[eN]<;>omega
   refine⟨l.length-(i+1),by omega,aa.trim [5,4,0,1] [0,3,4] 5 RY yA ⟨i+1,Vi++ek x,Ei++fI ki x,(eB x Ei ki ci.length).2,TC+oP x,ci++(eB x Ei ki ci.length).1,si++wF x TC,rfl,⟨by omega,v3,RL,by omega,by omega,by simp only[length_append];omega,by simp only[length_append];omega,by omega,?_,?_,?_,?_⟩,?_⟩⟩
   ·rw[i9,length_append]
   ·rw[i10,length_append,append_assoc]
   ·rw[i11,append_assoc]
   ·rw[i12];omega
   ·simp[NS,bE]
  ·have OV:i=l.length:=by have:=hI.hi;omega
   obtain⟨i1,i2,i3,i4,i5,i6,i7,i8,i9,i10,i11,i12⟩:=hI;rw[OV,drop_length] at i9 i10 i11 i12;simp only[cf,iW,fG,append_nil,Nat.add_zero] at i9 i10 i11 i12;simp only[NS,bE];apply aT;simp[hC,OP];refine bh ?_;simp;apply T.exit;simp;apply aG;simp[hC,gf];refine aa.trim [] [0,3,4] 5 RY yA ⟨_,rfl,rfl,?_,rfl⟩;have e1:c.length+(cf l E k c.length).1.length=ci.length:=by rw[<- i10,length_append]
   have e2:s.length+(iW l st).length=si.length:=by rw[<- i11,length_append]
   rw[e1,e2,i9,i10,i11,i12];simp[T4,gf]
end Go.Proofs.YtlkmbdfhdknlgaaGreat
