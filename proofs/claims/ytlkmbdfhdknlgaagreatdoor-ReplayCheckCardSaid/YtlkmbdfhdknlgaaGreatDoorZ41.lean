/- The program's checker: code, cites. -/
import Derived.Test.YtlkmbdfhdknlgaaGreatDoorZ40
namespace Go.Proofs.YtlkmbdfhdknlgaaGreatDoor
open Go.Can Go.aT
def qy (u:Un)(l:List Ru):List CV:=dj u++fe (av u)++[ct l]
def ug (u:Un)(l:List Ru):CV:=.agg (qy u l)
theorem iL (u:Un)(l:List Ru):trees (qy u l)=true:=by
 rw[qy,bu,bu,bB,cM];simp only[trees,iC,Bool.and_self]
theorem tu {u:Un}(hu:jP u)(l:List Ru){ii:Nat}{y:Is}(hy:(av u).is[ii]? = some y):ae Tryz.prog 87 [ug u l,I ii] (.au ((aC u y).flatMap cK) (aC u y).length):=by
 have Nm:=rS hu hy;obtain⟨pq,K2,J9⟩:=Aj Nm;have LX:=(List.getElem?_eq_some_iff.1 K2).1;have NY:=(List.getElem?_eq_some_iff.1 hy).1;have MF:=az (f:=cP) (n:=2) dV hy;have oy:=bb (f:=kR) (n:=5) ig K2 4 yA;have LN:tree (.au ((aC u y).flatMap cK) (aC u y).length)=true:=by simp only[tree]
 refine ae.aD af Tryz.func87 rfl lz (by simp[Tryz.ntmps87]) LN fun C hC xJ=>?_;rw[Tryz.ntmps87] at hC;simp only[ug,qy,dj,fe,ints,ct,List.cons_append,List.nil_append];apply ah;simp[hC];apply T.seq;refine T.rx af follows [0,1,2,3,4,5,6,7,8,9,10,11,12,13] [] lz ?_;simp[hC,NY,MF,cP,LX,oy,kR];apply T.ret;apply aa.here;simp[Tryz.results87,J9]
theorem yW (z:In):∃ (o:Nat) (rest:List CV),lA z=o∧o<9∧List.drop o [CV.bool false,.bool false,.bool true,.bool false,.bool false,.bool false,.bool false,.bool false,.bool false]=.bool (km z)::rest:=by
 cases z with
 | set t g e=>exact⟨1,_,rfl,by omega,rfl⟩
 | call g t l ps=>
  cases g
  ·exact⟨2,_,rfl,by decide,rfl⟩
  ·exact⟨3,_,rfl,by decide,rfl⟩
 | lock un p=>
  cases un
  ·exact⟨4,_,rfl,by decide,rfl⟩
  ·exact⟨5,_,rfl,by decide,rfl⟩
 | branch t e=>exact⟨6,_,rfl,by omega,rfl⟩
 | jump t=>exact⟨7,_,rfl,by omega,rfl⟩
 | ret=>exact⟨8,_,rfl,by omega,rfl⟩
set_option maxRecDepth 100000 in
set_option maxHeartbeats 4000000 in
theorem Bb {u:Un}(hu:jP u)(l:List Ru)(k:Nat)(r:Ru)(hr:l[k]? = some r){ii:Nat}{y:Is}(KC:r.inst=ii)(hy:(av u).is[ii]? = some y)(_hl:l.length≤1000)(pn:Nat)(rl:Int)(z:In)(hz:(aC u y)[pn]? = some z)(lb:Bool):ae Tryz.prog 88 [ug u l,I k,.agg (kY ⟨pn,rl⟩),.bool lb] (.bool (dZ (av u) l k ii z pn rl (lb && r.dU))):=by
 have Ke:=(List.getElem?_eq_some_iff.1 hr).1;have P2:=az (f:=cZ) (n:=3) cj hr;have Mi:=tu hu l hy;have Qy:trees [ug u l,I (ii:Int)]=true:=by simp only[trees,tree,ug,iL,Bool.true_and]
 have NY:=(List.getElem?_eq_some_iff.1 hy).1;have Oi:=(List.getElem?_eq_some_iff.1 hz).1;have KJ:=az (f:=cK) (n:=12) eV hz;obtain⟨xc,Lp,LM⟩:=jG z;rw[Lp] at KJ;obtain⟨o,rest,ho,ho9,Zw⟩:=yW z;have Zy:(o:Int)<9:=by omega
 refine ae.aD af Tryz.func88 rfl lz (by simp[Tryz.ntmps88]) rfl fun C hC xJ=>?_;rw[Tryz.ntmps88] at hC;simp only[ug,qy,dj,fe,ints,ct,kY,List.cons_append,List.nil_append] at Mi Qy ⊢;apply ah;simp[hC];apply ah;simp[hC,Ke,P2,cZ,eU,KC];refine T.seq (T.seq ?_);refine T.rx af follows [0,1,2,4,5,3,6,7,8,9,10,11] [(5,3)] lz ?_;simp[hC];refine RX.call rfl j5 rfl rfl rfl Qy Mi ?_;simp[Oi,KJ,ho,EG,dN,eJ,Zy,Zw]
 cases hc:km z with
 | false=>
  have NM:dZ (av u) l k ii z pn rl (lb && r.dU)=decide (rl=-1):=by simp[dZ,hc]
  refine cz ?_;simp;apply ah;simp[hC];apply T.ret;apply aa.here;simp[Tryz.results88,NM];rw[Bool.eq_iff_iff];simp
 | true=>
  refine dg ?_;simp;refine T.seq (T.seq ?_);by_cases MK:rl<0
  ·have NM:dZ (av u) l k ii z pn rl (lb && r.dU)=false:=by simp[dZ,hc,MK]
   refine T.rx af follows [0,1,2,3,4,5,6,7,8,9,10,11,12,13,14,15,16,17,18,19,20,21,22,23,24,25,26,27,28,29] [] lz ?_;simp[hC,MK];refine cz ?_;simp;apply ah;simp[hC];apply T.ret;apply aa.here;simp[Tryz.results88,NM]
  obtain⟨rn,rfl⟩:∃ rn:Nat,rl=rn:=⟨rl.toNat,by omega⟩;by_cases Lr:(k:Int)≤rn
  ·have NM:dZ (av u) l k ii z pn rn (lb && r.dU)=false:=by simp[dZ,hc,Lr]
   refine T.rx af follows [0,1,2,3,4,5,6,7,8,9,10,11,12,13,14,15,16,17,18,19,20,21,22,23,24,25,26,27,28,29] [] lz ?_;simp[hC,MK,Lr];refine cz ?_;simp;apply ah;simp[hC];apply T.ret;apply aa.here;simp[Tryz.results88,NM]
  obtain⟨q,hq⟩:∃ q,l[rn]? = some q:=⟨_,List.getElem?_eq_getElem yA⟩;have Lc:=(List.getElem?_eq_some_iff.1 hq).1;have M3:=az (f:=cZ) (n:=3) cj hq;have LP:=bb (f:=cZ) (n:=3) cj hq 1 yA;obtain⟨row,KL,Kl,X3⟩:=xj hu hy hz hc;have Mr:=uS ints KL;have NF:=uS um Kl;have Ma:=(List.getElem?_eq_some_iff.1 KL).1;have KR:=(List.getElem?_eq_some_iff.1 Kl).1;have K9:=xT (lr:=lb && r.dU) hc MK Lr hq KL Kl;rw[K9];generalize sH (av u) ii pn=kn at *;by_cases Nd:q.inst=kn
  case neg=>
   have NM:q.inst≠kn:=Nd;have Nb:(q.inst != (kn:Int))=true:=by rw[bne_iff_ne];exact Nd
   refine T.rx af follows [0,1,2,3,4,5,6,7,8,9,10,11,12,13,14,15,16,17,18,19,20,21,22,23,24,25,26,27,28,29] [] lz ?_;simp[hC,MK,Lr,Lc,M3,cZ,Mr,Ma,NF,KR,ints,Nb];refine cz ?_;simp;apply ah;simp[hC];apply T.ret;apply aa.here;simp[Tryz.results88,NM]
  have Nb:(q.inst != (kn:Int))=false:=by rw[bne_eq_false_iff_eq];exact Nd
  refine T.rx af follows [0,1,2,3,4,5,6,7,8,9,10,11,12,13,14,15,16,17,18,19,20,21,22,23,24,25,26,27,28,29] [] lz ?_;simp[hC,MK,Lr,Lc,M3,cZ,Mr,Ma,NF,KR,ints,Nb];refine dg ?_;simp
  cases N1:q.dU with
  | false=>
   apply ah;simp[hC,Lc,LP,cZ,N1];apply T.ret;apply aa.here;simp[Tryz.results88,Nd]
  | true=>
   cases lb with
   | false=>
    apply ah;simp[hC,Lc,LP,cZ,N1];apply T.ret;apply aa.here;simp[Tryz.results88]
   | true=>
    apply ah;simp[hC,Lc,LP,cZ,N1];apply T.ret;apply aa.here;simp[Tryz.results88,Nd]
theorem Dq (g k:Nat):ae Tryz.prog 152 [.agg [I g],I k] (aN [g]):=by
 refine ae.aD af Tryz.func152 rfl lz (by simp[Tryz.ntmps152]) (aP _) fun C hC xJ=>?_;rw[Tryz.ntmps152] at hC;apply ah;simp[hC];apply ah;simp[hC];apply T.ret;refine aa.le (Le.trim [4] [1] 2 j5 yA) ?_;simp;refine aa.le (Le.dC (o:=1) rfl rfl) ?_;apply aa.here;simp[aN]
theorem El (g k:Nat)(hk:k≤1000000):ae Tryz.prog 153 [.agg [I g],I k] (aN (if g=k+1 then [g] else [min g (k+1),max g (k+1)])):=by
 have wk:=cm ((k:Int)+1) yA yA;refine ae.aD af Tryz.func153 rfl lz (by simp[Tryz.ntmps153]) (aP _) fun C hC xJ=>?_;rw[Tryz.ntmps153] at hC;apply ah;simp[hC];apply aL;simp[hC,wk];by_cases h:g=k+1
 ·subst h;simp;refine cz ?_;simp;apply ah;simp[hC];apply T.ret;simp;refine aa.le (Le.trim [4] [1] 2 j5 yA) ?_;simp;refine aa.le (Le.dC (o:=1) rfl rfl) ?_;apply aa.here;simp[aN]
 ·have F0:(((g:Int) == (k:Int)+1))=false:=by rw[beq_eq_false_iff_ne];omega
  refine T.cond (b:=false) (by simp only[ev,assoc,F0];rfl) (T.skip ?_);rw[if_neg h];have LD:(if (k:Int)+1<(g:Int) then (k:Int)+1 else (g:Int))=((min g (k+1):Nat):Int):=by split<;>omega
  have MA:(if (g:Int)<(k:Int)+1 then (k:Int)+1 else (g:Int))=((max g (k+1):Nat):Int):=by split<;>omega
  generalize min g (k+1)=A at LD ⊢;generalize max g (k+1)=B at MA ⊢;simp;apply ah;simp[hC,wk,LD,MA];apply T.ret;refine aa.le (Le.trim [4] [1] 2 j5 yA) ?_;simp;refine aa.le (Le.dC (o:=1) rfl rfl) ?_;apply aa.here;simp[aN]
theorem DV (k:Nat):ae Tryz.prog 151 [.agg [],I k] (aN []):=by
 refine ae.aD af Tryz.func151 rfl lz (by simp[Tryz.ntmps151]) (aP _) fun C hC xJ=>?_;rw[Tryz.ntmps151] at hC;apply ah;simp[hC];apply ah;simp[hC];apply T.ret;refine aa.le (Le.trim [4] [] 0 j5 yA) ?_;simp;refine aa.le (Le.nz [4] []) ?_;apply aa.here;simp[aN]
theorem Cn (k:Nat)(hk:k≤1000000):ae Tryz.prog 154 [.agg [],I k] (aN [k+1]):=by
 have wk:=cm ((k:Int)+1) yA yA;refine ae.aD af Tryz.func154 rfl lz (by simp[Tryz.ntmps154]) (aP _) fun C hC xJ=>?_;rw[Tryz.ntmps154] at hC;apply ah;simp[hC];apply ah;simp[hC,wk];apply T.ret;refine aa.le (Le.trim [4] [1] 2 j5 yA) ?_;simp;refine aa.le (Le.dC (o:=1) rfl rfl) ?_;apply aa.here;simp[aN]
def rQ:In→CV
 | .ret=>.iface 209 [.agg []]
 | .jump g=>.iface 211 [.agg [I g]]
 | .branch g _=>.iface 212 [.agg [I g]]
 | _=>.iface 213 [.agg []]
set_option maxRecDepth 100000 in
theorem zg (z:In):ae Tryz.prog 92 [.agg (cK z)] (rQ z):=by
 have MT:=lF z;obtain⟨xc,Lp,LM⟩:=jG z;obtain⟨c1,c2,c3,c4,c5,c6,c7,c8,c9,RM,RL,rfl⟩:=xh LM;rw[Lp] at MT ⊢;simp only[List.all_cons,List.all_nil,Bool.and_true,Bool.and_eq_true] at MT;obtain⟨_,o1,o2,o3,o4,o5,o6,o7,o8,o9,Up,Uo⟩:=MT;have LN:tree (rQ z)=true:=by cases z<;>rfl
 refine ae.aD af Tryz.func92 rfl lz (by simp[Tryz.ntmps92]) LN fun C hC xJ=>?_;rw[Tryz.ntmps92] at hC;apply ah;simp[hC]
 cases z with
 | ret=>
  rw[show lA In.ret=8 from rfl];apply aL;simp[hC];apply T.block;apply ah;simp[hC];refine cz ?_;simp;refine T.seq (T.region (TL.some af 1 ?_));simp[hC];refine jl rfl (fT (d:=.a6 []) (c:=.agg []) af yI rfl j5 rfl (fun h=>by cases h)) (TL.go' af ?_);simp[hC];apply T.ret;simp;refine aa.le (Le.trim [2] [] 0 j5 yA) ?_;simp;apply aa.here;simp[rQ]
 | jump g=>
  have Oc:c1=I g:=by
   have h:=congrArg (fun l=>l.drop 1) Lp;simp[cK] at h;exact h.1.symm
  subst Oc;rw[show lA (In.jump g)=7 from rfl];apply aL;simp[hC];apply T.block;apply ah;simp[hC];refine aU ?_;simp;apply ah;simp[hC];refine cz ?_;simp;refine T.seq (T.region (TL.some af 3 ?_));simp[hC];refine jl rfl (fT (d:=.a6 [(0,3)]) (c:=.agg [I g]) af yI rfl j5 rfl (fun h=>by cases h)) (TL.go' af ?_);simp[hC];apply T.ret;simp;refine aa.le (Le.trim [2] [] 0 j5 yA) ?_;simp;apply aa.here;simp[rQ]
 | branch g e=>
  have Oc:c1=I g:=by
   have h:=congrArg (fun l=>l.drop 1) Lp;simp[cK] at h;exact h.1.symm
  subst Oc;rw[show lA (In.branch g e)=6 from rfl];apply aL;simp[hC];apply T.block;apply ah;simp[hC];refine aU ?_;simp;apply ah;simp[hC];refine aU ?_;simp;apply ah;simp[hC];refine cz ?_;simp;refine T.seq (T.region (TL.some af 3 ?_));simp[hC];refine jl rfl (fT (d:=.a6 [(0,3)]) (c:=.agg [I g]) af yI rfl j5 rfl (fun h=>by cases h)) (TL.go' af ?_);simp[hC];apply T.ret;simp;refine aa.le (Le.trim [2] [] 0 j5 yA) ?_;simp;apply aa.here;simp[rQ]
 | set t gl e=>
  rw[show lA (In.set t gl e)=1 from rfl];apply aL;simp[hC];apply T.block;apply ah;simp[hC];refine aU ?_;simp;apply ah;simp[hC];refine aU ?_;simp;apply ah;simp[hC];refine dg ?_;simp;refine T.seq (T.region (TL.some af 1 ?_));simp[hC];refine jl rfl (fT (d:=.a6 []) (c:=.agg []) af yI rfl j5 rfl (fun h=>by cases h)) (TL.go' af ?_);simp[hC];apply T.ret;refine aa.le (Le.trim [2] [] 0 j5 yA) ?_;simp;apply aa.here;simp[rQ]
 | call g t l ps=>
  cases g with
  | true=>
   rw[show lA (In.call true t l ps)=3 from rfl];apply aL;simp[hC];apply T.block;apply ah;simp[hC];refine aU ?_;simp;apply ah;simp[hC];refine aU ?_;simp;apply ah;simp[hC];refine dg ?_;simp;refine T.seq (T.region (TL.some af 1 ?_));simp[hC];refine jl rfl (fT (d:=.a6 []) (c:=.agg []) af yI rfl j5 rfl (fun h=>by cases h)) (TL.go' af ?_);simp[hC];apply T.ret;refine aa.le (Le.trim [2] [] 0 j5 yA) ?_;simp;apply aa.here;simp[rQ]
  | false=>
   rw[show lA (In.call false t l ps)=2 from rfl];apply aL;simp[hC];apply T.block;apply ah;simp[hC];refine aU ?_;simp;apply ah;simp[hC];refine aU ?_;simp;apply ah;simp[hC];refine dg ?_;simp;refine T.seq (T.region (TL.some af 1 ?_));simp[hC];refine jl rfl (fT (d:=.a6 []) (c:=.agg []) af yI rfl j5 rfl (fun h=>by cases h)) (TL.go' af ?_);simp[hC];apply T.ret;refine aa.le (Le.trim [2] [] 0 j5 yA) ?_;simp;apply aa.here;simp[rQ]
 | lock un p=>
  cases un with
  | true=>
   rw[show lA (In.lock true p)=5 from rfl];apply aL;simp[hC];apply T.block;apply ah;simp[hC];refine aU ?_;simp;apply ah;simp[hC];refine aU ?_;simp;apply ah;simp[hC];refine dg ?_;simp;refine T.seq (T.region (TL.some af 1 ?_));simp[hC];refine jl rfl (fT (d:=.a6 []) (c:=.agg []) af yI rfl j5 rfl (fun h=>by cases h)) (TL.go' af ?_);simp[hC];apply T.ret;refine aa.le (Le.trim [2] [] 0 j5 yA) ?_;simp;apply aa.here;simp[rQ]
  | false=>
   rw[show lA (In.lock false p)=4 from rfl];apply aL;simp[hC];apply T.block;apply ah;simp[hC];refine aU ?_;simp;apply ah;simp[hC];refine aU ?_;simp;apply ah;simp[hC];refine dg ?_;simp;refine T.seq (T.region (TL.some af 1 ?_));simp[hC];refine jl rfl (fT (d:=.a6 []) (c:=.agg []) af yI rfl j5 rfl (fun h=>by cases h)) (TL.go' af ?_);simp[hC];apply T.ret;refine aa.le (Le.trim [2] [] 0 j5 yA) ?_;simp;apply aa.here;simp[rQ]
def ctlM : gh := [((209, "lockorder/flow.next"), 151), ((211, "lockorder/flow.next"), 152), ((212, "lockorder/flow.next"), 153), ((213, "lockorder/flow.next"), 154)]
theorem F1:gM Tryz.prog ctlM:=mZ lz
theorem D3 (z : In) {k : Nat} (hk : k ≤ 1000000) : ∃ (t : Nat) (v : CV) (g : Nat), rQ z = .iface t [v] ∧ tK ctlM t "lockorder/flow.next" = some g ∧ tree v = true ∧ ae Tryz.prog g [v, I k] (aN (qp z k)) := by
 cases z with
 | ret=>exact⟨_,_,_,rfl,by rfl,rfl,DV k⟩
 | jump g=>exact⟨_,_,_,rfl,by rfl,rfl,Dq g k⟩
 | branch g e=>exact⟨_,_,_,rfl,by rfl,rfl,El g k hk⟩
 | _=>exact⟨_,_,_,rfl,by rfl,rfl,Cn k hk⟩
theorem wF {u:Un}(hu:jP u){x:Is}(hx:p6 u x){k:Nat}{z:In}(hz:(aC u x)[k]? = some z)(hk:k≤1000000):ae Tryz.prog 60 [dt u,.agg (cP x),I k] (aN (qp z k)):=by
 have Mi:=wK hu hx hz;have NT:=zg z;have Kd:=bB u;have ti:=bL x;have NL:=gw z;obtain⟨t,v,g,e1,e2,e3,e4⟩:=D3 z hk;have t2:trees [dt u,.agg (cP x),I k]=true:=by simp only[trees,tree,dt,Kd,ti,Bool.and_self]
 have t3:trees [.agg (cK z)]=true:=by simp only[trees,tree,NL,Bool.and_self]
 have t4:trees [v,I k]=true:=by simp only[trees,e3];rfl
 rw[e1] at NT;refine ae.aD af Tryz.func60 rfl lz (by simp[Tryz.ntmps60]) (aP _) fun C hC xJ=>?_;rw[Tryz.ntmps60] at hC;simp only[dt,dj,cP,ints] at Mi t2 ⊢;apply ah;simp[hC];apply ah;simp[hC];refine dk t2 Mi ?_;simp;refine dk t3 NT ?_;simp[hC];apply ah;simp[hC];refine Gt yI rfl (uq.to F1 rfl (by simp[gG,ev,vF,assoc,e2]) e4.1) t4 e4 (TL.go' af ?_);simp[hC];apply T.ret;apply aa.here;simp[Tryz.results60]
def hp8 (u:Un)(l:List Ru)(r:Ru):List (Nat×Ob):=[(1,⟨55,0,cZ r⟩),(0,⟨142,0,qy u l⟩)]
def J205 (u:Un)(l:List Ru)(k ii:Nat)(r:Ru)(x:Is)(n:Nat)(s:St):Prop:=∃ (i:Nat) (ws:List Nat),n=r.items.length-i∧i≤r.items.length∧ws.length≤2∧lE u (av u) l k ii r.dU x r.items [0]=lE u (av u) l k ii r.dU x (r.items.drop i) ws∧
 s=⟨[(47,I i),(46,I r.items.length),(45,eU r.items),(7,aN ws),(6,.au ((aC u x).flatMap cK) (aC u x).length),(5,.ai 1 0),(2,.ai 0 0),(1,I k)],hp8 u l r,2⟩
set_option maxRecDepth 100000 in
set_option maxHeartbeats 4000000 in
theorem AZ {u:Un}(hu:jP u)(l:List Ru)(k:Nat)(r:Ru)(hr:l[k]? = some r)(hl:l.length≤1000)(hi:r.items.length≤1000):ae Tryz.prog 57 [ug u l,I k] (.bool (cO u (av u) l k r)):=by
 have Ke:=(List.getElem?_eq_some_iff.1 hr).1;have P2:=az (f:=cZ) (n:=3) cj hr;have Oy:=iL u l;obtain⟨Oc,UK⟩:=vn hu;refine ae.aD af Tryz.func57 rfl lz (by simp[Tryz.ntmps57]) rfl fun C hC xJ=>?_;rw[Tryz.ntmps57] at hC;simp only[ug,qy,dj,fe,ints,ct,List.cons_append,List.nil_append] at Oy ⊢;apply ah;simp[hC];apply ah;simp[hC,Ke,P2,cZ,eU];by_cases h0:r.inst<0
 ·have hv:cO u (av u) l k r=false:=by simp[cO,h0]
  apply aL;simp[hC,h0];refine cz ?_;simp;apply ah;simp[hC];apply T.ret;apply aa.here;simp[Tryz.results57,hv]
 obtain⟨ii,KC⟩:∃ ii:Nat,r.inst=ii:=⟨r.inst.toNat,by omega⟩;have OL:¬ (ii:Int)<0:=by omega
 by_cases h1:ii<(av u).is.length
 case neg=>
  have hv:cO u (av u) l k r=false:=by simp[cO,KC,List.getElem?_eq_none (by omega:(av u).is.length≤ii)]
  have Mz:((av u).is.length:Int)≤ii:=by omega
  apply aL;simp[hC,KC,OL,Mz];refine cz ?_;simp;apply ah;simp[hC];apply T.ret;apply aa.here;simp[Tryz.results57,hv]
 obtain⟨x,hx⟩:∃ x,(av u).is[ii]? = some x:=⟨_,List.getElem?_eq_getElem h1⟩;have hv:cO u (av u) l k r=((r.dU || !r.items.isEmpty) && lE u (av u) l k ii r.dU x r.items [0]):=by simp[cO,KC,hx]
 have K5:=rS hu hx;have MF:=az (f:=cP) (n:=2) dV hx;have Mz:¬ ((av u).is.length:Int)≤ii:=by omega
 have Mi:=tu hu l hx;have Qy:trees [ug u l,I (ii:Int)]=true:=by simp only[trees,tree,ug,iL,Bool.true_and]
 simp only[ug,qy,dj,fe,ints,ct,List.cons_append,List.nil_append] at Mi Qy;have De:=gX hu x;by_cases Sc:r.dU=false∧r.items.length=0
 ·have L4:=List.eq_nil_of_length_eq_zero Sc.2;have NM:cO u (av u) l k r=false:=by rw[hv,Sc.1,L4];rfl
  apply aL;simp[hC,KC,OL,Mz,Sc.1,Sc.2];refine cz ?_;simp;apply ah;simp[hC];apply T.ret;apply aa.here;simp[Tryz.results57,NM]
 have NM:cO u (av u) l k r=lE u (av u) l k ii r.dU x r.items [0]:=by
  rw[hv];have:(r.dU || !r.items.isEmpty)=true:=by
   cases ho:r.dU with
   | true=>rfl
   | false=>
    cases Fl:r.items with
    | nil=>exact (Sc ⟨ho,by rw[Fl];rfl⟩).elim
    | cons a t=>rfl
  rw[this,Bool.true_and]
 refine T.cut (fun s=>s=⟨[(5,.ai 1 0),(2,.ai 0 0),(1,I k)],[(1,⟨55,0,[I ii,.bool r.dU,.au (r.items.flatMap kY) r.items.length]⟩),(0,⟨142,0,[.au (u.gs.map fun n=>I n) u.gs.length,.au (u.ms.flatMap eQ) u.ms.length,.au (u.ps.flatMap kR) u.ps.length,I u.main,.au ((av u).is.flatMap cP) (av u).is.length,.au ((av u).calls.map ints) (av u).calls.length,aN (av u).roots,.au (l.flatMap cZ) l.length]⟩)],2⟩) ?_ ?_
 ·cases ho:r.dU with
  | true=>
   apply ah;simp[hC,KC,OL,Mz];refine dg ?_;simp;refine aa.trim [5,2,1] [1,0] 2 Sp yA ?_;simp
  | false=>
   have F0:((r.items.length:Int) == 0)=false:=by rw[beq_eq_false_iff_ne];intro h;exact Sc ⟨ho,by omega⟩
   apply ah;simp[hC,KC,OL,Mz,F0];refine T.cond (b:=false) (by first | rfl | simp[ev,assoc,F0]) (T.skip ?_);simp;refine aa.trim [5,2,1] [1,0] 2 Sp yA ?_;simp
 rintro s rfl;apply ah;simp[hC];refine dk Qy Mi ?_;simp[hC];refine T.le (Le.dC (o:=2) rfl rfl) ?_;simp[mc];apply aL;simp[hC];apply T.block;refine T.aI (J205 u l k ii r x) (n:=r.items.length) ?_ ?_
 ·refine aa.trim [47,46,45,7,6,5,2,1] [1,0] 2 Sp yA ⟨0,[0],by omega,by omega,by simp,by simp,?_⟩;simp[hp8,qy,dj,fe,ints,aN,cZ,eU,ct,KC]
 ·rintro n s ⟨i,ws,rfl,Kz,QV,hD,rfl⟩;rw[← NM] at hD;simp only[hp8,qy,dj,fe,ints,ct,cZ,eU,KC,List.cons_append,List.nil_append];by_cases nr:i<r.items.length
  ·obtain⟨it,Fl⟩:∃ it,r.items[i]? = some it:=⟨_,List.getElem?_eq_getElem nr⟩;have ND:=az (f:=kY) (n:=2) iq Fl;have wi:=cm ((i:Int)+1) yA yA;have wn:=cm ((r.items.length:Int)-1) yA yA;have Tt:((i:Int) == (r.items.length:Int)-1)=(r.items.drop (i+1)).isEmpty:=by
    rw[Bool.eq_iff_iff,beq_iff_eq,List.isEmpty_iff,List.drop_eq_nil_iff];omega
   rw[rP Fl,lE] at hD;generalize Wd:(r.items.drop (i+1)).isEmpty=lb at Tt hD;obtain⟨p,rl⟩:=it;simp only at hD;apply ah;simp[hC,nr];refine T.seq (T.cond (b:=true) rfl (T.skip ?_));simp;apply fw;apply ah;simp[hC,nr,ND,kY];apply ah;simp[hC,wn,Tt];by_cases Nw:p<0
   ·have hn:fS u x p=none:=by simp[fS,Nw]
    simp only[hn] at hD;apply aL;simp[hC,Nw];refine T.cond (b:=true) (by first | rfl | simp[ev,assoc, *]) ?_;simp;apply ah;simp[hC];apply T.ret;apply aa.here;simp[Tryz.results57,hD]
   obtain⟨pn,rfl⟩:∃ pn:Nat,p=pn:=⟨p.toNat,by omega⟩;have Pn:¬ (pn:Int)<0:=by omega
   by_cases Mf:pn<(aC u x).length
   case neg=>
    have hn:fS u x (pn:Int)=none:=by simp[fS,List.getElem?_eq_none (by omega:(aC u x).length≤pn)]
    have Q7:((aC u x).length:Int)≤pn:=by omega
    simp only[hn] at hD;apply aL;simp[hC,Pn,Q7];refine T.cond (b:=true) (by first | rfl | simp[ev,assoc, *]) ?_;simp;apply ah;simp[hC];apply T.ret;apply aa.here;simp[Tryz.results57,hD]
   obtain⟨z,hz⟩:∃ z,(aC u x)[pn]? = some z:=⟨_,List.getElem?_eq_getElem Mf⟩;have hn:fS u x (pn:Int)=some z:=by simp[fS,hz]
   have Q7:¬ ((aC u x).length:Int)≤pn:=by omega
   have KJ:=az (f:=cK) (n:=12) eV hz;obtain⟨xc,Lp,LM⟩:=jG z;rw[Lp] at KJ;simp only[hn,Int.toNat_natCast] at hD;have Sr:trees [aN ws,I (pn:Int)]=true:=by simp only[trees,aP,Bool.true_and];rfl
   have LF:=ku ws (pn:Int) yA;rw[z5] at LF;apply aL;simp[hC,Pn,Q7];refine TL.bG yI rfl rfl rfl rfl (bm.of rfl Sr LF) (TL.go' af ?_);by_cases hw:pn∈ws
   case neg=>
    simp only[hw,decide_false,Bool.false_and] at hD;simp[hC,hw];refine T.cond (b:=true) (by first | rfl | simp[ev,assoc, *]) ?_;simp;apply ah;simp[hC];apply T.ret;apply aa.here;simp[Tryz.results57,hD]
   simp only[hw,decide_true,Bool.true_and] at hD;simp[hC,hw];refine dg ?_;simp;refine T.le (Le.trim [10,9,47,46,45,7,6,5,2,1] [2,1,0] 3 RS yA) ?_;simp;have KX:=zL z;have NT:=Bb hu l k r hr KC hx hl pn rl z hz lb;have PT:trees [ug u l,I (k:Int),.agg (kY ⟨pn,rl⟩),.bool lb]=true:=by simp only[trees,tree,ug,iL,Bool.true_and];rfl
   simp only[ug,qy,dj,fe,ints,ct,kY,List.cons_append,List.nil_append] at NT PT;refine T.cut (fun s=>(uK z == (lb && !r.dU))=true∧dZ (av u) l k ii z pn rl (lb && r.dU)=true∧s=⟨[(10,.bool lb),(9,.ai 2 0),(47,I i),(46,I r.items.length),(45,.au (r.items.flatMap kY) r.items.length),(7,aN ws),(6,.au ((aC u x).flatMap cK) (aC u x).length),(5,.ai 1 0),(2,.ai 0 0),(1,I k)],[(2,⟨77,0,[I pn,I rl]⟩),(1,⟨55,0,[I ii,.bool r.dU,.au (r.items.flatMap kY) r.items.length]⟩),(0,⟨142,0,[.au (u.gs.map fun n=>I n) u.gs.length,.au (u.ms.flatMap eQ) u.ms.length,.au (u.ps.flatMap kR) u.ps.length,I u.main,.au ((av u).is.flatMap cP) (av u).is.length,.au ((av u).calls.map ints) (av u).calls.length,aN (av u).roots,.au (l.flatMap cZ) l.length]⟩)],3⟩) ?_ ?_
   ·apply T.seq;cases hR:uK z
    case false=>
     cases lb
     case false=>
      cases ho:r.dU
      case false=>
       rw[ho] at NT;refine T.rx af follows [0,1,2,3,4,5,6,7,8,9,10,11,12,13,14,15,16,17,18,19,20,21] [] lz ?_;simp[hC,Mf,KJ,KX,hR];refine RX.call rfl j5 rfl rfl rfl PT NT ?_
       cases K9:dZ (av u) l k ii z pn rl (false && false) with
       | false=>
        rw[hR,ho,K9] at hD;simp at hD;simp;refine cz ?_;simp;apply ah;simp[hC];apply T.ret;apply aa.here;simp[Tryz.results57,hD]
       | true=>
        simp;refine dg ?_;simp;refine aa.trim [10,9,47,46,45,7,6,5,2,1] [2,1,0] 3 RS yA ?_
        simpa [ho] using K9
      case true=>
       rw[ho] at NT;refine T.rx af follows [0,1,2,3,4,5,6,7,8,9,10,11,12,13,14,15,16,17,18,19,20,21] [] lz ?_;simp[hC,Mf,KJ,KX,hR];refine RX.call rfl j5 rfl rfl rfl PT NT ?_
       cases K9:dZ (av u) l k ii z pn rl (false && true) with
       | false=>
        rw[hR,ho,K9] at hD;simp at hD;simp;refine cz ?_;simp;apply ah;simp[hC];apply T.ret;apply aa.here;simp[Tryz.results57,hD]
       | true=>
        simp;refine dg ?_;simp;refine aa.trim [10,9,47,46,45,7,6,5,2,1] [2,1,0] 3 RS yA ?_
        simpa [ho] using K9
     case true=>
      cases ho:r.dU
      case false=>
       rw[hR,ho] at hD;simp at hD;refine T.rx af follows [0,1,2,3,4,5,6,7,8,9,10,11,12,13,14,15,16,17,18,19,20,21] [] lz ?_;simp[hC,Mf,KJ,KX,hR];refine cz ?_;simp;apply ah;simp[hC];apply T.ret;apply aa.here;simp[Tryz.results57,hD]
      case true=>
       rw[ho] at NT;refine T.rx af follows [0,1,2,3,4,5,6,7,8,9,10,11,12,13,14,15,16,17,18,19,20,21] [] lz ?_;simp[hC,Mf,KJ,KX,hR];refine RX.call rfl j5 rfl rfl rfl PT NT ?_
       cases K9:dZ (av u) l k ii z pn rl (true && true) with
       | false=>
        rw[hR,ho,K9] at hD;simp at hD;simp;refine cz ?_;simp;apply ah;simp[hC];apply T.ret;apply aa.here;simp[Tryz.results57,hD]
       | true=>
        simp;refine dg ?_;simp;refine aa.trim [10,9,47,46,45,7,6,5,2,1] [2,1,0] 3 RS yA ?_
        simpa [ho] using K9
    case true=>
     cases lb
     case false=>
      cases ho:r.dU
      case false=>
       rw[hR,ho] at hD;simp at hD;refine T.rx af follows [0,1,2,3,4,5,6,7,8,9,10,11,12,13,14,15,16,17,18,19,20,21] [] lz ?_;simp[hC,Mf,KJ,KX,hR];refine cz ?_;simp;apply ah;simp[hC];apply T.ret;apply aa.here;simp[Tryz.results57,hD]
      case true=>
       rw[hR,ho] at hD;simp at hD;refine T.rx af follows [0,1,2,3,4,5,6,7,8,9,10,11,12,13,14,15,16,17,18,19,20,21] [] lz ?_;simp[hC,Mf,KJ,KX,hR];refine cz ?_;simp;apply ah;simp[hC];apply T.ret;apply aa.here;simp[Tryz.results57,hD]
     case true=>
      cases ho:r.dU
      case false=>
       rw[ho] at NT;refine T.rx af follows [0,1,2,3,4,5,6,7,8,9,10,11,12,13,14,15,16,17,18,19,20,21] [] lz ?_;simp[hC,Mf,KJ,KX,hR];refine RX.call rfl j5 rfl rfl rfl PT NT ?_
       cases K9:dZ (av u) l k ii z pn rl (true && false) with
       | false=>
        rw[hR,ho,K9] at hD;simp at hD;simp;refine cz ?_;simp;apply ah;simp[hC];apply T.ret;apply aa.here;simp[Tryz.results57,hD]
       | true=>
        simp;refine dg ?_;simp;refine aa.trim [10,9,47,46,45,7,6,5,2,1] [2,1,0] 3 RS yA ?_
        simpa [ho] using K9
      case true=>
       rw[hR,ho] at hD;simp at hD;refine T.rx af follows [0,1,2,3,4,5,6,7,8,9,10,11,12,13,14,15,16,17,18,19,20,21] [] lz ?_;simp[hC,Mf,KJ,KX,hR];refine cz ?_;simp;apply ah;simp[hC];apply T.ret;apply aa.here;simp[Tryz.results57,hD]
   rintro s ⟨R7,WQ,rfl⟩;rw[R7,WQ,Bool.true_and,Bool.true_and] at hD;have KB:=wF hu K5 hz yA;have ti:=bL x;have Nl:trees [dt u,.agg (cP x),I (pn:Int)]=true:=by simp only[trees,tree,dt,bB,ti,Bool.and_self]
   have Tp:=qo z pn;simp only[dt,dj,cP,ints] at KB Nl;refine T.rx af follows [0,1,2,3,4,5,6,7,8,9,10,11,12] [] lz ?_;simp[hC,h1,MF,cP];refine RX.call rfl j5 rfl rfl rfl Nl KB ?_;simp;apply a8;simp[hC,wi];refine⟨r.items.length-(i+1),by omega,aa.trim [47,46,45,7,6,5,2,1] [1,0] 2 RS yA ⟨i+1,qp z pn,rfl,by omega,Tp,by rw[← NM];exact hD,?_⟩⟩;simp[hp8,qy,dj,fe,ints,aN,cZ,eU,ct,KC]
  ·have CW:i=r.items.length:=by omega
   subst CW;rw[List.drop_length,lE] at hD;apply ah;simp[hC];refine T.seq (T.cond (b:=false) rfl ?_);simp;apply T.exit;simp;apply ah;simp[hC];apply T.ret;apply aa.here;simp[Tryz.results57,hD]
def hp9 (u:Un)(l:List Ru)(r:Ru)(e:Et):List (Nat×Ob):=[(3,⟨47,0,dD e⟩),(2,⟨55,0,cZ r⟩),(1,⟨47,0,[I 0,I 0,I 0]⟩),(0,⟨142,0,qy u l⟩)]
def J206 (u:Un)(l:List Ru)(r:Ru)(y:Is)(m:Nat)(L1:List Et)(n:Nat)(s:St):Prop:=∃ (j:Nat) (e:Et),n=r.items.length-j∧j≤r.items.length∧qd u y m L1 r.items ⟨0,0,0⟩=qd u y m L1 (r.items.drop j) e∧
 s=⟨[(23,I j),(22,I r.items.length),(21,eU r.items),(10,.ai 3 0),(9,.ai 2 0),(8,.ai 1 0),(4,.ai 0 0),(2,I m),(3,jJ L1)],hp9 u l r e,4⟩
set_option maxRecDepth 100000 in
set_option maxHeartbeats 4000000 in
theorem uQ {u:Un}(hu:jP u)(l:List Ru)(k:Nat)(r:Ru)(hr:l[k]? = some r)(hi:r.items.length≤1000){ii:Nat}{y:Is}(KC:r.inst=ii)(hy:(av u).is[ii]? = some y)(LO:lE u (av u) l k ii r.dU y r.items [0]=true)(m:Nat)(L1:List Et)(Nh:L1.length=k):ae Tryz.prog 58 [ug u l,I k,I m,jJ L1] (.agg (dD (qd u y m L1 r.items ⟨0,0,0⟩))):=by
 have Ke:=(List.getElem?_eq_some_iff.1 hr).1;have P2:=az (f:=cZ) (n:=3) cj hr;have Oy:=iL u l;have teb:=eB L1;have Nm:=rS hu hy;have NY:=(List.getElem?_eq_some_iff.1 hy).1;have MF:=az (f:=cP) (n:=2) dV hy;have Kq:=od _ _ LO;refine ae.aD af Tryz.func58 rfl lz (by simp[Tryz.ntmps58]) rfl fun C hC xJ=>?_;rw[Tryz.ntmps58] at hC;simp only[ug,qy,dj,fe,ints,ct,List.cons_append,List.nil_append] at Oy ⊢;apply ah;simp[hC];apply ah;simp[hC,Ke,P2,cZ,eU,KC];apply aL;simp[hC];apply T.block;refine T.aI (J206 u l r y m L1) (n:=r.items.length) ?_ ?_
 ·refine aa.trim [23,22,21,10,9,8,4,2,3] [3,2,1,0] 4 U2 yA ⟨0,⟨0,0,0⟩,by omega,by omega,by simp,?_⟩;simp[hp9,qy,dj,fe,ints,aN,cZ,eU,ct,KC,dD]
 ·rintro n s ⟨j,e,rfl,Yg,hE,rfl⟩;simp only[hp9,qy,dj,fe,ints,ct,cZ,eU,KC,dD,List.cons_append,List.nil_append];by_cases KT:j<r.items.length
  ·obtain⟨it,Fl⟩:∃ it,r.items[j]? = some it:=⟨_,List.getElem?_eq_getElem KT⟩;have ND:=az (f:=kY) (n:=2) iq Fl;have wj:=cm ((j:Int)+1) yA yA;obtain⟨z,Pa,Nw,hz,Lc⟩:=Kq it (List.mem_of_getElem? Fl);obtain⟨p,rl⟩:=it;obtain⟨pn,rfl⟩:∃ pn:Nat,p=pn:=⟨p.toNat,by simp only at Nw;omega⟩;simp only[Int.toNat_natCast] at hz Pa Lc;rw[rP Fl,ua] at hE;have OC:=gX hu y;have Qh:=(List.getElem?_eq_some_iff.1 hz).1;have NH:=yS hu Nm hz m;have ti:=bL y;have XE:trees [dt u,.agg (cP y),I (pn:Int),I (m:Int)]=true:=by simp only[trees,tree,dt,bB,ti,Bool.and_self]
   have UA:=pof_e (dO y m z);have Ns:=CO e (sA u y m L1 ⟨pn,rl⟩);simp only[dt,dj,cP,ints] at NH XE;simp only[dD] at UA Ns;apply ah;simp[hC,KT];refine T.seq (T.cond (b:=true) rfl (T.skip ?_));simp;apply fw;apply ah;simp[hC,KT,ND,kY];apply T.seq;refine T.rx af follows [0,1,2,3,4,5,6,7,8,9,10,11,14,12,13,15] [(1,14),(4,14),(6,14),(8,14),(10,14),(14,12),(14,13)] lz ?_;simp[hC,NY,MF,cP];refine RX.call rfl j5 rfl rfl rfl XE NH ?_;simp;refine RX.call rfl j5 rfl rfl rfl rfl UA ?_;simp;obtain⟨ow,OD⟩:∃ ow,sA u y m L1 ⟨pn,rl⟩=ow:=⟨_,rfl⟩;rw[OD] at hE Ns;refine T.cut (fun s=>s=⟨[(13,.ai 19 0),(23,I j),(22,I r.items.length),(21,.au (r.items.flatMap kY) r.items.length),(10,.ai 3 0),(9,.ai 2 0),(8,.ai 1 0),(4,.ai 0 0),(2,I m),(3,jJ L1)],[(19,⟨47,0,[I ow.lo,I ow.hi,I ow.gm]⟩),(3,⟨47,0,[I e.lo,I e.hi,I e.gm]⟩),(2,⟨55,0,[I ii,.bool r.dU,.au (r.items.flatMap kY) r.items.length]⟩),(1,⟨47,0,[I 0,I 0,I 0]⟩),(0,⟨142,0,[.au (u.gs.map fun n=>I n) u.gs.length,.au (u.ms.flatMap eQ) u.ms.length,.au (u.ps.flatMap kR) u.ps.length,I u.main,.au ((av u).is.flatMap cP) (av u).is.length,.au ((av u).calls.map ints) (av u).calls.length,aN (av u).roots,.au (l.flatMap cZ) l.length]⟩)],20⟩) ?_ ?_
   ·rcases Lc with rfl | Lc
    ·have Pp:Bf (dO y m z)=ow:=by rw[← OD];simp[sA,Pa]
     rw[Pp];apply ah;simp[hC];refine dg ?_;simp;refine aa.trim [13,23,22,21,10,9,8,4,2,3] [19,3,2,1,0] 20 U2 yA ?_;simp
    ·obtain⟨rn,rfl⟩:∃ rn:Nat,rl=rn:=⟨rl.toNat,by omega⟩;obtain⟨e2,TM⟩:∃ e2,L1[rn]? = some e2:=⟨_,List.getElem?_eq_getElem yA⟩;have F0:((rn:Int) != -1)=true:=by rw[bne_iff_ne];omega
     have Pp:e2=ow:=by
      rw[← OD];have:¬ (rn:Int)=-1:=by omega
      simp[sA,this,List.getD_eq_getElem?_getD,TM]
     subst Pp;have TO:=az (f:=dD) (n:=3) fW TM;have LK:rn<L1.length:=by omega
     apply ah;simp[hC,F0];refine T.cond (b:=true) (by first | rfl | simp[ev,assoc,F0]) ?_;simp;apply a8;simp[hC,jJ,LK,TO,dD];refine aa.trim [13,23,22,21,10,9,8,4,2,3] [19,3,2,1,0] 20 Sp yA ?_;simp
   rintro s rfl;apply a8;simp[hC];refine dk rfl Ns ?_;simp;apply a8;simp[hC,wj];refine⟨r.items.length-(j+1),by omega,aa.trim [23,22,21,10,9,8,4,2,3] [3,2,1,0] 4 U2 yA ⟨j+1,iM e ow,rfl,by omega,hE,?_⟩⟩;simp[hp9,qy,dj,fe,ints,aN,cZ,eU,ct,KC,dD]
  ·have Qi:j=r.items.length:=by omega
   subst Qi;rw[List.drop_length,xC] at hE;apply ah;simp[hC];refine T.seq (T.cond (b:=false) rfl ?_);simp;apply T.exit;simp;apply ah;simp[hC];apply T.ret;apply aa.here;simp[Tryz.results58,hE]
def FR (u:Un)(x:Ce):List (Nat×Ob):=[(3,⟨142,0,qy u x.rules⟩),(2,⟨39,0,qz x⟩)]
def J207b (u:Un)(x:Ce)(m n:Nat)(s:St):Prop:=∃ (i:Nat) (out:List Et),n=x.rules.length-i∧i≤x.rules.length∧out.length=i∧fX u (av u) x.rules m x.rules []=fX u (av u) x.rules m (x.rules.drop i) out∧
 s=⟨[(31,I i),(30,I x.rules.length),(10,.bw 4 0 i),(9,.ai 3 0),(5,.ai 2 0)],(4,fV out)::FR u x,5⟩
set_option maxRecDepth 100000 in
set_option maxHeartbeats 4000000 in
theorem wJ {u:Un}(hu:jP u)(x:Ce)(hb:IN x):ae Tryz.prog 29 [dt u,ja (av u),oD x] (.db [jJ (dM u x).1,I (dM u x).2.1,I (dM u x).2.2]):=by
 have Kd:=bB u;have KN:=cM (av u);have KE:=du x.rules;have Oy:=iL u x.rules;obtain⟨K1,K0⟩:=hb;refine ae.aD af Tryz.func29 rfl lz (by simp[Tryz.ntmps29]) (by simp only[tree,trees,lO,Bool.true_and]) fun C hC xJ=>?_;rw[Tryz.ntmps29] at hC;simp only[dj,fe,ints] at Kd KN;simp only[qy,dj,fe,ints,ct,List.cons_append,List.nil_append] at Oy;simp only[dt,ja,dj,fe,ints,oD,qz,ct];apply ah;simp[hC];by_cases h0:x.lock<0
 ·have hv:dM u x=([],0,6):=by simp[dM,h0]
  apply aL;simp[hC,h0];refine cz ?_;simp;apply ah;simp[hC];apply T.ret;simp;refine aa.le (Le.nz [6] []) ?_;apply aa.here;simp[Tryz.results29,hv,jJ]
 obtain⟨m,hm⟩:∃ m:Nat,x.lock=m:=⟨x.lock.toNat,by omega⟩;have OL:¬ (m:Int)<0:=by omega
 by_cases h1:m<u.ms.length
 case neg=>
  have h2:(u.ms.length:Int)≤m:=by omega
  have hv:dM u x=([],0,6):=by simp[dM,hm,h2]
  apply aL;simp[hC,hm,OL,h2];refine cz ?_;simp;apply ah;simp[hC];apply T.ret;simp;refine aa.le (Le.nz [6] []) ?_;apply aa.here;simp[Tryz.results29,hv,jJ]
 have h2:¬ (u.ms.length:Int)≤m:=by omega
 have hv:dM u x=fX u (av u) x.rules m x.rules []:=by rw[dM,if_neg yA,hm,Int.toNat_natCast]
 apply aL;simp[hC,hm,OL,h2];refine dg ?_;simp;apply ah;simp[hC];apply ah;simp[hC];apply aL;simp[hC];apply T.block;refine T.aI (J207b u x m) (n:=x.rules.length) ?_ ?_
 ·refine aa.le (Le.own 10 47 3 rfl) ?_;simp[St.own];refine aa.trim [31,30,10,9,5] [4,3,2] 5 Sp yA ⟨0,[],by omega,by omega,rfl,by simp,?_⟩;simp[FR,qy,dj,fe,ints,qz,ct,fV,hm]
 ·rintro n s ⟨i,out,rfl,Kz,NO,hD,rfl⟩;simp only[FR,qy,dj,fe,ints,qz,ct,hm,List.cons_append,List.nil_append];by_cases nr:i<x.rules.length
  ·obtain⟨r,hr⟩:∃ r,x.rules[i]? = some r:=⟨_,List.getElem?_eq_getElem nr⟩;have R5:=K0 r (List.mem_of_getElem? hr);have wi:=cm ((i:Int)+1) yA yA;have S7:=AZ hu x.rules i r hr K1 R5;have Ss:trees [ug u x.rules,I (i:Int)]=true:=by simp only[trees,tree,ug,iL,Bool.true_and]
   rw[rP hr,fX,NO] at hD;simp only[ug,qy,dj,fe,ints,ct,List.cons_append,List.nil_append] at S7 Ss;apply ah;simp[hC,nr];refine T.seq (T.cond (b:=true) rfl (T.skip ?_));simp;apply fw;apply ah;simp[hC];apply aL;simp[hC];refine dk Ss S7 ?_
   cases PW:cO u (av u) x.rules i r with
   | false=>
    rw[PW,if_neg j5] at hD;rw[hD] at hv;simp[hC];refine cz ?_;simp;apply ah;simp[hC];apply T.ret;refine aa.le (Le.trim [6,7,8] [] 0 j5 yA) ?_;simp;refine aa.le (Le.nz [6] []) ?_;apply aa.here;simp[hv,jJ]
   | true=>
    rw[PW,if_pos rfl] at hD;obtain⟨ii,y,KC,hy,QU,LO⟩:=lY PW;have Rx:Bv u (av u) m out r=qd u y m out r.items ⟨0,0,0⟩:=by rw[Bv,QU]
    rw[Rx] at hD;have N9:=uQ hu x.rules i r hr R5 KC hy LO m out NO;obtain⟨e,he⟩:∃ e,qd u y m out r.items ⟨0,0,0⟩=e:=⟨_,rfl⟩;rw[he] at N9 hD;simp only[ug,qy,dj,fe,ints,ct,List.cons_append,List.nil_append,jJ,NO] at N9;have Kk:List.take (i*3) (out.flatMap dD)=out.flatMap dD:=List.take_of_length_le (by rw[aQ fW,NO];omega);simp[hC];refine dg ?_;simp;apply a8;simp[hC];have Ki:(fV out).cells.length=out.length*3:=aQ (f:=dD) (n:=3) fW out;have PR:(i+1)*24≤140737488355328:=by omega
    have YT:trees (fV out).cells=true:=eB out;have K4:trees ((fV out).cells++[I e.lo,I e.hi,I e.gm])=true:=by rw[bu,YT];rfl
    have rN:=fun ρ=>aF ρ _ K4;have rH:=fun ρ=>aF ρ _ Oy;have Sv:=aP (av u).roots;simp only[dD] at N9;refine TL.call yI rfl rfl (bm.lent rfl (by simp[pU,Dm,assoc,fV,tree,Sv,dD,Kk]) N9 rfl) (TL.go' af ?_);simp[hC,aS,Ki,NO,PR,show (fV out).sz=3 from rfl,show (fV out).elem=47 from rfl];apply a8;simp[hC,wi];refine⟨x.rules.length-(i+1),by omega,?_⟩;refine aa.le (Le.norm [31,30,10,9,5] [(6,4),(3,3),(2,2)] 0 5 Lb La (by simp[e8,yf,sI,tree,assoc,-List.all_eq_true,-List.all_flatMap,aK Oy,aK K4]) yA) ?_;simp[dP,cr,cg,en,gA,assoc,rN,qT];refine aa.here ⟨i+1,out++[e],rfl,by omega,by simp[NO],hD,?_⟩;simp[FR,qy,dj,fe,ints,qz,ct,hm,fV,dD]
  ·have CW:i=x.rules.length:=by omega
   subst CW;rw[List.drop_length,fX] at hD;rw[hD] at hv;have LY:=eB out;apply ah;simp[hC];refine T.seq (T.cond (b:=false) rfl ?_);simp;apply T.exit;simp;apply ah;simp[hC];apply T.ret;have Kk:List.take (x.rules.length*3) (out.flatMap dD)=out.flatMap dD:=List.take_of_length_le (by rw[aQ fW,NO];omega);refine aa.le (Le.trim [6,7,8] [4] 5 (by simp[fV,-List.all_eq_true,aj (eB out)]) yA) ?_;simp;refine aa.le (Le.dC (o:=4) rfl LY) ?_;apply aa.here;simp[hv,jJ,fV,bZ,NO,Kk]
end Go.Proofs.YtlkmbdfhdknlgaaGreatDoor
namespace Go.Can
open Go.RowKit
def EH (P:Program)(ak:List (Nat×TI))(f:FuncId)(args:List CV)(H:List (Nat×Ob))(n:Nat)(ks:List Nat)(R:CV→St→Prop):Prop:=
 ∃ fn c, P.funcs[f]? = some fn ∧ fn.body = some c ∧ (fn.name == "runtime.NumGoroutine") = false ∧ args.length ≤ fn.ntmps ∧
  ∀ C:Cx,C.nt=fn.ntmps→C.n0=n→(∀ k∈ks,∀ B b,C.σ0 k=some B→B.iI=some b→C.own b∨C.w0.heap.size≤b)→T P C c ⟨(enter args).env,H,n⟩ (DY C ak fn R)
end Go.Can
