/- The program's checker: code, cites. -/
import Derived.Test.YtlkmbdfhdknlgaaGreatDoorZ39
import Derived.DeepKeys3
namespace Go.Proofs.YtlkmbdfhdknlgaaGreatDoor
open Go.Can Go.aN
def uf (u:Un)(l:List Ru):List CV:=bX u++cD (ak u)++[df l]
def xI (u:Un)(l:List Ru):CV:=.agg (uf u l)
theorem jM (u:Un)(l:List Ru):trees (uf u l)=true:=by
 rw[uf,aZ,aZ,aP,bL];simp only[trees,nR,Bool.and_self]
theorem xa {u:Un}(hu:im u)(l:List Ru){ii:Nat}{y:Is}(hy:(ak u).is[ii]? = some y):ae Tryz.prog 87 [xI u l,I ii] (.az ((au u y).flatMap cU) (au u y).length):=by
 have Sw:=kH hu hy;obtain⟨pq,OT,N9⟩:=kG Sw;have Po:=(List.getElem?_eq_some_iff.1 OT).1;have Sv:=(List.getElem?_eq_some_iff.1 hy).1;have Qz:=aD (f:=cC) (n:=2) dM hy;have N7:=a8 (f:=jS) (n:=5) fQ OT 4 yA;have Qh:tree (.az ((au u y).flatMap cU) (au u y).length)=true:=by simp only[tree]
 refine ae.aH af Tryz.func87 rfl N4 (by simp[Tryz.ntmps87]) Qh fun C hC N8=>?_;rw[Tryz.ntmps87] at hC;simp only[xI,uf,bX,cD,ints,df,List.cons_append,List.nil_append];apply ai;simp[hC];apply T.seq;refine T.rx af follows [0,1,2,3,4,5,6,7,8,9,10,11,12,13] [] N4 ?_;simp[hC,Sv,Qz,cC,Po,N7,jS];apply T.ret;apply aa.here;simp[Tryz.results87,N9]
theorem Cj (z:In):∃ (o:Nat) (rest:List CV),mN z=o∧o<9∧List.drop o [CV.bool false,.bool false,.bool true,.bool false,.bool false,.bool false,.bool false,.bool false,.bool false]=.bool (cN z)::rest:=by
 cases z with
 | set t g e=>exact⟨1,_,rfl,by omega,rfl⟩
 | call g t l ps=>
  cases g
  ·exact⟨2,_,rfl,by decide,rfl⟩
  ·exact⟨3,_,rfl,by decide,rfl⟩
 | lock un p=>
  cases un
  ·exact⟨4,_,rfl,by decide,rfl⟩
  ·exact⟨5,_,rfl,by decide,rfl⟩
 | branch t e=>exact⟨6,_,rfl,by omega,rfl⟩
 | jump t=>exact⟨7,_,rfl,by omega,rfl⟩
 | ret=>exact⟨8,_,rfl,by omega,rfl⟩
set_option maxRecDepth 100000 in
set_option maxHeartbeats 4000000 in
theorem EU {u:Un}(hu:im u)(l:List Ru)(k:Nat)(r:Ru)(hr:l[k]? = some r){ii:Nat}{y:Is}(O4:r.inst=ii)(hy:(ak u).is[ii]? = some y)(_hl:l.length≤1000)(pn:Nat)(rl:Int)(z:In)(hz:(au u y)[pn]? = some z)(lb:Bool):ae Tryz.prog 88 [xI u l,I k,.agg (eX ⟨pn,rl⟩),.bool lb] (.bool (dH (ak u) l k ii z pn rl (lb && r.ct))):=by
 have Ot:=(List.getElem?_eq_some_iff.1 hr).1;have UY:=aD (f:=cj) (n:=3) cI hr;have QT:=xa hu l hy;have VC:trees [xI u l,I (ii:Int)]=true:=by simp only[trees,tree,xI,jM,Bool.true_and]
 have Sv:=(List.getElem?_eq_some_iff.1 hy).1;have SV:=(List.getElem?_eq_some_iff.1 hz).1;have OQ:=aD (f:=cU) (n:=12) eg hz;obtain⟨xc,Pt,PH⟩:=gT z;rw[Pt] at OQ;obtain⟨o,rest,ho,ho9,hod⟩:=Cj z;have ho0:(o:Int)<9:=by omega
 refine ae.aH af Tryz.func88 rfl N4 (by simp[Tryz.ntmps88]) rfl fun C hC N8=>?_;rw[Tryz.ntmps88] at hC;simp only[xI,uf,bX,cD,ints,df,eX,List.cons_append,List.nil_append] at QT VC ⊢;apply ai;simp[hC];apply ai;simp[hC,Ot,UY,cj,di,O4];refine T.seq (T.seq ?_);refine T.rx af follows [0,1,2,4,5,3,6,7,8,9,10,11] [(5,3)] N4 ?_;simp[hC];refine RX.call rfl N3 rfl rfl rfl VC QT ?_;simp[SV,OQ,ho,IM,eJ,fF,ho0,hod]
 cases hc:cN z with
 | false=>
  have Sh:dH (ak u) l k ii z pn rl (lb && r.ct)=decide (rl=-1):=by simp[dH,hc]
  refine cB ?_;simp;apply ai;simp[hC];apply T.ret;apply aa.here;simp[Tryz.results88,Sh];rw[Bool.eq_iff_iff];simp
 | true=>
  refine dv ?_;simp;refine T.seq (T.seq ?_);by_cases Rt:rl<0
  ·have Sh:dH (ak u) l k ii z pn rl (lb && r.ct)=false:=by simp[dH,hc,Rt]
   refine T.rx af follows [0,1,2,3,4,5,6,7,8,9,10,11,12,13,14,15,16,17,18,19,20,21,22,23,24,25,26,27,28,29] [] N4 ?_;simp[hC,Rt];refine cB ?_;simp;apply ai;simp[hC];apply T.ret;apply aa.here;simp[Tryz.results88,Sh]
  obtain⟨rn,rfl⟩:∃ rn:Nat,rl=rn:=⟨rl.toNat,by omega⟩;by_cases Pd:(k:Int)≤rn
  ·have Sh:dH (ak u) l k ii z pn rn (lb && r.ct)=false:=by simp[dH,hc,Pd]
   refine T.rx af follows [0,1,2,3,4,5,6,7,8,9,10,11,12,13,14,15,16,17,18,19,20,21,22,23,24,25,26,27,28,29] [] N4 ?_;simp[hC,Rt,Pd];refine cB ?_;simp;apply ai;simp[hC];apply T.ret;apply aa.here;simp[Tryz.results88,Sh]
  obtain⟨q,hq⟩:∃ q,l[rn]? = some q:=⟨_,List.getElem?_eq_getElem yA⟩;have O5:=(List.getElem?_eq_some_iff.1 hq).1;have RB:=aD (f:=cj) (n:=3) cI hq;have Rh:=a8 (f:=cj) (n:=3) cI hq 1 yA;obtain⟨row,OX,OF,Vj⟩:=ny hu hy hz hc;have PZ:=fe ints OX;have QS:=fe vL OF;have Qe:=(List.getElem?_eq_some_iff.1 OX).1;have O7:=(List.getElem?_eq_some_iff.1 OF).1;have PD:=Bg (lr:=lb && r.ct) hc Rt Pd hq OX OF;rw[PD];generalize dn (ak u) ii pn=kn at *;by_cases Rk:q.inst=kn
  case neg=>
   have Sh:q.inst≠kn:=Rk;have QD:(q.inst != (kn:Int))=true:=by rw[bne_iff_ne];exact Rk
   refine T.rx af follows [0,1,2,3,4,5,6,7,8,9,10,11,12,13,14,15,16,17,18,19,20,21,22,23,24,25,26,27,28,29] [] N4 ?_;simp[hC,Rt,Pd,O5,RB,cj,PZ,Qe,QS,O7,ints,QD];refine cB ?_;simp;apply ai;simp[hC];apply T.ret;apply aa.here;simp[Tryz.results88,Sh]
  have QD:(q.inst != (kn:Int))=false:=by rw[bne_eq_false_iff_eq];exact Rk
  refine T.rx af follows [0,1,2,3,4,5,6,7,8,9,10,11,12,13,14,15,16,17,18,19,20,21,22,23,24,25,26,27,28,29] [] N4 ?_;simp[hC,Rt,Pd,O5,RB,cj,PZ,Qe,QS,O7,ints,QD];refine dv ?_;simp
  cases SD:q.ct with
  | false=>
   apply ai;simp[hC,O5,Rh,cj,SD];apply T.ret;apply aa.here;simp[Tryz.results88,Rk]
  | true=>
   cases lb with
   | false=>
    apply ai;simp[hC,O5,Rh,cj,SD];apply T.ret;apply aa.here;simp[Tryz.results88]
   | true=>
    apply ai;simp[hC,O5,Rh,cj,SD];apply T.ret;apply aa.here;simp[Tryz.results88,Rk]
theorem Hm (g k:Nat):ae Tryz.prog 152 [.agg [I g],I k] (aB [g]):=by
 refine ae.aH af Tryz.func152 rfl N4 (by simp[Tryz.ntmps152]) (aE _) fun C hC N8=>?_;rw[Tryz.ntmps152] at hC;apply ai;simp[hC];apply ai;simp[hC];apply T.ret;refine aa.le (Le.trim [4] [1] 2 N3 yA) ?_;simp;refine aa.le (Le.cV (o:=1) rfl rfl) ?_;apply aa.here;simp[aB]
theorem Iu (g k:Nat)(hk:k≤1000000):ae Tryz.prog 153 [.agg [I g],I k] (aB (if g=k+1 then [g] else [min g (k+1),max g (k+1)])):=by
 have wk:=cf ((k:Int)+1) yA yA;refine ae.aH af Tryz.func153 rfl N4 (by simp[Tryz.ntmps153]) (aE _) fun C hC N8=>?_;rw[Tryz.ntmps153] at hC;apply ai;simp[hC];apply aL;simp[hC,wk];by_cases h:g=k+1
 ·subst h;simp;refine cB ?_;simp;apply ai;simp[hC];apply T.ret;simp;refine aa.le (Le.trim [4] [1] 2 N3 yA) ?_;simp;refine aa.le (Le.cV (o:=1) rfl rfl) ?_;apply aa.here;simp[aB]
 ·have Ok:(((g:Int) == (k:Int)+1))=false:=by rw[beq_eq_false_iff_ne];omega
  refine T.cond (b:=false) (by simp only[ev,assoc,Ok];rfl) (T.skip ?_);rw[if_neg h];have P8:(if (k:Int)+1<(g:Int) then (k:Int)+1 else (g:Int))=((min g (k+1):Nat):Int):=by split<;>omega
  have Rd:(if (g:Int)<(k:Int)+1 then (k:Int)+1 else (g:Int))=((max g (k+1):Nat):Int):=by split<;>omega
  generalize min g (k+1)=A at P8 ⊢;generalize max g (k+1)=B at Rd ⊢;simp;apply ai;simp[hC,wk,P8,Rd];apply T.ret;refine aa.le (Le.trim [4] [1] 2 N3 yA) ?_;simp;refine aa.le (Le.cV (o:=1) rfl rfl) ?_;apply aa.here;simp[aB]
theorem HW (k:Nat):ae Tryz.prog 151 [.agg [],I k] (aB []):=by
 refine ae.aH af Tryz.func151 rfl N4 (by simp[Tryz.ntmps151]) (aE _) fun C hC N8=>?_;rw[Tryz.ntmps151] at hC;apply ai;simp[hC];apply ai;simp[hC];apply T.ret;refine aa.le (Le.trim [4] [] 0 N3 yA) ?_;simp;refine aa.le (Le.nz [4] []) ?_;apply aa.here;simp[aB]
theorem Gf (k:Nat)(hk:k≤1000000):ae Tryz.prog 154 [.agg [],I k] (aB [k+1]):=by
 have wk:=cf ((k:Int)+1) yA yA;refine ae.aH af Tryz.func154 rfl N4 (by simp[Tryz.ntmps154]) (aE _) fun C hC N8=>?_;rw[Tryz.ntmps154] at hC;apply ai;simp[hC];apply ai;simp[hC,wk];apply T.ret;refine aa.le (Le.trim [4] [1] 2 N3 yA) ?_;simp;refine aa.le (Le.cV (o:=1) rfl rfl) ?_;apply aa.here;simp[aB]
def vp:In→CV
 | .ret=>.iface 209 [.agg []]
 | .jump g=>.iface 211 [.agg [I g]]
 | .branch g _=>.iface 212 [.agg [I g]]
 | _=>.iface 213 [.agg []]
set_option maxRecDepth 100000 in
theorem CF (z:In):ae Tryz.prog 92 [.agg (cU z)] (vp z):=by
 have Rv:=nA z;obtain⟨xc,Pt,PH⟩:=gT z;obtain⟨c1,c2,c3,c4,c5,c6,c7,c8,c9,Xi,Xh,rfl⟩:=Au PH;rw[Pt] at Rv ⊢;simp only[List.all_cons,List.all_nil,Bool.and_true,Bool.and_eq_true] at Rv;obtain⟨_,o1,o2,o3,o4,o5,o6,o7,o8,o9,Z6,Z5⟩:=Rv;have Qh:tree (vp z)=true:=by cases z<;>rfl
 refine ae.aH af Tryz.func92 rfl N4 (by simp[Tryz.ntmps92]) Qh fun C hC N8=>?_;rw[Tryz.ntmps92] at hC;apply ai;simp[hC]
 cases z with
 | ret=>
  rw[show mN In.ret=8 from rfl];apply aL;simp[hC];apply T.block;apply ai;simp[hC];refine cB ?_;simp;refine T.seq (T.region (TL.some af 1 ?_));simp[hC];refine kA rfl (gU (d:=.bk []) (c:=.agg []) af Oc rfl N3 rfl (fun h=>by cases h)) (TL.go' af ?_);simp[hC];apply T.ret;simp;refine aa.le (Le.trim [2] [] 0 N3 yA) ?_;simp;apply aa.here;simp[vp]
 | jump g=>
  have SN:c1=I g:=by
   have h:=congrArg (fun l=>l.drop 1) Pt;simp[cU] at h;exact h.1.symm
  subst SN;rw[show mN (In.jump g)=7 from rfl];apply aL;simp[hC];apply T.block;apply ai;simp[hC];refine aX ?_;simp;apply ai;simp[hC];refine cB ?_;simp;refine T.seq (T.region (TL.some af 3 ?_));simp[hC];refine kA rfl (gU (d:=.bk [(0,3)]) (c:=.agg [I g]) af Oc rfl N3 rfl (fun h=>by cases h)) (TL.go' af ?_);simp[hC];apply T.ret;simp;refine aa.le (Le.trim [2] [] 0 N3 yA) ?_;simp;apply aa.here;simp[vp]
 | branch g e=>
  have SN:c1=I g:=by
   have h:=congrArg (fun l=>l.drop 1) Pt;simp[cU] at h;exact h.1.symm
  subst SN;rw[show mN (In.branch g e)=6 from rfl];apply aL;simp[hC];apply T.block;apply ai;simp[hC];refine aX ?_;simp;apply ai;simp[hC];refine aX ?_;simp;apply ai;simp[hC];refine cB ?_;simp;refine T.seq (T.region (TL.some af 3 ?_));simp[hC];refine kA rfl (gU (d:=.bk [(0,3)]) (c:=.agg [I g]) af Oc rfl N3 rfl (fun h=>by cases h)) (TL.go' af ?_);simp[hC];apply T.ret;simp;refine aa.le (Le.trim [2] [] 0 N3 yA) ?_;simp;apply aa.here;simp[vp]
 | set t gl e=>
  rw[show mN (In.set t gl e)=1 from rfl];apply aL;simp[hC];apply T.block;apply ai;simp[hC];refine aX ?_;simp;apply ai;simp[hC];refine aX ?_;simp;apply ai;simp[hC];refine dv ?_;simp;refine T.seq (T.region (TL.some af 1 ?_));simp[hC];refine kA rfl (gU (d:=.bk []) (c:=.agg []) af Oc rfl N3 rfl (fun h=>by cases h)) (TL.go' af ?_);simp[hC];apply T.ret;refine aa.le (Le.trim [2] [] 0 N3 yA) ?_;simp;apply aa.here;simp[vp]
 | call g t l ps=>
  cases g with
  | true=>
   rw[show mN (In.call true t l ps)=3 from rfl];apply aL;simp[hC];apply T.block;apply ai;simp[hC];refine aX ?_;simp;apply ai;simp[hC];refine aX ?_;simp;apply ai;simp[hC];refine dv ?_;simp;refine T.seq (T.region (TL.some af 1 ?_));simp[hC];refine kA rfl (gU (d:=.bk []) (c:=.agg []) af Oc rfl N3 rfl (fun h=>by cases h)) (TL.go' af ?_);simp[hC];apply T.ret;refine aa.le (Le.trim [2] [] 0 N3 yA) ?_;simp;apply aa.here;simp[vp]
  | false=>
   rw[show mN (In.call false t l ps)=2 from rfl];apply aL;simp[hC];apply T.block;apply ai;simp[hC];refine aX ?_;simp;apply ai;simp[hC];refine aX ?_;simp;apply ai;simp[hC];refine dv ?_;simp;refine T.seq (T.region (TL.some af 1 ?_));simp[hC];refine kA rfl (gU (d:=.bk []) (c:=.agg []) af Oc rfl N3 rfl (fun h=>by cases h)) (TL.go' af ?_);simp[hC];apply T.ret;refine aa.le (Le.trim [2] [] 0 N3 yA) ?_;simp;apply aa.here;simp[vp]
 | lock un p=>
  cases un with
  | true=>
   rw[show mN (In.lock true p)=5 from rfl];apply aL;simp[hC];apply T.block;apply ai;simp[hC];refine aX ?_;simp;apply ai;simp[hC];refine aX ?_;simp;apply ai;simp[hC];refine dv ?_;simp;refine T.seq (T.region (TL.some af 1 ?_));simp[hC];refine kA rfl (gU (d:=.bk []) (c:=.agg []) af Oc rfl N3 rfl (fun h=>by cases h)) (TL.go' af ?_);simp[hC];apply T.ret;refine aa.le (Le.trim [2] [] 0 N3 yA) ?_;simp;apply aa.here;simp[vp]
  | false=>
   rw[show mN (In.lock false p)=4 from rfl];apply aL;simp[hC];apply T.block;apply ai;simp[hC];refine aX ?_;simp;apply ai;simp[hC];refine aX ?_;simp;apply ai;simp[hC];refine dv ?_;simp;refine T.seq (T.region (TL.some af 1 ?_));simp[hC];refine kA rfl (gU (d:=.bk []) (c:=.agg []) af Oc rfl N3 rfl (fun h=>by cases h)) (TL.go' af ?_);simp[hC];apply T.ret;refine aa.le (Le.trim [2] [] 0 N3 yA) ?_;simp;apply aa.here;simp[vp]
def ctlM : hZ := [((209, "lockorder/flow.next"), 151), ((211, "lockorder/flow.next"), 152), ((212, "lockorder/flow.next"), 153), ((213, "lockorder/flow.next"), 154)]
theorem J7:iN Tryz.prog ctlM:=py N4
theorem H8 (z : In) {k : Nat} (hk : k ≤ 1000000) : ∃ (t : Nat) (v : CV) (g : Nat), vp z = .iface t [v] ∧ xp ctlM t "lockorder/flow.next" = some g ∧ tree v = true ∧ ae Tryz.prog g [v, I k] (aB (dJ z k)) := by
 cases z with
 | ret=>exact⟨_,_,_,rfl,by rfl,rfl,HW k⟩
 | jump g=>exact⟨_,_,_,rfl,by rfl,rfl,Hm g k⟩
 | branch g e=>exact⟨_,_,_,rfl,by rfl,rfl,Iu g k hk⟩
 | _=>exact⟨_,_,_,rfl,by rfl,rfl,Gf k hk⟩
theorem z4 {u:Un}(hu:im u){x:Is}(hx:pY u x){k:Nat}{z:In}(hz:(au u x)[k]? = some z)(hk:k≤1000000):ae Tryz.prog 60 [cK u,.agg (cC x),I k] (aB (dJ z k)):=by
 have QT:=z7 hu hx hz;have So:=CF z;have Oj:=aP u;have ti:=bD x;have SR:=iu z;obtain⟨t,v,g,e1,e2,e3,e4⟩:=H8 z hk;have t2:trees [cK u,.agg (cC x),I k]=true:=by simp only[trees,tree,cK,Oj,ti,Bool.and_self]
 have t3:trees [.agg (cU z)]=true:=by simp only[trees,tree,SR,Bool.and_self]
 have t4:trees [v,I k]=true:=by simp only[trees,e3];rfl
 rw[e1] at So;refine ae.aH af Tryz.func60 rfl N4 (by simp[Tryz.ntmps60]) (aE _) fun C hC N8=>?_;rw[Tryz.ntmps60] at hC;simp only[cK,bX,cC,ints] at QT t2 ⊢;apply ai;simp[hC];apply ai;simp[hC];refine dc t2 QT ?_;simp;refine dc t3 So ?_;simp[hC];apply ai;simp[hC];refine KA Oc rfl (pf.to J7 rfl (by simp[iF,ev,zk,assoc,e2]) e4.1) t4 e4 (TL.go' af ?_);simp[hC];apply T.ret;apply aa.here;simp[Tryz.results60]
def hp8 (u:Un)(l:List Ru)(r:Ru):List (Nat×Ob):=[(1,⟨55,0,cj r⟩),(0,⟨142,0,uf u l⟩)]
def J205 (u:Un)(l:List Ru)(k ii:Nat)(r:Ru)(x:Is)(n:Nat)(s:St):Prop:=∃ (i:Nat) (ws:List Nat),n=r.items.length-i∧i≤r.items.length∧ws.length≤2∧lL u (ak u) l k ii r.ct x r.items [0]=lL u (ak u) l k ii r.ct x (r.items.drop i) ws∧
 s=⟨[(47,I i),(46,I r.items.length),(45,di r.items),(7,aB ws),(6,.az ((au u x).flatMap cU) (au u x).length),(5,.aq 1 0),(2,.aq 0 0),(1,I k)],hp8 u l r,2⟩
set_option maxRecDepth 100000 in
set_option maxHeartbeats 4000000 in
theorem ER {u:Un}(hu:im u)(l:List Ru)(k:Nat)(r:Ru)(hr:l[k]? = some r)(hl:l.length≤1000)(hi:r.items.length≤1000):ae Tryz.prog 57 [xI u l,I k] (.bool (dm u (ak u) l k r)):=by
 have Ot:=(List.getElem?_eq_some_iff.1 hr).1;have UY:=aD (f:=cj) (n:=3) cI hr;have Tj:=jM u l;obtain⟨SN,hc0⟩:=ju hu;refine ae.aH af Tryz.func57 rfl N4 (by simp[Tryz.ntmps57]) rfl fun C hC N8=>?_;rw[Tryz.ntmps57] at hC;simp only[xI,uf,bX,cD,ints,df,List.cons_append,List.nil_append] at Tj ⊢;apply ai;simp[hC];apply ai;simp[hC,Ot,UY,cj,di];by_cases h0:r.inst<0
 ·have hv:dm u (ak u) l k r=false:=by simp[dm,h0]
  apply aL;simp[hC,h0];refine cB ?_;simp;apply ai;simp[hC];apply T.ret;apply aa.here;simp[Tryz.results57,hv]
 obtain⟨ii,O4⟩:∃ ii:Nat,r.inst=ii:=⟨r.inst.toNat,by omega⟩;have Ty:¬ (ii:Int)<0:=by omega
 by_cases h1:ii<(ak u).is.length
 case neg=>
  have hv:dm u (ak u) l k r=false:=by simp[dm,O4,List.getElem?_eq_none (by omega:(ak u).is.length≤ii)]
  have Rc:((ak u).is.length:Int)≤ii:=by omega
  apply aL;simp[hC,O4,Ty,Rc];refine cB ?_;simp;apply ai;simp[hC];apply T.ret;apply aa.here;simp[Tryz.results57,hv]
 obtain⟨x,hx⟩:∃ x,(ak u).is[ii]? = some x:=⟨_,List.getElem?_eq_getElem h1⟩;have hv:dm u (ak u) l k r=((r.ct || !r.items.isEmpty) && lL u (ak u) l k ii r.ct x r.items [0]):=by simp[dm,O4,hx]
 have O9:=kH hu hx;have Qz:=aD (f:=cC) (n:=2) dM hx;have Rc:¬ ((ak u).is.length:Int)≤ii:=by omega
 have QT:=xa hu l hx;have VC:trees [xI u l,I (ii:Int)]=true:=by simp only[trees,tree,xI,jM,Bool.true_and]
 simp only[xI,uf,bX,cD,ints,df,List.cons_append,List.nil_append] at QT VC;have Og:=eK hu x;by_cases UX:r.ct=false∧r.items.length=0
 ·have R5:=List.eq_nil_of_length_eq_zero UX.2;have Sh:dm u (ak u) l k r=false:=by rw[hv,UX.1,R5];rfl
  apply aL;simp[hC,O4,Ty,Rc,UX.1,UX.2];refine cB ?_;simp;apply ai;simp[hC];apply T.ret;apply aa.here;simp[Tryz.results57,Sh]
 have Sh:dm u (ak u) l k r=lL u (ak u) l k ii r.ct x r.items [0]:=by
  rw[hv];have:(r.ct || !r.items.isEmpty)=true:=by
   cases ho:r.ct with
   | true=>rfl
   | false=>
    cases Oq:r.items with
    | nil=>exact (UX ⟨ho,by rw[Oq];rfl⟩).elim
    | cons a t=>rfl
  rw[this,Bool.true_and]
 refine T.cut (fun s=>s=⟨[(5,.aq 1 0),(2,.aq 0 0),(1,I k)],[(1,⟨55,0,[I ii,.bool r.ct,.az (r.items.flatMap eX) r.items.length]⟩),(0,⟨142,0,[.az (u.gs.map fun n=>I n) u.gs.length,.az (u.ms.flatMap eM) u.ms.length,.az (u.ps.flatMap jS) u.ps.length,I u.main,.az ((ak u).is.flatMap cC) (ak u).is.length,.az ((ak u).calls.map ints) (ak u).calls.length,aB (ak u).roots,.az (l.flatMap cj) l.length]⟩)],2⟩) ?_ ?_
 ·cases ho:r.ct with
  | true=>
   apply ai;simp[hC,O4,Ty,Rc];refine dv ?_;simp;refine aa.trim [5,2,1] [1,0] 2 X1 yA ?_;simp
  | false=>
   have Ok:((r.items.length:Int) == 0)=false:=by rw[beq_eq_false_iff_ne];intro h;exact UX ⟨ho,by omega⟩
   apply ai;simp[hC,O4,Ty,Rc,Ok];refine T.cond (b:=false) (by first | rfl | simp[ev,assoc,Ok]) (T.skip ?_);simp;refine aa.trim [5,2,1] [1,0] 2 X1 yA ?_;simp
 rintro s rfl;apply ai;simp[hC];refine dc VC QT ?_;simp[hC];refine T.le (Le.cV (o:=2) rfl rfl) ?_;simp[jF];apply aL;simp[hC];apply T.block;refine T.aI (J205 u l k ii r x) (n:=r.items.length) ?_ ?_
 ·refine aa.trim [47,46,45,7,6,5,2,1] [1,0] 2 X1 yA ⟨0,[0],by omega,by omega,by simp,by simp,?_⟩;simp[hp8,uf,bX,cD,ints,aB,cj,di,df,O4]
 ·rintro n s ⟨i,ws,rfl,Oo,VJ,hD,rfl⟩;rw[← Sh] at hD;simp only[hp8,uf,bX,cD,ints,df,cj,di,O4,List.cons_append,List.nil_append];by_cases N6:i<r.items.length
  ·obtain⟨it,Oq⟩:∃ it,r.items[i]? = some it:=⟨_,List.getElem?_eq_getElem N6⟩;have Sl:=aD (f:=eX) (n:=2) dq Oq;have wi:=cf ((i:Int)+1) yA yA;have wn:=cf ((r.items.length:Int)-1) yA yA;have Zb:((i:Int) == (r.items.length:Int)-1)=(r.items.drop (i+1)).isEmpty:=by
    rw[Bool.eq_iff_iff,beq_iff_eq,List.isEmpty_iff,List.drop_eq_nil_iff];omega
   rw[xD Oq,lL] at hD;generalize hlbe:(r.items.drop (i+1)).isEmpty=lb at Zb hD;obtain⟨p,rl⟩:=it;simp only at hD;apply ai;simp[hC,N6];refine T.seq (T.cond (b:=true) rfl (T.skip ?_));simp;apply eG;apply ai;simp[hC,N6,Sl,eX];apply ai;simp[hC,wn,Zb];by_cases R0:p<0
   ·have hn:fV u x p=none:=by simp[fV,R0]
    simp only[hn] at hD;apply aL;simp[hC,R0];refine T.cond (b:=true) (by first | rfl | simp[ev,assoc, *]) ?_;simp;apply ai;simp[hC];apply T.ret;apply aa.here;simp[Tryz.results57,hD]
   obtain⟨pn,rfl⟩:∃ pn:Nat,p=pn:=⟨p.toNat,by omega⟩;have Ui:¬ (pn:Int)<0:=by omega
   by_cases QM:pn<(au u x).length
   case neg=>
    have hn:fV u x (pn:Int)=none:=by simp[fV,List.getElem?_eq_none (by omega:(au u x).length≤pn)]
    have Wz:((au u x).length:Int)≤pn:=by omega
    simp only[hn] at hD;apply aL;simp[hC,Ui,Wz];refine T.cond (b:=true) (by first | rfl | simp[ev,assoc, *]) ?_;simp;apply ai;simp[hC];apply T.ret;apply aa.here;simp[Tryz.results57,hD]
   obtain⟨z,hz⟩:∃ z,(au u x)[pn]? = some z:=⟨_,List.getElem?_eq_getElem QM⟩;have hn:fV u x (pn:Int)=some z:=by simp[fV,hz]
   have Wz:¬ ((au u x).length:Int)≤pn:=by omega
   have OQ:=aD (f:=cU) (n:=12) eg hz;obtain⟨xc,Pt,PH⟩:=gT z;rw[Pt] at OQ;simp only[hn,Int.toNat_natCast] at hD;have tws:trees [aB ws,I (pn:Int)]=true:=by simp only[trees,aE,Bool.true_and];rfl
   have Sa:=ma ws (pn:Int) yA;rw[DE] at Sa;apply aL;simp[hC,Ui,Wz];refine TL.bY Oc rfl rfl rfl rfl (bH.of rfl tws Sa) (TL.go' af ?_);by_cases hw:pn∈ws
   case neg=>
    simp only[hw,decide_false,Bool.false_and] at hD;simp[hC,hw];refine T.cond (b:=true) (by first | rfl | simp[ev,assoc, *]) ?_;simp;apply ai;simp[hC];apply T.ret;apply aa.here;simp[Tryz.results57,hD]
   simp only[hw,decide_true,Bool.true_and] at hD;simp[hC,hw];refine dv ?_;simp;refine T.le (Le.trim [10,9,47,46,45,7,6,5,2,1] [2,1,0] 3 Xq yA) ?_;simp;have Pu:=tM z;have So:=EU hu l k r hr O4 hx hl pn rl z hz lb;have UM:trees [xI u l,I (k:Int),.agg (eX ⟨pn,rl⟩),.bool lb]=true:=by simp only[trees,tree,xI,jM,Bool.true_and];rfl
   simp only[xI,uf,bX,cD,ints,df,eX,List.cons_append,List.nil_append] at So UM;refine T.cut (fun s=>(gM z == (lb && !r.ct))=true∧dH (ak u) l k ii z pn rl (lb && r.ct)=true∧s=⟨[(10,.bool lb),(9,.aq 2 0),(47,I i),(46,I r.items.length),(45,.az (r.items.flatMap eX) r.items.length),(7,aB ws),(6,.az ((au u x).flatMap cU) (au u x).length),(5,.aq 1 0),(2,.aq 0 0),(1,I k)],[(2,⟨77,0,[I pn,I rl]⟩),(1,⟨55,0,[I ii,.bool r.ct,.az (r.items.flatMap eX) r.items.length]⟩),(0,⟨142,0,[.az (u.gs.map fun n=>I n) u.gs.length,.az (u.ms.flatMap eM) u.ms.length,.az (u.ps.flatMap jS) u.ps.length,I u.main,.az ((ak u).is.flatMap cC) (ak u).is.length,.az ((ak u).calls.map ints) (ak u).calls.length,aB (ak u).roots,.az (l.flatMap cj) l.length]⟩)],3⟩) ?_ ?_
   ·apply T.seq;cases hR:gM z
    case false=>
     cases lb
     case false=>
      cases ho:r.ct
      case false=>
       rw[ho] at So;refine T.rx af follows [0,1,2,3,4,5,6,7,8,9,10,11,12,13,14,15,16,17,18,19,20,21] [] N4 ?_;simp[hC,QM,OQ,Pu,hR];refine RX.call rfl N3 rfl rfl rfl UM So ?_
       cases PD:dH (ak u) l k ii z pn rl (false && false) with
       | false=>
        rw[hR,ho,PD] at hD;simp at hD;simp;refine cB ?_;simp;apply ai;simp[hC];apply T.ret;apply aa.here;simp[Tryz.results57,hD]
       | true=>
        simp;refine dv ?_;simp;refine aa.trim [10,9,47,46,45,7,6,5,2,1] [2,1,0] 3 Xq yA ?_
        simpa [ho] using PD
      case true=>
       rw[ho] at So;refine T.rx af follows [0,1,2,3,4,5,6,7,8,9,10,11,12,13,14,15,16,17,18,19,20,21] [] N4 ?_;simp[hC,QM,OQ,Pu,hR];refine RX.call rfl N3 rfl rfl rfl UM So ?_
       cases PD:dH (ak u) l k ii z pn rl (false && true) with
       | false=>
        rw[hR,ho,PD] at hD;simp at hD;simp;refine cB ?_;simp;apply ai;simp[hC];apply T.ret;apply aa.here;simp[Tryz.results57,hD]
       | true=>
        simp;refine dv ?_;simp;refine aa.trim [10,9,47,46,45,7,6,5,2,1] [2,1,0] 3 Xq yA ?_
        simpa [ho] using PD
     case true=>
      cases ho:r.ct
      case false=>
       rw[hR,ho] at hD;simp at hD;refine T.rx af follows [0,1,2,3,4,5,6,7,8,9,10,11,12,13,14,15,16,17,18,19,20,21] [] N4 ?_;simp[hC,QM,OQ,Pu,hR];refine cB ?_;simp;apply ai;simp[hC];apply T.ret;apply aa.here;simp[Tryz.results57,hD]
      case true=>
       rw[ho] at So;refine T.rx af follows [0,1,2,3,4,5,6,7,8,9,10,11,12,13,14,15,16,17,18,19,20,21] [] N4 ?_;simp[hC,QM,OQ,Pu,hR];refine RX.call rfl N3 rfl rfl rfl UM So ?_
       cases PD:dH (ak u) l k ii z pn rl (true && true) with
       | false=>
        rw[hR,ho,PD] at hD;simp at hD;simp;refine cB ?_;simp;apply ai;simp[hC];apply T.ret;apply aa.here;simp[Tryz.results57,hD]
       | true=>
        simp;refine dv ?_;simp;refine aa.trim [10,9,47,46,45,7,6,5,2,1] [2,1,0] 3 Xq yA ?_
        simpa [ho] using PD
    case true=>
     cases lb
     case false=>
      cases ho:r.ct
      case false=>
       rw[hR,ho] at hD;simp at hD;refine T.rx af follows [0,1,2,3,4,5,6,7,8,9,10,11,12,13,14,15,16,17,18,19,20,21] [] N4 ?_;simp[hC,QM,OQ,Pu,hR];refine cB ?_;simp;apply ai;simp[hC];apply T.ret;apply aa.here;simp[Tryz.results57,hD]
      case true=>
       rw[hR,ho] at hD;simp at hD;refine T.rx af follows [0,1,2,3,4,5,6,7,8,9,10,11,12,13,14,15,16,17,18,19,20,21] [] N4 ?_;simp[hC,QM,OQ,Pu,hR];refine cB ?_;simp;apply ai;simp[hC];apply T.ret;apply aa.here;simp[Tryz.results57,hD]
     case true=>
      cases ho:r.ct
      case false=>
       rw[ho] at So;refine T.rx af follows [0,1,2,3,4,5,6,7,8,9,10,11,12,13,14,15,16,17,18,19,20,21] [] N4 ?_;simp[hC,QM,OQ,Pu,hR];refine RX.call rfl N3 rfl rfl rfl UM So ?_
       cases PD:dH (ak u) l k ii z pn rl (true && false) with
       | false=>
        rw[hR,ho,PD] at hD;simp at hD;simp;refine cB ?_;simp;apply ai;simp[hC];apply T.ret;apply aa.here;simp[Tryz.results57,hD]
       | true=>
        simp;refine dv ?_;simp;refine aa.trim [10,9,47,46,45,7,6,5,2,1] [2,1,0] 3 Xq yA ?_
        simpa [ho] using PD
      case true=>
       rw[hR,ho] at hD;simp at hD;refine T.rx af follows [0,1,2,3,4,5,6,7,8,9,10,11,12,13,14,15,16,17,18,19,20,21] [] N4 ?_;simp[hC,QM,OQ,Pu,hR];refine cB ?_;simp;apply ai;simp[hC];apply T.ret;apply aa.here;simp[Tryz.results57,hD]
   rintro s ⟨Vh,hct2,rfl⟩;rw[Vh,hct2,Bool.true_and,Bool.true_and] at hD;have OV:=z4 hu O9 hz yA;have ti:=bD x;have Ss:trees [cK u,.agg (cC x),I (pn:Int)]=true:=by simp only[trees,tree,cK,aP,ti,Bool.and_self]
   have Y8:=tO z pn;simp only[cK,bX,cC,ints] at OV Ss;refine T.rx af follows [0,1,2,3,4,5,6,7,8,9,10,11,12] [] N4 ?_;simp[hC,h1,Qz,cC];refine RX.call rfl N3 rfl rfl rfl Ss OV ?_;simp;apply aY;simp[hC,wi];refine⟨r.items.length-(i+1),by omega,aa.trim [47,46,45,7,6,5,2,1] [1,0] 2 Xq yA ⟨i+1,dJ z pn,rfl,by omega,Y8,by rw[← Sh];exact hD,?_⟩⟩;simp[hp8,uf,bX,cD,ints,aB,cj,di,df,O4]
  ·have Oe:i=r.items.length:=by omega
   subst Oe;rw[List.drop_length,lL] at hD;apply ai;simp[hC];refine T.seq (T.cond (b:=false) rfl ?_);simp;apply T.exit;simp;apply ai;simp[hC];apply T.ret;apply aa.here;simp[Tryz.results57,hD]
def hp9 (u:Un)(l:List Ru)(r:Ru)(e:Et):List (Nat×Ob):=[(3,⟨47,0,eE e⟩),(2,⟨55,0,cj r⟩),(1,⟨47,0,[I 0,I 0,I 0]⟩),(0,⟨142,0,uf u l⟩)]
def J206 (u:Un)(l:List Ru)(r:Ru)(y:Is)(m:Nat)(P2:List Et)(n:Nat)(s:St):Prop:=∃ (j:Nat) (e:Et),n=r.items.length-j∧j≤r.items.length∧lg u y m P2 r.items ⟨0,0,0⟩=lg u y m P2 (r.items.drop j) e∧
 s=⟨[(23,I j),(22,I r.items.length),(21,di r.items),(10,.aq 3 0),(9,.aq 2 0),(8,.aq 1 0),(4,.aq 0 0),(2,I m),(3,lS P2)],hp9 u l r e,4⟩
set_option maxRecDepth 100000 in
set_option maxHeartbeats 4000000 in
theorem yn {u:Un}(hu:im u)(l:List Ru)(k:Nat)(r:Ru)(hr:l[k]? = some r)(hi:r.items.length≤1000){ii:Nat}{y:Is}(O4:r.inst=ii)(hy:(ak u).is[ii]? = some y)(QQ:lL u (ak u) l k ii r.ct y r.items [0]=true)(m:Nat)(P2:List Et)(Qd:P2.length=k):ae Tryz.prog 58 [xI u l,I k,I m,lS P2] (.agg (eE (lg u y m P2 r.items ⟨0,0,0⟩))):=by
 have Ot:=(List.getElem?_eq_some_iff.1 hr).1;have UY:=aD (f:=cj) (n:=3) cI hr;have Tj:=jM u l;have teb:=fv P2;have Sw:=kH hu hy;have Sv:=(List.getElem?_eq_some_iff.1 hy).1;have Qz:=aD (f:=cC) (n:=2) dM hy;have ON:=tV _ _ QQ;refine ae.aH af Tryz.func58 rfl N4 (by simp[Tryz.ntmps58]) rfl fun C hC N8=>?_;rw[Tryz.ntmps58] at hC;simp only[xI,uf,bX,cD,ints,df,List.cons_append,List.nil_append] at Tj ⊢;apply ai;simp[hC];apply ai;simp[hC,Ot,UY,cj,di,O4];apply aL;simp[hC];apply T.block;refine T.aI (J206 u l r y m P2) (n:=r.items.length) ?_ ?_
 ·refine aa.trim [23,22,21,10,9,8,4,2,3] [3,2,1,0] 4 yCn yA ⟨0,⟨0,0,0⟩,by omega,by omega,by simp,?_⟩;simp[hp9,uf,bX,cD,ints,aB,cj,di,df,O4,eE]
 ·rintro n s ⟨j,e,rfl,hjn,hE,rfl⟩;simp only[hp9,uf,bX,cD,ints,df,cj,di,O4,eE,List.cons_append,List.nil_append];by_cases OD:j<r.items.length
  ·obtain⟨it,Oq⟩:∃ it,r.items[j]? = some it:=⟨_,List.getElem?_eq_getElem OD⟩;have Sl:=aD (f:=eX) (n:=2) dq Oq;have wj:=cf ((j:Int)+1) yA yA;obtain⟨z,VH,R0,hz,O5⟩:=ON it (List.mem_of_getElem? Oq);obtain⟨p,rl⟩:=it;obtain⟨pn,rfl⟩:∃ pn:Nat,p=pn:=⟨p.toNat,by simp only at R0;omega⟩;simp only[Int.toNat_natCast] at hz VH O5;rw[xD Oq,jH] at hE;have TE:=eK hu y;have Ra:=(List.getElem?_eq_some_iff.1 hz).1;have Rp:=Cd hu Sw hz m;have ti:=bD y;have tcg:trees [cK u,.agg (cC y),I (pn:Int),I (m:Int)]=true:=by simp only[trees,tree,cK,aP,ti,Bool.and_self]
   have SE:=pof_e (dw y m z);have RW:=GN e (je u y m P2 ⟨pn,rl⟩);simp only[cK,bX,cC,ints] at Rp tcg;simp only[eE] at SE RW;apply ai;simp[hC,OD];refine T.seq (T.cond (b:=true) rfl (T.skip ?_));simp;apply eG;apply ai;simp[hC,OD,Sl,eX];apply T.seq;refine T.rx af follows [0,1,2,3,4,5,6,7,8,9,10,11,14,12,13,15] [(1,14),(4,14),(6,14),(8,14),(10,14),(14,12),(14,13)] N4 ?_;simp[hC,Sv,Qz,cC];refine RX.call rfl N3 rfl rfl rfl tcg Rp ?_;simp;refine RX.call rfl N3 rfl rfl rfl rfl SE ?_;simp;obtain⟨ow,PY⟩:∃ ow,je u y m P2 ⟨pn,rl⟩=ow:=⟨_,rfl⟩;rw[PY] at hE RW;refine T.cut (fun s=>s=⟨[(13,.aq 19 0),(23,I j),(22,I r.items.length),(21,.az (r.items.flatMap eX) r.items.length),(10,.aq 3 0),(9,.aq 2 0),(8,.aq 1 0),(4,.aq 0 0),(2,I m),(3,lS P2)],[(19,⟨47,0,[I ow.lo,I ow.hi,I ow.fo]⟩),(3,⟨47,0,[I e.lo,I e.hi,I e.fo]⟩),(2,⟨55,0,[I ii,.bool r.ct,.az (r.items.flatMap eX) r.items.length]⟩),(1,⟨47,0,[I 0,I 0,I 0]⟩),(0,⟨142,0,[.az (u.gs.map fun n=>I n) u.gs.length,.az (u.ms.flatMap eM) u.ms.length,.az (u.ps.flatMap jS) u.ps.length,I u.main,.az ((ak u).is.flatMap cC) (ak u).is.length,.az ((ak u).calls.map ints) (ak u).calls.length,aB (ak u).roots,.az (l.flatMap cj) l.length]⟩)],20⟩) ?_ ?_
   ·rcases O5 with rfl | O5
    ·have Uk:xg (dw y m z)=ow:=by rw[← PY];simp[je,VH]
     rw[Uk];apply ai;simp[hC];refine dv ?_;simp;refine aa.trim [13,23,22,21,10,9,8,4,2,3] [19,3,2,1,0] 20 yCn yA ?_;simp
    ·obtain⟨rn,rfl⟩:∃ rn:Nat,rl=rn:=⟨rl.toNat,by omega⟩;obtain⟨e2,Zv⟩:∃ e2,P2[rn]? = some e2:=⟨_,List.getElem?_eq_getElem yA⟩;have Ok:((rn:Int) != -1)=true:=by rw[bne_iff_ne];omega
     have Uk:e2=ow:=by
      rw[← PY];have:¬ (rn:Int)=-1:=by omega
      simp[je,this,List.getD_eq_getElem?_getD,Zv]
     subst Uk;have Zx:=aD (f:=eE) (n:=3) gX Zv;have Qi:rn<P2.length:=by omega
     apply ai;simp[hC,Ok];refine T.cond (b:=true) (by first | rfl | simp[ev,assoc,Ok]) ?_;simp;apply aY;simp[hC,lS,Qi,Zx,eE];refine aa.trim [13,23,22,21,10,9,8,4,2,3] [19,3,2,1,0] 20 X1 yA ?_;simp
   rintro s rfl;apply aY;simp[hC];refine dc rfl RW ?_;simp;apply aY;simp[hC,wj];refine⟨r.items.length-(j+1),by omega,aa.trim [23,22,21,10,9,8,4,2,3] [3,2,1,0] 4 yCn yA ⟨j+1,gk e ow,rfl,by omega,hE,?_⟩⟩;simp[hp9,uf,bX,cD,ints,aB,cj,di,df,O4,eE]
  ·have QG:j=r.items.length:=by omega
   subst QG;rw[List.drop_length,j3] at hE;apply ai;simp[hC];refine T.seq (T.cond (b:=false) rfl ?_);simp;apply T.exit;simp;apply ai;simp[hC];apply T.ret;apply aa.here;simp[Tryz.results58,hE]
def JY (u:Un)(x:Ce):List (Nat×Ob):=[(3,⟨142,0,uf u x.rules⟩),(2,⟨39,0,qL x⟩)]
def J207b (u:Un)(x:Ce)(m n:Nat)(s:St):Prop:=∃ (i:Nat) (out:List Et),n=x.rules.length-i∧i≤x.rules.length∧out.length=i∧eA u (ak u) x.rules m x.rules []=eA u (ak u) x.rules m (x.rules.drop i) out∧
 s=⟨[(31,I i),(30,I x.rules.length),(10,.bp 4 0 i),(9,.aq 3 0),(5,.aq 2 0)],(4,gW out)::JY u x,5⟩
set_option maxRecDepth 100000 in
set_option maxHeartbeats 4000000 in
theorem z6 {u:Un}(hu:im u)(x:Ce)(hb:MY x):ae Tryz.prog 29 [cK u,eP (ak u),pX x] (.dI [lS (er u x).1,I (er u x).2.1,I (er u x).2.2]):=by
 have Oj:=aP u;have Ox:=bL (ak u);have Rj:=cQ x.rules;have Tj:=jM u x.rules;obtain⟨Pq,O2⟩:=hb;refine ae.aH af Tryz.func29 rfl N4 (by simp[Tryz.ntmps29]) (by simp only[tree,trees,nS,Bool.true_and]) fun C hC N8=>?_;rw[Tryz.ntmps29] at hC;simp only[bX,cD,ints] at Oj Ox;simp only[uf,bX,cD,ints,df,List.cons_append,List.nil_append] at Tj;simp only[cK,eP,bX,cD,ints,pX,qL,df];apply ai;simp[hC];by_cases h0:x.lock<0
 ·have hv:er u x=([],0,6):=by simp[er,h0]
  apply aL;simp[hC,h0];refine cB ?_;simp;apply ai;simp[hC];apply T.ret;simp;refine aa.le (Le.nz [6] []) ?_;apply aa.here;simp[Tryz.results29,hv,lS]
 obtain⟨m,hm⟩:∃ m:Nat,x.lock=m:=⟨x.lock.toNat,by omega⟩;have Ty:¬ (m:Int)<0:=by omega
 by_cases h1:m<u.ms.length
 case neg=>
  have h2:(u.ms.length:Int)≤m:=by omega
  have hv:er u x=([],0,6):=by simp[er,hm,h2]
  apply aL;simp[hC,hm,Ty,h2];refine cB ?_;simp;apply ai;simp[hC];apply T.ret;simp;refine aa.le (Le.nz [6] []) ?_;apply aa.here;simp[Tryz.results29,hv,lS]
 have h2:¬ (u.ms.length:Int)≤m:=by omega
 have hv:er u x=eA u (ak u) x.rules m x.rules []:=by rw[er,if_neg yA,hm,Int.toNat_natCast]
 apply aL;simp[hC,hm,Ty,h2];refine dv ?_;simp;apply ai;simp[hC];apply ai;simp[hC];apply aL;simp[hC];apply T.block;refine T.aI (J207b u x m) (n:=x.rules.length) ?_ ?_
 ·refine aa.le (Le.own 10 47 3 rfl) ?_;simp[St.own];refine aa.trim [31,30,10,9,5] [4,3,2] 5 X1 yA ⟨0,[],by omega,by omega,rfl,by simp,?_⟩;simp[JY,uf,bX,cD,ints,qL,df,gW,hm]
 ·rintro n s ⟨i,out,rfl,Oo,Si,hD,rfl⟩;simp only[JY,uf,bX,cD,ints,qL,df,hm,List.cons_append,List.nil_append];by_cases N6:i<x.rules.length
  ·obtain⟨r,hr⟩:∃ r,x.rules[i]? = some r:=⟨_,List.getElem?_eq_getElem N6⟩;have Tn:=O2 r (List.mem_of_getElem? hr);have wi:=cf ((i:Int)+1) yA yA;have YM:=ER hu x.rules i r hr Pq Tn;have X6:trees [xI u x.rules,I (i:Int)]=true:=by simp only[trees,tree,xI,jM,Bool.true_and]
   rw[xD hr,eA,Si] at hD;simp only[xI,uf,bX,cD,ints,df,List.cons_append,List.nil_append] at YM X6;apply ai;simp[hC,N6];refine T.seq (T.cond (b:=true) rfl (T.skip ?_));simp;apply eG;apply ai;simp[hC];apply aL;simp[hC];refine dc X6 YM ?_
   cases Vf:dm u (ak u) x.rules i r with
   | false=>
    rw[Vf,if_neg N3] at hD;rw[hD] at hv;simp[hC];refine cB ?_;simp;apply ai;simp[hC];apply T.ret;refine aa.le (Le.trim [6,7,8] [] 0 N3 yA) ?_;simp;refine aa.le (Le.nz [6] []) ?_;apply aa.here;simp[hv,lS]
   | true=>
    rw[Vf,if_pos rfl] at hD;obtain⟨ii,y,O4,hy,Yl,QQ⟩:=od Vf;have WZ:te u (ak u) m out r=lg u y m out r.items ⟨0,0,0⟩:=by rw[te,Yl]
    rw[WZ] at hD;have TM:=yn hu x.rules i r hr Tn O4 hy QQ m out Si;obtain⟨e,he⟩:∃ e,lg u y m out r.items ⟨0,0,0⟩=e:=⟨_,rfl⟩;rw[he] at TM hD;simp only[xI,uf,bX,cD,ints,df,List.cons_append,List.nil_append,lS,Si] at TM;have On:List.take (i*3) (out.flatMap eE)=out.flatMap eE:=List.take_of_length_le (by rw[aM gX,Si];omega);simp[hC];refine dv ?_;simp;apply aY;simp[hC];have Ou:(gW out).cells.length=out.length*3:=aM (f:=eE) (n:=3) gX out;have RI:(i+1)*24≤140737488355328:=by omega
    have teo:trees (gW out).cells=true:=fv out;have P3:trees ((gW out).cells++[I e.lo,I e.hi,I e.fo])=true:=by rw[aZ,teo];rfl
    have rN:=fun ρ=>ay ρ _ P3;have rH:=fun ρ=>ay ρ _ Tj;have X8:=aE (ak u).roots;simp only[eE] at TM;refine TL.call Oc rfl rfl (bH.lent rfl (by simp[sK,Hj,assoc,gW,tree,X8,eE,On]) TM rfl) (TL.go' af ?_);simp[hC,aS,Ou,Si,RI,show (gW out).sz=3 from rfl,show (gW out).elem=47 from rfl];apply aY;simp[hC,wi];refine⟨x.rules.length-(i+1),by omega,?_⟩;refine aa.le (Le.norm [31,30,10,9,5] [(6,4),(3,3),(2,2)] 0 5 Pn Pk (by simp[cX,qx,ox,tree,assoc,-List.all_eq_true,-List.all_flatMap,aC Tj,aC P3]) yA) ?_;simp[cT,cc,bV,dT,fc,assoc,rN,fy];refine aa.here ⟨i+1,out++[e],rfl,by omega,by simp[Si],hD,?_⟩;simp[JY,uf,bX,cD,ints,qL,df,hm,gW,eE]
  ·have Oe:i=x.rules.length:=by omega
   subst Oe;rw[List.drop_length,eA] at hD;rw[hD] at hv;have Qq:=fv out;apply ai;simp[hC];refine T.seq (T.cond (b:=false) rfl ?_);simp;apply T.exit;simp;apply ai;simp[hC];apply T.ret;have On:List.take (x.rules.length*3) (out.flatMap eE)=out.flatMap eE:=List.take_of_length_le (by rw[aM gX,Si];omega);refine aa.le (Le.trim [6,7,8] [4] 5 (by simp[gW,-List.all_eq_true,ah (fv out)]) yA) ?_;simp;refine aa.le (Le.cV (o:=4) rfl Qq) ?_;apply aa.here;simp[hv,lS,gW,bQ,Si,On]
end Go.Proofs.YtlkmbdfhdknlgaaGreatDoor
namespace Go.Can
open Go.RowKit
def IN (P:Program)(av:List (Nat×TI))(f:FuncId)(args:List CV)(H:List (Nat×Ob))(n:Nat)(ks:List Nat)(R:CV→St→Prop):Prop:=
 ∃ fn c, P.funcs[f]? = some fn ∧ fn.body = some c ∧ (fn.name == "runtime.NumGoroutine") = false ∧ args.length ≤ fn.ntmps ∧
  ∀ C:Cx,C.nt=fn.ntmps→C.n0=n→(∀ k∈ks,∀ B b,C.σ0 k=some B→B.jI=some b→C.own b∨C.w0.heap.size≤b)→T P C c ⟨(enter args).env,H,n⟩ (H0 C av fn R)
def wI:Value→Bool
 | .int .i64 n=>qZ n
 | _=>false
theorem zp {v:Value}(h:wI v=true):∃ n,v=.int .i64 n∧(Lit.int .i64 n).wf=true:=by
 unfold wI at h;split at h
 ·rename_i n;refine⟨n,rfl,?_⟩;simp only[qZ,Bool.and_eq_true,decide_eq_true_eq] at h;simp[Lit.wf,IntKind.min,IntKind.max,IntKind.signed,IntKind.bits];omega
 ·cases h
theorem mapM_some {α β:Type}{f:α→Option β}:∀ (l:List α),(l.mapM f).isSome=l.all fun x=>(f x).isSome
 | []=>by simp
 | x::r=>by
  rw[List.mapM_cons]
  cases h:f x with
  | none=>simp[h]
  | some y=>
   have:=mapM_some (f:=f) r
   cases h2:r.mapM f with
   | none=>simp[h,h2] at this ⊢;simpa using this
   | some z=>simp[h,h2] at this ⊢;simpa using this
theorem qw {P:Program}:∀ (d:Nat) (t:TypeId) (cs ds:List Value),cs.length=ds.length→(cs.all wI=true)→(ds.all wI=true)→(P.keyLits d t ds).isSome=true→(P.keyLits d t cs).isSome=true
 | 0,_,_,_,_,_,_,h=>by simp[Program.keyLits] at h
 | d+1,t,cs,ds,hl,hc,hd,h=>by
  have sub:∀ u n m,(P.keyLits d u ((ds.drop n).take m)).isSome=true→(P.keyLits d u ((cs.drop n).take m)).isSome=true:=fun u n m hs=>by
   refine qw d u _ _ (by simp[hl]) ?_ ?_ hs
   ·exact List.all_eq_true.2 fun x hx=>List.all_eq_true.1 hc x (List.mem_of_mem_drop (List.mem_of_mem_take hx))
   ·exact List.all_eq_true.2 fun x hx=>List.all_eq_true.1 hd x (List.mem_of_mem_drop (List.mem_of_mem_take hx))
  unfold Program.keyLits at h ⊢
  cases hu:P.underlying t with
  | none=>rw[hu] at h;simp at h
  | some u=>
   rw[hu] at h
   cases u with
   | array n e=>
    simp only[hl] at h ⊢;split at h
    ·rename_i he;rw[if_pos he];rw[Option.isSome_map,mapM_some] at h ⊢;exact List.all_eq_true.2 fun i hi=>sub _ _ _ (List.all_eq_true.1 h i hi)
    ·cases h
   | struct fs=>
    simp only[hl] at h ⊢;split at h
    ·rename_i he;rw[if_pos he];rw[Option.isSome_map,mapM_some] at h ⊢;exact List.all_eq_true.2 fun i hi=>sub _ _ _ (List.all_eq_true.1 h i hi)
    ·cases h
   | int q=>
    match ds,cs,hl,hc,hd,h with
    | [x],[y],_,hc,hd,h=>
     simp only[List.all_cons,List.all_nil,Bool.and_true] at hc hd;obtain⟨n,rfl,w1⟩:=zp hd;obtain⟨m,rfl,w2⟩:=zp hc;simp only at h ⊢;split at h
     ·rename_i he;obtain⟨rfl,_⟩:=he;rw[if_pos ⟨rfl,w2⟩];rfl
     ·cases h
    | [],_,_,_,_,h=>simp at h
    | _::_::_,_,_,_,_,h=>simp at h
   | bool=>
    cases ds with
    | nil=>simp at h
    | cons x r=>
     simp only[List.all_cons,Bool.and_eq_true] at hd;obtain⟨n,rfl,_⟩:=zp hd.1;simp at h
   | string=>
    cases ds with
    | nil=>simp at h
    | cons x r=>
     simp only[List.all_cons,Bool.and_eq_true] at hd;obtain⟨n,rfl,_⟩:=zp hd.1;simp at h
   | _=>simp at h
def zU (n:Nat):Value→Bool
 | .agg cs=>decide (cs.size=n) && cs.toList.all wI
 | _=>false
theorem yl {n:Nat}{v:Value}(h:zU n v=true):∃ cs,v=.agg cs∧cs.size=n∧cs.toList.all wI=true:=by
 unfold zU at h;split at h
 ·simp only[Bool.and_eq_true,decide_eq_true_eq] at h;exact⟨_,rfl,h⟩
 ·cases h
def AU (P:Program)(m n:Nat)(t:TypeId):Bool:=P.keyTypeAt m t && P.tiled m t && (match P.underlying t with | some (.array _ _) | some (.struct _)=>true | _=>false) && P.keyType t && (P.cellsOf t == n) && (P.keyLits (P.types.size+1) t (List.replicate n (.int .i64 0))).isSome
theorem AT {P:Program}{m n:Nat}{t:TypeId}(h:AU P m n t=true){v:Value}(hv:zU n v=true):∃ l,keyOf P t v=some l:=by
 simp only[AU,Bool.and_eq_true,beq_iff_eq] at h;obtain⟨⟨⟨⟨⟨h1,h2⟩,h3⟩,h4⟩,h5⟩,h6⟩:=h;obtain⟨cs,rfl,hn,hw⟩:=yl hv;have hk:=qw (P:=P) (P.types.size+1) t cs.toList (List.replicate n (.int .i64 0)) (by simp[hn]) hw (by simp[List.all_replicate,wI,qZ]) h6;obtain⟨L,hL⟩:=Option.isSome_iff_exists.1 hk;have hf:(Value.agg cs).formed P t=true:=by
  unfold Value.formed;split at h3<;>rename_i e<;>simp only[e,hn,h5,beq_self_eq_true] at h3 ⊢;cases h3
 have hif:(if P.keyType t && (Value.agg cs).formed P t then (P.keyLits (P.types.size+1) t (Value.agg cs).cells.toList).map fun ls=>Lit.string (keyBytes ls) else none)=some (.string (keyBytes L)):=by
  rw[if_pos (by rw[h4,hf];rfl),show (Value.agg cs).cells=cs from rfl,hL];rfl
 refine⟨_,Eq.trans ?_ hif⟩;unfold keyOf;split
 ·rfl
 ·rfl
 ·exfalso;split at h3
  ·simp_all
  ·simp_all
  ·cases h3
theorem GH {n:Nat}{v:Value}(h:zU n v=true):BC v=true:=by
 obtain⟨cs,rfl,_,hw⟩:=yl h;simp only[BC];refine List.all_eq_true.2 fun x hx=>?_;obtain⟨k,rfl,_⟩:=zp (List.all_eq_true.1 hw x hx);rfl
theorem HU {P:Program}{m n:Nat}{t:TypeId}(hm:m+1≤10000)(h:AU P m n t=true)(hg:P.eqGuardType P.depth t=false):EqT P t (zU n):=by
 have h':=h;simp only[AU,Bool.and_eq_true,beq_iff_eq] at h';refine⟨fun w x y hx hy=>?_,hg,fun x hx=>(yl hx).imp fun _ h=>h.1⟩;obtain⟨lx,ex⟩:=AT h hx;obtain⟨ly,ey⟩:=AT h hy;obtain⟨r,hr,hi⟩:=run_equal_deep w (by omega:m≤10000) h'.1.1.1.1.1 h'.1.1.1.2 ex ey;have hq:(Op.equalIn 10000 t x y).run P w=.ok r w:=hr;rw[hq];congr 1;have Q0:r=true↔x=y:=by
  rw[hi];refine⟨fun e=>?_,fun e=>?_⟩
  ·subst e;exact keyOf_inj_deep h'.1.1.1.1.2 h'.1.1.1.2 ex ey
  ·subst e;rw[ex] at ey;exact Option.some.inj ey
 have hv:Bv x y=true↔x=y:=⟨rk,fun e=>by subst e;exact pZ (GH hx)⟩;cases r<;>cases hh:Bv x y<;>simp_all
end Go.Can
