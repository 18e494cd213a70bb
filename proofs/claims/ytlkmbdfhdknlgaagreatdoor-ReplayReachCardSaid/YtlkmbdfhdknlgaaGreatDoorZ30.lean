/- block: variables. -/
import Derived.Test.YtlkmbdfhdknlgaaGreatDoorZ29
namespace Go.Proofs.YtlkmbdfhdknlgaaGreatDoor
open Go.Can Go.aN
set_option maxHeartbeats 4000000 in
theorem Mz {C:Cx}{Q:Exit→St→Prop}(hC:C.nt=253)(N8:C.n0=3)(p:Pg)(E0:List En)(l:List Sm)(i:Nat){g:Nat}{fs:List (ByteArray×List Pm)}{ps:List Pm}{V:List ByteArray}(E:List En)(k st:Nat)(c:List In)(s:List Nat)(n:Nat)
  (hE:EW g p.ms fs ps V E k) (hl:E.length≤90000) (hk:k≤9000) (hc:c.length≤9000) (hs:s.length≤9000) (nm:ByteArray) (x:Ex) (hn:iJ E nm=none) (hx:fK V 2 x) :
  T Tryz.prog C (jI Tryz.f84 2) (MS p E0 l i E k st c s (.gP nm x) n) (fw (aa C (fun z=>z=NS p E0 l i (E++[⟨nm,4,k⟩]) (k+1) st (c++[.set k false (dP E x)]) (s++[n]))) Q):=by
 have hb:=jU p E k st c.length s.length hE yA n 2 x hx;have Rz:=qD E nm yA;rw[hn] at Rz;obtain⟨a1,a2,a3,a4,a5,ha,Yu⟩:=k9 x;obtain⟨b1,b2,b3,b4,b5,Oy,Vc⟩:=k9 (dP E x);have Oo:cU (.set k false (dP E x))=[I 1,I k,.bool false,I b1,I b2,.str b3,.az b4 b5,.bool false,I 0,.az [] 0,.az [] 0,.az [] 0]:=by simp[cU,Oy,sF]
 have QC:ib (.gP nm x)=[I 1,.str nm,I a1,I a2,.str a3,.az a4 a5,.str eS,.az [] 0,.az [] 0,.az [] 0,.az [] 0]:=by simp[ib,ha,kQ]
 rw[ha,Oy] at hb;apply T.block;simp only[MS,mE,mH,Hl,QC];apply ai;simp[hC];refine cB ?_;simp;refine T.seq (T.seq ?_);refine T.rx af follows [0,1,2,3,4,5,10,6,7,8,9,11,12] [(3,10),(5,10),(10,6)] N4 ?_;simp[hC,fO];refine RX.call rfl N3 rfl rfl rfl Od (Rz) ?_;simp[qB];apply ai;simp[hC];refine dv ?_;simp;refine T.le (Le.to (s':=MZ p E0 l i E k st c s [I 1,.str nm,I a1,I a2,.str a3,.az a4 a5,.str eS,.az [] 0,.az [] 0,.az [] 0,.az [] 0] n) [6,7,5,4,0,1] [0,3,4,5] 6 Qt yA rfl) ?_;simp only[MZ,mE];apply ai;simp[hC];refine TL.gJ (hb) yA rfl Oc rfl rfl QX QZ QY (TL.go' af ?_);simp[hC];refine T.le (Le.trim [6,7,5,4,0,1,10] [0,3,4,5,6] 7 Qt yA) ?_;simp;apply T.seq;refine T.rx af follows [0,1,2,3,4,5,6,7,8] [] N4 ?_;simp[hC,fO];refine RX.hU (uK p E k st c s [I 1,I k,.bool false,I b1,I b2,.str b3,.az b4 b5,.bool false,I 0,.aj,.aj,.aj] rfl yB n yA yA) QB (aW _) QB (aW _) yA rfl rfl N3 rfl rfl QX QZ QY N3 ?_;simp;refine T.le (jo N8 [6,7,5,4,0,1] 16 17 (e:=mE E0 l i n) rfl U4 rfl rfl rfl rfl rfl yB (jf _ _ (.set k false (dP E x)) (by simp[Oo])) rfl N3 N3) ?_;simp only[mE];have f1:=aM (f:=ic) (n:=3) kB E;have RO:E.length*32≤140737488355328:=by omega
 have Xk:(E.length+1)*32≤140737488355328:=by omega
 apply T.seq;refine T.rx af follows [0,1,2,3,4,5,6,7,8,9,10,11,12,13,14,15,16,17,18] [(1,5),(1,8),(1,12),(1,14),(5,14),(6,8),(6,12),(6,14)] N4 ?_;simp[hC,fO,f1,RO,Xk,aS];have wk:=cf ((k:Int)+1) yA yA;have tn:trees (E.flatMap ic++[.str nm,I 4,I k])=true:=by rw[aZ,ck];rfl
 have tk:List.take ((E.length+1)*3) (E.flatMap ic++[.str nm,I 4,I k])=E.flatMap ic++[.str nm,I 4,I k]:=List.take_of_length_le (by simp only[List.length_append,f1,List.length_cons,List.length_nil];omega);have q1:=ah (iR p.gs);have q2:=ah (gj p.ms);have q3:=ah (cG p.fs);have q4:=ah (ck E);have q5:=ah (ck E0);have q6:=ah (bA l);apply aY;simp[hC,wk];refine aa.le (Le.trim [5,4,0,1] [0,26,3,4] 27 (by simp[-List.all_eq_true,-List.all_flatMap,q4]) yA) ?_;simp;refine aa.le (Le.cV (o:=26) rfl tn) ?_;simp[tk];refine aa.trim [5,4,0,1] [0,3,4] 5 Qt yA ?_;simp[NS,bE,fO,ic]
theorem yW (c S:List In){i0 i1:In}{a b d:CV}{r:List CV}(h0:cU i0=a::b::r)(h1:cU i1=a::d::r) :
  List.take (c.length*12+1) (eW (c++i0::S)).cells++d::List.drop (c.length*12+1+1) (eW (c++i0::S)).cells=(eW (c++i1::S)).cells:=by
 have e0:(eW (c++i0::S)).cells=c.flatMap cU++(a::b::(r++S.flatMap cU)):=by simp[eW,h0]
 have e1:(eW (c++i1::S)).cells=c.flatMap cU++(a::d::(r++S.flatMap cU)):=by simp[eW,h1]
 rw[e0,e1,← yX c];rw[List.take_append,List.drop_append,List.take_of_length_le yA,List.drop_of_length_le yA];have k1:(c.flatMap cU).length+1-(c.flatMap cU).length=1:=by omega
 have k2:(c.flatMap cU).length+1+1-(c.flatMap cU).length=2:=by omega
 rw[k1,k2];simp
theorem yY (c S:List In)(i0:In):c.length*12+1+1≤(eW (c++i0::S)).cells.length:=by
 simp only[eW,yX,List.length_append,List.length_cons];omega
def FV (p:Pg)(l:List Sm)(E:List En)(k st:Nat)(c:List In)(s:List Nat):Prop:=
 Body Tryz.prog av 84 [.aq 0 0,.az (bx l) l.length] (T3 p E k st c.length s.length (eW c) (fW s)) 3
  (jA (.dI []) (T4 p E (bR l E k c.length).2 (st+fb l) (c.length+(bR l E k c.length).1.length) (s.length+(iw l st).length) (eW (c++(bR l E k c.length).1)) (fW (s++iw l st))) (3+2))
set_option maxHeartbeats 4000000 in
theorem cs_if {C:Cx}{Q:Exit→St→Prop}(hC:C.nt=253)(N8:C.n0=3)(p:Pg)(E0:List En)(l:List Sm)(i:Nat){g:Nat}{fs:List (ByteArray×List Pm)}{ps:List Pm}{V:List ByteArray}(E:List En)(k st:Nat)(c:List In)(s:List Nat)(n:Nat)
  (hE:EW g p.ms fs ps V E k) (hl:E.length≤90000) (_hk:k≤9000) (hc:c.length≤9000) (hs:s.length≤9000) (x:Ex) (th el:List Sm) (hx:fK V 2 x)
  (OH:st=n+1) (h1:FV p th E k st (c++[.branch 0 (dP E x)]) (s++[n])) (Ou:el.length=0) :
  T Tryz.prog C (jI Tryz.f84 2) (MS p E0 l i E k st c s (.lu x th el) n) (fw (aa C (fun z=>z=NS p E0 l i E (bR th E k (c.length+1)).2 (st+fb th) (c++(dW (.lu x th el) E k c.length).1) (s++vM (.lu x th el) n))) Q):=by
 subst OH;simp only[FV,List.length_append,List.length_singleton] at h1;have hb:=jU p E k (n+1) c.length s.length hE yA n 2 x hx;obtain⟨a1,a2,a3,a4,a5,ha,Yu⟩:=k9 x;obtain⟨b1,b2,b3,b4,b5,Oy,Vc⟩:=k9 (dP E x);have Oo:cU (.branch 0 (dP E x))=[I 6,I 0,.bool false,I b1,I b2,.str b3,.az b4 b5,.bool false,I 0,.az [] 0,.az [] 0,.az [] 0]:=by simp[cU,Oy,sF]
 have QC:ib (.lu x th el)=[I 7,.str eS,I a1,I a2,.str a3,.az a4 a5,.str eS,.az [] 0,.az [] 0,.az (bx th) th.length,.az (bx el) el.length]:=by simp[ib,ha,kQ]
 rw[ha,Oy] at hb;have t1:=bA th;have t2:=bA el;have q5:=ah (ck E0);have q6:=ah (bA l);apply T.block;simp only[MS,mE,mH,Hl,QC];apply ai;simp[hC];refine aX ?_;simp;apply ai;simp[hC];refine aX ?_;simp;apply aL;simp[hC];refine aX ?_;simp;apply aY;simp[hC];refine aX ?_;simp;apply ai;simp[hC];refine aX ?_;simp;apply ai;simp[hC];refine aX ?_;simp;apply ai;simp[hC];refine cB ?_;simp;apply ai;simp[hC];refine TL.gJ (hb) yA rfl Oc rfl rfl QX QZ QY (TL.go' af ?_);simp[hC];refine TL.hU (uK p E k (n+1) c s [I 6,I 0,.bool false,I b1,I b2,.str b3,.az b4 b5,.bool false,I 0,.aj,.aj,.aj] rfl yB n yA yA) QB (aW _) QB (aW _) yA rfl Oc rfl rfl QX QZ QY (TL.go' af ?_);simp[hC];refine T.le (jo N8 [12,6,7,5,4,0,1] 6 7 (e:=(12,I c.length)::mE E0 l i n) rfl U4 rfl rfl rfl rfl rfl yB (jf _ _ (.branch 0 (dP E x)) (by simp[Oo])) rfl N3 N3) ?_;simp only[mE];apply ai;simp[hC];refine TL.hU h1 (cb _) (aW _) (cb _) (aW _) yA rfl Oc rfl rfl rfl X0 rfl (TL.go' af ?_);generalize hS:bR th E k (c.length+1)=S at h1;obtain⟨S1,S2⟩:=S;generalize hT:iw th (n+1)=S3 at h1;simp only at h1;simp[Ou];have Uv:cU (.branch (c.length+1+S1.length) (dP E x))=[I 6,I ((c.length+1+S1.length:Nat):Int),.bool false,I b1,I b2,.str b3,.az b4 b5,.bool false,I 0,.az [] 0,.az [] 0,.az [] 0]:=by simp[cU,Oy,sF]
 have QT:=yW c S1 Oo Uv;have W6:=yY c S1 (.branch 0 (dP E x));simp only[Int.natCast_add,Int.cast_ofNat_Int] at QT;apply ai;simp[hC];refine aX ?_;simp;refine T.rx af follows [0,1,2,3,4,5,6,7,8,9,10,11,12] [] N4 ?_;have Oa:(c.length:Int)<(c.length:Int)+1+(S1.length:Int):=by omega
 simp[hC,fO,Oa,W6,QT];refine aa.le (kR N8 [5,4,0,1] 6 7 (e:=bE E0 l i) rfl (pb _ _ _) (pd _ _ _) rfl rfl rfl rfl (c':=c++.branch (c.length+1+S1.length) (dP E x)::S1) (s':=s++n::S3) (qt _) rfl PX PX) (aa.here ?_);simp[dW,vM,Ou,hS,hT,NS]
set_option maxHeartbeats 4000000 in
theorem MB {C:Cx}{Q:Exit→St→Prop}(hC:C.nt=253)(N8:C.n0=3)(p:Pg)(E0:List En)(l:List Sm)(i:Nat){g:Nat}{fs:List (ByteArray×List Pm)}{ps:List Pm}{V:List ByteArray}(E:List En)(k st:Nat)(c:List In)(s:List Nat)(n:Nat)
  (hE:EW g p.ms fs ps V E k) (hl:E.length≤90000) (_hk:k≤9000) (hc:c.length≤9000) (hs:s.length≤9000) (x:Ex) (th el:List Sm) (hx:fK V 2 x)
  (OH:st=n+1) (h1:FV p th E k st (c++[.branch 0 (dP E x)]) (s++[n])) (h2:FV p el E (bR th E k (c.length+1)).2 (n+1+fb th) (c++.branch (c.length+2+(bR th E k (c.length+1)).1.length) (dP E x)::((bR th E k (c.length+1)).1++[.jump 0])) (s++n::(iw th (n+1)++[n]))) (Ou:0<el.length) (Og:c.length+(bR th E k (c.length+1)).1.length≤9000) (RK:s.length+(iw th (n+1)).length≤9000) :
  T Tryz.prog C (jI Tryz.f84 2) (MS p E0 l i E k st c s (.lu x th el) n) (fw (aa C (fun z=>z=NS p E0 l i E (bR el E (bR th E k (c.length+1)).2 (c.length+2+(bR th E k (c.length+1)).1.length)).2 (st+fb th+fb el) (c++(dW (.lu x th el) E k c.length).1) (s++vM (.lu x th el) n))) Q):=by
 subst OH;simp only[FV,List.length_append,List.length_singleton] at h1;simp only[FV,List.length_append,List.length_cons,List.length_nil,Nat.zero_add] at h2;have hb:=jU p E k (n+1) c.length s.length hE yA n 2 x hx;obtain⟨a1,a2,a3,a4,a5,ha,Yu⟩:=k9 x;obtain⟨b1,b2,b3,b4,b5,Oy,Vc⟩:=k9 (dP E x);have Oo:cU (.branch 0 (dP E x))=[I 6,I 0,.bool false,I b1,I b2,.str b3,.az b4 b5,.bool false,I 0,.az [] 0,.az [] 0,.az [] 0]:=by simp[cU,Oy,sF]
 have QC:ib (.lu x th el)=[I 7,.str eS,I a1,I a2,.str a3,.az a4 a5,.str eS,.az [] 0,.az [] 0,.az (bx th) th.length,.az (bx el) el.length]:=by simp[ib,ha,kQ]
 rw[ha,Oy] at hb;have t1:=bA th;have t2:=bA el;have q5:=ah (ck E0);have q6:=ah (bA l);apply T.block;simp only[MS,mE,mH,Hl,QC];apply ai;simp[hC];refine aX ?_;simp;apply ai;simp[hC];refine aX ?_;simp;apply aL;simp[hC];refine aX ?_;simp;apply aY;simp[hC];refine aX ?_;simp;apply ai;simp[hC];refine aX ?_;simp;apply ai;simp[hC];refine aX ?_;simp;apply ai;simp[hC];refine cB ?_;simp;apply ai;simp[hC];refine TL.gJ (hb) yA rfl Oc rfl rfl QX QZ QY (TL.go' af ?_);simp[hC];refine TL.hU (uK p E k (n+1) c s [I 6,I 0,.bool false,I b1,I b2,.str b3,.az b4 b5,.bool false,I 0,.aj,.aj,.aj] rfl yB n yA yA) QB (aW _) QB (aW _) yA rfl Oc rfl rfl QX QZ QY (TL.go' af ?_);simp[hC];refine T.le (jo N8 [12,6,7,5,4,0,1] 6 7 (e:=(12,I c.length)::mE E0 l i n) rfl U4 rfl rfl rfl rfl rfl yB (jf _ _ (.branch 0 (dP E x)) (by simp[Oo])) rfl N3 N3) ?_;simp only[mE];apply ai;simp[hC];refine TL.hU h1 (cb _) (aW _) (cb _) (aW _) yA rfl Oc rfl rfl rfl X0 rfl (TL.go' af ?_);generalize hS:bR th E k (c.length+1)=S at h1 h2 Og;obtain⟨S1,S2⟩:=S;generalize hT:iw th (n+1)=S3 at h1 h2 RK;simp only at h1 h2 Og;have hlen:c.length+(S1.length+1+1)=c.length+2+S1.length:=by omega
 generalize hS':bR el E S2 (c.length+(S1.length+1+1))=S' at h2;obtain⟨S4,S5⟩:=S';generalize hT':iw el (n+1+fb th)=S6 at h2;simp only at h2;simp;refine T.le (jo N8 [12,6,7,5,4,0,1] 6 7 (e:=(12,I c.length)::mE E0 l i n) (c':=c++.branch 0 (dP E x)::S1) (s':=s++n::S3) rfl U4 rfl rfl rfl rfl rfl yB (qt _) rfl PX PX) ?_;simp only[mE];have hel':0<el.length:=Ou;apply ai;simp[hC,hel'];refine cB ?_;simp;apply ai;simp[hC];refine TL.hU (LQ p E S2 (n+1+fb th) (c++.branch 0 (dP E x)::S1) (s++n::S3) (c.length+(S1.length+1)) (s.length+(S3.length+1)) N3 N3 [I 7,I 0,.bool false,I 0,I 0,.str eS,.aj,.bool false,I 0,.aj,.aj,.aj] rfl rfl n yA yA) QB (aW _) QB (aW _) yA rfl Oc rfl rfl QX QZ QY (TL.go' af ?_);simp[hC];refine T.le (jo N8 [13,12,6,7,5,4,0,1] 6 7 (e:=(13,I (c.length+(S1.length+1)))::(12,I c.length)::mE E0 l i n) (c':=c++.branch 0 (dP E x)::(S1++[.jump 0])) (s':=s++n::(S3++[n])) rfl U4 rfl rfl rfl rfl rfl yB (by simpa using jf (c++In.branch 0 (dP E x)::S1) [I 7,I 0,.bool false,I 0,I 0,.str eS,.aj,.bool false,I 0,.aj,.aj,.aj] (.jump 0) (by simp[cU,bM,sF])) rfl PX PX) ?_;simp only[mE];have Uv:cU (.branch (c.length+2+S1.length) (dP E x))=[I 6,I ((c.length:Int)+((S1.length:Int)+1+1)),.bool false,I b1,I b2,.str b3,.az b4 b5,.bool false,I 0,.az [] 0,.az [] 0,.az [] 0]:=by
  simp[cU,Oy,sF];omega
 have QT:=yW c (S1++[.jump 0]) Oo Uv;have W6:=yY c (S1++[.jump 0]) (.branch 0 (dP E x));have Oa:(c.length:Int)<(c.length:Int)+((S1.length:Int)+1+1):=by omega
 apply T.seq;refine T.rx af follows [0,1,2,3,4,5,6,7,8,9,10,11,12] [] N4 ?_;simp[hC,fO,Oa,W6,QT];refine T.le (jo N8 [13,12,6,7,5,4,0,1] 3 4 (e:=(13,I (c.length+(S1.length+1)))::(12,I c.length)::mE E0 l i n) (c':=c++In.branch (c.length+2+S1.length) (dP E x)::(S1++[In.jump 0])) (s':=s++n::(S3++[n])) rfl U4 rfl rfl rfl rfl rfl yB (qt _) rfl N3 N3) ?_;simp only[mE];apply ai;simp[hC];refine TL.hU h2 (cb _) (aW _) (cb _) (aW _) yA rfl Oc rfl rfl rfl X0 rfl (TL.go' af ?_);simp;have hin0:cU (.jump 0)=[I 7,I 0,.bool false,I 0,I 0,.str eS,.az [] 0,.bool false,I 0,.az [] 0,.az [] 0,.az [] 0]:=by simp[cU,bM,sF]
 have hin2:cU (.jump (c.length+2+S1.length+S4.length))=[I 7,I ((c.length:Int)+((S1.length:Int)+1+1)+(S4.length:Int)),.bool false,I 0,I 0,.str eS,.az [] 0,.bool false,I 0,.az [] 0,.az [] 0,.az [] 0]:=by
  simp[cU,bM,sF];omega
 have ZB:=yW (c++In.branch (c.length+2+S1.length) (dP E x)::S1) S4 hin0 hin2;have ZD:=yY (c++In.branch (c.length+2+S1.length) (dP E x)::S1) S4 (.jump 0);simp only[List.length_append,List.length_cons,List.append_assoc,List.cons_append] at ZB ZD;have Pv:(c.length:Int)+((S1.length:Int)+1)<(c.length:Int)+((S1.length:Int)+1+1)+(S4.length:Int):=by omega
 have Ul:(0:Int)≤(c.length:Int)+((S1.length:Int)+1):=by omega
 have htn:((c.length:Int)+((S1.length:Int)+1)).toNat=c.length+(S1.length+1):=by omega
 refine T.rx af follows [0,1,2,3,4,5,6,7,8,9,10,11,12] [] N4 ?_;simp[hC,fO,Pv,Ul,htn,ZD,ZB];have Ok:¬ el.length=0:=by omega
 have V7:bR el E S2 (c.length+2+S1.length)=(S4,S5):=by rw[← hlen];exact hS'
 refine aa.le (kR N8 [5,4,0,1] 6 7 (e:=bE E0 l i) rfl (pb _ _ _) (pd _ _ _) rfl rfl rfl rfl (c':=c++In.branch (c.length+2+S1.length) (dP E x)::(S1++In.jump (c.length+2+S1.length+S4.length)::S4)) (s':=s++n::(S3++n::S6)) (qt _) rfl PX PX) (aa.here ?_);simp[dW,vM,Ok,hS,V7,hT,hT',NS]
set_option maxHeartbeats 4000000 in
theorem H9 {C:Cx}{Q:Exit→St→Prop}(hC:C.nt=253)(N8:C.n0=3)(p:Pg)(E0:List En)(l:List Sm)(i:Nat){g:Nat}{fs:List (ByteArray×List Pm)}{ps:List Pm}{V:List ByteArray}(E:List En)(k st:Nat)(c:List In)(s:List Nat)(n:Nat)
  (hE:EW g p.ms fs ps V E k) (hl:E.length≤90000) (_hk:k≤9000) (hc:c.length≤9000) (hs:s.length≤9000) (x:Ex) (th:List Sm) (hx:fK V 2 x)
  (OH:st=n+1) (h1:FV p th E k st (c++[.branch 0 (dP E x)]) (s++[n])) (Og:c.length+(bR th E k (c.length+1)).1.length≤9000) (RK:s.length+(iw th (n+1)).length≤9000) :
  T Tryz.prog C (jI Tryz.f84 2) (MS p E0 l i E k st c s (.cE x th) n) (fw (aa C (fun z=>z=NS p E0 l i E (bR th E k (c.length+1)).2 (st+fb th) (c++(dW (.cE x th) E k c.length).1) (s++vM (.cE x th) n))) Q):=by
 subst OH;simp only[FV,List.length_append,List.length_singleton] at h1;have hb:=jU p E k (n+1) c.length s.length hE yA n 2 x hx;obtain⟨a1,a2,a3,a4,a5,ha,Yu⟩:=k9 x;obtain⟨b1,b2,b3,b4,b5,Oy,Vc⟩:=k9 (dP E x);have Oo:cU (.branch 0 (dP E x))=[I 6,I 0,.bool false,I b1,I b2,.str b3,.az b4 b5,.bool false,I 0,.az [] 0,.az [] 0,.az [] 0]:=by simp[cU,Oy,sF]
 have QC:ib (.cE x th)=[I 8,.str eS,I a1,I a2,.str a3,.az a4 a5,.str eS,.az [] 0,.az [] 0,.az (bx th) th.length,.az [] 0]:=by simp[ib,ha,kQ]
 rw[ha,Oy] at hb;have t1:=bA th;have q5:=ah (ck E0);have q6:=ah (bA l);apply T.block;simp only[MS,mE,mH,Hl,QC];apply ai;simp[hC];refine aX ?_;simp;apply ai;simp[hC];refine aX ?_;simp;apply aL;simp[hC];refine aX ?_;simp;apply aY;simp[hC];refine aX ?_;simp;apply ai;simp[hC];refine aX ?_;simp;apply ai;simp[hC];refine aX ?_;simp;apply ai;simp[hC];refine aX ?_;simp;apply ai;simp[hC];refine cB ?_;simp;apply ai;simp[hC];refine TL.gJ (hb) yA rfl Oc rfl rfl QX QZ QY (TL.go' af ?_);simp[hC];refine TL.hU (uK p E k (n+1) c s [I 6,I 0,.bool false,I b1,I b2,.str b3,.az b4 b5,.bool false,I 0,.aj,.aj,.aj] rfl yB n yA yA) QB (aW _) QB (aW _) yA rfl Oc rfl rfl QX QZ QY (TL.go' af ?_);simp[hC];refine T.le (jo N8 [14,6,7,5,4,0,1] 6 7 (e:=(14,I c.length)::mE E0 l i n) rfl U4 rfl rfl rfl rfl rfl yB (jf _ _ (.branch 0 (dP E x)) (by simp[Oo])) rfl N3 N3) ?_;simp only[mE];apply ai;simp[hC];refine TL.hU h1 (cb _) (aW _) (cb _) (aW _) yA rfl Oc rfl rfl rfl X0 rfl (TL.go' af ?_);generalize hS:bR th E k (c.length+1)=S at h1 Og;obtain⟨S1,S2⟩:=S;generalize hT:iw th (n+1)=S3 at h1 RK;simp only at h1 Og;simp;refine T.le (jo N8 [14,6,7,5,4,0,1] 6 7 (e:=(14,I c.length)::mE E0 l i n) (c':=c++In.branch 0 (dP E x)::S1) (s':=s++n::S3) rfl U4 rfl rfl rfl rfl rfl yB (qt _) rfl PX PX) ?_;simp only[mE];apply ai;simp[hC];refine TL.hU (LQ p E S2 (n+1+fb th) (c++In.branch 0 (dP E x)::S1) (s++n::S3) (c.length+(S1.length+1)) (s.length+(S3.length+1)) N3 N3 [I 7,I c.length,.bool false,I 0,I 0,.str eS,.aj,.bool false,I 0,.aj,.aj,.aj] rfl rfl n yA yA) QB (aW _) QB (aW _) yA rfl Oc rfl rfl QX QZ QY (TL.go' af ?_);simp;refine T.le (jo N8 [14,6,7,5,4,0,1] 6 7 (e:=(14,I c.length)::mE E0 l i n) (c':=c++In.branch 0 (dP E x)::(S1++[In.jump c.length])) (s':=s++n::(S3++[n])) rfl U4 rfl rfl rfl rfl rfl yB (by simpa using jf (c++In.branch 0 (dP E x)::S1) [I 7,I c.length,.bool false,I 0,I 0,.str eS,.aj,.bool false,I 0,.aj,.aj,.aj] (.jump c.length) (by simp[cU,bM,sF])) rfl PX PX) ?_;simp only[mE];have Uv:cU (.branch (c.length+2+S1.length) (dP E x))=[I 6,I ((c.length:Int)+((S1.length:Int)+1+1)),.bool false,I b1,I b2,.str b3,.az b4 b5,.bool false,I 0,.az [] 0,.az [] 0,.az [] 0]:=by
  simp[cU,Oy,sF];omega
 have QT:=yW c (S1++[.jump c.length]) Oo Uv;have W6:=yY c (S1++[.jump c.length]) (.branch 0 (dP E x));have Oa:(c.length:Int)<(c.length:Int)+((S1.length:Int)+1+1):=by omega
 refine T.rx af follows [0,1,2,3,4,5,6,7,8,9,10,11,12] [] N4 ?_;simp[hC,fO,Oa,W6,QT];refine aa.le (kR N8 [5,4,0,1] 3 4 (e:=bE E0 l i) rfl (pb _ _ _) (pd _ _ _) rfl rfl rfl rfl (c':=c++In.branch (c.length+2+S1.length) (dP E x)::(S1++[In.jump c.length])) (s':=s++n::(S3++[n])) (qt _) rfl N3 N3) (aa.here ?_);simp[dW,vM,hS,hT,NS]
theorem tz:(∀ x:Sm,∀ E k b n,(vM x n).length=(dW x E k b).1.length)∧(∀ l:List Sm,∀ E k b n,(iw l n).length=(bR l E k b).1.length):=by
 let M1:Sm→Prop:=fun x=>∀ E k b n,(vM x n).length=(dW x E k b).1.length
 let M2:List Sm→Prop:=fun l=>∀ E k b n,(iw l n).length=(bR l E k b).1.length
 have A1:∀ (s:ByteArray) (e:Ex),M1 (.gP s e):=fun s e E k b n=>by simp[vM,dW]
 have A2:∀ (s:ByteArray) (e:Ex),M1 (.iy s e):=fun s e E k b n=>by simp[vM,dW]
 have A3:∀ (g:Bool) (s:ByteArray) (l:List Ar),M1 (.dU g s l):=fun g s l E k b n=>by simp[vM,dW]
 have A4:∀ (u:Bool) (r:Rf),M1 (.dx u r):=fun u r E k b n=>by simp[vM,dW]
 have A5:∀ (e:Ex) (th el:List Sm),M2 th→M2 el→M1 (.lu e th el):=fun e th el h1 h2 E k b n=>by
  simp only[vM,dW];split
  ·simp[h1 E k (b+1) (n+1)]
  ·simp[h1 E k (b+1) (n+1),h2 E (bR th E k (b+1)).2 (b+2+(bR th E k (b+1)).1.length) (n+1+fb th)]
 have A6:∀ (e:Ex) (th:List Sm),M2 th→M1 (.cE e th):=fun e th h1 E k b n=>by
  simp[vM,dW,h1 E k (b+1) (n+1)]
 have A7:M1 .jm:=fun E k b n=>by simp[vM,dW]
 have A0:M2 []:=fun E k b n=>by simp[iw,bR]
 have A8:∀ (s:Sm) (r:List Sm),M1 s→M2 r→M2 (s::r):=fun s r h1 h2 E k b n=>by
  simp only[iw,bR,List.length_append];rw[h1 E k b n,h2 (E++fp k s) (dW s E k b).2 (b+(dW s E k b).1.length) (n+nZ s)]
 exact⟨fun s=>Sm.rec (motive_1:=M1) (motive_2:=M2) A1 A2 A3 A4 A5 A6 A7 A0 A8 s,fun l=>Sm.rec_1 (motive_1:=M1) (motive_2:=M2) A1 A2 A3 A4 A5 A6 A7 A0 A8 l⟩
theorem Lr (x:Sm):∃ cs,ib x=I (Hl x)::cs∧cs.length=10:=by
 have h:∃ cs,ib x=I (Hl x)::cs:=by cases x<;>exact⟨_,rfl⟩
 obtain⟨cs,h⟩:=h;have:=kp x;rw[h] at this;exact⟨cs,h,by simpa using this⟩
theorem T.cutL {P:Program}{C:Cx}{s:St}{c:Code}{Q:Exit→St→Prop}(J:St→Prop)(h:T P C c s (fw (aa C J) Q))(hJ:∀ s',J s'→Q .normal s'):T P C c s Q:=by
 refine T.post h fun e s' q=>?_
 cases e with
 | normal=>
  obtain⟨Qu,hj,hl⟩:=q;exact⟨Qu,hJ Qu hj,hl⟩
 | _=>exact⟨s',q,Le.refl _⟩
structure PgB (p:Pg):Prop where
 m:p.ms.length≤1000
 f:p.fs.length≤1000
 p:∀ f∈p.fs,f.params.length≤1000
theorem I7 {C:Cx}{Q:Exit→St→Prop}(hC:C.nt=253)(N8:C.n0=3){p:Pg}(hp:PgB p)(E0:List En)(l:List Sm)(i:Nat){g:Nat}{ps:List Pm}{d:Nat}{V:List ByteArray}{E:List En}{k:Nat}{c:List In}{s:List Nat}{n:Nat}{x:Sm}
  (hE:EW g p.ms (p.fs.map fun f=>(f.name,f.params)) ps V E k) (hx:dQ p.ms (p.fs.map fun f=>(f.name,f.params)) ps d V x) (hl:E.length+en x≤5000) (hk:k+en x≤5000) (hc:c.length+en x≤5000) (hs:s.length+en x≤5000) (OH:n+en x≤1000000)
  (rec:∀ d' < d,∀ (l:List Sm) (V:List ByteArray) (E:List En) (k st:Nat) (c:List In) (s:List Nat),EW g p.ms (p.fs.map fun f=>(f.name,f.params)) ps V E k→cM p.ms (p.fs.map fun f=>(f.name,f.params)) ps d' V l→E.length+bJ l≤5000→k+bJ l≤5000→c.length+bJ l≤5000→s.length+bJ l≤5000→st+bJ l≤1000000→FV p l E k st c s) :
  T Tryz.prog C (jI Tryz.f84 2) (MS p E0 l i E k (n+1) c s x n) (fw (aa C (fun z=>z=NS p E0 l i (E++fp k x) (dW x E k c.length).2 (n+nZ x) (c++(dW x E k c.length).1) (s++vM x n))) Q):=by
 cases x with
 | gP nm e=>
  simp only[dQ] at hx;obtain⟨⟨j,hj,rfl⟩,hv,he⟩:=hx;simp only[en] at hl hk hc hs OH;exact Mz hC N8 p E0 l i E k (n+1) c s n hE yA yA yA yA _ e (hE.o _ hv (wC j hj)) he
 | iy nm e=>
  simp only[dQ] at hx;simp only[en] at hl hk hc hs OH
  simpa only[fp,dW,nZ,vM,List.append_nil] using MC (Q:=Q) hC N8 p E0 l i E k (n+1) c s n hE yA yA yA nm e hx.1 hx.2
 | dU go nm al=>
  simp only[dQ] at hx;obtain⟨gp,h1,h2⟩:=hx;simp only[en] at hl hk hc hs OH;have Sk:gp.length≤1000:=by
   obtain⟨f,hf,he⟩:=List.mem_map.1 h1;have:=hp.p f hf;simp only[Prod.mk.injEq] at he;rw[← he.2];exact this
  simpa only[fp,dW,nZ,vM,List.append_nil] using J9 (Q:=Q) hC N8 p E0 l i E k (n+1) c s n hE yA hp.m hp.f yA yA go nm gp al h1 h2 Sk
 | dx u r=>
  simp only[dQ] at hx;simp only[en] at hl hk hc hs OH
  simpa only[fp,dW,nZ,vM,List.append_nil] using J8 (Q:=Q) hC N8 p E0 l i E k (n+1) c s n hE yA hp.m yA yA u r hx
 | jm=>
  simp only[en] at hl hk hc hs OH
  simpa only[fp,dW,nZ,vM,List.append_nil] using MA (Q:=Q) hC N8 p E0 l i E k (n+1) c s n yA yA
 | lu e th el=>
  cases d with
  | zero=>simp only[dQ] at hx
  | succ d=>
   simp only[dQ] at hx;simp only[en] at hl hk hc hs OH;obtain⟨v1,_,v3,v4⟩:=zI.2 th d V E k (c.length+1) hE hx.2.1;have v5:=tz.2 th E k (c.length+1) (n+1);have v6:=ya.2 th;have h1:=rec d yA th V E k (n+1) (c++[.branch 0 (dP E e)]) (s++[n]) hE hx.2.1 yA yA PX PX yA;by_cases Ou:el.length=0
   ·have Ux:el=[]:=List.eq_nil_of_length_eq_zero Ou;have:=cs_if (Q:=Q) hC N8 p E0 l i E k (n+1) c s n hE yA yA yA yA e th el hx.1 rfl h1 Ou;subst Ux;have e1:n+nZ (.lu e th [])=n+1+fb th:=by simp only[nZ,fb];omega
    have e2:(dW (.lu e th []) E k c.length).2=(bR th E k (c.length+1)).2:=by simp[dW]
    rw[e1,e2]
    simpa only[fp,List.append_nil] using this
   ·have h2:=rec d yA el V E (bR th E k (c.length+1)).2 (n+1+fb th) (c++.branch (c.length+2+(bR th E k (c.length+1)).1.length) (dP E e)::((bR th E k (c.length+1)).1++[.jump 0])) (s++n::(iw th (n+1)++[n])) (hE.up v1) hx.2.2 yA yA PX PX yA;have:=MB (Q:=Q) hC N8 p E0 l i E k (n+1) c s n hE yA yA yA yA e th el hx.1 rfl h1 h2 yA yA yA;have e1:n+nZ (.lu e th el)=n+1+fb th+fb el:=by simp only[nZ];omega
    have e2:(dW (.lu e th el) E k c.length).2=(bR el E (bR th E k (c.length+1)).2 (c.length+2+(bR th E k (c.length+1)).1.length)).2:=by simp[dW,Ou]
    rw[e1,e2]
    simpa only[fp,List.append_nil] using this
 | cE e th=>
  cases d with
  | zero=>simp only[dQ] at hx
  | succ d=>
   simp only[dQ] at hx;simp only[en] at hl hk hc hs OH;obtain⟨v1,_,v3,v4⟩:=zI.2 th d V E k (c.length+1) hE hx.2;have v5:=tz.2 th E k (c.length+1) (n+1);have h1:=rec d yA th V E k (n+1) (c++[.branch 0 (dP E e)]) (s++[n]) hE hx.2 yA yA PX PX yA;have:=H9 (Q:=Q) hC N8 p E0 l i E k (n+1) c s n hE yA yA yA yA e th hx.1 rfl h1 yA yA;have e1:n+nZ (.cE e th)=n+1+fb th:=by simp only[nZ];omega
   have e2:(dW (.cE e th) E k c.length).2=(bR th E k (c.length+1)).2:=by simp[dW]
   rw[e1,e2]
   simpa only[fp,List.append_nil] using this
theorem At:∀ l:List Sm,l.length≤bJ l
 | []=>Nat.le_refl _
 | x::r=>by
  have:=At r;have h:1≤en x:=by cases x<;>simp only[en]<;>omega
  simp only[List.length_cons,bJ];omega
theorem LZ {c:CV}(h:okW c=true){m:List (Nat×Nat)}(h0:(assoc m 0).isSome=true):qx m c=true:=by
 cases c with
 | aq q f=>
  cases f with
  | zero=>
   simp only[okW,beq_iff_eq] at h;subst h;exact h0
  | succ f=>simp[okW,tree] at h
 | agg cs=>simp only[okW,tree] at h;exact aC h m
 | dI cs=>simp only[okW,tree] at h;exact aC h m
 | _=>first | exact h | simp[okW,tree] at h
theorem Dk {m:List (Nat×Nat)}{n:Nat}(h0:fc m n 0=0):∀ {e:List (Nat×CV)},(e.all fun x=>okW x.2)=true→cT (fc m n) e=e
 | [],_=>rfl
 | (t,c)::e,h=>by
  simp only[List.all_cons,Bool.and_eq_true] at h;rw[cT,GW h.1 _ h0,Dk h0 h.2]
theorem ms_le {C:Cx}{s:St}{p:Pg}(N8:C.n0=3)(ks:List Nat)(o:Nat)(ho:5<o){kd:Int}{e:List (Nat×CV)}{E:List En}{k st cl sl:Nat}{cs:List CV}{c':List In}{s':List Nat}(he:pick s.env (41::6::ks)=(41,I kd)::(6,.aq o 0)::e)(Om:(e.all fun x=>okW x.2)=true)
  (h0:assoc s.heap 0=some (fO p E k st 3 cl 4 sl)) (h3:assoc s.heap 3=some (eW c')) (h4:assoc s.heap 4=some (fW s')) (h5:assoc s.heap o=some ⟨170,0,cs⟩) (OJ:trees cs=true) :
  Le C s ⟨(41,I kd)::(6,.aq 5 0)::e,[(0,fO p E k st 3 cl 4 sl),(3,eW c'),(4,fW s'),(5,⟨170,0,cs⟩)],6⟩:=by
 have n0:¬ 0=o:=by omega
 have n3:¬ 3=o:=by omega
 have n4:¬ 4=o:=by omega
 have r0:fc [(0,0),(3,3),(4,4),(o,5)] 6 0=0:=rfl;have r3:fc [(0,0),(3,3),(4,4),(o,5)] 6 3=3:=rfl;have r4:fc [(0,0),(3,3),(4,4),(o,5)] 6 4=4:=rfl;have ro:fc [(0,0),(3,3),(4,4),(o,5)] 6 o=5:=by simp[fc,assoc,n0,n3,n4]
 have ao:(assoc [(0,0),(3,3),(4,4),(o,5)] o).isSome=true:=by simp[assoc,n0,n3,n4]
 have Pb:=Le.norm (C:=C) (s:=s) (41::6::ks) [(0,0),(3,3),(4,4),(o,5)] 3 6 (by simp[u0,n0,n3,n4]) (by simp only[List.all_cons,List.all_nil,h0,h3,h4,h5];rfl) ?_ yA
 ·rw[he] at Pb;simp only[List.map_cons,List.map_nil,pick,h0,h3,h4,h5,cu,cT] at Pb;rw[Dk r0 Om,r0,r3,r4,ro,rB,r3,r4,eW,fW,cP _ _ _ (cb c'),cP _ _ _ (aW s'),cP _ _ _ OJ] at Pb;simp only[dT,ro] at Pb;exact Pb
 ·unfold cX;rw[he];simp only[List.map_cons,List.map_nil,pick,h0,h3,h4,h5,List.all_cons,List.all_nil,Bool.and_true,Bool.and_eq_true,List.all_eq_true (l:=e)];refine⟨⟨rfl,ao,fun x hx=>LZ ((List.all_eq_true.1 Om) x hx) rfl⟩,BZ E k st 3 _ 4 _ _ rfl rfl,aC (cb c') _,aC (aW s') _,aC OJ _⟩
structure InvB (p:Pg)(g:Nat)(ps:List Pm)(d:Nat)(l:List Sm)(E:List En)(k st:Nat)(c:List In)(s:List Nat)(i:Nat)(V:List ByteArray)(Ei:List En)(ki SS:Nat)(ci:List In)(si:List Nat):Prop where
 hi:i≤l.length
 he:EW g p.ms (p.fs.map fun f=>(f.name,f.params)) ps V Ei ki
 w:cM p.ms (p.fs.map fun f=>(f.name,f.params)) ps d V (l.drop i)
 l1:Ei.length+bJ (l.drop i)≤5000
 l2:ki+bJ (l.drop i)≤5000
 l3:ci.length+bJ (l.drop i)≤5000
 l4:si.length+bJ (l.drop i)≤5000
 l5:SS+bJ (l.drop i)≤1000000
 r1:(bR l E k c.length).2=(bR (l.drop i) Ei ki ci.length).2
 r2:c++(bR l E k c.length).1=ci++(bR (l.drop i) Ei ki ci.length).1
 r3:s++iw l st=si++iw (l.drop i) SS
 r4:st+fb l=SS+fb (l.drop i)
def JB (p:Pg)(g:Nat)(ps:List Pm)(d:Nat)(l:List Sm)(E:List En)(k st:Nat)(c:List In)(s:List Nat)(m:Nat)(z:St):Prop:=
 ∃ i V Ei ki SS ci si,m=l.length-i∧InvB p g ps d l E k st c s i V Ei ki SS ci si∧z=NS p E l i Ei ki SS ci si
theorem Iv {p:Pg}(hp:PgB p){g:Nat}{ps:List Pm}:∀ (d:Nat) (l:List Sm) (V:List ByteArray) (E:List En) (k st:Nat) (c:List In) (s:List Nat),
  EW g p.ms (p.fs.map fun f=>(f.name,f.params)) ps V E k→cM p.ms (p.fs.map fun f=>(f.name,f.params)) ps d V l→E.length+bJ l≤5000→k+bJ l≤5000→c.length+bJ l≤5000→s.length+bJ l≤5000→st+bJ l≤1000000→FV p l E k st c s:=by
 intro d
 induction d using Nat.strongRecOn with
 | _ d ih=>
 intro l V E k st c s hE hw hl hk hc hs OH;unfold FV;refine Body.iV Tryz.func84 rfl N4 (by simp[Tryz.ntmps84]) fun C hC N8=>?_;rw[Tryz.ntmps84] at hC;simp only[T3];have q1:=ah (iR p.gs);have q2:=ah (gj p.ms);have q3:=ah (cG p.fs);have q4:=ah (ck E);have q6:=ah (bA l);apply ai;simp[hC,fO];apply aL;simp[hC];apply T.block;refine T.aI (JB p g ps d l E k st c s) (n:=l.length) ?_ ?_
 ·refine aa.le (Le.up 5 N3) ?_;refine aa.le (kR (p:=p) (E:=E) (k:=k) (st:=st) N8 [5,4,0,1] 1 2 (e:=bE E l 0) (c':=c) (s':=s) rfl (pb _ _ _) (pd _ _ _) rfl rfl rfl rfl (qt _) rfl rfl rfl) (aa.here ?_);exact⟨0,V,E,k,st,c,s,by omega,⟨by omega,hE,hw,hl,hk,hc,hs,OH,rfl,rfl,rfl,rfl⟩,rfl⟩
 ·rintro m z ⟨i,Vi,Ei,ki,SS,ci,si,rfl,hI,rfl⟩;by_cases N6:i<l.length
  ·obtain⟨x,Sj⟩:∃ x,l[i]? = some x:=⟨l[i],List.getElem?_eq_getElem N6⟩;have Tb:l.drop i=x::l.drop (i+1):=by
    rw[List.drop_eq_getElem_cons N6,(List.getElem?_eq_some_iff.1 Sj).2]
   obtain⟨i1,i2,i3,i4,i5,i6,i7,i8,i9,i10,i11,i12⟩:=hI;rw[Tb] at i3 i4 i5 i6 i7 i8 i9 i10 i11 i12;simp only[cM,bJ,bR,iw,fb] at i3 i4 i5 i6 i7 i8 i9 i10 i11 i12;obtain⟨UN,PU⟩:=i3;have dt:=fun Q C hC N8=>I7 (C:=C) (Q:=Q) hC N8 hp E l i (n:=SS) (c:=ci) (s:=si) i2 UN yA yA yA yA yA (fun d' OM l V E k st c s=>ih d' OM l V E k st c s);obtain⟨v1,_,v3,v4,v5⟩:=zI.1 x d Vi Ei ki ci.length i2 UN;have v6:=tz.1 x Ei ki ci.length SS;have v7:=ya.1 x;obtain⟨xc,Pt,Sx⟩:=Lr x;have N7:List.drop (i*11) (bx l)=ib x++bx (l.drop (i+1)):=by rw[nY,nY];exact aD (f:=ib) (n:=11) kp Sj
   have Re:=At l;have wi:=cf ((i:Int)+1) yA yA;have wst:=cf ((SS:Int)+1) yA yA;have txc:trees xc=true:=by
    have:=ir x;rw[Pt,trees] at this;exact (Bool.and_eq_true _ _ ▸ this).2
   have On:List.take 10 (xc++bx (l.drop (i+1)))=xc:=by rw[← Sx,List.take_left]
   rw[Pt] at N7;simp only[NS,bE];apply aL;simp[hC,N6];refine fh ?_;simp;apply eG;apply T.seq;refine T.rx af follows [0,1,2,3,4,5,6,7,8,9,10] [(3,8),(7,8),(7,9)] N4 ?_;simp[hC,N6,N7,fO,Sx,On];apply ai;simp[hC,wst];apply ai;simp[hC];refine T.le (ms_le (p:=p) (E:=Ei) (k:=ki) (st:=SS+1) (cl:=ci.length) (sl:=si.length) (e:=[(7,I SS),(5,I i),(4,.az (E.flatMap ic) E.length),(0,.aq 0 0),(1,.az (bx l) l.length)]) N8 [7,5,4,0,1] 13 yA rfl (by simp[okW,tree]) rfl rfl rfl rfl (by rw[trees,txc];rfl)) ?_;rw[← Pt];refine T.cutL _ (dt _ C hC N8) ?_;rintro z rfl;simp only[pQ,fw,NS,bE];apply aY;simp[hC,wi];have hde:(Ei++fp ki x).length≤Ei.length+1:=by cases x<;>simp[fp]
   have W3:1≤en x:=by cases x<;>simp only[en]<;>omega
   refine⟨l.length-(i+1),by omega,aa.trim [5,4,0,1] [0,3,4] 5 Qt yA ⟨i+1,Vi++dS x,Ei++fp ki x,(dW x Ei ki ci.length).2,SS+nZ x,ci++(dW x Ei ki ci.length).1,si++vM x SS,rfl,⟨by omega,v3,PU,by omega,by omega,by simp only[List.length_append];omega,by simp only[List.length_append];omega,by omega,?_,?_,?_,?_⟩,?_⟩⟩
   ·rw[i9,List.length_append]
   ·rw[i10,List.length_append,List.append_assoc]
   ·rw[i11,List.append_assoc]
   ·rw[i12];omega
   ·simp[NS,bE]
  ·have Oe:i=l.length:=by have:=hI.hi;omega
   obtain⟨i1,i2,i3,i4,i5,i6,i7,i8,i9,i10,i11,i12⟩:=hI;rw[Oe,List.drop_length] at i9 i10 i11 i12;simp only[bR,iw,fb,List.append_nil,Nat.add_zero] at i9 i10 i11 i12;simp only[NS,bE];apply aL;simp[hC,N6];refine aX ?_;simp;apply T.exit;simp;apply aY;simp[hC,fO];refine aa.trim [] [0,3,4] 5 Qt yA ⟨_,rfl,rfl,?_,rfl⟩;have e1:c.length+(bR l E k c.length).1.length=ci.length:=by rw[← i10,List.length_append]
   have e2:s.length+(iw l st).length=si.length:=by rw[← i11,List.length_append]
   rw[e1,e2,i9,i10,i11,i12];simp[T4,fO]
end Go.Proofs.YtlkmbdfhdknlgaaGreatDoor
namespace Go.aN
open Go.Can
theorem iL (c:Nat):∀ (l:List ByteArray) (i:Nat),(DN c i l).length=l.length
 | [],_=>rfl
 | s::r,i=>by simp[DN,iL c r]
theorem yS {c:Nat}:∀ {l:List ByteArray} {i j:Nat} {s:ByteArray},l[j]? = some s→(DN c i l)[j]? = some ⟨s,c,i+j⟩
 | [],_,_,_,h=>by simp at h
 | x::r,i,0,s,h=>by
  simp only[List.getElem?_cons_zero,Option.some.injEq] at h;subst h;rfl
 | x::r,i,j+1,s,h=>by
  simp only[List.getElem?_cons_succ] at h;simp only[DN,List.getElem?_cons_succ];rw[yS h];congr 2;omega
theorem AW (p:Pg):(da p).length=p.gs.length+p.ms.length+p.fs.length:=by simp[da,iL];omega
theorem Mt {p:Pg}{i:Nat}{x:Gl}(h:p.gs[i]? = some x):(da p)[i]? = some ⟨x.name,1,i⟩:=by
 have hl:=(List.getElem?_eq_some_iff.1 h).1;have h2:(p.gs.map (·.name))[i]? = some x.name:=by rw[List.getElem?_map,h];rfl
 rw[da,List.append_assoc,List.getElem?_append_left (by rw[iL,List.length_map];exact hl),yS h2,Nat.zero_add]
theorem Ms {p:Pg}{i:Nat}{x:Mx}(h:p.ms[i]? = some x):(da p)[p.gs.length+i]? = some ⟨x.name,2,i⟩:=by
 have hl:=(List.getElem?_eq_some_iff.1 h).1;have h2:(p.ms.map (·.name))[i]? = some x.name:=by rw[List.getElem?_map,h];rfl
 rw[da,List.append_assoc,List.getElem?_append_right (by rw[iL,List.length_map];omega),iL,List.length_map,Nat.add_sub_cancel_left,List.getElem?_append_left (by rw[iL,List.length_map];exact hl),yS h2,Nat.zero_add]
theorem Mu {p:Pg}{i:Nat}{x:Fu}(h:p.fs[i]? = some x):(da p)[p.gs.length+p.ms.length+i]? = some ⟨x.name,3,i⟩:=by
 have h2:(p.fs.map (·.name))[i]? = some x.name:=by rw[List.getElem?_map,h];rfl
 rw[da,List.getElem?_append_right (by rw[List.length_append,iL,iL,List.length_map,List.length_map];omega),List.length_append,iL,iL,List.length_map,List.length_map,Nat.add_sub_cancel_left,yS h2,Nat.zero_add]
theorem J6 {p:Pg}(h:km p):((da p).map (·.name)).Nodup:=by
 obtain⟨a1,a2,_,_⟩:=gE;obtain⟨s1,s2,s3,_⟩:=h.sub;obtain⟨d1,d2,d3,_⟩:=h.nd;rw[da,List.map_append,List.map_append,lT,lT,lT];refine List.nodup_append.2 ⟨List.nodup_append.2 ⟨d1,d2,fun a ha b hb e=>?_⟩,d3,fun a ha b hb e=>?_⟩
 ·subst e;exact a1 _ (s2 _ hb) (s1 _ ha)
 ·subst e;rcases List.mem_append.1 ha with ha | ha
  ·exact (a2 _ (s3 _ hb)).1 (s1 _ ha)
  ·exact (a2 _ (s3 _ hb)).2 (s2 _ ha)
theorem HO {E:List En}(h:(E.map (·.name)).Nodup){i:Nat}{x:En}(hx:E[i]? = some x):iJ (E.take i) x.name=none:=by
 obtain⟨hl,O9⟩:=List.getElem?_eq_some_iff.1 hx;have e:E=E.take i++x::E.drop (i+1):=by rw[← O9,← List.drop_eq_getElem_cons hl,List.take_append_drop]
 have h2:((E.take i++x::E.drop (i+1)).map (·.name)).Nodup:=by rw[← e];exact h
 rw[List.map_append,List.map_cons,List.nodup_append] at h2;rw[qz];exact fun hm=>h2.2.2 _ hm _ List.mem_cons_self rfl
end Go.aN
namespace Go.Proofs.YtlkmbdfhdknlgaaGreatDoor
open Go.Can Go.aN
def ij (E:List En):Ob:=⟨118,3,E.flatMap ic⟩
@[simp] theorem HX (E:List En)(n:Nat):(ij E).cells.all (ba n)=true:=ah (ck E) n
@[simp] theorem enOb_ltS (E:List En)(n:Nat):a6 n (ij E).cells=true:=by rw[ch];exact HX E n
@[simp] theorem enOb_frz (E:List En)(o:Nat)(cs:List CV)(n:Nat):(ij E).cells.map (bQ o cs n)=(ij E).cells:=dk (ck E) o cs n
@[simp] theorem enOb_eta (E:List En):(⟨(ij E).elem,(ij E).sz,(ij E).cells⟩:Ob)=ij E:=rfl
@[simp] theorem Nd (ρ:Nat→Nat)(E:List En):cc ρ (ij E)=ij E:=cP _ _ _ (ck E)
def J59B (E:List En)(s:ByteArray)(n:Nat)(st:St):Prop:=∃ i:Nat,n=E.length-i∧i≤E.length∧iJ E s=iJ (E.drop i) s∧st=⟨[(6,I i),(5,.bool false),(4,.aq 1 0),(0,.bp 0 0 E.length),(1,.str s)],[(1,⟨118,0,[.str ⟨#[]⟩,I 0,I 0]⟩),(0,ij E)],2⟩
theorem AI (E:List En)(s:ByteArray)(hl:E.length≤100000):Body Tryz.prog av 48 [.bp 0 0 E.length,.str s] [(0,ij E)] 1 (jA (qB (iJ E s)) [(0,ij E)] 1):=by
 have O8:=fun (i:Nat) (x:En) (h:E[i]? = some x)=>aD (f:=ic) (n:=3) kB (m:=E) h;refine Body.iV Tryz.func48 rfl N4 (by simp[Tryz.ntmps48]) fun C hC N8=>?_;rw[Tryz.ntmps48] at hC;apply ai;simp[hC];apply aL;simp[hC];apply T.block;refine T.aI (J59B E s) (n:=E.length) ?_ ?_
 ·refine aa.here ⟨0,by omega,by omega,rfl,?_⟩;simp
 ·rintro n st ⟨i,rfl,hi,hf,rfl⟩;by_cases N6:i<E.length
  ·obtain⟨a,OZ⟩:∃ a,E[i]? = some a:=⟨E[i],List.getElem?_eq_getElem N6⟩;have N7:=O8 i a OZ;have wi:=cf ((i:Int)+1) yA yA;have hd:E.drop i=a::E.drop (i+1):=by
    rw[List.drop_eq_getElem_cons N6,(List.getElem?_eq_some_iff.1 OZ).2]
   rw[hd,iJ] at hf;apply aL;simp[hC,N6];refine fh ?_;simp;apply eG;apply ai;simp[hC,N6,N7,ic,iv,ij];by_cases hn:a.name=s
   ·rw[if_pos hn] at hf;simp only[hn,decide_true];refine cB ?_;simp;apply ai;simp[hC,N6,N7,ic];apply T.ret;refine aa.le (Le.cV (o:=1) rfl rfl) ?_;simp[dk (ck E)];refine aa.trim [4,5] [0] 1 (by simp[-List.all_eq_true,-List.all_flatMap,ah (ck E)]) yA ⟨_,?_,rfl,?_,rfl⟩
    ·simp[hf,qB,ic]
    ·simp
   ·rw[if_neg hn] at hf;simp only[hn,decide_false];refine dv ?_;simp;apply aY;simp[hC,wi];refine⟨E.length-(i+1),by omega,?_⟩;refine aa.trim [6,5,4,0,1] [1,0] 2 (by simp[-List.all_eq_true,-List.all_flatMap,ah (ck E)]) yA ⟨i+1,rfl,by omega,hf,?_⟩;simp[ij]
  ·have Oe:i=E.length:=by omega
   rw[Oe,List.drop_length,iJ] at hf;apply aL;simp[hC,N6];refine aX ?_;simp;apply T.exit;simp;apply ai;simp[hC];apply T.ret;refine aa.le (Le.cV (o:=1) rfl rfl) ?_;simp;refine aa.trim [4,5] [0] 1 Qt yA ⟨_,?_,rfl,?_,rfl⟩
   ·simp[hf,qB]
   ·simp
def J58 (p:Pg)(m:Nat)(s:St):Prop:=∃ i:Nat,m=(da p).length-i∧i≤(da p).length∧
 s=⟨[(7,I i),(6,I (da p).length),(5,I (-1)),(4,.bp 1 0 i),(1,.aq 0 0)],[(0,⟨27,0,eC p⟩),(1,ij ((da p).take i))],2⟩
theorem AV (p:Pg)(h:km p)(hm:p.ms.length≤1000)(hf:p.fs.length≤1000)(hg:p.gs.length≤1000):ae Tryz.prog 47 [xb p] (.dI [.az ((da p).flatMap ic) (da p).length,I (-1)]):=by
 have Tb:=AW p;have QE:=J6 h;obtain⟨t1,t2,t3⟩:=iO p;refine ae.aH af Tryz.func47 rfl N4 (by simp[Tryz.ntmps47]) rfl fun C hC N8=>?_;rw[Tryz.ntmps47] at hC;have Wh:=cf ((p.gs.length:Int)+p.ms.length) yA yA;have hw2:=cf ((p.gs.length:Int)+p.ms.length+p.fs.length) yA yA;simp only[xb,eC];apply ai;simp[hC];apply ai;simp[hC];apply ai;simp[hC];apply ai;simp[hC,Wh,hw2];apply aL;simp[hC];apply T.block;refine T.aI (J58 p) (n:=(da p).length) ?_ ?_
 ·refine aa.le (Le.own 4 118 3 rfl) ?_;simp;refine aa.trim [7,6,5,4,1] [0,1] 2 Qt yA ⟨0,by omega,by omega,?_⟩;simp[eC,Tb,ij]
 ·rintro n s ⟨i,rfl,hi,rfl⟩;by_cases N6:i<(da p).length
  ·obtain⟨x,Sj⟩:∃ x,(da p)[i]? = some x:=⟨(da p)[i],List.getElem?_eq_getElem N6⟩;have wi:=cf ((i:Int)+1) yA yA;have wd:=cf ((i:Int)-(p.gs.length:Int)) yA yA;apply aL;simp[hC,N6];refine fh ?_;simp;apply eG;apply ai;simp[hC];refine T.cut (fun z=>z=⟨[(8,.aq 2 0),(7,I i),(6,I (da p).length),(5,I (-1)),(4,.bp 1 0 i),(1,.aq 0 0)],[(0,⟨27,0,eC p⟩),(1,ij ((da p).take i)),(2,⟨118,0,ic x⟩)],3⟩) ?_ ?_
   ·simp only[eC];by_cases c1:i<p.gs.length
    ·obtain⟨y,hy⟩:∃ y,p.gs[i]? = some y:=⟨p.gs[i],List.getElem?_eq_getElem c1⟩;have hx:=Mt hy;rw[Sj] at hx;cases hx;have N7:=aD (f:=o0) (n:=2) (fun _=>rfl) hy;have Rw:(i:Int)-(p.gs.length:Int)<0:=by omega
     apply ai;simp[hC,wd];apply T.block;apply ai;simp[hC,Rw];refine cB ?_;simp;apply aY;simp[hC,c1,N7,o0];refine aa.trim [8,7,6,5,4,1] [0,1,2] 3 Qt yA ?_;simp[ic]
    ·by_cases c2:i<p.gs.length+p.ms.length
     ·obtain⟨j,rfl⟩:∃ j,i=p.gs.length+j:=⟨i-p.gs.length,by omega⟩;have c3:j<p.ms.length:=by omega
      obtain⟨y,hy⟩:∃ y,p.ms[j]? = some y:=⟨p.ms[j],List.getElem?_eq_getElem c3⟩;have hx:=Ms hy;rw[Sj] at hx;cases hx;have N7:=aD (f:=eM) (n:=3) (fun _=>rfl) hy;have Pf:(p.gs.length:Int)+(j:Int)-(p.gs.length:Int)=(j:Int):=by omega
      have wj:=cf (j:Int) yA yA;apply ai;simp[hC,Pf,wj];apply T.block;apply ai;simp[hC];refine aX ?_;simp;apply ai;simp[hC,c3];refine cB ?_;simp;apply aY;simp[hC,c3,N7,eM];refine aa.trim [8,7,6,5,4,1] [0,1,2] 3 Qt yA ?_;simp[ic]
     ·obtain⟨j,rfl⟩:∃ j,i=p.gs.length+p.ms.length+j:=⟨i-p.gs.length-p.ms.length,by omega⟩;have c3:j<p.fs.length:=by omega
      obtain⟨y,hy⟩:∃ y,p.fs[j]? = some y:=⟨p.fs[j],List.getElem?_eq_getElem c3⟩;have hx:=Mu hy;rw[Sj] at hx;cases hx;have N7:=aD (f:=eZ) (n:=3) (fun _=>rfl) hy;have Pf:(p.gs.length:Int)+(p.ms.length:Int)+(j:Int)-(p.gs.length:Int)=(p.ms.length:Int)+(j:Int):=by omega
      have Yx:(p.ms.length:Int)+(j:Int)-(p.ms.length:Int)=(j:Int):=by omega
      have wj:=cf (j:Int) yA yA;have wmj:=cf ((p.ms.length:Int)+(j:Int)) yA yA;have Ul:¬ (p.ms.length:Int)+(j:Int)<0:=by omega
      have Pp:¬ (p.ms.length:Int)+(j:Int)<(p.ms.length:Int):=by omega
      apply ai;simp[hC,Pf,wmj];apply T.block;apply ai;simp[hC,Ul];refine aX ?_;simp;apply ai;simp[hC,Pp];refine aX ?_;simp;refine T.rx af follows [0,1,2,3,4,5,6,7,8,9,10,11,12,13,14,15,16] [] N4 ?_;simp[hC,Yx,wj,c3,N7,eZ];refine aa.trim [8,7,6,5,4,1] [0,1,2] 3 Qt yA ?_;simp[ic]
   ·rintro z rfl;simp only[eC];have Rz:=AI ((da p).take i) x.name (by rw[List.length_take];omega);rw[HO QE Sj,List.length_take,Nat.min_eq_left yA] at Rz;have f1:=aM (f:=ic) (n:=3) kB ((da p).take i);rw[List.length_take,Nat.min_eq_left yA] at f1;have RO:(i+1)*32≤140737488355328:=by omega
    apply aL;simp[hC,ic];refine TL.jj af 0 1 [1] 1 Rz Oc rfl rfl (by simp[bV,dT,bB,ev,assoc]) N3 yA N3 N3 (by simp[a6,ba]) N3 rfl (by simp[bV,dT,ba]) N3 N3 (TL.go' af ?_);simp[hC,qB];apply ai;simp[hC];refine dv ?_;simp;apply aY;simp[hC,f1,RO,aS,ij];apply aY;simp[hC,wi];have On:(da p).take (i+1)=(da p).take i++[x]:=by rw[List.take_add_one,Sj];rfl
    refine⟨(da p).length-(i+1),by omega,?_⟩;refine aa.le (Le.trim [7,6,5,4,1] [0,5] 6 (by simp[-List.all_eq_true,-List.all_flatMap,ah (ck _)]) yA) ?_;simp;refine aa.le (Le.oJ 5 1 rfl rfl yA N3 N3 (by simp[-List.all_eq_true,-List.all_flatMap,bh (ck _),qq 5 1 _ t1,qq 5 1 _ t2,qq 5 1 _ t3])) ?_;simp[a7 (ck _)];refine aa.trim [7,6,5,4,1] [0,1] 2 (by simp[-List.all_eq_true,-List.all_flatMap,ah (ck _)]) yA ⟨i+1,rfl,by omega,?_⟩;simp[ij,On,eC,ic]
  ·have Oe:i=(da p).length:=by omega
   apply aL;simp[hC,N6];refine aX ?_;simp;apply T.exit;simp;apply ai;simp[hC];apply T.ret;subst Oe;have tk:List.take ((da p).length*3) ((da p).flatMap ic)=(da p).flatMap ic:=List.take_of_length_le (by rw[aM (f:=ic) (n:=3) kB];omega);refine aa.le (Le.trim [2,3] [1] 2 Qt yA) ?_;simp[List.take_length];refine aa.le (Le.cV (o:=1) rfl (ck _)) ?_;apply aa.here;simp[ij,tk]
end Go.Proofs.YtlkmbdfhdknlgaaGreatDoor
