/- block: variables. -/
import Derived.Test.YtnecpnjdonibmaaGreatZ36
namespace Go.Proofs.YtnecpnjdonibmaaGreat
open Go.Can Go.aP
set_option maxHeartbeats 4000000 in
theorem Ny {C:Cx}{Q:Exit→St→Prop}(hC:C.nt=253)(O0:C.n0=3)(p:Pg)(E0:List En)(l:List Sm)(i:Nat){g:Nat}{fs:List (ByteArray×List Pm)}{ps:List Pm}{V:List ByteArray}(E:List En)(k st:Nat)(c:List In)(s:List Nat)(n:Nat)
  (hE:EW g p.ms fs ps V E k) (hl:E.length≤90000) (hk:k≤9000) (hc:c.length≤9000) (hs:s.length≤9000) (nm:ByteArray) (x:Ex) (hn:iX E nm=none) (hx:fS V 2 x) :
  T Tryz.prog C (kj Tryz.f203 2) (MS p E0 l i E k st c s (.g6 nm x) n) (eU (ae C (fun z=>z=NS p E0 l i (E++[⟨nm,4,k⟩]) (k+1) st (c++[.set k false (dT E x)]) (s++[n]))) Q):=by
 have hb:=j9 p E k st c.length s.length hE yA n 2 x hx;have Sa:=qI E nm yA;rw[hn] at Sa;obtain⟨a1,a2,a3,a4,a5,ha,YB⟩:=lv x;obtain⟨b1,b2,b3,b4,b5,Po,htb⟩:=lv (dT E x);have Pj:dt (.set k false (dT E x))=[I 1,I k,.bool false,I b1,I b2,.str b3,.aA b4 b5,.bool false,I 0,.aA [] 0,.aA [] 0,.aA [] 0]:=by simp[dt,Po,sQ]
 have RP:ik (.g6 nm x)=[I 1,.str nm,I a1,I a2,.str a3,.aA a4 a5,.str eS,.aA [] 0,.aA [] 0,.aA [] 0,.aA [] 0]:=by simp[ik,ha,k8]
 rw[ha,Po] at hb;apply T.block;simp only[MS,mE,mH,Ii,RP];apply aq;simp[hC];refine fE ?_;simp;refine T.seq (T.seq ?_);refine T.rx ai follows [0,1,2,3,4,5,10,6,7,8,9,11,12] [(3,10),(5,10),(10,6)] OV ?_;simp[hC,fY];refine RX.call rfl OU rfl rfl rfl Pc (Sa) ?_;simp[qH];apply aq;simp[hC];refine gw ?_;simp;refine T.le (Le.to (s':=MZ p E0 l i E k st c s [I 1,.str nm,I a1,I a2,.str a3,.aA a4 a5,.str eS,.aA [] 0,.aA [] 0,.aA [] 0,.aA [] 0] n) [6,7,5,4,0,1] [0,3,4,5] 6 Sp yA rfl) ?_;simp only[MZ,mE];apply aq;simp[hC];refine TL.gX (hb) yA rfl O5 rfl rfl RE RH RG (TL.go' ai ?_);simp[hC];refine T.le (Le.trim [6,7,5,4,0,1,10] [0,3,4,5,6] 7 Sp yA) ?_;simp;apply T.seq;refine T.rx ai follows [0,1,2,3,4,5,6,7,8] [] OV ?_;simp[hC,fY];refine RX.ij (u7 p E k st c s [I 1,I k,.bool false,I b1,I b2,.str b3,.aA b4 b5,.bool false,I 0,.aa,.aa,.aa] rfl Tm n yA yA) Rm (aU _) Rm (aU _) yA rfl rfl OU rfl rfl RE RH RG OU ?_;simp;refine T.le (jH O0 [6,7,5,4,0,1] 16 17 (e:=mE E0 l i n) rfl VB rfl rfl rfl rfl rfl Tm (jB _ _ (.set k false (dT E x)) (by simp[Pj])) rfl OU OU) ?_;simp only[mE];have f1:=bM (f:=im) (n:=3) kM E;have SX:E.length*32≤140737488355328:=by omega
 have T7:(E.length+1)*32≤140737488355328:=by omega
 apply T.seq;refine T.rx ai follows [0,1,2,3,4,5,6,7,8,9,10,11,12,13,14,15,16,17,18] [(1,5),(1,8),(1,12),(1,14),(5,14),(6,8),(6,12),(6,14)] OV ?_;simp[hC,fY,f1,SX,T7,bb];have wk:=cC ((k:Int)+1) yA yA;have tn:trees (E.flatMap im++[.str nm,I 4,I k])=true:=by rw[bC,ct];rfl
 have tk:List.take ((E.length+1)*3) (E.flatMap im++[.str nm,I 4,I k])=E.flatMap im++[.str nm,I 4,I k]:=List.take_of_length_le (by simp only[List.length_append,f1,List.length_cons,List.length_nil];omega);have q1:=ah (jg p.gs);have q2:=ah (fH p.ms);have q3:=ah (cM p.fs);have q4:=ah (ct E);have q5:=ah (ct E0);have q6:=ah (bF l);apply aV;simp[hC,wk];refine ae.le (Le.trim [5,4,0,1] [0,26,3,4] 27 (by simp[-List.all_eq_true,-List.all_flatMap,q4]) yA) ?_;simp;refine ae.le (Le.dp (o:=26) rfl tn) ?_;simp[tk];refine ae.trim [5,4,0,1] [0,3,4] 5 Sp yA ?_;simp[NS,bE,fY,im]
theorem zJ (c S:List In){i0 i1:In}{a b d:CV}{r:List CV}(h0:dt i0=a::b::r)(h1:dt i1=a::d::r) :
  List.take (c.length*12+1) (fp (c++i0::S)).cells++d::List.drop (c.length*12+1+1) (fp (c++i0::S)).cells=(fp (c++i1::S)).cells:=by
 have e0:(fp (c++i0::S)).cells=c.flatMap dt++(a::b::(r++S.flatMap dt)):=by simp[fp,h0]
 have e1:(fp (c++i1::S)).cells=c.flatMap dt++(a::d::(r++S.flatMap dt)):=by simp[fp,h1]
 rw[e0,e1,← zK c];rw[List.take_append,List.drop_append,List.take_of_length_le yA,List.drop_of_length_le yA];have k1:(c.flatMap dt).length+1-(c.flatMap dt).length=1:=by omega
 have k2:(c.flatMap dt).length+1+1-(c.flatMap dt).length=2:=by omega
 rw[k1,k2];simp
theorem zL (c S:List In)(i0:In):c.length*12+1+1≤(fp (c++i0::S)).cells.length:=by
 simp only[fp,zK,List.length_append,List.length_cons];omega
def GA (p:Pg)(l:List Sm)(E:List En)(k st:Nat)(c:List In)(s:List Nat):Prop:=
 Body Tryz.prog ak 203 [.ax 0 0,.aA (bx l) l.length] (T3 p E k st c.length s.length (fp c) (gj s)) 3
  (jb (.dS []) (T4 p E (bV l E k c.length).2 (st+fy l) (c.length+(bV l E k c.length).1.length) (s.length+(iC l st).length) (fp (c++(bV l E k c.length).1)) (gj (s++iC l st))) (3+2))
set_option maxHeartbeats 4000000 in
theorem cs_if {C:Cx}{Q:Exit→St→Prop}(hC:C.nt=253)(O0:C.n0=3)(p:Pg)(E0:List En)(l:List Sm)(i:Nat){g:Nat}{fs:List (ByteArray×List Pm)}{ps:List Pm}{V:List ByteArray}(E:List En)(k st:Nat)(c:List In)(s:List Nat)(n:Nat)
  (hE:EW g p.ms fs ps V E k) (hl:E.length≤90000) (_hk:k≤9000) (hc:c.length≤9000) (hs:s.length≤9000) (x:Ex) (th el:List Sm) (hx:fS V 2 x)
  (Pw:st=n+1) (h1:GA p th E k st (c++[.branch 0 (dT E x)]) (s++[n])) (PH:el.length=0) :
  T Tryz.prog C (kj Tryz.f203 2) (MS p E0 l i E k st c s (.lE x th el) n) (eU (ae C (fun z=>z=NS p E0 l i E (bV th E k (c.length+1)).2 (st+fy th) (c++(en (.lE x th el) E k c.length).1) (s++wI (.lE x th el) n))) Q):=by
 subst Pw;simp only[GA,List.length_append,List.length_singleton] at h1;have hb:=j9 p E k (n+1) c.length s.length hE yA n 2 x hx;obtain⟨a1,a2,a3,a4,a5,ha,YB⟩:=lv x;obtain⟨b1,b2,b3,b4,b5,Po,htb⟩:=lv (dT E x);have Pj:dt (.branch 0 (dT E x))=[I 6,I 0,.bool false,I b1,I b2,.str b3,.aA b4 b5,.bool false,I 0,.aA [] 0,.aA [] 0,.aA [] 0]:=by simp[dt,Po,sQ]
 have RP:ik (.lE x th el)=[I 7,.str eS,I a1,I a2,.str a3,.aA a4 a5,.str eS,.aA [] 0,.aA [] 0,.aA (bx th) th.length,.aA (bx el) el.length]:=by simp[ik,ha,k8]
 rw[ha,Po] at hb;have t1:=bF th;have t2:=bF el;have q5:=ah (ct E0);have q6:=ah (bF l);apply T.block;simp only[MS,mE,mH,Ii,RP];apply aq;simp[hC];refine a7 ?_;simp;apply aq;simp[hC];refine a7 ?_;simp;apply aO;simp[hC];refine a7 ?_;simp;apply aV;simp[hC];refine a7 ?_;simp;apply aq;simp[hC];refine a7 ?_;simp;apply aq;simp[hC];refine a7 ?_;simp;apply aq;simp[hC];refine fE ?_;simp;apply aq;simp[hC];refine TL.gX (hb) yA rfl O5 rfl rfl RE RH RG (TL.go' ai ?_);simp[hC];refine TL.ij (u7 p E k (n+1) c s [I 6,I 0,.bool false,I b1,I b2,.str b3,.aA b4 b5,.bool false,I 0,.aa,.aa,.aa] rfl Tm n yA yA) Rm (aU _) Rm (aU _) yA rfl O5 rfl rfl RE RH RG (TL.go' ai ?_);simp[hC];refine T.le (jH O0 [12,6,7,5,4,0,1] 6 7 (e:=(12,I c.length)::mE E0 l i n) rfl VB rfl rfl rfl rfl rfl Tm (jB _ _ (.branch 0 (dT E x)) (by simp[Pj])) rfl OU OU) ?_;simp only[mE];apply aq;simp[hC];refine TL.ij h1 (cf _) (aU _) (cf _) (aU _) yA rfl O5 rfl rfl rfl Yf rfl (TL.go' ai ?_);generalize hS:bV th E k (c.length+1)=S at h1;obtain⟨S1,S2⟩:=S;generalize hT:iC th (n+1)=S3 at h1;simp only at h1;simp[PH];have UX:dt (.branch (c.length+1+S1.length) (dT E x))=[I 6,I ((c.length+1+S1.length:Nat):Int),.bool false,I b1,I b2,.str b3,.aA b4 b5,.bool false,I 0,.aA [] 0,.aA [] 0,.aA [] 0]:=by simp[dt,Po,sQ]
 have SM:=zJ c S1 Pj UX;have ZE:=zL c S1 (.branch 0 (dT E x));simp only[Int.natCast_add,Int.cast_ofNat_Int] at SM;apply aq;simp[hC];refine a7 ?_;simp;refine T.rx ai follows [0,1,2,3,4,5,6,7,8,9,10,11,12] [] OV ?_;have O1:(c.length:Int)<(c.length:Int)+1+(S1.length:Int):=by omega
 simp[hC,fY,O1,ZE,SM];refine ae.le (k9 O0 [5,4,0,1] 6 7 (e:=bE E0 l i) rfl (pC _ _ _) (pD _ _ _) rfl rfl rfl rfl (c':=c++.branch (c.length+1+S1.length) (dT E x)::S1) (s':=s++n::S3) (qw _) rfl QS QS) (ae.here ?_);simp[en,wI,PH,hS,hT,NS]
set_option maxHeartbeats 4000000 in
theorem NA {C:Cx}{Q:Exit→St→Prop}(hC:C.nt=253)(O0:C.n0=3)(p:Pg)(E0:List En)(l:List Sm)(i:Nat){g:Nat}{fs:List (ByteArray×List Pm)}{ps:List Pm}{V:List ByteArray}(E:List En)(k st:Nat)(c:List In)(s:List Nat)(n:Nat)
  (hE:EW g p.ms fs ps V E k) (hl:E.length≤90000) (_hk:k≤9000) (hc:c.length≤9000) (hs:s.length≤9000) (x:Ex) (th el:List Sm) (hx:fS V 2 x)
  (Pw:st=n+1) (h1:GA p th E k st (c++[.branch 0 (dT E x)]) (s++[n])) (h2:GA p el E (bV th E k (c.length+1)).2 (n+1+fy th) (c++.branch (c.length+2+(bV th E k (c.length+1)).1.length) (dT E x)::((bV th E k (c.length+1)).1++[.jump 0])) (s++n::(iC th (n+1)++[n]))) (PH:0<el.length) (O7:c.length+(bV th E k (c.length+1)).1.length≤9000) (Ts:s.length+(iC th (n+1)).length≤9000) :
  T Tryz.prog C (kj Tryz.f203 2) (MS p E0 l i E k st c s (.lE x th el) n) (eU (ae C (fun z=>z=NS p E0 l i E (bV el E (bV th E k (c.length+1)).2 (c.length+2+(bV th E k (c.length+1)).1.length)).2 (st+fy th+fy el) (c++(en (.lE x th el) E k c.length).1) (s++wI (.lE x th el) n))) Q):=by
 subst Pw;simp only[GA,List.length_append,List.length_singleton] at h1;simp only[GA,List.length_append,List.length_cons,List.length_nil,Nat.zero_add] at h2;have hb:=j9 p E k (n+1) c.length s.length hE yA n 2 x hx;obtain⟨a1,a2,a3,a4,a5,ha,YB⟩:=lv x;obtain⟨b1,b2,b3,b4,b5,Po,htb⟩:=lv (dT E x);have Pj:dt (.branch 0 (dT E x))=[I 6,I 0,.bool false,I b1,I b2,.str b3,.aA b4 b5,.bool false,I 0,.aA [] 0,.aA [] 0,.aA [] 0]:=by simp[dt,Po,sQ]
 have RP:ik (.lE x th el)=[I 7,.str eS,I a1,I a2,.str a3,.aA a4 a5,.str eS,.aA [] 0,.aA [] 0,.aA (bx th) th.length,.aA (bx el) el.length]:=by simp[ik,ha,k8]
 rw[ha,Po] at hb;have t1:=bF th;have t2:=bF el;have q5:=ah (ct E0);have q6:=ah (bF l);apply T.block;simp only[MS,mE,mH,Ii,RP];apply aq;simp[hC];refine a7 ?_;simp;apply aq;simp[hC];refine a7 ?_;simp;apply aO;simp[hC];refine a7 ?_;simp;apply aV;simp[hC];refine a7 ?_;simp;apply aq;simp[hC];refine a7 ?_;simp;apply aq;simp[hC];refine a7 ?_;simp;apply aq;simp[hC];refine fE ?_;simp;apply aq;simp[hC];refine TL.gX (hb) yA rfl O5 rfl rfl RE RH RG (TL.go' ai ?_);simp[hC];refine TL.ij (u7 p E k (n+1) c s [I 6,I 0,.bool false,I b1,I b2,.str b3,.aA b4 b5,.bool false,I 0,.aa,.aa,.aa] rfl Tm n yA yA) Rm (aU _) Rm (aU _) yA rfl O5 rfl rfl RE RH RG (TL.go' ai ?_);simp[hC];refine T.le (jH O0 [12,6,7,5,4,0,1] 6 7 (e:=(12,I c.length)::mE E0 l i n) rfl VB rfl rfl rfl rfl rfl Tm (jB _ _ (.branch 0 (dT E x)) (by simp[Pj])) rfl OU OU) ?_;simp only[mE];apply aq;simp[hC];refine TL.ij h1 (cf _) (aU _) (cf _) (aU _) yA rfl O5 rfl rfl rfl Yf rfl (TL.go' ai ?_);generalize hS:bV th E k (c.length+1)=S at h1 h2 O7;obtain⟨S1,S2⟩:=S;generalize hT:iC th (n+1)=S3 at h1 h2 Ts;simp only at h1 h2 O7;have hlen:c.length+(S1.length+1+1)=c.length+2+S1.length:=by omega
 generalize hS':bV el E S2 (c.length+(S1.length+1+1))=S' at h2;obtain⟨S4,S5⟩:=S';generalize hT':iC el (n+1+fy th)=S6 at h2;simp only at h2;simp;refine T.le (jH O0 [12,6,7,5,4,0,1] 6 7 (e:=(12,I c.length)::mE E0 l i n) (c':=c++.branch 0 (dT E x)::S1) (s':=s++n::S3) rfl VB rfl rfl rfl rfl rfl Tm (qw _) rfl QS QS) ?_;simp only[mE];have hel':0<el.length:=PH;apply aq;simp[hC,hel'];refine fE ?_;simp;apply aq;simp[hC];refine TL.ij (ML p E S2 (n+1+fy th) (c++.branch 0 (dT E x)::S1) (s++n::S3) (c.length+(S1.length+1)) (s.length+(S3.length+1)) OU OU [I 7,I 0,.bool false,I 0,I 0,.str eS,.aa,.bool false,I 0,.aa,.aa,.aa] rfl rfl n yA yA) Rm (aU _) Rm (aU _) yA rfl O5 rfl rfl RE RH RG (TL.go' ai ?_);simp[hC];refine T.le (jH O0 [13,12,6,7,5,4,0,1] 6 7 (e:=(13,I (c.length+(S1.length+1)))::(12,I c.length)::mE E0 l i n) (c':=c++.branch 0 (dT E x)::(S1++[.jump 0])) (s':=s++n::(S3++[n])) rfl VB rfl rfl rfl rfl rfl Tm (by simpa using jB (c++In.branch 0 (dT E x)::S1) [I 7,I 0,.bool false,I 0,I 0,.str eS,.aa,.bool false,I 0,.aa,.aa,.aa] (.jump 0) (by simp[dt,bR,sQ])) rfl QS QS) ?_;simp only[mE];have UX:dt (.branch (c.length+2+S1.length) (dT E x))=[I 6,I ((c.length:Int)+((S1.length:Int)+1+1)),.bool false,I b1,I b2,.str b3,.aA b4 b5,.bool false,I 0,.aA [] 0,.aA [] 0,.aA [] 0]:=by
  simp[dt,Po,sQ];omega
 have SM:=zJ c (S1++[.jump 0]) Pj UX;have ZE:=zL c (S1++[.jump 0]) (.branch 0 (dT E x));have O1:(c.length:Int)<(c.length:Int)+((S1.length:Int)+1+1):=by omega
 apply T.seq;refine T.rx ai follows [0,1,2,3,4,5,6,7,8,9,10,11,12] [] OV ?_;simp[hC,fY,O1,ZE,SM];refine T.le (jH O0 [13,12,6,7,5,4,0,1] 3 4 (e:=(13,I (c.length+(S1.length+1)))::(12,I c.length)::mE E0 l i n) (c':=c++In.branch (c.length+2+S1.length) (dT E x)::(S1++[In.jump 0])) (s':=s++n::(S3++[n])) rfl VB rfl rfl rfl rfl rfl Tm (qw _) rfl OU OU) ?_;simp only[mE];apply aq;simp[hC];refine TL.ij h2 (cf _) (aU _) (cf _) (aU _) yA rfl O5 rfl rfl rfl Yf rfl (TL.go' ai ?_);simp;have hin0:dt (.jump 0)=[I 7,I 0,.bool false,I 0,I 0,.str eS,.aA [] 0,.bool false,I 0,.aA [] 0,.aA [] 0,.aA [] 0]:=by simp[dt,bR,sQ]
 have hin2:dt (.jump (c.length+2+S1.length+S4.length))=[I 7,I ((c.length:Int)+((S1.length:Int)+1+1)+(S4.length:Int)),.bool false,I 0,I 0,.str eS,.aA [] 0,.bool false,I 0,.aA [] 0,.aA [] 0,.aA [] 0]:=by
  simp[dt,bR,sQ];omega
 have ZA:=zJ (c++In.branch (c.length+2+S1.length) (dT E x)::S1) S4 hin0 hin2;have ZD:=zL (c++In.branch (c.length+2+S1.length) (dT E x)::S1) S4 (.jump 0);simp only[List.length_append,List.length_cons,List.append_assoc,List.cons_append] at ZA ZD;have R7:(c.length:Int)+((S1.length:Int)+1)<(c.length:Int)+((S1.length:Int)+1+1)+(S4.length:Int):=by omega
 have Vq:(0:Int)≤(c.length:Int)+((S1.length:Int)+1):=by omega
 have htn:((c.length:Int)+((S1.length:Int)+1)).toNat=c.length+(S1.length+1):=by omega
 refine T.rx ai follows [0,1,2,3,4,5,6,7,8,9,10,11,12] [] OV ?_;simp[hC,fY,R7,Vq,htn,ZD,ZA];have Pf:¬ el.length=0:=by omega
 have V6:bV el E S2 (c.length+2+S1.length)=(S4,S5):=by rw[← hlen];exact hS'
 refine ae.le (k9 O0 [5,4,0,1] 6 7 (e:=bE E0 l i) rfl (pC _ _ _) (pD _ _ _) rfl rfl rfl rfl (c':=c++In.branch (c.length+2+S1.length) (dT E x)::(S1++In.jump (c.length+2+S1.length+S4.length)::S4)) (s':=s++n::(S3++n::S6)) (qw _) rfl QS QS) (ae.here ?_);simp[en,wI,Pf,hS,V6,hT,hT',NS]
set_option maxHeartbeats 4000000 in
theorem I6 {C:Cx}{Q:Exit→St→Prop}(hC:C.nt=253)(O0:C.n0=3)(p:Pg)(E0:List En)(l:List Sm)(i:Nat){g:Nat}{fs:List (ByteArray×List Pm)}{ps:List Pm}{V:List ByteArray}(E:List En)(k st:Nat)(c:List In)(s:List Nat)(n:Nat)
  (hE:EW g p.ms fs ps V E k) (hl:E.length≤90000) (_hk:k≤9000) (hc:c.length≤9000) (hs:s.length≤9000) (x:Ex) (th:List Sm) (hx:fS V 2 x)
  (Pw:st=n+1) (h1:GA p th E k st (c++[.branch 0 (dT E x)]) (s++[n])) (O7:c.length+(bV th E k (c.length+1)).1.length≤9000) (Ts:s.length+(iC th (n+1)).length≤9000) :
  T Tryz.prog C (kj Tryz.f203 2) (MS p E0 l i E k st c s (.cJ x th) n) (eU (ae C (fun z=>z=NS p E0 l i E (bV th E k (c.length+1)).2 (st+fy th) (c++(en (.cJ x th) E k c.length).1) (s++wI (.cJ x th) n))) Q):=by
 subst Pw;simp only[GA,List.length_append,List.length_singleton] at h1;have hb:=j9 p E k (n+1) c.length s.length hE yA n 2 x hx;obtain⟨a1,a2,a3,a4,a5,ha,YB⟩:=lv x;obtain⟨b1,b2,b3,b4,b5,Po,htb⟩:=lv (dT E x);have Pj:dt (.branch 0 (dT E x))=[I 6,I 0,.bool false,I b1,I b2,.str b3,.aA b4 b5,.bool false,I 0,.aA [] 0,.aA [] 0,.aA [] 0]:=by simp[dt,Po,sQ]
 have RP:ik (.cJ x th)=[I 8,.str eS,I a1,I a2,.str a3,.aA a4 a5,.str eS,.aA [] 0,.aA [] 0,.aA (bx th) th.length,.aA [] 0]:=by simp[ik,ha,k8]
 rw[ha,Po] at hb;have t1:=bF th;have q5:=ah (ct E0);have q6:=ah (bF l);apply T.block;simp only[MS,mE,mH,Ii,RP];apply aq;simp[hC];refine a7 ?_;simp;apply aq;simp[hC];refine a7 ?_;simp;apply aO;simp[hC];refine a7 ?_;simp;apply aV;simp[hC];refine a7 ?_;simp;apply aq;simp[hC];refine a7 ?_;simp;apply aq;simp[hC];refine a7 ?_;simp;apply aq;simp[hC];refine a7 ?_;simp;apply aq;simp[hC];refine fE ?_;simp;apply aq;simp[hC];refine TL.gX (hb) yA rfl O5 rfl rfl RE RH RG (TL.go' ai ?_);simp[hC];refine TL.ij (u7 p E k (n+1) c s [I 6,I 0,.bool false,I b1,I b2,.str b3,.aA b4 b5,.bool false,I 0,.aa,.aa,.aa] rfl Tm n yA yA) Rm (aU _) Rm (aU _) yA rfl O5 rfl rfl RE RH RG (TL.go' ai ?_);simp[hC];refine T.le (jH O0 [14,6,7,5,4,0,1] 6 7 (e:=(14,I c.length)::mE E0 l i n) rfl VB rfl rfl rfl rfl rfl Tm (jB _ _ (.branch 0 (dT E x)) (by simp[Pj])) rfl OU OU) ?_;simp only[mE];apply aq;simp[hC];refine TL.ij h1 (cf _) (aU _) (cf _) (aU _) yA rfl O5 rfl rfl rfl Yf rfl (TL.go' ai ?_);generalize hS:bV th E k (c.length+1)=S at h1 O7;obtain⟨S1,S2⟩:=S;generalize hT:iC th (n+1)=S3 at h1 Ts;simp only at h1 O7;simp;refine T.le (jH O0 [14,6,7,5,4,0,1] 6 7 (e:=(14,I c.length)::mE E0 l i n) (c':=c++In.branch 0 (dT E x)::S1) (s':=s++n::S3) rfl VB rfl rfl rfl rfl rfl Tm (qw _) rfl QS QS) ?_;simp only[mE];apply aq;simp[hC];refine TL.ij (ML p E S2 (n+1+fy th) (c++In.branch 0 (dT E x)::S1) (s++n::S3) (c.length+(S1.length+1)) (s.length+(S3.length+1)) OU OU [I 7,I c.length,.bool false,I 0,I 0,.str eS,.aa,.bool false,I 0,.aa,.aa,.aa] rfl rfl n yA yA) Rm (aU _) Rm (aU _) yA rfl O5 rfl rfl RE RH RG (TL.go' ai ?_);simp;refine T.le (jH O0 [14,6,7,5,4,0,1] 6 7 (e:=(14,I c.length)::mE E0 l i n) (c':=c++In.branch 0 (dT E x)::(S1++[In.jump c.length])) (s':=s++n::(S3++[n])) rfl VB rfl rfl rfl rfl rfl Tm (by simpa using jB (c++In.branch 0 (dT E x)::S1) [I 7,I c.length,.bool false,I 0,I 0,.str eS,.aa,.bool false,I 0,.aa,.aa,.aa] (.jump c.length) (by simp[dt,bR,sQ])) rfl QS QS) ?_;simp only[mE];have UX:dt (.branch (c.length+2+S1.length) (dT E x))=[I 6,I ((c.length:Int)+((S1.length:Int)+1+1)),.bool false,I b1,I b2,.str b3,.aA b4 b5,.bool false,I 0,.aA [] 0,.aA [] 0,.aA [] 0]:=by
  simp[dt,Po,sQ];omega
 have SM:=zJ c (S1++[.jump c.length]) Pj UX;have ZE:=zL c (S1++[.jump c.length]) (.branch 0 (dT E x));have O1:(c.length:Int)<(c.length:Int)+((S1.length:Int)+1+1):=by omega
 refine T.rx ai follows [0,1,2,3,4,5,6,7,8,9,10,11,12] [] OV ?_;simp[hC,fY,O1,ZE,SM];refine ae.le (k9 O0 [5,4,0,1] 3 4 (e:=bE E0 l i) rfl (pC _ _ _) (pD _ _ _) rfl rfl rfl rfl (c':=c++In.branch (c.length+2+S1.length) (dT E x)::(S1++[In.jump c.length])) (s':=s++n::(S3++[n])) (qw _) rfl OU OU) (ae.here ?_);simp[en,wI,hS,hT,NS]
theorem ub:(∀ x:Sm,∀ E k b n,(wI x n).length=(en x E k b).1.length)∧(∀ l:List Sm,∀ E k b n,(iC l n).length=(bV l E k b).1.length):=by
 let M1:Sm→Prop:=fun x=>∀ E k b n,(wI x n).length=(en x E k b).1.length
 let M2:List Sm→Prop:=fun l=>∀ E k b n,(iC l n).length=(bV l E k b).1.length
 have A1:∀ (s:ByteArray) (e:Ex),M1 (.g6 s e):=fun s e E k b n=>by simp[wI,en]
 have A2:∀ (s:ByteArray) (e:Ex),M1 (.iD s e):=fun s e E k b n=>by simp[wI,en]
 have A3:∀ (g:Bool) (s:ByteArray) (l:List Ar),M1 (.ef g s l):=fun g s l E k b n=>by simp[wI,en]
 have A4:∀ (u:Bool) (r:Rf),M1 (.dA u r):=fun u r E k b n=>by simp[wI,en]
 have A5:∀ (e:Ex) (th el:List Sm),M2 th→M2 el→M1 (.lE e th el):=fun e th el h1 h2 E k b n=>by
  simp only[wI,en];split
  ·simp[h1 E k (b+1) (n+1)]
  ·simp[h1 E k (b+1) (n+1),h2 E (bV th E k (b+1)).2 (b+2+(bV th E k (b+1)).1.length) (n+1+fy th)]
 have A6:∀ (e:Ex) (th:List Sm),M2 th→M1 (.cJ e th):=fun e th h1 E k b n=>by
  simp[wI,en,h1 E k (b+1) (n+1)]
 have A7:M1 .jF:=fun E k b n=>by simp[wI,en]
 have A0:M2 []:=fun E k b n=>by simp[iC,bV]
 have A8:∀ (s:Sm) (r:List Sm),M1 s→M2 r→M2 (s::r):=fun s r h1 h2 E k b n=>by
  simp only[iC,bV,List.length_append];rw[h1 E k b n,h2 (E++fA k s) (en s E k b).2 (b+(en s E k b).1.length) (n+oF s)]
 exact⟨fun s=>Sm.rec (motive_1:=M1) (motive_2:=M2) A1 A2 A3 A4 A5 A6 A7 A0 A8 s,fun l=>Sm.rec_1 (motive_1:=M1) (motive_2:=M2) A1 A2 A3 A4 A5 A6 A7 A0 A8 l⟩
theorem Mo (x:Sm):∃ cs,ik x=I (Ii x)::cs∧cs.length=10:=by
 have h:∃ cs,ik x=I (Ii x)::cs:=by cases x<;>exact⟨_,rfl⟩
 obtain⟨cs,h⟩:=h;have:=kE x;rw[h] at this;exact⟨cs,h,by simpa using this⟩
theorem T.cutL {P:Program}{C:Cx}{s:St}{c:Code}{Q:Exit→St→Prop}(J:St→Prop)(h:T P C c s (eU (ae C J) Q))(hJ:∀ s',J s'→Q .normal s'):T P C c s Q:=by
 refine T.post h fun e s' q=>?_
 cases e with
 | normal=>
  obtain⟨QA,hj,hl⟩:=q;exact⟨QA,hJ QA hj,hl⟩
 | _=>exact⟨s',q,Le.refl _⟩
structure PgB (p:Pg):Prop where
 m:p.ms.length≤1000
 f:p.fs.length≤1000
 p:∀ f∈p.fs,f.params.length≤1000
theorem JZ {C:Cx}{Q:Exit→St→Prop}(hC:C.nt=253)(O0:C.n0=3){p:Pg}(hp:PgB p)(E0:List En)(l:List Sm)(i:Nat){g:Nat}{ps:List Pm}{d:Nat}{V:List ByteArray}{E:List En}{k:Nat}{c:List In}{s:List Nat}{n:Nat}{x:Sm}
  (hE:EW g p.ms (p.fs.map fun f=>(f.name,f.params)) ps V E k) (hx:dU p.ms (p.fs.map fun f=>(f.name,f.params)) ps d V x) (hl:E.length+eB x≤5000) (hk:k+eB x≤5000) (hc:c.length+eB x≤5000) (hs:s.length+eB x≤5000) (Pw:n+eB x≤1000000)
  (rec:∀ d' < d,∀ (l:List Sm) (V:List ByteArray) (E:List En) (k st:Nat) (c:List In) (s:List Nat),EW g p.ms (p.fs.map fun f=>(f.name,f.params)) ps V E k→cR p.ms (p.fs.map fun f=>(f.name,f.params)) ps d' V l→E.length+bO l≤5000→k+bO l≤5000→c.length+bO l≤5000→s.length+bO l≤5000→st+bO l≤1000000→GA p l E k st c s) :
  T Tryz.prog C (kj Tryz.f203 2) (MS p E0 l i E k (n+1) c s x n) (eU (ae C (fun z=>z=NS p E0 l i (E++fA k x) (en x E k c.length).2 (n+oF x) (c++(en x E k c.length).1) (s++wI x n))) Q):=by
 cases x with
 | g6 nm e=>
  simp only[dU] at hx;obtain⟨⟨j,hj,rfl⟩,hv,he⟩:=hx;simp only[eB] at hl hk hc hs Pw;exact Ny hC O0 p E0 l i E k (n+1) c s n hE yA yA yA yA _ e (hE.o _ hv (xg j hj)) he
 | iD nm e=>
  simp only[dU] at hx;simp only[eB] at hl hk hc hs Pw
  simpa only[fA,en,oF,wI,List.append_nil] using NB (Q:=Q) hC O0 p E0 l i E k (n+1) c s n hE yA yA yA nm e hx.1 hx.2
 | ef go nm al=>
  simp only[dU] at hx;obtain⟨gp,h1,h2⟩:=hx;simp only[eB] at hl hk hc hs Pw;have TY:gp.length≤1000:=by
   obtain⟨f,hf,he⟩:=List.mem_map.1 h1;have:=hp.p f hf;simp only[Prod.mk.injEq] at he;rw[← he.2];exact this
  simpa only[fA,en,oF,wI,List.append_nil] using K2 (Q:=Q) hC O0 p E0 l i E k (n+1) c s n hE yA hp.m hp.f yA yA go nm gp al h1 h2 TY
 | dA u r=>
  simp only[dU] at hx;simp only[eB] at hl hk hc hs Pw
  simpa only[fA,en,oF,wI,List.append_nil] using K1 (Q:=Q) hC O0 p E0 l i E k (n+1) c s n hE yA hp.m yA yA u r hx
 | jF=>
  simp only[eB] at hl hk hc hs Pw
  simpa only[fA,en,oF,wI,List.append_nil] using Nz (Q:=Q) hC O0 p E0 l i E k (n+1) c s n yA yA
 | lE e th el=>
  cases d with
  | zero=>simp only[dU] at hx
  | succ d=>
   simp only[dU] at hx;simp only[eB] at hl hk hc hs Pw;obtain⟨v1,_,v3,v4⟩:=Au.2 th d V E k (c.length+1) hE hx.2.1;have v5:=ub.2 th E k (c.length+1) (n+1);have v6:=yZ.2 th;have h1:=rec d yA th V E k (n+1) (c++[.branch 0 (dT E e)]) (s++[n]) hE hx.2.1 yA yA QS QS yA;by_cases PH:el.length=0
   ·have Xp:el=[]:=List.eq_nil_of_length_eq_zero PH;have:=cs_if (Q:=Q) hC O0 p E0 l i E k (n+1) c s n hE yA yA yA yA e th el hx.1 rfl h1 PH;subst Xp;have e1:n+oF (.lE e th [])=n+1+fy th:=by simp only[oF,fy];omega
    have e2:(en (.lE e th []) E k c.length).2=(bV th E k (c.length+1)).2:=by simp[en]
    rw[e1,e2]
    simpa only[fA,List.append_nil] using this
   ·have h2:=rec d yA el V E (bV th E k (c.length+1)).2 (n+1+fy th) (c++.branch (c.length+2+(bV th E k (c.length+1)).1.length) (dT E e)::((bV th E k (c.length+1)).1++[.jump 0])) (s++n::(iC th (n+1)++[n])) (hE.up v1) hx.2.2 yA yA QS QS yA;have:=NA (Q:=Q) hC O0 p E0 l i E k (n+1) c s n hE yA yA yA yA e th el hx.1 rfl h1 h2 yA yA yA;have e1:n+oF (.lE e th el)=n+1+fy th+fy el:=by simp only[oF];omega
    have e2:(en (.lE e th el) E k c.length).2=(bV el E (bV th E k (c.length+1)).2 (c.length+2+(bV th E k (c.length+1)).1.length)).2:=by simp[en,PH]
    rw[e1,e2]
    simpa only[fA,List.append_nil] using this
 | cJ e th=>
  cases d with
  | zero=>simp only[dU] at hx
  | succ d=>
   simp only[dU] at hx;simp only[eB] at hl hk hc hs Pw;obtain⟨v1,_,v3,v4⟩:=Au.2 th d V E k (c.length+1) hE hx.2;have v5:=ub.2 th E k (c.length+1) (n+1);have h1:=rec d yA th V E k (n+1) (c++[.branch 0 (dT E e)]) (s++[n]) hE hx.2 yA yA QS QS yA;have:=I6 (Q:=Q) hC O0 p E0 l i E k (n+1) c s n hE yA yA yA yA e th hx.1 rfl h1 yA yA;have e1:n+oF (.cJ e th)=n+1+fy th:=by simp only[oF];omega
   have e2:(en (.cJ e th) E k c.length).2=(bV th E k (c.length+1)).2:=by simp[en]
   rw[e1,e2]
   simpa only[fA,List.append_nil] using this
theorem A9:∀ l:List Sm,l.length≤bO l
 | []=>Nat.le_refl _
 | x::r=>by
  have:=A9 r;have h:1≤eB x:=by cases x<;>simp only[eB]<;>omega
  simp only[List.length_cons,bO];omega
theorem MV {c:CV}(h:okW c=true){m:List (Nat×Nat)}(h0:(assoc m 0).isSome=true):ss m c=true:=by
 cases c with
 | ax q f=>
  cases f with
  | zero=>
   simp only[okW,beq_iff_eq] at h;subst h;exact h0
  | succ f=>simp[okW,tree] at h
 | agg cs=>simp only[okW,tree] at h;exact aE h m
 | dS cs=>simp only[okW,tree] at h;exact aE h m
 | _=>first | exact h | simp[okW,tree] at h
theorem DW {m:List (Nat×Nat)}{n:Nat}(h0:fF m n 0=0):∀ {e:List (Nat×CV)},(e.all fun x=>okW x.2)=true→dj (fF m n) e=e
 | [],_=>rfl
 | (t,c)::e,h=>by
  simp only[List.all_cons,Bool.and_eq_true] at h;rw[dj,HU h.1 _ h0,DW h0 h.2]
theorem ms_le {C:Cx}{s:St}{p:Pg}(O0:C.n0=3)(ks:List Nat)(o:Nat)(ho:5<o){kd:Int}{e:List (Nat×CV)}{E:List En}{k st cl sl:Nat}{cs:List CV}{c':List In}{s':List Nat}(he:pick s.env (41::6::ks)=(41,I kd)::(6,.ax o 0)::e)(Pe:(e.all fun x=>okW x.2)=true)
  (h0:assoc s.heap 0=some (fY p E k st 3 cl 4 sl)) (h3:assoc s.heap 3=some (fp c')) (h4:assoc s.heap 4=some (gj s')) (h5:assoc s.heap o=some ⟨265,0,cs⟩) (PE:trees cs=true) :
  Le C s ⟨(41,I kd)::(6,.ax 5 0)::e,[(0,fY p E k st 3 cl 4 sl),(3,fp c'),(4,gj s'),(5,⟨265,0,cs⟩)],6⟩:=by
 have n0:¬ 0=o:=by omega
 have n3:¬ 3=o:=by omega
 have n4:¬ 4=o:=by omega
 have r0:fF [(0,0),(3,3),(4,4),(o,5)] 6 0=0:=rfl;have r3:fF [(0,0),(3,3),(4,4),(o,5)] 6 3=3:=rfl;have r4:fF [(0,0),(3,3),(4,4),(o,5)] 6 4=4:=rfl;have ro:fF [(0,0),(3,3),(4,4),(o,5)] 6 o=5:=by simp[fF,assoc,n0,n3,n4]
 have ao:(assoc [(0,0),(3,3),(4,4),(o,5)] o).isSome=true:=by simp[assoc,n0,n3,n4]
 have P6:=Le.norm (C:=C) (s:=s) (41::6::ks) [(0,0),(3,3),(4,4),(o,5)] 3 6 (by simp[vt,n0,n3,n4]) (by simp only[List.all_cons,List.all_nil,h0,h3,h4,h5];rfl) ?_ yA
 ·rw[he] at P6;simp only[List.map_cons,List.map_nil,pick,h0,h3,h4,h5,cj,dj] at P6;rw[DW r0 Pe,r0,r3,r4,ro,rO,r3,r4,fp,gj,cU _ _ _ (cf c'),cU _ _ _ (aU s'),cU _ _ _ PE] at P6;simp only[dR,ro] at P6;exact P6
 ·unfold dr;rw[he];simp only[List.map_cons,List.map_nil,pick,h0,h3,h4,h5,List.all_cons,List.all_nil,Bool.and_true,Bool.and_eq_true,List.all_eq_true (l:=e)];refine⟨⟨rfl,ao,fun x hx=>MV ((List.all_eq_true.1 Pe) x hx) rfl⟩,Ck E k st 3 _ 4 _ _ rfl rfl,aE (cf c') _,aE (aU s') _,aE PE _⟩
structure InvB (p:Pg)(g:Nat)(ps:List Pm)(d:Nat)(l:List Sm)(E:List En)(k st:Nat)(c:List In)(s:List Nat)(i:Nat)(V:List ByteArray)(Ei:List En)(ki Tp:Nat)(ci:List In)(si:List Nat):Prop where
 hi:i≤l.length
 he:EW g p.ms (p.fs.map fun f=>(f.name,f.params)) ps V Ei ki
 w:cR p.ms (p.fs.map fun f=>(f.name,f.params)) ps d V (l.drop i)
 l1:Ei.length+bO (l.drop i)≤5000
 l2:ki+bO (l.drop i)≤5000
 l3:ci.length+bO (l.drop i)≤5000
 l4:si.length+bO (l.drop i)≤5000
 l5:Tp+bO (l.drop i)≤1000000
 r1:(bV l E k c.length).2=(bV (l.drop i) Ei ki ci.length).2
 r2:c++(bV l E k c.length).1=ci++(bV (l.drop i) Ei ki ci.length).1
 r3:s++iC l st=si++iC (l.drop i) Tp
 r4:st+fy l=Tp+fy (l.drop i)
def JB (p:Pg)(g:Nat)(ps:List Pm)(d:Nat)(l:List Sm)(E:List En)(k st:Nat)(c:List In)(s:List Nat)(m:Nat)(z:St):Prop:=
 ∃ i V Ei ki Tp ci si,m=l.length-i∧InvB p g ps d l E k st c s i V Ei ki Tp ci si∧z=NS p E l i Ei ki Tp ci si
theorem Jq {p:Pg}(hp:PgB p){g:Nat}{ps:List Pm}:∀ (d:Nat) (l:List Sm) (V:List ByteArray) (E:List En) (k st:Nat) (c:List In) (s:List Nat),
  EW g p.ms (p.fs.map fun f=>(f.name,f.params)) ps V E k→cR p.ms (p.fs.map fun f=>(f.name,f.params)) ps d V l→E.length+bO l≤5000→k+bO l≤5000→c.length+bO l≤5000→s.length+bO l≤5000→st+bO l≤1000000→GA p l E k st c s:=by
 intro d
 induction d using Nat.strongRecOn with
 | _ d ih=>
 intro l V E k st c s hE hw hl hk hc hs Pw;unfold GA;refine Body.jA Tryz.func203 rfl OV (by simp[Tryz.ntmps203]) fun C hC O0=>?_;rw[Tryz.ntmps203] at hC;simp only[T3];have q1:=ah (jg p.gs);have q2:=ah (fH p.ms);have q3:=ah (cM p.fs);have q4:=ah (ct E);have q6:=ah (bF l);apply aq;simp[hC,fY];apply aO;simp[hC];apply T.block;refine T.aH (JB p g ps d l E k st c s) (n:=l.length) ?_ ?_
 ·refine ae.le (Le.up 5 OU) ?_;refine ae.le (k9 (p:=p) (E:=E) (k:=k) (st:=st) O0 [5,4,0,1] 1 2 (e:=bE E l 0) (c':=c) (s':=s) rfl (pC _ _ _) (pD _ _ _) rfl rfl rfl rfl (qw _) rfl rfl rfl) (ae.here ?_);exact⟨0,V,E,k,st,c,s,by omega,⟨by omega,hE,hw,hl,hk,hc,hs,Pw,rfl,rfl,rfl,rfl⟩,rfl⟩
 ·rintro m z ⟨i,Vi,Ei,ki,Tp,ci,si,rfl,hI,rfl⟩;by_cases OX:i<l.length
  ·obtain⟨x,SS⟩:∃ x,l[i]? = some x:=⟨l[i],List.getElem?_eq_getElem OX⟩;have U0:l.drop i=x::l.drop (i+1):=by
    rw[List.drop_eq_getElem_cons OX,(List.getElem?_eq_some_iff.1 SS).2]
   obtain⟨i1,i2,i3,i4,i5,i6,i7,i8,i9,i10,i11,i12⟩:=hI;rw[U0] at i3 i4 i5 i6 i7 i8 i9 i10 i11 i12;simp only[cR,bO,bV,iC,fy] at i3 i4 i5 i6 i7 i8 i9 i10 i11 i12;obtain⟨hx1,RI⟩:=i3;have bq:=fun Q C hC O0=>JZ (C:=C) (Q:=Q) hC O0 hp E l i (n:=Tp) (c:=ci) (s:=si) i2 hx1 yA yA yA yA yA (fun d' PB l V E k st c s=>ih d' PB l V E k st c s);obtain⟨v1,_,v3,v4,v5⟩:=Au.1 x d Vi Ei ki ci.length i2 hx1;have v6:=ub.1 x Ei ki ci.length Tp;have v7:=yZ.1 x;obtain⟨xc,Qm,S0⟩:=Mo x;have OZ:List.drop (i*11) (bx l)=ik x++bx (l.drop (i+1)):=by rw[oE,oE];exact aN (f:=ik) (n:=11) kE SS
   have SF:=A9 l;have wi:=cC ((i:Int)+1) yA yA;have wst:=cC ((Tp:Int)+1) yA yA;have txc:trees xc=true:=by
    have:=iz x;rw[Qm,trees] at this;exact (Bool.and_eq_true _ _ ▸ this).2
   have Pd:List.take 10 (xc++bx (l.drop (i+1)))=xc:=by rw[← S0,List.take_left]
   rw[Qm] at OZ;simp only[NS,bE];apply aO;simp[hC,OX];refine fB ?_;simp;apply ed;apply T.seq;refine T.rx ai follows [0,1,2,3,4,5,6,7,8,9,10] [(3,8),(7,8),(7,9)] OV ?_;simp[hC,OX,OZ,fY,S0,Pd];apply aq;simp[hC,wst];apply aq;simp[hC];refine T.le (ms_le (p:=p) (E:=Ei) (k:=ki) (st:=Tp+1) (cl:=ci.length) (sl:=si.length) (e:=[(7,I Tp),(5,I i),(4,.aA (E.flatMap im) E.length),(0,.ax 0 0),(1,.aA (bx l) l.length)]) O0 [7,5,4,0,1] 13 yA rfl (by simp[okW,tree]) rfl rfl rfl rfl (by rw[trees,txc];rfl)) ?_;rw[← Qm];refine T.cutL _ (bq _ C hC O0) ?_;rintro z rfl;simp only[og,eU,NS,bE];apply aV;simp[hC,wi];have hde:(Ei++fA ki x).length≤Ei.length+1:=by cases x<;>simp[fA]
   have hde2:1≤eB x:=by cases x<;>simp only[eB]<;>omega
   refine⟨l.length-(i+1),by omega,ae.trim [5,4,0,1] [0,3,4] 5 Sp yA ⟨i+1,Vi++dZ x,Ei++fA ki x,(en x Ei ki ci.length).2,Tp+oF x,ci++(en x Ei ki ci.length).1,si++wI x Tp,rfl,⟨by omega,v3,RI,by omega,by omega,by simp only[List.length_append];omega,by simp only[List.length_append];omega,by omega,?_,?_,?_,?_⟩,?_⟩⟩
   ·rw[i9,List.length_append]
   ·rw[i10,List.length_append,List.append_assoc]
   ·rw[i11,List.append_assoc]
   ·rw[i12];omega
   ·simp[NS,bE]
  ·have O6:i=l.length:=by have:=hI.hi;omega
   obtain⟨i1,i2,i3,i4,i5,i6,i7,i8,i9,i10,i11,i12⟩:=hI;rw[O6,List.drop_length] at i9 i10 i11 i12;simp only[bV,iC,fy,List.append_nil,Nat.add_zero] at i9 i10 i11 i12;simp only[NS,bE];apply aO;simp[hC,OX];refine a7 ?_;simp;apply T.exit;simp;apply aV;simp[hC,fY];refine ae.trim [] [0,3,4] 5 Sp yA ⟨_,rfl,rfl,?_,rfl⟩;have e1:c.length+(bV l E k c.length).1.length=ci.length:=by rw[← i10,List.length_append]
   have e2:s.length+(iC l st).length=si.length:=by rw[← i11,List.length_append]
   rw[e1,e2,i9,i10,i11,i12];simp[T4,fY]
end Go.Proofs.YtnecpnjdonibmaaGreat
namespace Go.aP
open Go.Can
theorem iZ (c:Nat):∀ (l:List ByteArray) (i:Nat),(Es c i l).length=l.length
 | [],_=>rfl
 | s::r,i=>by simp[Es,iZ c r]
theorem zF {c:Nat}:∀ {l:List ByteArray} {i j:Nat} {s:ByteArray},l[j]? = some s→(Es c i l)[j]? = some ⟨s,c,i+j⟩
 | [],_,_,_,h=>by simp at h
 | x::r,i,0,s,h=>by
  simp only[List.getElem?_cons_zero,Option.some.injEq] at h;subst h;rfl
 | x::r,i,j+1,s,h=>by
  simp only[List.getElem?_cons_succ] at h;simp only[Es,List.getElem?_cons_succ];rw[zF h];congr 2;omega
theorem Bx (p:Pg):(dd p).length=p.gs.length+p.ms.length+p.fs.length:=by simp[dd,iZ];omega
theorem Ns {p:Pg}{i:Nat}{x:Gl}(h:p.gs[i]? = some x):(dd p)[i]? = some ⟨x.name,1,i⟩:=by
 have hl:=(List.getElem?_eq_some_iff.1 h).1;have h2:(p.gs.map (·.name))[i]? = some x.name:=by rw[List.getElem?_map,h];rfl
 rw[dd,List.append_assoc,List.getElem?_append_left (by rw[iZ,List.length_map];exact hl),zF h2,Nat.zero_add]
theorem Nr {p:Pg}{i:Nat}{x:Mx}(h:p.ms[i]? = some x):(dd p)[p.gs.length+i]? = some ⟨x.name,2,i⟩:=by
 have hl:=(List.getElem?_eq_some_iff.1 h).1;have h2:(p.ms.map (·.name))[i]? = some x.name:=by rw[List.getElem?_map,h];rfl
 rw[dd,List.append_assoc,List.getElem?_append_right (by rw[iZ,List.length_map];omega),iZ,List.length_map,Nat.add_sub_cancel_left,List.getElem?_append_left (by rw[iZ,List.length_map];exact hl),zF h2,Nat.zero_add]
theorem Nt {p:Pg}{i:Nat}{x:Fu}(h:p.fs[i]? = some x):(dd p)[p.gs.length+p.ms.length+i]? = some ⟨x.name,3,i⟩:=by
 have h2:(p.fs.map (·.name))[i]? = some x.name:=by rw[List.getElem?_map,h];rfl
 rw[dd,List.getElem?_append_right (by rw[List.length_append,iZ,iZ,List.length_map,List.length_map];omega),List.length_append,iZ,iZ,List.length_map,List.length_map,Nat.add_sub_cancel_left,zF h2,Nat.zero_add]
theorem KZ {p:Pg}(h:kC p):((dd p).map (·.name)).Nodup:=by
 obtain⟨a1,a2,_,_⟩:=gQ;obtain⟨s1,s2,s3,_⟩:=h.sub;obtain⟨d1,d2,d3,_⟩:=h.nd;rw[dd,List.map_append,List.map_append,lY,lY,lY];refine List.nodup_append.2 ⟨List.nodup_append.2 ⟨d1,d2,fun a ha b hb e=>?_⟩,d3,fun a ha b hb e=>?_⟩
 ·subst e;exact a1 _ (s2 _ hb) (s1 _ ha)
 ·subst e;rcases List.mem_append.1 ha with ha | ha
  ·exact (a2 _ (s3 _ hb)).1 (s1 _ ha)
  ·exact (a2 _ (s3 _ hb)).2 (s2 _ ha)
theorem IK {E:List En}(h:(E.map (·.name)).Nodup){i:Nat}{x:En}(hx:E[i]? = some x):iX (E.take i) x.name=none:=by
 obtain⟨hl,QG⟩:=List.getElem?_eq_some_iff.1 hx;have e:E=E.take i++x::E.drop (i+1):=by rw[← QG,← List.drop_eq_getElem_cons hl,List.take_append_drop]
 have h2:((E.take i++x::E.drop (i+1)).map (·.name)).Nodup:=by rw[← e];exact h
 rw[List.map_append,List.map_cons,List.nodup_append] at h2;rw[qF];exact fun hm=>h2.2.2 _ hm _ List.mem_cons_self rfl
end Go.aP
namespace Go.Proofs.YtnecpnjdonibmaaGreat
open Go.Can Go.aP
def ir (E:List En):Ob:=⟨201,3,E.flatMap im⟩
@[simp] theorem IX (E:List En)(n:Nat):(ir E).cells.all (a9 n)=true:=ah (ct E) n
@[simp] theorem enOb_ltS (E:List En)(n:Nat):aX n (ir E).cells=true:=by rw[cB];exact IX E n
@[simp] theorem enOb_frz (E:List En)(o:Nat)(cs:List CV)(n:Nat):(ir E).cells.map (cH o cs n)=(ir E).cells:=cI (ct E) o cs n
@[simp] theorem enOb_eta (E:List En):(⟨(ir E).elem,(ir E).sz,(ir E).cells⟩:Ob)=ir E:=rfl
@[simp] theorem N8 (ρ:Nat→Nat)(E:List En):cc ρ (ir E)=ir E:=cU _ _ _ (ct E)
def J59B (E:List En)(s:ByteArray)(n:Nat)(st:St):Prop:=∃ i:Nat,n=E.length-i∧i≤E.length∧iX E s=iX (E.drop i) s∧st=⟨[(6,I i),(5,.bool false),(4,.ax 1 0),(0,.bl 0 0 E.length),(1,.str s)],[(1,⟨201,0,[.str ⟨#[]⟩,I 0,I 0]⟩),(0,ir E)],2⟩
theorem Bo (E:List En)(s:ByteArray)(hl:E.length≤100000):Body Tryz.prog ak 135 [.bl 0 0 E.length,.str s] [(0,ir E)] 1 (jb (qH (iX E s)) [(0,ir E)] 1):=by
 have PO:=fun (i:Nat) (x:En) (h:E[i]? = some x)=>aN (f:=im) (n:=3) kM (m:=E) h;refine Body.jA Tryz.func135 rfl OV (by simp[Tryz.ntmps135]) fun C hC O0=>?_;rw[Tryz.ntmps135] at hC;apply aq;simp[hC];apply aO;simp[hC];apply T.block;refine T.aH (J59B E s) (n:=E.length) ?_ ?_
 ·refine ae.here ⟨0,by omega,by omega,rfl,?_⟩;simp
 ·rintro n st ⟨i,rfl,hi,hf,rfl⟩;by_cases OX:i<E.length
  ·obtain⟨a,PS⟩:∃ a,E[i]? = some a:=⟨E[i],List.getElem?_eq_getElem OX⟩;have OZ:=PO i a PS;have wi:=cC ((i:Int)+1) yA yA;have hd:E.drop i=a::E.drop (i+1):=by
    rw[List.drop_eq_getElem_cons OX,(List.getElem?_eq_some_iff.1 PS).2]
   rw[hd,iX] at hf;apply aO;simp[hC,OX];refine fB ?_;simp;apply ed;apply aq;simp[hC,OX,OZ,im,iB,ir];by_cases hn:a.name=s
   ·rw[if_pos hn] at hf;simp only[hn,decide_true];refine fE ?_;simp;apply aq;simp[hC,OX,OZ,im];apply T.ret;refine ae.le (Le.dp (o:=1) rfl rfl) ?_;simp[cI (ct E)];refine ae.trim [4,5] [0] 1 (by simp[-List.all_eq_true,-List.all_flatMap,ah (ct E)]) yA ⟨_,?_,rfl,?_,rfl⟩
    ·simp[hf,qH,im]
    ·simp
   ·rw[if_neg hn] at hf;simp only[hn,decide_false];refine gw ?_;simp;apply aV;simp[hC,wi];refine⟨E.length-(i+1),by omega,?_⟩;refine ae.trim [6,5,4,0,1] [1,0] 2 (by simp[-List.all_eq_true,-List.all_flatMap,ah (ct E)]) yA ⟨i+1,rfl,by omega,hf,?_⟩;simp[ir]
  ·have O6:i=E.length:=by omega
   rw[O6,List.drop_length,iX] at hf;apply aO;simp[hC,OX];refine a7 ?_;simp;apply T.exit;simp;apply aq;simp[hC];apply T.ret;refine ae.le (Le.dp (o:=1) rfl rfl) ?_;simp;refine ae.trim [4,5] [0] 1 Sp yA ⟨_,?_,rfl,?_,rfl⟩
   ·simp[hf,qH]
   ·simp
def J58 (p:Pg)(m:Nat)(s:St):Prop:=∃ i:Nat,m=(dd p).length-i∧i≤(dd p).length∧
 s=⟨[(7,I i),(6,I (dd p).length),(5,I (-1)),(4,.bl 1 0 i),(1,.ax 0 0)],[(0,⟨27,0,eH p⟩),(1,ir ((dd p).take i))],2⟩
theorem Bw (p:Pg)(h:kC p)(hm:p.ms.length≤1000)(hf:p.fs.length≤1000)(hg:p.gs.length≤1000):af Tryz.prog 134 [xJ p] (.dS [.aA ((dd p).flatMap im) (dd p).length,I (-1)]):=by
 have U0:=Bx p;have QY:=KZ h;obtain⟨t1,t2,t3⟩:=jd p;refine af.aK ai Tryz.func134 rfl OV (by simp[Tryz.ntmps134]) rfl fun C hC O0=>?_;rw[Tryz.ntmps134] at hC;have SQ:=cC ((p.gs.length:Int)+p.ms.length) yA yA;have Yx:=cC ((p.gs.length:Int)+p.ms.length+p.fs.length) yA yA;simp only[xJ,eH];apply aq;simp[hC];apply aq;simp[hC];apply aq;simp[hC];apply aq;simp[hC,SQ,Yx];apply aO;simp[hC];apply T.block;refine T.aH (J58 p) (n:=(dd p).length) ?_ ?_
 ·refine ae.le (Le.own 4 201 3 rfl) ?_;simp;refine ae.trim [7,6,5,4,1] [0,1] 2 Sp yA ⟨0,by omega,by omega,?_⟩;simp[eH,U0,ir]
 ·rintro n s ⟨i,rfl,hi,rfl⟩;by_cases OX:i<(dd p).length
  ·obtain⟨x,SS⟩:∃ x,(dd p)[i]? = some x:=⟨(dd p)[i],List.getElem?_eq_getElem OX⟩;have wi:=cC ((i:Int)+1) yA yA;have wd:=cC ((i:Int)-(p.gs.length:Int)) yA yA;apply aO;simp[hC,OX];refine fB ?_;simp;apply ed;apply aq;simp[hC];refine T.cut (fun z=>z=⟨[(8,.ax 2 0),(7,I i),(6,I (dd p).length),(5,I (-1)),(4,.bl 1 0 i),(1,.ax 0 0)],[(0,⟨27,0,eH p⟩),(1,ir ((dd p).take i)),(2,⟨201,0,im x⟩)],3⟩) ?_ ?_
   ·simp only[eH];by_cases c1:i<p.gs.length
    ·obtain⟨y,hy⟩:∃ y,p.gs[i]? = some y:=⟨p.gs[i],List.getElem?_eq_getElem c1⟩;have hx:=Ns hy;rw[SS] at hx;cases hx;have OZ:=aN (f:=px) (n:=2) (fun _=>rfl) hy;have W5:(i:Int)-(p.gs.length:Int)<0:=by omega
     apply aq;simp[hC,wd];apply T.block;apply aq;simp[hC,W5];refine fE ?_;simp;apply aV;simp[hC,c1,OZ,px];refine ae.trim [8,7,6,5,4,1] [0,1,2] 3 Sp yA ?_;simp[im]
    ·by_cases c2:i<p.gs.length+p.ms.length
     ·obtain⟨j,rfl⟩:∃ j,i=p.gs.length+j:=⟨i-p.gs.length,by omega⟩;have c3:j<p.ms.length:=by omega
      obtain⟨y,hy⟩:∃ y,p.ms[j]? = some y:=⟨p.ms[j],List.getElem?_eq_getElem c3⟩;have hx:=Nr hy;rw[SS] at hx;cases hx;have OZ:=aN (f:=eJ) (n:=3) (fun _=>rfl) hy;have Qd:(p.gs.length:Int)+(j:Int)-(p.gs.length:Int)=(j:Int):=by omega
      have wj:=cC (j:Int) yA yA;apply aq;simp[hC,Qd,wj];apply T.block;apply aq;simp[hC];refine a7 ?_;simp;apply aq;simp[hC,c3];refine fE ?_;simp;apply aV;simp[hC,c3,OZ,eJ];refine ae.trim [8,7,6,5,4,1] [0,1,2] 3 Sp yA ?_;simp[im]
     ·obtain⟨j,rfl⟩:∃ j,i=p.gs.length+p.ms.length+j:=⟨i-p.gs.length-p.ms.length,by omega⟩;have c3:j<p.fs.length:=by omega
      obtain⟨y,hy⟩:∃ y,p.fs[j]? = some y:=⟨p.fs[j],List.getElem?_eq_getElem c3⟩;have hx:=Nt hy;rw[SS] at hx;cases hx;have OZ:=aN (f:=fq) (n:=3) (fun _=>rfl) hy;have Qd:(p.gs.length:Int)+(p.ms.length:Int)+(j:Int)-(p.gs.length:Int)=(p.ms.length:Int)+(j:Int):=by omega
      have YD:(p.ms.length:Int)+(j:Int)-(p.ms.length:Int)=(j:Int):=by omega
      have wj:=cC (j:Int) yA yA;have wmj:=cC ((p.ms.length:Int)+(j:Int)) yA yA;have Vq:¬ (p.ms.length:Int)+(j:Int)<0:=by omega
      have P2:¬ (p.ms.length:Int)+(j:Int)<(p.ms.length:Int):=by omega
      apply aq;simp[hC,Qd,wmj];apply T.block;apply aq;simp[hC,Vq];refine a7 ?_;simp;apply aq;simp[hC,P2];refine a7 ?_;simp;refine T.rx ai follows [0,1,2,3,4,5,6,7,8,9,10,11,12,13,14,15,16] [] OV ?_;simp[hC,YD,wj,c3,OZ,fq];refine ae.trim [8,7,6,5,4,1] [0,1,2] 3 Sp yA ?_;simp[im]
   ·rintro z rfl;simp only[eH];have Sa:=Bo ((dd p).take i) x.name (by rw[List.length_take];omega);rw[IK QY SS,List.length_take,Nat.min_eq_left yA] at Sa;have f1:=bM (f:=im) (n:=3) kM ((dd p).take i);rw[List.length_take,Nat.min_eq_left yA] at f1;have SX:(i+1)*32≤140737488355328:=by omega
    apply aO;simp[hC,im];refine TL.ju ai 0 1 [1] 1 Sa O5 rfl rfl (by simp[ca,dR,bm,ev,assoc]) OU yA OU OU (by simp[aX,a9]) OU rfl (by simp[ca,dR,a9]) OU OU (TL.go' ai ?_);simp[hC,qH];apply aq;simp[hC];refine gw ?_;simp;apply aV;simp[hC,f1,SX,bb,ir];apply aV;simp[hC,wi];have Pd:(dd p).take (i+1)=(dd p).take i++[x]:=by rw[List.take_add_one,SS];rfl
    refine⟨(dd p).length-(i+1),by omega,?_⟩;refine ae.le (Le.trim [7,6,5,4,1] [0,5] 6 (by simp[-List.all_eq_true,-List.all_flatMap,ah (ct _)]) yA) ?_;simp;refine ae.le (Le.oX 5 1 rfl rfl yA OU OU (by simp[-List.all_eq_true,-List.all_flatMap,bj (ct _),qv 5 1 _ t1,qv 5 1 _ t2,qv 5 1 _ t3])) ?_;simp[aZ (ct _)];refine ae.trim [7,6,5,4,1] [0,1] 2 (by simp[-List.all_eq_true,-List.all_flatMap,ah (ct _)]) yA ⟨i+1,rfl,by omega,?_⟩;simp[ir,Pd,eH,im]
  ·have O6:i=(dd p).length:=by omega
   apply aO;simp[hC,OX];refine a7 ?_;simp;apply T.exit;simp;apply aq;simp[hC];apply T.ret;subst O6;have tk:List.take ((dd p).length*3) ((dd p).flatMap im)=(dd p).flatMap im:=List.take_of_length_le (by rw[bM (f:=im) (n:=3) kM];omega);refine ae.le (Le.trim [2,3] [1] 2 Sp yA) ?_;simp[List.take_length];refine ae.le (Le.dp (o:=1) rfl (ct _)) ?_;apply ae.here;simp[ir,tk]
end Go.Proofs.YtnecpnjdonibmaaGreat
