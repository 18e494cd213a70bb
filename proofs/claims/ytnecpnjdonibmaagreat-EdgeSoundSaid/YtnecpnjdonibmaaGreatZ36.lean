/- block: if and while. -/
import Derived.Test.YtnecpnjdonibmaaGreatZ35
namespace Go.Proofs.YtnecpnjdonibmaaGreat
open Go.Can Go.aP
theorem ym (c S:List In){i0 i1:In}{a b d:CV}{r:List CV}(h0:dd i0=a::b::r)(h1:dd i1=a::d::r) :
  List.take (c.length*12+1) (eC (c++i0::S)).cells++d::List.drop (c.length*12+1+1) (eC (c++i0::S)).cells=(eC (c++i1::S)).cells:=by
 have e0:(eC (c++i0::S)).cells=c.flatMap dd++(a::b::(r++S.flatMap dd)):=by simp[eC,h0]
 have e1:(eC (c++i1::S)).cells=c.flatMap dd++(a::d::(r++S.flatMap dd)):=by simp[eC,h1]
 rw[e0,e1,← yn c];rw[List.take_append,List.drop_append,List.take_of_length_le yA,List.drop_of_length_le yA];have k1:(c.flatMap dd).length+1-(c.flatMap dd).length=1:=by omega
 have k2:(c.flatMap dd).length+1+1-(c.flatMap dd).length=2:=by omega
 rw[k1,k2];simp
theorem yo (c S:List In)(i0:In):c.length*12+1+1≤(eC (c++i0::S)).cells.length:=by
 simp only[eC,yn,List.length_append,List.length_cons];omega
def FE (p:Pg)(l:List Sm)(E:List En)(k st:Nat)(c:List In)(s:List Nat):Prop:=
 Body Tryz.prog au 203 [.av 0 0,.az (bz l) l.length] (T3 p E k st c.length s.length (eC c) (fz s)) 3
  (iy (.dH []) (T4 p E (bM l E k c.length).2 (st+eK l) (c.length+(bM l E k c.length).1.length) (s.length+(gZ l st).length) (eC (c++(bM l E k c.length).1)) (fz (s++gZ l st))) (3+2))
set_option maxHeartbeats 4000000 in
theorem cs_if {C:Cx}{Q:Exit→St→Prop}(hC:C.nt=253)(PN:C.n0=3)(p:Pg)(E0:List En)(l:List Sm)(i:Nat){g:Nat}{fs:List (ByteArray×List Pm)}{ps:List Pm}{V:List ByteArray}(E:List En)(k st:Nat)(c:List In)(s:List Nat)(n:Nat)
  (hE:EW g p.ms fs ps V E k) (hl:E.length≤90000) (_hk:k≤9000) (hc:c.length≤9000) (hs:s.length≤9000) (x:Ex) (th el:List Sm) (hx:fc V 2 x)
  (Qa:st=n+1) (h1:FE p th E k st (c++[.branch 0 (dA E x)]) (s++[n])) (Qq:el.length=0) :
  T Tryz.prog C (iQ Tryz.f203 2) (MS p E0 l i E k st c s (.kG x th el) n) (thenS (aa C (fun z=>z=NS p E0 l i E (bM th E k (c.length+1)).2 (st+eK th) (c++(dJ (.kG x th el) E k c.length).1) (s++uW (.kG x th el) n))) Q):=by
 subst Qa;simp only[FE,List.length_append,List.length_singleton] at h1;have hb:=jC p E k (n+1) c.length s.length hE yA n 2 x hx;obtain⟨a1,a2,a3,a4,a5,ha,Zh⟩:=kz x;obtain⟨b1,b2,b3,b4,b5,P5,htb⟩:=kz (dA E x);have P4:dd (.branch 0 (dA E x))=[I 6,I 0,.bool false,I b1,I b2,.str b3,.az b4 b5,.bool false,I 0,.az [] 0,.az [] 0,.az [] 0]:=by simp[dd,P5,qL]
 have R7:gM (.kG x th el)=[I 7,.str eS,I a1,I a2,.str a3,.az a4 a5,.str eS,.az [] 0,.az [] 0,.az (bz th) th.length,.az (bz el) el.length]:=by simp[gM,ha,ke]
 rw[ha,P5] at hb;have t1:=bC th;have t2:=bC el;have q5:=af (cj E0);have q6:=af (bC l);apply T.block;simp only[MS,mE,mH,Hq,R7];apply aj;simp[hC];refine bh ?_;simp;apply aj;simp[hC];refine bh ?_;simp;apply aU;simp[hC];refine bh ?_;simp;apply aW;simp[hC];refine bh ?_;simp;apply aj;simp[hC];refine bh ?_;simp;apply aj;simp[hC];refine bh ?_;simp;apply aj;simp[hC];refine fx ?_;simp;apply aj;simp[hC];refine TL.gu (hb) yA rfl PV rfl rfl Ss Sv Su (TL.go' ah ?_);simp[hC];refine TL.gK (tz p E k (n+1) c s [I 6,I 0,.bool false,I b1,I b2,.str b3,.az b4 b5,.bool false,I 0,.ai,.ai,.ai] rfl yB n yA yA) R5 (aQ _) R5 (aQ _) yA rfl PV rfl rfl Ss Sv Su (TL.go' ah ?_);simp[hC];refine T.le (jd PN [12,6,7,5,4,0,1] 6 7 (e:=(12,I c.length)::mE E0 l i n) rfl Wk rfl rfl rfl rfl rfl yB (iW _ _ (.branch 0 (dA E x)) (by simp[P4])) rfl zX zX) ?_;simp only[mE];apply aj;simp[hC];refine TL.gK h1 (b9 _) (aQ _) (b9 _) (aQ _) yA rfl PV rfl rfl rfl YV rfl (TL.go' ah ?_);generalize hS:bM th E k (c.length+1)=S at h1;obtain⟨S1,S2⟩:=S;generalize hT:gZ th (n+1)=S3 at h1;simp only at h1;simp[Qq];have VG:dd (.branch (c.length+1+S1.length) (dA E x))=[I 6,I ((c.length+1+S1.length:Nat):Int),.bool false,I b1,I b2,.str b3,.az b4 b5,.bool false,I 0,.az [] 0,.az [] 0,.az [] 0]:=by simp[dd,P5,qL]
 have TE:=ym c S1 P4 VG;have hcf:=yo c S1 (.branch 0 (dA E x));simp only[Int.natCast_add,Int.cast_ofNat_Int] at TE;apply aj;simp[hC];refine bh ?_;simp;refine T.rx ah follows [0,1,2,3,4,5,6,7,8,9,10,11,12] [] PH ?_;have PQ:(c.length:Int)<(c.length:Int)+1+(S1.length:Int):=by omega
 simp[hC,fj,PQ,hcf,TE];refine aa.le (kf PN [5,4,0,1] 6 7 (e:=bE E0 l i) rfl (n9 _ _ _) (oa _ _ _) rfl rfl rfl rfl (c':=c++.branch (c.length+1+S1.length) (dA E x)::S1) (s':=s++n::S3) (pb _) rfl Ru Ru) (aa.here ?_);simp[dJ,uW,Qq,hS,hT,NS]
set_option maxHeartbeats 4000000 in
theorem M9 {C:Cx}{Q:Exit→St→Prop}(hC:C.nt=253)(PN:C.n0=3)(p:Pg)(E0:List En)(l:List Sm)(i:Nat){g:Nat}{fs:List (ByteArray×List Pm)}{ps:List Pm}{V:List ByteArray}(E:List En)(k st:Nat)(c:List In)(s:List Nat)(n:Nat)
  (hE:EW g p.ms fs ps V E k) (hl:E.length≤90000) (_hk:k≤9000) (hc:c.length≤9000) (hs:s.length≤9000) (x:Ex) (th el:List Sm) (hx:fc V 2 x)
  (Qa:st=n+1) (h1:FE p th E k st (c++[.branch 0 (dA E x)]) (s++[n])) (h2:FE p el E (bM th E k (c.length+1)).2 (n+1+eK th) (c++.branch (c.length+2+(bM th E k (c.length+1)).1.length) (dA E x)::((bM th E k (c.length+1)).1++[.jump 0])) (s++n::(gZ th (n+1)++[n]))) (Qq:0<el.length) (PX:c.length+(bM th E k (c.length+1)).1.length≤9000) (Tq:s.length+(gZ th (n+1)).length≤9000) :
  T Tryz.prog C (iQ Tryz.f203 2) (MS p E0 l i E k st c s (.kG x th el) n) (thenS (aa C (fun z=>z=NS p E0 l i E (bM el E (bM th E k (c.length+1)).2 (c.length+2+(bM th E k (c.length+1)).1.length)).2 (st+eK th+eK el) (c++(dJ (.kG x th el) E k c.length).1) (s++uW (.kG x th el) n))) Q):=by
 subst Qa;simp only[FE,List.length_append,List.length_singleton] at h1;simp only[FE,List.length_append,List.length_cons,List.length_nil,Nat.zero_add] at h2;have hb:=jC p E k (n+1) c.length s.length hE yA n 2 x hx;obtain⟨a1,a2,a3,a4,a5,ha,Zh⟩:=kz x;obtain⟨b1,b2,b3,b4,b5,P5,htb⟩:=kz (dA E x);have P4:dd (.branch 0 (dA E x))=[I 6,I 0,.bool false,I b1,I b2,.str b3,.az b4 b5,.bool false,I 0,.az [] 0,.az [] 0,.az [] 0]:=by simp[dd,P5,qL]
 have R7:gM (.kG x th el)=[I 7,.str eS,I a1,I a2,.str a3,.az a4 a5,.str eS,.az [] 0,.az [] 0,.az (bz th) th.length,.az (bz el) el.length]:=by simp[gM,ha,ke]
 rw[ha,P5] at hb;have t1:=bC th;have t2:=bC el;have q5:=af (cj E0);have q6:=af (bC l);apply T.block;simp only[MS,mE,mH,Hq,R7];apply aj;simp[hC];refine bh ?_;simp;apply aj;simp[hC];refine bh ?_;simp;apply aU;simp[hC];refine bh ?_;simp;apply aW;simp[hC];refine bh ?_;simp;apply aj;simp[hC];refine bh ?_;simp;apply aj;simp[hC];refine bh ?_;simp;apply aj;simp[hC];refine fx ?_;simp;apply aj;simp[hC];refine TL.gu (hb) yA rfl PV rfl rfl Ss Sv Su (TL.go' ah ?_);simp[hC];refine TL.gK (tz p E k (n+1) c s [I 6,I 0,.bool false,I b1,I b2,.str b3,.az b4 b5,.bool false,I 0,.ai,.ai,.ai] rfl yB n yA yA) R5 (aQ _) R5 (aQ _) yA rfl PV rfl rfl Ss Sv Su (TL.go' ah ?_);simp[hC];refine T.le (jd PN [12,6,7,5,4,0,1] 6 7 (e:=(12,I c.length)::mE E0 l i n) rfl Wk rfl rfl rfl rfl rfl yB (iW _ _ (.branch 0 (dA E x)) (by simp[P4])) rfl zX zX) ?_;simp only[mE];apply aj;simp[hC];refine TL.gK h1 (b9 _) (aQ _) (b9 _) (aQ _) yA rfl PV rfl rfl rfl YV rfl (TL.go' ah ?_);generalize hS:bM th E k (c.length+1)=S at h1 h2 PX;obtain⟨S1,S2⟩:=S;generalize hT:gZ th (n+1)=S3 at h1 h2 Tq;simp only at h1 h2 PX;have hlen:c.length+(S1.length+1+1)=c.length+2+S1.length:=by omega
 generalize hS':bM el E S2 (c.length+(S1.length+1+1))=S' at h2;obtain⟨S4,S5⟩:=S';generalize hT':gZ el (n+1+eK th)=S6 at h2;simp only at h2;simp;refine T.le (jd PN [12,6,7,5,4,0,1] 6 7 (e:=(12,I c.length)::mE E0 l i n) (c':=c++.branch 0 (dA E x)::S1) (s':=s++n::S3) rfl Wk rfl rfl rfl rfl rfl yB (pb _) rfl Ru Ru) ?_;simp only[mE];have hel':0<el.length:=Qq;apply aj;simp[hC,hel'];refine fx ?_;simp;apply aj;simp[hC];refine TL.gK (Me p E S2 (n+1+eK th) (c++.branch 0 (dA E x)::S1) (s++n::S3) (c.length+(S1.length+1)) (s.length+(S3.length+1)) zX zX [I 7,I 0,.bool false,I 0,I 0,.str eS,.ai,.bool false,I 0,.ai,.ai,.ai] rfl rfl n yA yA) R5 (aQ _) R5 (aQ _) yA rfl PV rfl rfl Ss Sv Su (TL.go' ah ?_);simp[hC];refine T.le (jd PN [13,12,6,7,5,4,0,1] 6 7 (e:=(13,I (c.length+(S1.length+1)))::(12,I c.length)::mE E0 l i n) (c':=c++.branch 0 (dA E x)::(S1++[.jump 0])) (s':=s++n::(S3++[n])) rfl Wk rfl rfl rfl rfl rfl yB (by simpa using iW (c++In.branch 0 (dA E x)::S1) [I 7,I 0,.bool false,I 0,I 0,.str eS,.ai,.bool false,I 0,.ai,.ai,.ai] (.jump 0) (by simp[dd,bK,qL])) rfl Ru Ru) ?_;simp only[mE];have VG:dd (.branch (c.length+2+S1.length) (dA E x))=[I 6,I ((c.length:Int)+((S1.length:Int)+1+1)),.bool false,I b1,I b2,.str b3,.az b4 b5,.bool false,I 0,.az [] 0,.az [] 0,.az [] 0]:=by
  simp[dd,P5,qL];omega
 have TE:=ym c (S1++[.jump 0]) P4 VG;have hcf:=yo c (S1++[.jump 0]) (.branch 0 (dA E x));have PQ:(c.length:Int)<(c.length:Int)+((S1.length:Int)+1+1):=by omega
 apply T.seq;refine T.rx ah follows [0,1,2,3,4,5,6,7,8,9,10,11,12] [] PH ?_;simp[hC,fj,PQ,hcf,TE];refine T.le (jd PN [13,12,6,7,5,4,0,1] 3 4 (e:=(13,I (c.length+(S1.length+1)))::(12,I c.length)::mE E0 l i n) (c':=c++In.branch (c.length+2+S1.length) (dA E x)::(S1++[In.jump 0])) (s':=s++n::(S3++[n])) rfl Wk rfl rfl rfl rfl rfl yB (pb _) rfl zX zX) ?_;simp only[mE];apply aj;simp[hC];refine TL.gK h2 (b9 _) (aQ _) (b9 _) (aQ _) yA rfl PV rfl rfl rfl YV rfl (TL.go' ah ?_);simp;have hin0:dd (.jump 0)=[I 7,I 0,.bool false,I 0,I 0,.str eS,.az [] 0,.bool false,I 0,.az [] 0,.az [] 0,.az [] 0]:=by simp[dd,bK,qL]
 have hin2:dd (.jump (c.length+2+S1.length+S4.length))=[I 7,I ((c.length:Int)+((S1.length:Int)+1+1)+(S4.length:Int)),.bool false,I 0,I 0,.str eS,.az [] 0,.bool false,I 0,.az [] 0,.az [] 0,.az [] 0]:=by
  simp[dd,bK,qL];omega
 have hco2:=ym (c++In.branch (c.length+2+S1.length) (dA E x)::S1) S4 hin0 hin2;have hcf2:=yo (c++In.branch (c.length+2+S1.length) (dA E x)::S1) S4 (.jump 0);simp only[List.length_append,List.length_cons,List.append_assoc,List.cons_append] at hco2 hcf2;have T7:(c.length:Int)+((S1.length:Int)+1)<(c.length:Int)+((S1.length:Int)+1+1)+(S4.length:Int):=by omega
 have W8:(0:Int)≤(c.length:Int)+((S1.length:Int)+1):=by omega
 have htn:((c.length:Int)+((S1.length:Int)+1)).toNat=c.length+(S1.length+1):=by omega
 refine T.rx ah follows [0,1,2,3,4,5,6,7,8,9,10,11,12] [] PH ?_;simp[hC,fj,T7,W8,htn,hcf2,hco2];have P3:¬ el.length=0:=by omega
 have WU:bM el E S2 (c.length+2+S1.length)=(S4,S5):=by rw[← hlen];exact hS'
 refine aa.le (kf PN [5,4,0,1] 6 7 (e:=bE E0 l i) rfl (n9 _ _ _) (oa _ _ _) rfl rfl rfl rfl (c':=c++In.branch (c.length+2+S1.length) (dA E x)::(S1++In.jump (c.length+2+S1.length+S4.length)::S4)) (s':=s++n::(S3++n::S6)) (pb _) rfl Ru Ru) (aa.here ?_);simp[dJ,uW,P3,hS,WU,hT,hT',NS]
set_option maxHeartbeats 4000000 in
theorem H8 {C:Cx}{Q:Exit→St→Prop}(hC:C.nt=253)(PN:C.n0=3)(p:Pg)(E0:List En)(l:List Sm)(i:Nat){g:Nat}{fs:List (ByteArray×List Pm)}{ps:List Pm}{V:List ByteArray}(E:List En)(k st:Nat)(c:List In)(s:List Nat)(n:Nat)
  (hE:EW g p.ms fs ps V E k) (hl:E.length≤90000) (_hk:k≤9000) (hc:c.length≤9000) (hs:s.length≤9000) (x:Ex) (th:List Sm) (hx:fc V 2 x)
  (Qa:st=n+1) (h1:FE p th E k st (c++[.branch 0 (dA E x)]) (s++[n])) (PX:c.length+(bM th E k (c.length+1)).1.length≤9000) (Tq:s.length+(gZ th (n+1)).length≤9000) :
  T Tryz.prog C (iQ Tryz.f203 2) (MS p E0 l i E k st c s (.cC x th) n) (thenS (aa C (fun z=>z=NS p E0 l i E (bM th E k (c.length+1)).2 (st+eK th) (c++(dJ (.cC x th) E k c.length).1) (s++uW (.cC x th) n))) Q):=by
 subst Qa;simp only[FE,List.length_append,List.length_singleton] at h1;have hb:=jC p E k (n+1) c.length s.length hE yA n 2 x hx;obtain⟨a1,a2,a3,a4,a5,ha,Zh⟩:=kz x;obtain⟨b1,b2,b3,b4,b5,P5,htb⟩:=kz (dA E x);have P4:dd (.branch 0 (dA E x))=[I 6,I 0,.bool false,I b1,I b2,.str b3,.az b4 b5,.bool false,I 0,.az [] 0,.az [] 0,.az [] 0]:=by simp[dd,P5,qL]
 have R7:gM (.cC x th)=[I 8,.str eS,I a1,I a2,.str a3,.az a4 a5,.str eS,.az [] 0,.az [] 0,.az (bz th) th.length,.az [] 0]:=by simp[gM,ha,ke]
 rw[ha,P5] at hb;have t1:=bC th;have q5:=af (cj E0);have q6:=af (bC l);apply T.block;simp only[MS,mE,mH,Hq,R7];apply aj;simp[hC];refine bh ?_;simp;apply aj;simp[hC];refine bh ?_;simp;apply aU;simp[hC];refine bh ?_;simp;apply aW;simp[hC];refine bh ?_;simp;apply aj;simp[hC];refine bh ?_;simp;apply aj;simp[hC];refine bh ?_;simp;apply aj;simp[hC];refine bh ?_;simp;apply aj;simp[hC];refine fx ?_;simp;apply aj;simp[hC];refine TL.gu (hb) yA rfl PV rfl rfl Ss Sv Su (TL.go' ah ?_);simp[hC];refine TL.gK (tz p E k (n+1) c s [I 6,I 0,.bool false,I b1,I b2,.str b3,.az b4 b5,.bool false,I 0,.ai,.ai,.ai] rfl yB n yA yA) R5 (aQ _) R5 (aQ _) yA rfl PV rfl rfl Ss Sv Su (TL.go' ah ?_);simp[hC];refine T.le (jd PN [14,6,7,5,4,0,1] 6 7 (e:=(14,I c.length)::mE E0 l i n) rfl Wk rfl rfl rfl rfl rfl yB (iW _ _ (.branch 0 (dA E x)) (by simp[P4])) rfl zX zX) ?_;simp only[mE];apply aj;simp[hC];refine TL.gK h1 (b9 _) (aQ _) (b9 _) (aQ _) yA rfl PV rfl rfl rfl YV rfl (TL.go' ah ?_);generalize hS:bM th E k (c.length+1)=S at h1 PX;obtain⟨S1,S2⟩:=S;generalize hT:gZ th (n+1)=S3 at h1 Tq;simp only at h1 PX;simp;refine T.le (jd PN [14,6,7,5,4,0,1] 6 7 (e:=(14,I c.length)::mE E0 l i n) (c':=c++In.branch 0 (dA E x)::S1) (s':=s++n::S3) rfl Wk rfl rfl rfl rfl rfl yB (pb _) rfl Ru Ru) ?_;simp only[mE];apply aj;simp[hC];refine TL.gK (Me p E S2 (n+1+eK th) (c++In.branch 0 (dA E x)::S1) (s++n::S3) (c.length+(S1.length+1)) (s.length+(S3.length+1)) zX zX [I 7,I c.length,.bool false,I 0,I 0,.str eS,.ai,.bool false,I 0,.ai,.ai,.ai] rfl rfl n yA yA) R5 (aQ _) R5 (aQ _) yA rfl PV rfl rfl Ss Sv Su (TL.go' ah ?_);simp;refine T.le (jd PN [14,6,7,5,4,0,1] 6 7 (e:=(14,I c.length)::mE E0 l i n) (c':=c++In.branch 0 (dA E x)::(S1++[In.jump c.length])) (s':=s++n::(S3++[n])) rfl Wk rfl rfl rfl rfl rfl yB (by simpa using iW (c++In.branch 0 (dA E x)::S1) [I 7,I c.length,.bool false,I 0,I 0,.str eS,.ai,.bool false,I 0,.ai,.ai,.ai] (.jump c.length) (by simp[dd,bK,qL])) rfl Ru Ru) ?_;simp only[mE];have VG:dd (.branch (c.length+2+S1.length) (dA E x))=[I 6,I ((c.length:Int)+((S1.length:Int)+1+1)),.bool false,I b1,I b2,.str b3,.az b4 b5,.bool false,I 0,.az [] 0,.az [] 0,.az [] 0]:=by
  simp[dd,P5,qL];omega
 have TE:=ym c (S1++[.jump c.length]) P4 VG;have hcf:=yo c (S1++[.jump c.length]) (.branch 0 (dA E x));have PQ:(c.length:Int)<(c.length:Int)+((S1.length:Int)+1+1):=by omega
 refine T.rx ah follows [0,1,2,3,4,5,6,7,8,9,10,11,12] [] PH ?_;simp[hC,fj,PQ,hcf,TE];refine aa.le (kf PN [5,4,0,1] 3 4 (e:=bE E0 l i) rfl (n9 _ _ _) (oa _ _ _) rfl rfl rfl rfl (c':=c++In.branch (c.length+2+S1.length) (dA E x)::(S1++[In.jump c.length])) (s':=s++n::(S3++[n])) (pb _) rfl zX zX) (aa.here ?_);simp[dJ,uW,hS,hT,NS]
theorem rW:(∀ x:Sm,∀ E k b n,(uW x n).length=(dJ x E k b).1.length)∧(∀ l:List Sm,∀ E k b n,(gZ l n).length=(bM l E k b).1.length):=by
 let M1:Sm→Prop:=fun x=>∀ E k b n,(uW x n).length=(dJ x E k b).1.length
 let M2:List Sm→Prop:=fun l=>∀ E k b n,(gZ l n).length=(bM l E k b).1.length
 have A1:∀ (s:ByteArray) (e:Ex),M1 (.gA s e):=fun s e E k b n=>by simp[uW,dJ]
 have A2:∀ (s:ByteArray) (e:Ex),M1 (.hD s e):=fun s e E k b n=>by simp[uW,dJ]
 have A3:∀ (g:Bool) (s:ByteArray) (l:List Ar),M1 (.dI g s l):=fun g s l E k b n=>by simp[uW,dJ]
 have A4:∀ (u:Bool) (r:Rf),M1 (.di u r):=fun u r E k b n=>by simp[uW,dJ]
 have A5:∀ (e:Ex) (th el:List Sm),M2 th→M2 el→M1 (.kG e th el):=fun e th el h1 h2 E k b n=>by
  simp only[uW,dJ];split
  ·simp[h1 E k (b+1) (n+1)]
  ·simp[h1 E k (b+1) (n+1),h2 E (bM th E k (b+1)).2 (b+2+(bM th E k (b+1)).1.length) (n+1+eK th)]
 have A6:∀ (e:Ex) (th:List Sm),M2 th→M1 (.cC e th):=fun e th h1 E k b n=>by
  simp[uW,dJ,h1 E k (b+1) (n+1)]
 have A7:M1 .jb:=fun E k b n=>by simp[uW,dJ]
 have A0:M2 []:=fun E k b n=>by simp[gZ,bM]
 have A8:∀ (s:Sm) (r:List Sm),M1 s→M2 r→M2 (s::r):=fun s r h1 h2 E k b n=>by
  simp only[gZ,bM,List.length_append];rw[h1 E k b n,h2 (E++eO k s) (dJ s E k b).2 (b+(dJ s E k b).1.length) (n+mU s)]
 exact⟨fun s=>Sm.rec (motive_1:=M1) (motive_2:=M2) A1 A2 A3 A4 A5 A6 A7 A0 A8 s,fun l=>Sm.rec_1 (motive_1:=M1) (motive_2:=M2) A1 A2 A3 A4 A5 A6 A7 A0 A8 l⟩
theorem LN (x:Sm):∃ cs,gM x=I (Hq x)::cs∧cs.length=10:=by
 have h:∃ cs,gM x=I (Hq x)::cs:=by cases x<;>exact⟨_,rfl⟩
 obtain⟨cs,h⟩:=h;have:=jR x;rw[h] at this;exact⟨cs,h,by simpa using this⟩
theorem T.cutL {P:Program}{C:Cx}{s:St}{c:Code}{Q:Exit→St→Prop}(J:St→Prop)(h:T P C c s (thenS (aa C J) Q))(hJ:∀ s',J s'→Q .normal s'):T P C c s Q:=by
 refine T.post h fun e s' q=>?_
 cases e with
 | normal=>
  obtain⟨R1,hj,hl⟩:=q;exact⟨R1,hJ R1 hj,hl⟩
 | _=>exact⟨s',q,Le.refl _⟩
structure PgB (p:Pg):Prop where
 m:p.ms.length≤1000
 f:p.fs.length≤1000
 p:∀ f∈p.fs,f.params.length≤1000
theorem Je {C:Cx}{Q:Exit→St→Prop}(hC:C.nt=253)(PN:C.n0=3){p:Pg}(hp:PgB p)(E0:List En)(l:List Sm)(i:Nat){g:Nat}{ps:List Pm}{d:Nat}{V:List ByteArray}{E:List En}{k:Nat}{c:List In}{s:List Nat}{n:Nat}{x:Sm}
  (hE:EW g p.ms (p.fs.map fun f=>(f.name,f.params)) ps V E k) (hx:dB p.ms (p.fs.map fun f=>(f.name,f.params)) ps d V x) (hl:E.length+dO x≤5000) (hk:k+dO x≤5000) (hc:c.length+dO x≤5000) (hs:s.length+dO x≤5000) (Qa:n+dO x≤1000000)
  (rec:∀ d' < d,∀ (l:List Sm) (V:List ByteArray) (E:List En) (k st:Nat) (c:List In) (s:List Nat),EW g p.ms (p.fs.map fun f=>(f.name,f.params)) ps V E k→cI p.ms (p.fs.map fun f=>(f.name,f.params)) ps d' V l→E.length+bH l≤5000→k+bH l≤5000→c.length+bH l≤5000→s.length+bH l≤5000→st+bH l≤1000000→FE p l E k st c s) :
  T Tryz.prog C (iQ Tryz.f203 2) (MS p E0 l i E k (n+1) c s x n) (thenS (aa C (fun z=>z=NS p E0 l i (E++eO k x) (dJ x E k c.length).2 (n+mU x) (c++(dJ x E k c.length).1) (s++uW x n))) Q):=by
 cases x with
 | gA nm e=>
  simp only[dB] at hx;obtain⟨⟨j,hj,rfl⟩,hv,he⟩:=hx;simp only[dO] at hl hk hc hs Qa;exact M7 hC PN p E0 l i E k (n+1) c s n hE yA yA yA yA _ e (hE.o _ hv (vu j hj)) he
 | hD nm e=>
  simp only[dB] at hx;simp only[dO] at hl hk hc hs Qa
  simpa only[eO,dJ,mU,uW,List.append_nil] using Na (Q:=Q) hC PN p E0 l i E k (n+1) c s n hE yA yA yA nm e hx.1 hx.2
 | dI go nm al=>
  simp only[dB] at hx;obtain⟨gp,h1,h2⟩:=hx;simp only[dO] at hl hk hc hs Qa;have UJ:gp.length≤1000:=by
   obtain⟨f,hf,he⟩:=List.mem_map.1 h1;have:=hp.p f hf;simp only[Prod.mk.injEq] at he;rw[← he.2];exact this
  simpa only[eO,dJ,mU,uW,List.append_nil] using Kk (Q:=Q) hC PN p E0 l i E k (n+1) c s n hE yA hp.m hp.f yA yA go nm gp al h1 h2 UJ
 | di u r=>
  simp only[dB] at hx;simp only[dO] at hl hk hc hs Qa
  simpa only[eO,dJ,mU,uW,List.append_nil] using Kj (Q:=Q) hC PN p E0 l i E k (n+1) c s n hE yA hp.m yA yA u r hx
 | jb=>
  simp only[dO] at hl hk hc hs Qa
  simpa only[eO,dJ,mU,uW,List.append_nil] using M8 (Q:=Q) hC PN p E0 l i E k (n+1) c s n yA yA
 | kG e th el=>
  cases d with
  | zero=>simp only[dB] at hx
  | succ d=>
   simp only[dB] at hx;simp only[dO] at hl hk hc hs Qa;obtain⟨v1,_,v3,v4⟩:=y9.2 th d V E k (c.length+1) hE hx.2.1;have v5:=rW.2 th E k (c.length+1) (n+1);have v6:=xB.2 th;have h1:=rec d yA th V E k (n+1) (c++[.branch 0 (dA E e)]) (s++[n]) hE hx.2.1 yA yA Ru Ru yA;by_cases Qq:el.length=0
   ·have Ye:el=[]:=List.eq_nil_of_length_eq_zero Qq;have:=cs_if (Q:=Q) hC PN p E0 l i E k (n+1) c s n hE yA yA yA yA e th el hx.1 rfl h1 Qq;subst Ye;have e1:n+mU (.kG e th [])=n+1+eK th:=by simp only[mU,eK];omega
    have e2:(dJ (.kG e th []) E k c.length).2=(bM th E k (c.length+1)).2:=by simp[dJ]
    rw[e1,e2]
    simpa only[eO,List.append_nil] using this
   ·have h2:=rec d yA el V E (bM th E k (c.length+1)).2 (n+1+eK th) (c++.branch (c.length+2+(bM th E k (c.length+1)).1.length) (dA E e)::((bM th E k (c.length+1)).1++[.jump 0])) (s++n::(gZ th (n+1)++[n])) (hE.up v1) hx.2.2 yA yA Ru Ru yA;have:=M9 (Q:=Q) hC PN p E0 l i E k (n+1) c s n hE yA yA yA yA e th el hx.1 rfl h1 h2 yA yA yA;have e1:n+mU (.kG e th el)=n+1+eK th+eK el:=by simp only[mU];omega
    have e2:(dJ (.kG e th el) E k c.length).2=(bM el E (bM th E k (c.length+1)).2 (c.length+2+(bM th E k (c.length+1)).1.length)).2:=by simp[dJ,Qq]
    rw[e1,e2]
    simpa only[eO,List.append_nil] using this
 | cC e th=>
  cases d with
  | zero=>simp only[dB] at hx
  | succ d=>
   simp only[dB] at hx;simp only[dO] at hl hk hc hs Qa;obtain⟨v1,_,v3,v4⟩:=y9.2 th d V E k (c.length+1) hE hx.2;have v5:=rW.2 th E k (c.length+1) (n+1);have h1:=rec d yA th V E k (n+1) (c++[.branch 0 (dA E e)]) (s++[n]) hE hx.2 yA yA Ru Ru yA;have:=H8 (Q:=Q) hC PN p E0 l i E k (n+1) c s n hE yA yA yA yA e th hx.1 rfl h1 yA yA;have e1:n+mU (.cC e th)=n+1+eK th:=by simp only[mU];omega
   have e2:(dJ (.cC e th) E k c.length).2=(bM th E k (c.length+1)).2:=by simp[dJ]
   rw[e1,e2]
   simpa only[eO,List.append_nil] using this
theorem zN:∀ l:List Sm,l.length≤bH l
 | []=>Nat.le_refl _
 | x::r=>by
  have:=zN r;have h:1≤dO x:=by cases x<;>simp only[dO]<;>omega
  simp only[List.length_cons,bH];omega
theorem Mo {c:CV}(h:okW c=true){m:List (Nat×Nat)}(h0:(assoc m 0).isSome=true):um m c=true:=by
 cases c with
 | av q f=>
  cases f with
  | zero=>
   simp only[okW,beq_iff_eq] at h;subst h;exact h0
  | succ f=>simp[okW,tree] at h
 | agg cs=>simp only[okW,tree] at h;exact aH h m
 | dH cs=>simp only[okW,tree] at h;exact aH h m
 | _=>first | exact h | simp[okW,tree] at h
theorem CS {m:List (Nat×Nat)}{n:Nat}(h0:gf m n 0=0):∀ {e:List (Nat×CV)},(e.all fun x=>okW x.2)=true→dC (gf m n) e=e
 | [],_=>rfl
 | (t,c)::e,h=>by
  simp only[List.all_cons,Bool.and_eq_true] at h;rw[dC,GY h.1 _ h0,CS h0 h.2]
theorem ms_le {C:Cx}{s:St}{p:Pg}(PN:C.n0=3)(ks:List Nat)(o:Nat)(ho:5<o){kd:Int}{e:List (Nat×CV)}{E:List En}{k st cl sl:Nat}{cs:List CV}{c':List In}{s':List Nat}(he:pick s.env (41::6::ks)=(41,I kd)::(6,.av o 0)::e)(P9:(e.all fun x=>okW x.2)=true)
  (h0:assoc s.heap 0=some (fj p E k st 3 cl 4 sl)) (h3:assoc s.heap 3=some (eC c')) (h4:assoc s.heap 4=some (fz s')) (h5:assoc s.heap o=some ⟨265,0,cs⟩) (Ql:trees cs=true) :
  Le C s ⟨(41,I kd)::(6,.av 5 0)::e,[(0,fj p E k st 3 cl 4 sl),(3,eC c'),(4,fz s'),(5,⟨265,0,cs⟩)],6⟩:=by
 have n0:¬ 0=o:=by omega
 have n3:¬ 3=o:=by omega
 have n4:¬ 4=o:=by omega
 have r0:gf [(0,0),(3,3),(4,4),(o,5)] 6 0=0:=rfl;have r3:gf [(0,0),(3,3),(4,4),(o,5)] 6 3=3:=rfl;have r4:gf [(0,0),(3,3),(4,4),(o,5)] 6 4=4:=rfl;have ro:gf [(0,0),(3,3),(4,4),(o,5)] 6 o=5:=by simp[gf,assoc,n0,n3,n4]
 have ao:(assoc [(0,0),(3,3),(4,4),(o,5)] o).isSome=true:=by simp[assoc,n0,n3,n4]
 have QQ:=Le.norm (C:=C) (s:=s) (41::6::ks) [(0,0),(3,3),(4,4),(o,5)] 3 6 (by simp[ue,n0,n3,n4]) (by simp only[List.all_cons,List.all_nil,h0,h3,h4,h5];rfl) ?_ yA
 ·rw[he] at QQ;simp only[List.map_cons,List.map_nil,pick,h0,h3,h4,h5,cb,dC] at QQ;rw[CS r0 P9,r0,r3,r4,ro,qc,r3,r4,eC,fz,cL _ _ _ (b9 c'),cL _ _ _ (aQ s'),cL _ _ _ Ql] at QQ;simp only[dR,ro] at QQ;exact QQ
 ·unfold dD;rw[he];simp only[List.map_cons,List.map_nil,pick,h0,h3,h4,h5,List.all_cons,List.all_nil,Bool.and_true,Bool.and_eq_true,List.all_eq_true (l:=e)];refine⟨⟨rfl,ao,fun x hx=>Mo ((List.all_eq_true.1 P9) x hx) rfl⟩,Bl E k st 3 _ 4 _ _ rfl rfl,aH (b9 c') _,aH (aQ s') _,aH Ql _⟩
structure InvB (p:Pg)(g:Nat)(ps:List Pm)(d:Nat)(l:List Sm)(E:List En)(k st:Nat)(c:List In)(s:List Nat)(i:Nat)(V:List ByteArray)(Ei:List En)(ki Uh:Nat)(ci:List In)(si:List Nat):Prop where
 hi:i≤l.length
 he:EW g p.ms (p.fs.map fun f=>(f.name,f.params)) ps V Ei ki
 w:cI p.ms (p.fs.map fun f=>(f.name,f.params)) ps d V (l.drop i)
 l1:Ei.length+bH (l.drop i)≤5000
 l2:ki+bH (l.drop i)≤5000
 l3:ci.length+bH (l.drop i)≤5000
 l4:si.length+bH (l.drop i)≤5000
 l5:Uh+bH (l.drop i)≤1000000
 r1:(bM l E k c.length).2=(bM (l.drop i) Ei ki ci.length).2
 r2:c++(bM l E k c.length).1=ci++(bM (l.drop i) Ei ki ci.length).1
 r3:s++gZ l st=si++gZ (l.drop i) Uh
 r4:st+eK l=Uh+eK (l.drop i)
def JB (p:Pg)(g:Nat)(ps:List Pm)(d:Nat)(l:List Sm)(E:List En)(k st:Nat)(c:List In)(s:List Nat)(m:Nat)(z:St):Prop:=
 ∃ i V Ei ki Uh ci si,m=l.length-i∧InvB p g ps d l E k st c s i V Ei ki Uh ci si∧z=NS p E l i Ei ki Uh ci si
theorem Ix {p:Pg}(hp:PgB p){g:Nat}{ps:List Pm}:∀ (d:Nat) (l:List Sm) (V:List ByteArray) (E:List En) (k st:Nat) (c:List In) (s:List Nat),
  EW g p.ms (p.fs.map fun f=>(f.name,f.params)) ps V E k→cI p.ms (p.fs.map fun f=>(f.name,f.params)) ps d V l→E.length+bH l≤5000→k+bH l≤5000→c.length+bH l≤5000→s.length+bH l≤5000→st+bH l≤1000000→FE p l E k st c s:=by
 intro d
 induction d using Nat.strongRecOn with
 | _ d ih=>
 intro l V E k st c s hE hw hl hk hc hs Qa;unfold FE;refine Body.iV Tryz.func203 rfl PH (by simp[Tryz.ntmps203]) fun C hC PN=>?_;rw[Tryz.ntmps203] at hC;simp only[T3];have q1:=af (iD p.gs);have q2:=af (eT p.ms);have q3:=af (cF p.fs);have q4:=af (cj E);have q6:=af (bC l);apply aj;simp[hC,fj];apply aU;simp[hC];apply T.block;refine T.aJ (JB p g ps d l E k st c s) (n:=l.length) ?_ ?_
 ·refine aa.le (Le.up 5 zX) ?_;refine aa.le (kf (p:=p) (E:=E) (k:=k) (st:=st) PN [5,4,0,1] 1 2 (e:=bE E l 0) (c':=c) (s':=s) rfl (n9 _ _ _) (oa _ _ _) rfl rfl rfl rfl (pb _) rfl rfl rfl) (aa.here ?_);exact⟨0,V,E,k,st,c,s,by omega,⟨by omega,hE,hw,hl,hk,hc,hs,Qa,rfl,rfl,rfl,rfl⟩,rfl⟩
 ·rintro m z ⟨i,Vi,Ei,ki,Uh,ci,si,rfl,hI,rfl⟩;by_cases PJ:i<l.length
  ·obtain⟨x,TM⟩:∃ x,l[i]? = some x:=⟨l[i],List.getElem?_eq_getElem PJ⟩;have VK:l.drop i=x::l.drop (i+1):=by
    rw[List.drop_eq_getElem_cons PJ,(List.getElem?_eq_some_iff.1 TM).2]
   obtain⟨i1,i2,i3,i4,i5,i6,i7,i8,i9,i10,i11,i12⟩:=hI;rw[VK] at i3 i4 i5 i6 i7 i8 i9 i10 i11 i12;simp only[cI,bH,bM,gZ,eK] at i3 i4 i5 i6 i7 i8 i9 i10 i11 i12;obtain⟨hx1,Sw⟩:=i3;have cS:=fun Q C hC PN=>Je (C:=C) (Q:=Q) hC PN hp E l i (n:=Uh) (c:=ci) (s:=si) i2 hx1 yA yA yA yA yA (fun d' Qk l V E k st c s=>ih d' Qk l V E k st c s);obtain⟨v1,_,v3,v4,v5⟩:=y9.1 x d Vi Ei ki ci.length i2 hx1;have v6:=rW.1 x Ei ki ci.length Uh;have v7:=xB.1 x;obtain⟨xc,QJ,Sc⟩:=LN x;have PL:List.drop (i*11) (bz l)=gM x++bz (l.drop (i+1)):=by rw[mT,mT];exact aO (f:=gM) (n:=11) jR TM
   have TK:=zN l;have wi:=cE ((i:Int)+1) yA yA;have wst:=cE ((Uh:Int)+1) yA yA;have txc:trees xc=true:=by
    have:=gV x;rw[QJ,trees] at this;exact (Bool.and_eq_true _ _ ▸ this).2
   have PY:List.take 10 (xc++bz (l.drop (i+1)))=xc:=by rw[← Sc,List.take_left]
   rw[QJ] at PL;simp only[NS,bE];apply aU;simp[hC,PJ];refine gQ ?_;simp;apply dZ;apply T.seq;refine T.rx ah follows [0,1,2,3,4,5,6,7,8,9,10] [(3,8),(7,8),(7,9)] PH ?_;simp[hC,PJ,PL,fj,Sc,PY];apply aj;simp[hC,wst];apply aj;simp[hC];refine T.le (ms_le (p:=p) (E:=Ei) (k:=ki) (st:=Uh+1) (cl:=ci.length) (sl:=si.length) (e:=[(7,I Uh),(5,I i),(4,.az (E.flatMap gN) E.length),(0,.av 0 0),(1,.az (bz l) l.length)]) PN [7,5,4,0,1] 13 yA rfl (by simp[okW,tree]) rfl rfl rfl rfl (by rw[trees,txc];rfl)) ?_;rw[← QJ];refine T.cutL _ (cS _ C hC PN) ?_;rintro z rfl;simp only[oF,thenS,NS,bE];apply aW;simp[hC,wi];have hde:(Ei++eO ki x).length≤Ei.length+1:=by cases x<;>simp[eO]
   have hde2:1≤dO x:=by cases x<;>simp only[dO]<;>omega
   refine⟨l.length-(i+1),by omega,aa.trim [5,4,0,1] [0,3,4] 5 SK yA ⟨i+1,Vi++dE x,Ei++eO ki x,(dJ x Ei ki ci.length).2,Uh+mU x,ci++(dJ x Ei ki ci.length).1,si++uW x Uh,rfl,⟨by omega,v3,Sw,by omega,by omega,by simp only[List.length_append];omega,by simp only[List.length_append];omega,by omega,?_,?_,?_,?_⟩,?_⟩⟩
   ·rw[i9,List.length_append]
   ·rw[i10,List.length_append,List.append_assoc]
   ·rw[i11,List.append_assoc]
   ·rw[i12];omega
   ·simp[NS,bE]
  ·have PS:i=l.length:=by have:=hI.hi;omega
   obtain⟨i1,i2,i3,i4,i5,i6,i7,i8,i9,i10,i11,i12⟩:=hI;rw[PS,List.drop_length] at i9 i10 i11 i12;simp only[bM,gZ,eK,List.append_nil,Nat.add_zero] at i9 i10 i11 i12;simp only[NS,bE];apply aU;simp[hC,PJ];refine bh ?_;simp;apply T.exit;simp;apply aW;simp[hC,fj];refine aa.trim [] [0,3,4] 5 SK yA ⟨_,rfl,rfl,?_,rfl⟩;have e1:c.length+(bM l E k c.length).1.length=ci.length:=by rw[← i10,List.length_append]
   have e2:s.length+(gZ l st).length=si.length:=by rw[← i11,List.length_append]
   rw[e1,e2,i9,i10,i11,i12];simp[T4,fj]
end Go.Proofs.YtnecpnjdonibmaaGreat
namespace Go.aP
open Go.Can
theorem iw (c:Nat):∀ (l:List ByteArray) (i:Nat),(Dm c i l).length=l.length
 | [],_=>rfl
 | s::r,i=>by simp[Dm,iw c r]
theorem yf {c:Nat}:∀ {l:List ByteArray} {i j:Nat} {s:ByteArray},l[j]? = some s→(Dm c i l)[j]? = some ⟨s,c,i+j⟩
 | [],_,_,_,h=>by simp at h
 | x::r,i,0,s,h=>by
  simp only[List.getElem?_cons_zero,Option.some.injEq] at h;subst h;rfl
 | x::r,i,j+1,s,h=>by
  simp only[List.getElem?_cons_succ] at h;simp only[Dm,List.getElem?_cons_succ];rw[yf h];congr 2;omega
theorem Ah (p:Pg):(cU p).length=p.gs.length+p.ms.length+p.fs.length:=by simp[cU,iw];omega
theorem MY {p:Pg}{i:Nat}{x:Gl}(h:p.gs[i]? = some x):(cU p)[i]? = some ⟨x.name,1,i⟩:=by
 have hl:=(List.getElem?_eq_some_iff.1 h).1;have h2:(p.gs.map (·.name))[i]? = some x.name:=by rw[List.getElem?_map,h];rfl
 rw[cU,List.append_assoc,List.getElem?_append_left (by rw[iw,List.length_map];exact hl),yf h2,Nat.zero_add]
theorem MX {p:Pg}{i:Nat}{x:Mx}(h:p.ms[i]? = some x):(cU p)[p.gs.length+i]? = some ⟨x.name,2,i⟩:=by
 have hl:=(List.getElem?_eq_some_iff.1 h).1;have h2:(p.ms.map (·.name))[i]? = some x.name:=by rw[List.getElem?_map,h];rfl
 rw[cU,List.append_assoc,List.getElem?_append_right (by rw[iw,List.length_map];omega),iw,List.length_map,Nat.add_sub_cancel_left,List.getElem?_append_left (by rw[iw,List.length_map];exact hl),yf h2,Nat.zero_add]
theorem M0 {p:Pg}{i:Nat}{x:Fu}(h:p.fs[i]? = some x):(cU p)[p.gs.length+p.ms.length+i]? = some ⟨x.name,3,i⟩:=by
 have h2:(p.fs.map (·.name))[i]? = some x.name:=by rw[List.getElem?_map,h];rfl
 rw[cU,List.getElem?_append_right (by rw[List.length_append,iw,iw,List.length_map,List.length_map];omega),List.length_append,iw,iw,List.length_map,List.length_map,Nat.add_sub_cancel_left,yf h2,Nat.zero_add]
theorem Kh {p:Pg}(h:jP p):((cU p).map (·.name)).Nodup:=by
 obtain⟨a1,a2,_,_⟩:=gg;obtain⟨s1,s2,s3,_⟩:=h.sub;obtain⟨d1,d2,d3,_⟩:=h.nd;rw[cU,List.map_append,List.map_append,k8,k8,k8];refine List.nodup_append.2 ⟨List.nodup_append.2 ⟨d1,d2,fun a ha b hb e=>?_⟩,d3,fun a ha b hb e=>?_⟩
 ·subst e;exact a1 _ (s2 _ hb) (s1 _ ha)
 ·subst e;rcases List.mem_append.1 ha with ha | ha
  ·exact (a2 _ (s3 _ hb)).1 (s1 _ ha)
  ·exact (a2 _ (s3 _ hb)).2 (s2 _ ha)
theorem HN {E:List En}(h:(E.map (·.name)).Nodup){i:Nat}{x:En}(hx:E[i]? = some x):iu (E.take i) x.name=none:=by
 obtain⟨hl,RD⟩:=List.getElem?_eq_some_iff.1 hx;have e:E=E.take i++x::E.drop (i+1):=by rw[← RD,← List.drop_eq_getElem_cons hl,List.take_append_drop]
 have h2:((E.take i++x::E.drop (i+1)).map (·.name)).Nodup:=by rw[← e];exact h
 rw[List.map_append,List.map_cons,List.nodup_append] at h2;rw[pj];exact fun hm=>h2.2.2 _ hm _ List.mem_cons_self rfl
end Go.aP
namespace Go.Proofs.YtnecpnjdonibmaaGreat
open Go.Can Go.aP
def gP (E:List En):Ob:=⟨201,3,E.flatMap gN⟩
@[simp] theorem HV (E:List En)(n:Nat):(gP E).cells.all (a7 n)=true:=af (cj E) n
@[simp] theorem enOb_ltS (E:List En)(n:Nat):aS n (gP E).cells=true:=by rw[cr];exact HV E n
@[simp] theorem enOb_frz (E:List En)(o:Nat)(cs:List CV)(n:Nat):(gP E).cells.map (cB o cs n)=(gP E).cells:=cW (cj E) o cs n
@[simp] theorem enOb_eta (E:List En):(⟨(gP E).elem,(gP E).sz,(gP E).cells⟩:Ob)=gP E:=rfl
@[simp] theorem NG (ρ:Nat→Nat)(E:List En):ct ρ (gP E)=gP E:=cL _ _ _ (cj E)
def J59B (E:List En)(s:ByteArray)(n:Nat)(st:St):Prop:=∃ i:Nat,n=E.length-i∧i≤E.length∧iu E s=iu (E.drop i) s∧st=⟨[(6,I i),(5,.bool false),(4,.av 1 0),(0,.bj 0 0 E.length),(1,.str s)],[(1,⟨201,0,[.str ⟨#[]⟩,I 0,I 0]⟩),(0,gP E)],2⟩
theorem Ab (E:List En)(s:ByteArray)(hl:E.length≤100000):Body Tryz.prog au 135 [.bj 0 0 E.length,.str s] [(0,gP E)] 1 (iy (pv (iu E s)) [(0,gP E)] 1):=by
 have Qv:=fun (i:Nat) (x:En) (h:E[i]? = some x)=>aO (f:=gN) (n:=3) jW (m:=E) h;refine Body.iV Tryz.func135 rfl PH (by simp[Tryz.ntmps135]) fun C hC PN=>?_;rw[Tryz.ntmps135] at hC;apply aj;simp[hC];apply aU;simp[hC];apply T.block;refine T.aJ (J59B E s) (n:=E.length) ?_ ?_
 ·refine aa.here ⟨0,by omega,by omega,rfl,?_⟩;simp
 ·rintro n st ⟨i,rfl,hi,hf,rfl⟩;by_cases PJ:i<E.length
  ·obtain⟨a,Qz⟩:∃ a,E[i]? = some a:=⟨E[i],List.getElem?_eq_getElem PJ⟩;have PL:=Qv i a Qz;have wi:=cE ((i:Int)+1) yA yA;have hd:E.drop i=a::E.drop (i+1):=by
    rw[List.drop_eq_getElem_cons PJ,(List.getElem?_eq_some_iff.1 Qz).2]
   rw[hd,iu] at hf;apply aU;simp[hC,PJ];refine gQ ?_;simp;apply dZ;apply aj;simp[hC,PJ,PL,gN,gY,gP];by_cases hn:a.name=s
   ·rw[if_pos hn] at hf;simp only[hn,decide_true];refine fx ?_;simp;apply aj;simp[hC,PJ,PL,gN];apply T.ret;refine aa.le (Le.dz (o:=1) rfl rfl) ?_;simp[cW (cj E)];refine aa.trim [4,5] [0] 1 (by simp[-List.all_eq_true,-List.all_flatMap,af (cj E)]) yA ⟨_,?_,rfl,?_,rfl⟩
    ·simp[hf,pv,gN]
    ·simp
   ·rw[if_neg hn] at hf;simp only[hn,decide_false];refine gO ?_;simp;apply aW;simp[hC,wi];refine⟨E.length-(i+1),by omega,?_⟩;refine aa.trim [6,5,4,0,1] [1,0] 2 (by simp[-List.all_eq_true,-List.all_flatMap,af (cj E)]) yA ⟨i+1,rfl,by omega,hf,?_⟩;simp[gP]
  ·have PS:i=E.length:=by omega
   rw[PS,List.drop_length,iu] at hf;apply aU;simp[hC,PJ];refine bh ?_;simp;apply T.exit;simp;apply aj;simp[hC];apply T.ret;refine aa.le (Le.dz (o:=1) rfl rfl) ?_;simp;refine aa.trim [4,5] [0] 1 SK yA ⟨_,?_,rfl,?_,rfl⟩
   ·simp[hf,pv]
   ·simp
def J58 (p:Pg)(m:Nat)(s:St):Prop:=∃ i:Nat,m=(cU p).length-i∧i≤(cU p).length∧
 s=⟨[(7,I i),(6,I (cU p).length),(5,I (-1)),(4,.bj 1 0 i),(1,.av 0 0)],[(0,⟨27,0,dU p⟩),(1,gP ((cU p).take i))],2⟩
theorem Ag (p:Pg)(h:jP p)(hm:p.ms.length≤1000)(hf:p.fs.length≤1000)(hg:p.gs.length≤1000):ae Tryz.prog 134 [vS p] (.dH [.az ((cU p).flatMap gN) (cU p).length,I (-1)]):=by
 have VK:=Ah p;have SD:=Kh h;obtain⟨t1,t2,t3⟩:=iA p;refine ae.aM ah Tryz.func134 rfl PH (by simp[Tryz.ntmps134]) rfl fun C hC PN=>?_;rw[Tryz.ntmps134] at hC;have TW:=cE ((p.gs.length:Int)+p.ms.length) yA yA;have Zd:=cE ((p.gs.length:Int)+p.ms.length+p.fs.length) yA yA;simp only[vS,dU];apply aj;simp[hC];apply aj;simp[hC];apply aj;simp[hC];apply aj;simp[hC,TW,Zd];apply aU;simp[hC];apply T.block;refine T.aJ (J58 p) (n:=(cU p).length) ?_ ?_
 ·refine aa.le (Le.own 4 201 3 rfl) ?_;simp;refine aa.trim [7,6,5,4,1] [0,1] 2 SK yA ⟨0,by omega,by omega,?_⟩;simp[dU,VK,gP]
 ·rintro n s ⟨i,rfl,hi,rfl⟩;by_cases PJ:i<(cU p).length
  ·obtain⟨x,TM⟩:∃ x,(cU p)[i]? = some x:=⟨(cU p)[i],List.getElem?_eq_getElem PJ⟩;have wi:=cE ((i:Int)+1) yA yA;have wd:=cE ((i:Int)-(p.gs.length:Int)) yA yA;apply aU;simp[hC,PJ];refine gQ ?_;simp;apply dZ;apply aj;simp[hC];refine T.cut (fun z=>z=⟨[(8,.av 2 0),(7,I i),(6,I (cU p).length),(5,I (-1)),(4,.bj 1 0 i),(1,.av 0 0)],[(0,⟨27,0,dU p⟩),(1,gP ((cU p).take i)),(2,⟨201,0,gN x⟩)],3⟩) ?_ ?_
   ·simp only[dU];by_cases c1:i<p.gs.length
    ·obtain⟨y,hy⟩:∃ y,p.gs[i]? = some y:=⟨p.gs[i],List.getElem?_eq_getElem c1⟩;have hx:=MY hy;rw[TM] at hx;cases hx;have PL:=aO (f:=nW) (n:=2) (fun _=>rfl) hy;have XS:(i:Int)-(p.gs.length:Int)<0:=by omega
     apply aj;simp[hC,wd];apply T.block;apply aj;simp[hC,XS];refine fx ?_;simp;apply aW;simp[hC,c1,PL,nW];refine aa.trim [8,7,6,5,4,1] [0,1,2] 3 SK yA ?_;simp[gN]
    ·by_cases c2:i<p.gs.length+p.ms.length
     ·obtain⟨j,rfl⟩:∃ j,i=p.gs.length+j:=⟨i-p.gs.length,by omega⟩;have c3:j<p.ms.length:=by omega
      obtain⟨y,hy⟩:∃ y,p.ms[j]? = some y:=⟨p.ms[j],List.getElem?_eq_getElem c3⟩;have hx:=MX hy;rw[TM] at hx;cases hx;have PL:=aO (f:=eL) (n:=3) (fun _=>rfl) hy;have QT:(p.gs.length:Int)+(j:Int)-(p.gs.length:Int)=(j:Int):=by omega
      have wj:=cE (j:Int) yA yA;apply aj;simp[hC,QT,wj];apply T.block;apply aj;simp[hC];refine bh ?_;simp;apply aj;simp[hC,c3];refine fx ?_;simp;apply aW;simp[hC,c3,PL,eL];refine aa.trim [8,7,6,5,4,1] [0,1,2] 3 SK yA ?_;simp[gN]
     ·obtain⟨j,rfl⟩:∃ j,i=p.gs.length+p.ms.length+j:=⟨i-p.gs.length-p.ms.length,by omega⟩;have c3:j<p.fs.length:=by omega
      obtain⟨y,hy⟩:∃ y,p.fs[j]? = some y:=⟨p.fs[j],List.getElem?_eq_getElem c3⟩;have hx:=M0 hy;rw[TM] at hx;cases hx;have PL:=aO (f:=eF) (n:=3) (fun _=>rfl) hy;have QT:(p.gs.length:Int)+(p.ms.length:Int)+(j:Int)-(p.gs.length:Int)=(p.ms.length:Int)+(j:Int):=by omega
      have Zj:(p.ms.length:Int)+(j:Int)-(p.ms.length:Int)=(j:Int):=by omega
      have wj:=cE (j:Int) yA yA;have wmj:=cE ((p.ms.length:Int)+(j:Int)) yA yA;have W8:¬ (p.ms.length:Int)+(j:Int)<0:=by omega
      have QH:¬ (p.ms.length:Int)+(j:Int)<(p.ms.length:Int):=by omega
      apply aj;simp[hC,QT,wmj];apply T.block;apply aj;simp[hC,W8];refine bh ?_;simp;apply aj;simp[hC,QH];refine bh ?_;simp;refine T.rx ah follows [0,1,2,3,4,5,6,7,8,9,10,11,12,13,14,15,16] [] PH ?_;simp[hC,Zj,wj,c3,PL,eF];refine aa.trim [8,7,6,5,4,1] [0,1,2] 3 SK yA ?_;simp[gN]
   ·rintro z rfl;simp only[dU];have SU:=Ab ((cU p).take i) x.name (by rw[List.length_take];omega);rw[HN SD TM,List.length_take,Nat.min_eq_left yA] at SU;have f1:=bk (f:=gN) (n:=3) jW ((cU p).take i);rw[List.length_take,Nat.min_eq_left yA] at f1;have TQ:(i+1)*32≤140737488355328:=by omega
    apply aU;simp[hC,gN];refine TL.ja ah 0 1 [1] 1 SU PV rfl rfl (by simp[cq,dR,bl,ev,assoc]) zX yA zX zX (by simp[aS,a7]) zX rfl (by simp[cq,dR,a7]) zX zX (TL.go' ah ?_);simp[hC,pv];apply aj;simp[hC];refine gO ?_;simp;apply aW;simp[hC,f1,TQ,aX,gP];apply aW;simp[hC,wi];have PY:(cU p).take (i+1)=(cU p).take i++[x]:=by rw[List.take_add_one,TM];rfl
    refine⟨(cU p).length-(i+1),by omega,?_⟩;refine aa.le (Le.trim [7,6,5,4,1] [0,5] 6 (by simp[-List.all_eq_true,-List.all_flatMap,af (cj _)]) yA) ?_;simp;refine aa.le (Le.nB 5 1 rfl rfl yA zX zX (by simp[-List.all_eq_true,-List.all_flatMap,bf (cj _),pa 5 1 _ t1,pa 5 1 _ t2,pa 5 1 _ t3])) ?_;simp[aV (cj _)];refine aa.trim [7,6,5,4,1] [0,1] 2 (by simp[-List.all_eq_true,-List.all_flatMap,af (cj _)]) yA ⟨i+1,rfl,by omega,?_⟩;simp[gP,PY,dU,gN]
  ·have PS:i=(cU p).length:=by omega
   apply aU;simp[hC,PJ];refine bh ?_;simp;apply T.exit;simp;apply aj;simp[hC];apply T.ret;subst PS;have tk:List.take ((cU p).length*3) ((cU p).flatMap gN)=(cU p).flatMap gN:=List.take_of_length_le (by rw[bk (f:=gN) (n:=3) jW];omega);refine aa.le (Le.trim [2,3] [1] 2 SK yA) ?_;simp[List.take_length];refine aa.le (Le.dz (o:=1) rfl (cj _)) ?_;apply aa.here;simp[gP,tk]
end Go.Proofs.YtnecpnjdonibmaaGreat
