/- block: variables. | block: if and while. -/
import Derived.Test.YtmnglemlimfpbaaGreatZ39
namespace Go.Proofs.YtmnglemlimfpbaaGreat
open Go.Can Go.bg
set_option maxHeartbeats 4000000 in
theorem IT {C:Cx}{Q:Exit→St→Prop}(hC:C.nt=253)(hC0:C.n0=3)(p:Pg)(E0:List En)(l:List Sm)(i:Nat){g:Nat}{fs:List (ByteArray×List Pm)}{ps:List Pm}{V:List ByteArray}(E:List En)(k st:Nat)(c:List In)(s:List Nat)(n:Nat)
  (hE:EW g p.ms fs ps V E k) (hl:E.length≤90000) (hk:k≤9000) (hc:c.length≤9000) (hs:s.length≤9000) (nm:ByteArray) (x:Ex) (hn:ig E nm=none) (hx:fp V 2 x) :
  T Tryz.prog C (gK Tryz.f92 2) (MS p E0 l i E k st c s (.gr nm x) n) (thenS (ae C (fun z=>z=NS p E0 l i (E++[⟨nm,4,k⟩]) (k+1) st (c++[.set k false (dB E x)]) (s++[n]))) Q):=by
 have hb:=ju p E k st c.length s.length hE (by omega) n 2 x hx
 have hfd:=pa E nm (by omega)
 rw[hn] at hfd
 obtain⟨a1,a2,a3,a4,a5,ha,hta⟩:=kg x
 obtain⟨b1,b2,b3,b4,b5,hb',htb⟩:=kg (dB E x)
 have hin:dt (.set k false (dB E x))=[I 1,I k,.bool false,I b1,I b2,.str b3,.ax b4 b5,.bool false,I 0,.ax [] 0,.ax [] 0,.ax [] 0]:=by simp[dt,hb',qp]
 have hsm:gI (.gr nm x)=[I 1,.str nm,I a1,I a2,.str a3,.ax a4 a5,.str eS,.ax [] 0,.ax [] 0,.ax [] 0,.ax [] 0]:=by simp[gI,ha,j5]
 rw[ha,hb'] at hb
 refine T.block ?_
 simp only[MS,mE,mH,D6,hsm]
 refine T.seq (T.go' aa ?_)
 simp[hC]
 refine T.cond (b:=true) rfl ?_
 simp
 refine T.seq (T.seq ?_)
 refine T.rx aa follows [0,1,2,3,4,5,10,6,7,8,9,11,12] [(3,10),(5,10),(10,6)] (by kernel_rfl) ?_
 simp[hC,fw]
 refine RX.call rfl (by simp) rfl rfl rfl (by first | rfl | simp only[List.cons_append,List.nil_append,List.append_nil,trees,tree,ag,ak,Bool.and_self,Bool.and_true,Bool.true_and]) (hfd) ?_
 simp[o0]
 refine T.seq (T.go' aa ?_)
 simp[hC]
 refine T.cond (b:=false) rfl (T.skip ?_)
 simp
 refine T.le (Le.to (s':=MZ p E0 l i E k st c s [I 1,.str nm,I a1,I a2,.str a3,.ax a4 a5,.str eS,.ax [] 0,.ax [] 0,.ax [] 0,.ax [] 0] n) [6,7,5,4,0,1] [0,3,4,5] 6 (by simp[-List.all_eq_true,-List.all_flatMap]) (by omega) rfl) ?_
 simp only[MZ,mE]
 refine T.seq (T.go' aa ?_)
 simp[hC]
 refine TL.gk (hb) (by omega) rfl (by simp[hC]) rfl rfl (by first | rfl | simp[aK,ev,assoc]) (by first | rfl | simp only[List.all_cons,List.all_nil,okW,tree, *];rfl | simp[okW,tree,trees, *]) (by first | rfl | assumption | simp[tree,trees, *]) (TL.go' aa ?_)
 simp[hC]
 refine T.le (Le.trim [6,7,5,4,0,1,10] [0,3,4,5,6] 7 (by simp[-List.all_eq_true,-List.all_flatMap]) (by omega)) ?_
 simp
 refine T.seq ?_
 refine T.rx aa follows [0,1,2,3,4,5,6,7,8] [] (by kernel_rfl) ?_
 simp[hC,fw]
 refine RX.gG (rZ p E k st c s [I 1,I k,.bool false,I b1,I b2,.str b3,.ax b4 b5,.bool false,I 0,.ai,.ai,.ai] rfl (by simp only[trees,tree];rfl) n (by omega) (by omega)) (by first | exact aP _ | exact bL _ (by first | rfl | assumption | simp[trees,tree, *])) (aU _) (by first | exact aP _ | exact bL _ (by first | rfl | assumption | simp[trees,tree, *])) (aU _) (by omega) rfl rfl (by simp) rfl rfl (by first | rfl | simp[aK,ev,assoc]) (by first | rfl | simp only[List.all_cons,List.all_nil,okW,tree, *];rfl | simp[okW,tree,trees, *]) (by first | rfl | assumption | simp[tree,trees, *]) (by simp) ?_
 simp
 refine T.le (iX hC0 [6,7,5,4,0,1] 16 17 (e:=mE E0 l i n) rfl (by simp[mE,sh,tree]) rfl rfl rfl rfl rfl (by simp only[trees,tree];rfl) (iO _ _ (.set k false (dB E x)) (by simp[hin])) rfl (by simp) (by simp)) ?_
 simp only[mE]
 have f1:=bu (f:=gJ) (n:=3) jR E
 have bd1:E.length*32≤140737488355328:=by omega
 have bd2:(E.length+1)*32≤140737488355328:=by omega
 refine T.seq ?_
 refine T.rx aa follows [0,1,2,3,4,5,6,7,8,9,10,11,12,13,14,15,16,17,18] [(1,5),(1,8),(1,12),(1,14),(5,14),(6,8),(6,12),(6,14)] (by kernel_rfl) ?_
 simp[hC,fw,f1,bd1,bd2,aX]
 have wk:=db ((k:Int)+1) (by omega) (by omega)
 have tn:trees (E.flatMap gJ++[.str nm,I 4,I k])=true:=by rw[bh,bY];rfl
 have tk:List.take ((E.length+1)*3) (E.flatMap gJ++[.str nm,I 4,I k])=E.flatMap gJ++[.str nm,I 4,I k]:=List.take_of_length_le (by simp only[List.length_append,f1,List.length_cons,List.length_nil];omega)
 have q1:=af (iu p.gs)
 have q2:=af (eJ p.ms)
 have q3:=af (cu p.fs)
 have q4:=af (bY E)
 have q5:=af (bY E0)
 have q6:=af (bk l)
 refine T.go' aa ?_
 simp[hC,wk]
 refine ae.le (Le.trim [5,4,0,1] [0,26,3,4] 27 (by simp[-List.all_eq_true,-List.all_flatMap,q4]) (by omega)) ?_
 simp
 refine ae.le (Le.eM (o:=26) rfl tn) ?_
 simp[tk]
 refine ae.trim [5,4,0,1] [0,3,4] 5 (by simp[-List.all_eq_true,-List.all_flatMap]) (by omega) ?_
 simp[NS,bE,fw,gJ]
end Go.Proofs.YtmnglemlimfpbaaGreat
namespace Go.Proofs.YtmnglemlimfpbaaGreat
open Go.Can Go.bg
theorem wF (c S:List In){i0 i1:In}{a b d:CV}{r:List CV}(h0:dt i0=a::b::r)(h1:dt i1=a::d::r) :
  List.take (c.length*12+1) (eN (c++i0::S)).cells++d::List.drop (c.length*12+1+1) (eN (c++i0::S)).cells=(eN (c++i1::S)).cells:=by
 have e0:(eN (c++i0::S)).cells=c.flatMap dt++(a::b::(r++S.flatMap dt)):=by simp[eN,h0]
 have e1:(eN (c++i1::S)).cells=c.flatMap dt++(a::d::(r++S.flatMap dt)):=by simp[eN,h1]
 rw[e0,e1,← wG c]
 rw[List.take_append,List.drop_append,List.take_of_length_le (by omega),List.drop_of_length_le (by omega)]
 have k1:(c.flatMap dt).length+1-(c.flatMap dt).length=1:=by omega
 have k2:(c.flatMap dt).length+1+1-(c.flatMap dt).length=2:=by omega
 rw[k1,k2]
 simp
theorem wJ (c S:List In)(i0:In):c.length*12+1+1≤(eN (c++i0::S)).cells.length:=by
 simp only[eN,wG,List.length_append,List.length_cons]
 omega
def CM (p:Pg)(l:List Sm)(E:List En)(k st:Nat)(c:List In)(s:List Nat):Prop:=
 Body Tryz.prog aj 92 [.aq 0 0,.ax (bt l) l.length] (T3 p E k st c.length s.length (eN c) (fA s)) 3
  (iR (.df []) (T4 p E (bI l E k c.length).2 (st+eR l) (c.length+(bI l E k c.length).1.length) (s.length+(gU l st).length) (eN (c++(bI l E k c.length).1)) (fA (s++gU l st))) (3+2))
set_option maxHeartbeats 4000000 in
theorem cs_if {C:Cx}{Q:Exit→St→Prop}(hC:C.nt=253)(hC0:C.n0=3)(p:Pg)(E0:List En)(l:List Sm)(i:Nat){g:Nat}{fs:List (ByteArray×List Pm)}{ps:List Pm}{V:List ByteArray}(E:List En)(k st:Nat)(c:List In)(s:List Nat)(n:Nat)
  (hE:EW g p.ms fs ps V E k) (hl:E.length≤90000) (_hk:k≤9000) (hc:c.length≤9000) (hs:s.length≤9000) (x:Ex) (th el:List Sm) (hx:fp V 2 x)
  (hst:st=n+1) (h1:CM p th E k st (c++[.branch 0 (dB E x)]) (s++[n])) (hel:el.length=0) :
  T Tryz.prog C (gK Tryz.f92 2) (MS p E0 l i E k st c s (.ku x th el) n) (thenS (ae C (fun z=>z=NS p E0 l i E (bI th E k (c.length+1)).2 (st+eR th) (c++(dJ (.ku x th el) E k c.length).1) (s++tH (.ku x th el) n))) Q):=by
 subst hst
 simp only[CM,List.length_append,List.length_singleton] at h1
 have hb:=ju p E k (n+1) c.length s.length hE (by omega) n 2 x hx
 obtain⟨a1,a2,a3,a4,a5,ha,hta⟩:=kg x
 obtain⟨b1,b2,b3,b4,b5,hb',htb⟩:=kg (dB E x)
 have hin:dt (.branch 0 (dB E x))=[I 6,I 0,.bool false,I b1,I b2,.str b3,.ax b4 b5,.bool false,I 0,.ax [] 0,.ax [] 0,.ax [] 0]:=by simp[dt,hb',qp]
 have hsm:gI (.ku x th el)=[I 7,.str eS,I a1,I a2,.str a3,.ax a4 a5,.str eS,.ax [] 0,.ax [] 0,.ax (bt th) th.length,.ax (bt el) el.length]:=by simp[gI,ha,j5]
 rw[ha,hb'] at hb
 have t1:=bk th
 have t2:=bk el
 have q5:=af (bY E0)
 have q6:=af (bk l)
 refine T.block ?_
 simp only[MS,mE,mH,D6,hsm]
 refine T.seq (T.go' aa ?_)
 simp[hC]
 refine T.cond (b:=false) rfl ?_
 simp
 refine T.seq (T.go' aa ?_)
 simp[hC]
 refine T.cond (b:=false) rfl ?_
 simp
 refine T.seq (T.seq (T.go' aa ?_))
 simp[hC]
 refine T.cond (b:=false) rfl ?_
 simp
 refine T.go' aa ?_
 simp[hC]
 refine T.cond (b:=false) rfl ?_
 simp
 refine T.seq (T.go' aa ?_)
 simp[hC]
 refine T.cond (b:=false) rfl ?_
 simp
 refine T.seq (T.go' aa ?_)
 simp[hC]
 refine T.cond (b:=false) rfl ?_
 simp
 refine T.seq (T.go' aa ?_)
 simp[hC]
 refine T.cond (b:=true) rfl ?_
 simp
 refine T.seq (T.go' aa ?_)
 simp[hC]
 refine TL.gk (hb) (by omega) rfl (by simp[hC]) rfl rfl (by first | rfl | simp[aK,ev,assoc]) (by first | rfl | simp only[List.all_cons,List.all_nil,okW,tree, *];rfl | simp[okW,tree,trees, *]) (by first | rfl | assumption | simp[tree,trees, *]) (TL.go' aa ?_)
 simp[hC]
 refine TL.gG (rZ p E k (n+1) c s [I 6,I 0,.bool false,I b1,I b2,.str b3,.ax b4 b5,.bool false,I 0,.ai,.ai,.ai] rfl (by simp only[trees,tree];rfl) n (by omega) (by omega)) (by first | exact aP _ | exact bL _ (by first | rfl | assumption | simp[trees,tree, *])) (aU _) (by first | exact aP _ | exact bL _ (by first | rfl | assumption | simp[trees,tree, *])) (aU _) (by omega) rfl (by simp[hC]) rfl rfl (by first | rfl | simp[aK,ev,assoc]) (by first | rfl | simp only[List.all_cons,List.all_nil,okW,tree, *];rfl | simp[okW,tree,trees, *]) (by first | rfl | assumption | simp[tree,trees, *]) (TL.go' aa ?_)
 simp[hC]
 refine T.le (iX hC0 [12,6,7,5,4,0,1] 6 7 (e:=(12,I c.length)::mE E0 l i n) rfl (by simp[mE,sh,tree]) rfl rfl rfl rfl rfl (by simp only[trees,tree];rfl) (iO _ _ (.branch 0 (dB E x)) (by simp[hin])) rfl (by simp) (by simp)) ?_
 simp only[mE]
 refine T.seq (T.go' aa ?_)
 simp[hC]
 refine TL.gG h1 (aP _) (aU _) (aP _) (aU _) (by omega) rfl (by simp[hC]) rfl rfl rfl (by simp only[List.all_cons,List.all_nil,okW,tree];rfl) rfl (TL.go' aa ?_)
 generalize hS:bI th E k (c.length+1)=S at h1
 obtain⟨S1,S2⟩:=S
 generalize hT:gU th (n+1)=S3 at h1
 simp only at h1
 simp[hel]
 have hin1:dt (.branch (c.length+1+S1.length) (dB E x))=[I 6,I ((c.length+1+S1.length:Nat):Int),.bool false,I b1,I b2,.str b3,.ax b4 b5,.bool false,I 0,.ax [] 0,.ax [] 0,.ax [] 0]:=by simp[dt,hb',qp]
 have hco:=wF c S1 hin hin1
 have hcf:=wJ c S1 (.branch 0 (dB E x))
 simp only[Int.natCast_add,Int.cast_ofNat_Int] at hco
 refine T.seq (T.go' aa ?_)
 simp[hC]
 refine T.cond (b:=false) rfl ?_
 simp
 refine T.rx aa follows [0,1,2,3,4,5,6,7,8,9,10,11,12] [] (by kernel_rfl) ?_
 have hlt:(c.length:Int)<(c.length:Int)+1+(S1.length:Int):=by omega
 simp[hC,fw,hlt,hcf,hco]
 refine ae.le (j6 hC0 [5,4,0,1] 6 7 (e:=bE E0 l i) rfl (nC _ _ _) (nD _ _ _) rfl rfl rfl rfl (c':=c++.branch (c.length+1+S1.length) (dB E x)::S1) (s':=s++n::S3) (oQ _) rfl (by simp;omega) (by simp;omega)) (ae.here ?_)
 simp[dJ,tH,hel,hS,hT,NS]
set_option maxHeartbeats 4000000 in
theorem IV {C:Cx}{Q:Exit→St→Prop}(hC:C.nt=253)(hC0:C.n0=3)(p:Pg)(E0:List En)(l:List Sm)(i:Nat){g:Nat}{fs:List (ByteArray×List Pm)}{ps:List Pm}{V:List ByteArray}(E:List En)(k st:Nat)(c:List In)(s:List Nat)(n:Nat)
  (hE:EW g p.ms fs ps V E k) (hl:E.length≤90000) (_hk:k≤9000) (hc:c.length≤9000) (hs:s.length≤9000) (x:Ex) (th el:List Sm) (hx:fp V 2 x)
  (hst:st=n+1) (h1:CM p th E k st (c++[.branch 0 (dB E x)]) (s++[n])) (h2:CM p el E (bI th E k (c.length+1)).2 (n+1+eR th) (c++.branch (c.length+2+(bI th E k (c.length+1)).1.length) (dB E x)::((bI th E k (c.length+1)).1++[.jump 0])) (s++n::(gU th (n+1)++[n]))) (hel:0<el.length) (hcl:c.length+(bI th E k (c.length+1)).1.length≤9000) (hsl:s.length+(gU th (n+1)).length≤9000) :
  T Tryz.prog C (gK Tryz.f92 2) (MS p E0 l i E k st c s (.ku x th el) n) (thenS (ae C (fun z=>z=NS p E0 l i E (bI el E (bI th E k (c.length+1)).2 (c.length+2+(bI th E k (c.length+1)).1.length)).2 (st+eR th+eR el) (c++(dJ (.ku x th el) E k c.length).1) (s++tH (.ku x th el) n))) Q):=by
 subst hst
 simp only[CM,List.length_append,List.length_singleton] at h1
 simp only[CM,List.length_append,List.length_cons,List.length_nil,Nat.zero_add] at h2
 have hb:=ju p E k (n+1) c.length s.length hE (by omega) n 2 x hx
 obtain⟨a1,a2,a3,a4,a5,ha,hta⟩:=kg x
 obtain⟨b1,b2,b3,b4,b5,hb',htb⟩:=kg (dB E x)
 have hin:dt (.branch 0 (dB E x))=[I 6,I 0,.bool false,I b1,I b2,.str b3,.ax b4 b5,.bool false,I 0,.ax [] 0,.ax [] 0,.ax [] 0]:=by simp[dt,hb',qp]
 have hsm:gI (.ku x th el)=[I 7,.str eS,I a1,I a2,.str a3,.ax a4 a5,.str eS,.ax [] 0,.ax [] 0,.ax (bt th) th.length,.ax (bt el) el.length]:=by simp[gI,ha,j5]
 rw[ha,hb'] at hb
 have t1:=bk th
 have t2:=bk el
 have q5:=af (bY E0)
 have q6:=af (bk l)
 refine T.block ?_
 simp only[MS,mE,mH,D6,hsm]
 refine T.seq (T.go' aa ?_)
 simp[hC]
 refine T.cond (b:=false) rfl ?_
 simp
 refine T.seq (T.go' aa ?_)
 simp[hC]
 refine T.cond (b:=false) rfl ?_
 simp
 refine T.seq (T.seq (T.go' aa ?_))
 simp[hC]
 refine T.cond (b:=false) rfl ?_
 simp
 refine T.go' aa ?_
 simp[hC]
 refine T.cond (b:=false) rfl ?_
 simp
 refine T.seq (T.go' aa ?_)
 simp[hC]
 refine T.cond (b:=false) rfl ?_
 simp
 refine T.seq (T.go' aa ?_)
 simp[hC]
 refine T.cond (b:=false) rfl ?_
 simp
 refine T.seq (T.go' aa ?_)
 simp[hC]
 refine T.cond (b:=true) rfl ?_
 simp
 refine T.seq (T.go' aa ?_)
 simp[hC]
 refine TL.gk (hb) (by omega) rfl (by simp[hC]) rfl rfl (by first | rfl | simp[aK,ev,assoc]) (by first | rfl | simp only[List.all_cons,List.all_nil,okW,tree, *];rfl | simp[okW,tree,trees, *]) (by first | rfl | assumption | simp[tree,trees, *]) (TL.go' aa ?_)
 simp[hC]
 refine TL.gG (rZ p E k (n+1) c s [I 6,I 0,.bool false,I b1,I b2,.str b3,.ax b4 b5,.bool false,I 0,.ai,.ai,.ai] rfl (by simp only[trees,tree];rfl) n (by omega) (by omega)) (by first | exact aP _ | exact bL _ (by first | rfl | assumption | simp[trees,tree, *])) (aU _) (by first | exact aP _ | exact bL _ (by first | rfl | assumption | simp[trees,tree, *])) (aU _) (by omega) rfl (by simp[hC]) rfl rfl (by first | rfl | simp[aK,ev,assoc]) (by first | rfl | simp only[List.all_cons,List.all_nil,okW,tree, *];rfl | simp[okW,tree,trees, *]) (by first | rfl | assumption | simp[tree,trees, *]) (TL.go' aa ?_)
 simp[hC]
 refine T.le (iX hC0 [12,6,7,5,4,0,1] 6 7 (e:=(12,I c.length)::mE E0 l i n) rfl (by simp[mE,sh,tree]) rfl rfl rfl rfl rfl (by simp only[trees,tree];rfl) (iO _ _ (.branch 0 (dB E x)) (by simp[hin])) rfl (by simp) (by simp)) ?_
 simp only[mE]
 refine T.seq (T.go' aa ?_)
 simp[hC]
 refine TL.gG h1 (aP _) (aU _) (aP _) (aU _) (by omega) rfl (by simp[hC]) rfl rfl rfl (by simp only[List.all_cons,List.all_nil,okW,tree];rfl) rfl (TL.go' aa ?_)
 generalize hS:bI th E k (c.length+1)=S at h1 h2 hcl
 obtain⟨S1,S2⟩:=S
 generalize hT:gU th (n+1)=S3 at h1 h2 hsl
 simp only at h1 h2 hcl
 have hlen:c.length+(S1.length+1+1)=c.length+2+S1.length:=by omega
 generalize hS':bI el E S2 (c.length+(S1.length+1+1))=S' at h2
 obtain⟨S4,S5⟩:=S'
 generalize hT':gU el (n+1+eR th)=S6 at h2
 simp only at h2
 simp
 refine T.le (iX hC0 [12,6,7,5,4,0,1] 6 7 (e:=(12,I c.length)::mE E0 l i n) (c':=c++.branch 0 (dB E x)::S1) (s':=s++n::S3) rfl (by simp[mE,sh,tree]) rfl rfl rfl rfl rfl (by simp only[trees,tree];rfl) (oQ _) rfl (by simp;omega) (by simp;omega)) ?_
 simp only[mE]
 have hel':0<el.length:=hel
 refine T.seq (T.go' aa ?_)
 simp[hC,hel']
 refine T.cond (b:=true) rfl ?_
 simp
 refine T.seq (T.go' aa ?_)
 simp[hC]
 refine TL.gG (H8 p E S2 (n+1+eR th) (c++.branch 0 (dB E x)::S1) (s++n::S3) (c.length+(S1.length+1)) (s.length+(S3.length+1)) (by simp) (by simp) [I 7,I 0,.bool false,I 0,I 0,.str eS,.ai,.bool false,I 0,.ai,.ai,.ai] rfl rfl n (by omega) (by omega)) (by first | exact aP _ | exact bL _ (by first | rfl | assumption | simp[trees,tree, *])) (aU _) (by first | exact aP _ | exact bL _ (by first | rfl | assumption | simp[trees,tree, *])) (aU _) (by omega) rfl (by simp[hC]) rfl rfl (by first | rfl | simp[aK,ev,assoc]) (by first | rfl | simp only[List.all_cons,List.all_nil,okW,tree, *];rfl | simp[okW,tree,trees, *]) (by first | rfl | assumption | simp[tree,trees, *]) (TL.go' aa ?_)
 simp[hC]
 refine T.le (iX hC0 [13,12,6,7,5,4,0,1] 6 7 (e:=(13,I (c.length+(S1.length+1)))::(12,I c.length)::mE E0 l i n) (c':=c++.branch 0 (dB E x)::(S1++[.jump 0])) (s':=s++n::(S3++[n])) rfl (by simp[mE,sh,tree]) rfl rfl rfl rfl rfl (by simp only[trees,tree];rfl) (by simpa using iO (c++In.branch 0 (dB E x)::S1) [I 7,I 0,.bool false,I 0,I 0,.str eS,.ai,.bool false,I 0,.ai,.ai,.ai] (.jump 0) (by simp[dt,bB,qp])) rfl (by simp;omega) (by simp;omega)) ?_
 simp only[mE]
 have hin1:dt (.branch (c.length+2+S1.length) (dB E x))=[I 6,I ((c.length:Int)+((S1.length:Int)+1+1)),.bool false,I b1,I b2,.str b3,.ax b4 b5,.bool false,I 0,.ax [] 0,.ax [] 0,.ax [] 0]:=by
  simp[dt,hb',qp]
  omega
 have hco:=wF c (S1++[.jump 0]) hin hin1
 have hcf:=wJ c (S1++[.jump 0]) (.branch 0 (dB E x))
 have hlt:(c.length:Int)<(c.length:Int)+((S1.length:Int)+1+1):=by omega
 refine T.seq ?_
 refine T.rx aa follows [0,1,2,3,4,5,6,7,8,9,10,11,12] [] (by kernel_rfl) ?_
 simp[hC,fw,hlt,hcf,hco]
 refine T.le (iX hC0 [13,12,6,7,5,4,0,1] 3 4 (e:=(13,I (c.length+(S1.length+1)))::(12,I c.length)::mE E0 l i n) (c':=c++In.branch (c.length+2+S1.length) (dB E x)::(S1++[In.jump 0])) (s':=s++n::(S3++[n])) rfl (by simp[mE,sh,tree]) rfl rfl rfl rfl rfl (by simp only[trees,tree];rfl) (oQ _) rfl (by simp) (by simp)) ?_
 simp only[mE]
 refine T.seq (T.go' aa ?_)
 simp[hC]
 refine TL.gG h2 (aP _) (aU _) (aP _) (aU _) (by omega) rfl (by simp[hC]) rfl rfl rfl (by simp only[List.all_cons,List.all_nil,okW,tree];rfl) rfl (TL.go' aa ?_)
 simp
 have hin0:dt (.jump 0)=[I 7,I 0,.bool false,I 0,I 0,.str eS,.ax [] 0,.bool false,I 0,.ax [] 0,.ax [] 0,.ax [] 0]:=by simp[dt,bB,qp]
 have hin2:dt (.jump (c.length+2+S1.length+S4.length))=[I 7,I ((c.length:Int)+((S1.length:Int)+1+1)+(S4.length:Int)),.bool false,I 0,I 0,.str eS,.ax [] 0,.bool false,I 0,.ax [] 0,.ax [] 0,.ax [] 0]:=by
  simp[dt,bB,qp]
  omega
 have hco2:=wF (c++In.branch (c.length+2+S1.length) (dB E x)::S1) S4 hin0 hin2
 have hcf2:=wJ (c++In.branch (c.length+2+S1.length) (dB E x)::S1) S4 (.jump 0)
 simp only[List.length_append,List.length_cons,List.append_assoc,List.cons_append] at hco2 hcf2
 have hlt2:(c.length:Int)+((S1.length:Int)+1)<(c.length:Int)+((S1.length:Int)+1+1)+(S4.length:Int):=by omega
 have hnn:(0:Int)≤(c.length:Int)+((S1.length:Int)+1):=by omega
 have htn:((c.length:Int)+((S1.length:Int)+1)).toNat=c.length+(S1.length+1):=by omega
 refine T.rx aa follows [0,1,2,3,4,5,6,7,8,9,10,11,12] [] (by kernel_rfl) ?_
 simp[hC,fw,hlt2,hnn,htn,hcf2,hco2]
 have hne:¬ el.length=0:=by omega
 have hS2:bI el E S2 (c.length+2+S1.length)=(S4,S5):=by rw[← hlen];exact hS'
 refine ae.le (j6 hC0 [5,4,0,1] 6 7 (e:=bE E0 l i) rfl (nC _ _ _) (nD _ _ _) rfl rfl rfl rfl (c':=c++In.branch (c.length+2+S1.length) (dB E x)::(S1++In.jump (c.length+2+S1.length+S4.length)::S4)) (s':=s++n::(S3++n::S6)) (oQ _) rfl (by simp;omega) (by simp;omega)) (ae.here ?_)
 simp[dJ,tH,hne,hS,hS2,hT,hT',NS]
set_option maxHeartbeats 4000000 in
theorem ES {C:Cx}{Q:Exit→St→Prop}(hC:C.nt=253)(hC0:C.n0=3)(p:Pg)(E0:List En)(l:List Sm)(i:Nat){g:Nat}{fs:List (ByteArray×List Pm)}{ps:List Pm}{V:List ByteArray}(E:List En)(k st:Nat)(c:List In)(s:List Nat)(n:Nat)
  (hE:EW g p.ms fs ps V E k) (hl:E.length≤90000) (_hk:k≤9000) (hc:c.length≤9000) (hs:s.length≤9000) (x:Ex) (th:List Sm) (hx:fp V 2 x)
  (hst:st=n+1) (h1:CM p th E k st (c++[.branch 0 (dB E x)]) (s++[n])) (hcl:c.length+(bI th E k (c.length+1)).1.length≤9000) (hsl:s.length+(gU th (n+1)).length≤9000) :
  T Tryz.prog C (gK Tryz.f92 2) (MS p E0 l i E k st c s (.cj x th) n) (thenS (ae C (fun z=>z=NS p E0 l i E (bI th E k (c.length+1)).2 (st+eR th) (c++(dJ (.cj x th) E k c.length).1) (s++tH (.cj x th) n))) Q):=by
 subst hst
 simp only[CM,List.length_append,List.length_singleton] at h1
 have hb:=ju p E k (n+1) c.length s.length hE (by omega) n 2 x hx
 obtain⟨a1,a2,a3,a4,a5,ha,hta⟩:=kg x
 obtain⟨b1,b2,b3,b4,b5,hb',htb⟩:=kg (dB E x)
 have hin:dt (.branch 0 (dB E x))=[I 6,I 0,.bool false,I b1,I b2,.str b3,.ax b4 b5,.bool false,I 0,.ax [] 0,.ax [] 0,.ax [] 0]:=by simp[dt,hb',qp]
 have hsm:gI (.cj x th)=[I 8,.str eS,I a1,I a2,.str a3,.ax a4 a5,.str eS,.ax [] 0,.ax [] 0,.ax (bt th) th.length,.ax [] 0]:=by simp[gI,ha,j5]
 rw[ha,hb'] at hb
 have t1:=bk th
 have q5:=af (bY E0)
 have q6:=af (bk l)
 refine T.block ?_
 simp only[MS,mE,mH,D6,hsm]
 refine T.seq (T.go' aa ?_)
 simp[hC]
 refine T.cond (b:=false) rfl ?_
 simp
 refine T.seq (T.go' aa ?_)
 simp[hC]
 refine T.cond (b:=false) rfl ?_
 simp
 refine T.seq (T.seq (T.go' aa ?_))
 simp[hC]
 refine T.cond (b:=false) rfl ?_
 simp
 refine T.go' aa ?_
 simp[hC]
 refine T.cond (b:=false) rfl ?_
 simp
 refine T.seq (T.go' aa ?_)
 simp[hC]
 refine T.cond (b:=false) rfl ?_
 simp
 refine T.seq (T.go' aa ?_)
 simp[hC]
 refine T.cond (b:=false) rfl ?_
 simp
 refine T.seq (T.go' aa ?_)
 simp[hC]
 refine T.cond (b:=false) rfl ?_
 simp
 refine T.seq (T.go' aa ?_)
 simp[hC]
 refine T.cond (b:=true) rfl ?_
 simp
 refine T.seq (T.go' aa ?_)
 simp[hC]
 refine TL.gk (hb) (by omega) rfl (by simp[hC]) rfl rfl (by first | rfl | simp[aK,ev,assoc]) (by first | rfl | simp only[List.all_cons,List.all_nil,okW,tree, *];rfl | simp[okW,tree,trees, *]) (by first | rfl | assumption | simp[tree,trees, *]) (TL.go' aa ?_)
 simp[hC]
 refine TL.gG (rZ p E k (n+1) c s [I 6,I 0,.bool false,I b1,I b2,.str b3,.ax b4 b5,.bool false,I 0,.ai,.ai,.ai] rfl (by simp only[trees,tree];rfl) n (by omega) (by omega)) (by first | exact aP _ | exact bL _ (by first | rfl | assumption | simp[trees,tree, *])) (aU _) (by first | exact aP _ | exact bL _ (by first | rfl | assumption | simp[trees,tree, *])) (aU _) (by omega) rfl (by simp[hC]) rfl rfl (by first | rfl | simp[aK,ev,assoc]) (by first | rfl | simp only[List.all_cons,List.all_nil,okW,tree, *];rfl | simp[okW,tree,trees, *]) (by first | rfl | assumption | simp[tree,trees, *]) (TL.go' aa ?_)
 simp[hC]
 refine T.le (iX hC0 [14,6,7,5,4,0,1] 6 7 (e:=(14,I c.length)::mE E0 l i n) rfl (by simp[mE,sh,tree]) rfl rfl rfl rfl rfl (by simp only[trees,tree];rfl) (iO _ _ (.branch 0 (dB E x)) (by simp[hin])) rfl (by simp) (by simp)) ?_
 simp only[mE]
 refine T.seq (T.go' aa ?_)
 simp[hC]
 refine TL.gG h1 (aP _) (aU _) (aP _) (aU _) (by omega) rfl (by simp[hC]) rfl rfl rfl (by simp only[List.all_cons,List.all_nil,okW,tree];rfl) rfl (TL.go' aa ?_)
 generalize hS:bI th E k (c.length+1)=S at h1 hcl
 obtain⟨S1,S2⟩:=S
 generalize hT:gU th (n+1)=S3 at h1 hsl
 simp only at h1 hcl
 simp
 refine T.le (iX hC0 [14,6,7,5,4,0,1] 6 7 (e:=(14,I c.length)::mE E0 l i n) (c':=c++In.branch 0 (dB E x)::S1) (s':=s++n::S3) rfl (by simp[mE,sh,tree]) rfl rfl rfl rfl rfl (by simp only[trees,tree];rfl) (oQ _) rfl (by simp;omega) (by simp;omega)) ?_
 simp only[mE]
 refine T.seq (T.go' aa ?_)
 simp[hC]
 refine TL.gG (H8 p E S2 (n+1+eR th) (c++In.branch 0 (dB E x)::S1) (s++n::S3) (c.length+(S1.length+1)) (s.length+(S3.length+1)) (by simp) (by simp) [I 7,I c.length,.bool false,I 0,I 0,.str eS,.ai,.bool false,I 0,.ai,.ai,.ai] rfl rfl n (by omega) (by omega)) (by first | exact aP _ | exact bL _ (by first | rfl | assumption | simp[trees,tree, *])) (aU _) (by first | exact aP _ | exact bL _ (by first | rfl | assumption | simp[trees,tree, *])) (aU _) (by omega) rfl (by simp[hC]) rfl rfl (by first | rfl | simp[aK,ev,assoc]) (by first | rfl | simp only[List.all_cons,List.all_nil,okW,tree, *];rfl | simp[okW,tree,trees, *]) (by first | rfl | assumption | simp[tree,trees, *]) (TL.go' aa ?_)
 simp
 refine T.le (iX hC0 [14,6,7,5,4,0,1] 6 7 (e:=(14,I c.length)::mE E0 l i n) (c':=c++In.branch 0 (dB E x)::(S1++[In.jump c.length])) (s':=s++n::(S3++[n])) rfl (by simp[mE,sh,tree]) rfl rfl rfl rfl rfl (by simp only[trees,tree];rfl) (by simpa using iO (c++In.branch 0 (dB E x)::S1) [I 7,I c.length,.bool false,I 0,I 0,.str eS,.ai,.bool false,I 0,.ai,.ai,.ai] (.jump c.length) (by simp[dt,bB,qp])) rfl (by simp;omega) (by simp;omega)) ?_
 simp only[mE]
 have hin1:dt (.branch (c.length+2+S1.length) (dB E x))=[I 6,I ((c.length:Int)+((S1.length:Int)+1+1)),.bool false,I b1,I b2,.str b3,.ax b4 b5,.bool false,I 0,.ax [] 0,.ax [] 0,.ax [] 0]:=by
  simp[dt,hb',qp]
  omega
 have hco:=wF c (S1++[.jump c.length]) hin hin1
 have hcf:=wJ c (S1++[.jump c.length]) (.branch 0 (dB E x))
 have hlt:(c.length:Int)<(c.length:Int)+((S1.length:Int)+1+1):=by omega
 refine T.rx aa follows [0,1,2,3,4,5,6,7,8,9,10,11,12] [] (by kernel_rfl) ?_
 simp[hC,fw,hlt,hcf,hco]
 refine ae.le (j6 hC0 [5,4,0,1] 3 4 (e:=bE E0 l i) rfl (nC _ _ _) (nD _ _ _) rfl rfl rfl rfl (c':=c++In.branch (c.length+2+S1.length) (dB E x)::(S1++[In.jump c.length])) (s':=s++n::(S3++[n])) (oQ _) rfl (by simp) (by simp)) (ae.here ?_)
 simp[dJ,tH,hS,hT,NS]
end Go.Proofs.YtmnglemlimfpbaaGreat
