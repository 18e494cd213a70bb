/- block: if and while. -/
import Derived.Test.YtmnglemlimfpbaaGreatZ36
namespace Go.Proofs.YtmnglemlimfpbaaGreat
open Go.Can Go.aX
theorem yP (c S:List In){i0 i1:In}{a b d:CV}{r:List CV}(h0:dv i0=a::b::r)(h1:dv i1=a::d::r) :
  List.take (c.length*12+1) (fh (c++i0::S)).cells++d::List.drop (c.length*12+1+1) (fh (c++i0::S)).cells=(fh (c++i1::S)).cells:=by
 have e0:(fh (c++i0::S)).cells=c.flatMap dv++(a::b::(r++S.flatMap dv)):=by simp[fh,h0]
 have e1:(fh (c++i1::S)).cells=c.flatMap dv++(a::d::(r++S.flatMap dv)):=by simp[fh,h1]
 rw[e0,e1,← yQ c]
 rw[List.take_append,List.drop_append,List.take_of_length_le yA,List.drop_of_length_le yA]
 have k1:(c.flatMap dv).length+1-(c.flatMap dv).length=1:=by omega
 have k2:(c.flatMap dv).length+1+1-(c.flatMap dv).length=2:=by omega
 rw[k1,k2]
 simp
theorem yR (c S:List In)(i0:In):c.length*12+1+1≤(fh (c++i0::S)).cells.length:=by
 simp only[fh,yQ,List.length_append,List.length_cons]
 omega
def EY (p:Pg)(l:List Sm)(E:List En)(k st:Nat)(c:List In)(s:List Nat):Prop:=
 Body Tryz.prog aq 92 [.aw 0 0,.av (bA l) l.length] (T3 p E k st c.length s.length (fh c) (fW s)) 3
  (kk (.cr []) (T4 p E (bO l E k c.length).2 (st+fp l) (c.length+(bO l E k c.length).1.length) (s.length+(iD l st).length) (fh (c++(bO l E k c.length).1)) (fW (s++iD l st))) (3+2))
set_option maxHeartbeats 4000000 in
theorem cs_if {C:Cx}{Q:Exit→St→Prop}(hC:C.nt=253)(hC0:C.n0=3)(p:Pg)(E0:List En)(l:List Sm)(i:Nat){g:Nat}{fs:List (ByteArray×List Pm)}{ps:List Pm}{V:List ByteArray}(E:List En)(k st:Nat)(c:List In)(s:List Nat)(n:Nat)
  (hE:EW g p.ms fs ps V E k) (hl:E.length≤90000) (_hk:k≤9000) (hc:c.length≤9000) (hs:s.length≤9000) (x:Ex) (th el:List Sm) (hx:fM V 2 x)
  (hst:st=n+1) (h1:EY p th E k st (c++[.branch 0 (dR E x)]) (s++[n])) (hel:el.length=0) :
  T Tryz.prog C (jX Tryz.f92 2) (MS p E0 l i E k st c s (.lG x th el) n) (eR (aa C (fun z=>z=NS p E0 l i E (bO th E k (c.length+1)).2 (st+fp th) (c++(ef (.lG x th el) E k c.length).1) (s++vJ (.lG x th el) n))) Q):=by
 subst hst
 simp only[EY,List.length_append,List.length_singleton] at h1
 have hb:=j8 p E k (n+1) c.length s.length hE yA n 2 x hx
 obtain⟨a1,a2,a3,a4,a5,ha,hta⟩:=gE x
 obtain⟨b1,b2,b3,b4,b5,hb',htb⟩:=gE (dR E x)
 have hin:dv (.branch 0 (dR E x))=[I 6,I 0,.bool false,I b1,I b2,.str b3,.av b4 b5,.bool false,I 0,.av [] 0,.av [] 0,.av [] 0]:=by simp[dv,hb',oz]
 have hsm:ir (.lG x th el)=[I 7,.str eS,I a1,I a2,.str a3,.av a4 a5,.str eS,.av [] 0,.av [] 0,.av (bA th) th.length,.av (bA el) el.length]:=by simp[ir,ha,k8]
 rw[ha,hb'] at hb
 have t1:=bC th
 have t2:=bC el
 have q5:=aj (cm E0)
 have q6:=aj (bC l)
 apply T.block
 simp only[MS,mE,mH,Gr,hsm]
 apply au
 simp[hC]
 refine bj ?_
 simp
 apply au
 simp[hC]
 refine bj ?_
 simp
 apply aJ
 simp[hC]
 refine bj ?_
 simp
 apply aO
 simp[hC]
 refine bj ?_
 simp
 apply au
 simp[hC]
 refine bj ?_
 simp
 apply au
 simp[hC]
 refine bj ?_
 simp
 apply au
 simp[hC]
 refine dN ?_
 simp
 apply au
 simp[hC]
 refine TL.gW (hb) yA rfl yAc rfl rfl yAs yAq yAr (TL.go' ag ?_)
 simp[hC]
 refine TL.ik (uu p E k (n+1) c s [I 6,I 0,.bool false,I b1,I b2,.str b3,.av b4 b5,.bool false,I 0,.ah,.ah,.ah] rfl yB n yA yA) yAo (aT _) yAo (aT _) yA rfl yAc rfl rfl yAs yAq yAr (TL.go' ag ?_)
 simp[hC]
 refine T.le (jE hC0 [12,6,7,5,4,0,1] 6 7 (e:=(12,I c.length)::mE E0 l i n) rfl yBh rfl rfl rfl rfl rfl yB (jv _ _ (.branch 0 (dR E x)) (by simp[hin])) rfl yAa yAa) ?_
 simp only[mE]
 apply au
 simp[hC]
 refine TL.ik h1 (cc _) (aT _) (cc _) (aT _) yA rfl yAc rfl rfl rfl yBw rfl (TL.go' ag ?_)
 generalize hS:bO th E k (c.length+1)=S at h1
 obtain⟨S1,S2⟩:=S
 generalize hT:iD th (n+1)=S3 at h1
 simp only at h1
 simp[hel]
 have hin1:dv (.branch (c.length+1+S1.length) (dR E x))=[I 6,I ((c.length+1+S1.length:Nat):Int),.bool false,I b1,I b2,.str b3,.av b4 b5,.bool false,I 0,.av [] 0,.av [] 0,.av [] 0]:=by simp[dv,hb',oz]
 have hco:=yP c S1 hin hin1
 have hcf:=yR c S1 (.branch 0 (dR E x))
 simp only[Int.natCast_add,Int.cast_ofNat_Int] at hco
 apply au
 simp[hC]
 refine bj ?_
 simp
 refine T.rx ag follows [0,1,2,3,4,5,6,7,8,9,10,11,12] [] yAb ?_
 have hlt:(c.length:Int)<(c.length:Int)+1+(S1.length:Int):=by omega
 simp[hC,fQ,hlt,hcf,hco]
 refine aa.le (k9 hC0 [5,4,0,1] 6 7 (e:=bE E0 l i) rfl (ph _ _ _) (pj _ _ _) rfl rfl rfl rfl (c':=c++.branch (c.length+1+S1.length) (dR E x)::S1) (s':=s++n::S3) (qh _) rfl yAg yAg) (aa.here ?_)
 simp[ef,vJ,hel,hS,hT,NS]
set_option maxHeartbeats 4000000 in
theorem Lj {C:Cx}{Q:Exit→St→Prop}(hC:C.nt=253)(hC0:C.n0=3)(p:Pg)(E0:List En)(l:List Sm)(i:Nat){g:Nat}{fs:List (ByteArray×List Pm)}{ps:List Pm}{V:List ByteArray}(E:List En)(k st:Nat)(c:List In)(s:List Nat)(n:Nat)
  (hE:EW g p.ms fs ps V E k) (hl:E.length≤90000) (_hk:k≤9000) (hc:c.length≤9000) (hs:s.length≤9000) (x:Ex) (th el:List Sm) (hx:fM V 2 x)
  (hst:st=n+1) (h1:EY p th E k st (c++[.branch 0 (dR E x)]) (s++[n])) (h2:EY p el E (bO th E k (c.length+1)).2 (n+1+fp th) (c++.branch (c.length+2+(bO th E k (c.length+1)).1.length) (dR E x)::((bO th E k (c.length+1)).1++[.jump 0])) (s++n::(iD th (n+1)++[n]))) (hel:0<el.length) (hcl:c.length+(bO th E k (c.length+1)).1.length≤9000) (hsl:s.length+(iD th (n+1)).length≤9000) :
  T Tryz.prog C (jX Tryz.f92 2) (MS p E0 l i E k st c s (.lG x th el) n) (eR (aa C (fun z=>z=NS p E0 l i E (bO el E (bO th E k (c.length+1)).2 (c.length+2+(bO th E k (c.length+1)).1.length)).2 (st+fp th+fp el) (c++(ef (.lG x th el) E k c.length).1) (s++vJ (.lG x th el) n))) Q):=by
 subst hst
 simp only[EY,List.length_append,List.length_singleton] at h1
 simp only[EY,List.length_append,List.length_cons,List.length_nil,Nat.zero_add] at h2
 have hb:=j8 p E k (n+1) c.length s.length hE yA n 2 x hx
 obtain⟨a1,a2,a3,a4,a5,ha,hta⟩:=gE x
 obtain⟨b1,b2,b3,b4,b5,hb',htb⟩:=gE (dR E x)
 have hin:dv (.branch 0 (dR E x))=[I 6,I 0,.bool false,I b1,I b2,.str b3,.av b4 b5,.bool false,I 0,.av [] 0,.av [] 0,.av [] 0]:=by simp[dv,hb',oz]
 have hsm:ir (.lG x th el)=[I 7,.str eS,I a1,I a2,.str a3,.av a4 a5,.str eS,.av [] 0,.av [] 0,.av (bA th) th.length,.av (bA el) el.length]:=by simp[ir,ha,k8]
 rw[ha,hb'] at hb
 have t1:=bC th
 have t2:=bC el
 have q5:=aj (cm E0)
 have q6:=aj (bC l)
 apply T.block
 simp only[MS,mE,mH,Gr,hsm]
 apply au
 simp[hC]
 refine bj ?_
 simp
 apply au
 simp[hC]
 refine bj ?_
 simp
 apply aJ
 simp[hC]
 refine bj ?_
 simp
 apply aO
 simp[hC]
 refine bj ?_
 simp
 apply au
 simp[hC]
 refine bj ?_
 simp
 apply au
 simp[hC]
 refine bj ?_
 simp
 apply au
 simp[hC]
 refine dN ?_
 simp
 apply au
 simp[hC]
 refine TL.gW (hb) yA rfl yAc rfl rfl yAs yAq yAr (TL.go' ag ?_)
 simp[hC]
 refine TL.ik (uu p E k (n+1) c s [I 6,I 0,.bool false,I b1,I b2,.str b3,.av b4 b5,.bool false,I 0,.ah,.ah,.ah] rfl yB n yA yA) yAo (aT _) yAo (aT _) yA rfl yAc rfl rfl yAs yAq yAr (TL.go' ag ?_)
 simp[hC]
 refine T.le (jE hC0 [12,6,7,5,4,0,1] 6 7 (e:=(12,I c.length)::mE E0 l i n) rfl yBh rfl rfl rfl rfl rfl yB (jv _ _ (.branch 0 (dR E x)) (by simp[hin])) rfl yAa yAa) ?_
 simp only[mE]
 apply au
 simp[hC]
 refine TL.ik h1 (cc _) (aT _) (cc _) (aT _) yA rfl yAc rfl rfl rfl yBw rfl (TL.go' ag ?_)
 generalize hS:bO th E k (c.length+1)=S at h1 h2 hcl
 obtain⟨S1,S2⟩:=S
 generalize hT:iD th (n+1)=S3 at h1 h2 hsl
 simp only at h1 h2 hcl
 have hlen:c.length+(S1.length+1+1)=c.length+2+S1.length:=by omega
 generalize hS':bO el E S2 (c.length+(S1.length+1+1))=S' at h2
 obtain⟨S4,S5⟩:=S'
 generalize hT':iD el (n+1+fp th)=S6 at h2
 simp only at h2
 simp
 refine T.le (jE hC0 [12,6,7,5,4,0,1] 6 7 (e:=(12,I c.length)::mE E0 l i n) (c':=c++.branch 0 (dR E x)::S1) (s':=s++n::S3) rfl yBh rfl rfl rfl rfl rfl yB (qh _) rfl yAg yAg) ?_
 simp only[mE]
 have hel':0<el.length:=hel
 apply au
 simp[hC,hel']
 refine dN ?_
 simp
 apply au
 simp[hC]
 refine TL.ik (Ky p E S2 (n+1+fp th) (c++.branch 0 (dR E x)::S1) (s++n::S3) (c.length+(S1.length+1)) (s.length+(S3.length+1)) yAa yAa [I 7,I 0,.bool false,I 0,I 0,.str eS,.ah,.bool false,I 0,.ah,.ah,.ah] rfl rfl n yA yA) yAo (aT _) yAo (aT _) yA rfl yAc rfl rfl yAs yAq yAr (TL.go' ag ?_)
 simp[hC]
 refine T.le (jE hC0 [13,12,6,7,5,4,0,1] 6 7 (e:=(13,I (c.length+(S1.length+1)))::(12,I c.length)::mE E0 l i n) (c':=c++.branch 0 (dR E x)::(S1++[.jump 0])) (s':=s++n::(S3++[n])) rfl yBh rfl rfl rfl rfl rfl yB (by simpa using jv (c++In.branch 0 (dR E x)::S1) [I 7,I 0,.bool false,I 0,I 0,.str eS,.ah,.bool false,I 0,.ah,.ah,.ah] (.jump 0) (by simp[dv,aZ,oz])) rfl yAg yAg) ?_
 simp only[mE]
 have hin1:dv (.branch (c.length+2+S1.length) (dR E x))=[I 6,I ((c.length:Int)+((S1.length:Int)+1+1)),.bool false,I b1,I b2,.str b3,.av b4 b5,.bool false,I 0,.av [] 0,.av [] 0,.av [] 0]:=by
  simp[dv,hb',oz]
  omega
 have hco:=yP c (S1++[.jump 0]) hin hin1
 have hcf:=yR c (S1++[.jump 0]) (.branch 0 (dR E x))
 have hlt:(c.length:Int)<(c.length:Int)+((S1.length:Int)+1+1):=by omega
 apply T.seq
 refine T.rx ag follows [0,1,2,3,4,5,6,7,8,9,10,11,12] [] yAb ?_
 simp[hC,fQ,hlt,hcf,hco]
 refine T.le (jE hC0 [13,12,6,7,5,4,0,1] 3 4 (e:=(13,I (c.length+(S1.length+1)))::(12,I c.length)::mE E0 l i n) (c':=c++In.branch (c.length+2+S1.length) (dR E x)::(S1++[In.jump 0])) (s':=s++n::(S3++[n])) rfl yBh rfl rfl rfl rfl rfl yB (qh _) rfl yAa yAa) ?_
 simp only[mE]
 apply au
 simp[hC]
 refine TL.ik h2 (cc _) (aT _) (cc _) (aT _) yA rfl yAc rfl rfl rfl yBw rfl (TL.go' ag ?_)
 simp
 have hin0:dv (.jump 0)=[I 7,I 0,.bool false,I 0,I 0,.str eS,.av [] 0,.bool false,I 0,.av [] 0,.av [] 0,.av [] 0]:=by simp[dv,aZ,oz]
 have hin2:dv (.jump (c.length+2+S1.length+S4.length))=[I 7,I ((c.length:Int)+((S1.length:Int)+1+1)+(S4.length:Int)),.bool false,I 0,I 0,.str eS,.av [] 0,.bool false,I 0,.av [] 0,.av [] 0,.av [] 0]:=by
  simp[dv,aZ,oz]
  omega
 have hco2:=yP (c++In.branch (c.length+2+S1.length) (dR E x)::S1) S4 hin0 hin2
 have hcf2:=yR (c++In.branch (c.length+2+S1.length) (dR E x)::S1) S4 (.jump 0)
 simp only[List.length_append,List.length_cons,List.append_assoc,List.cons_append] at hco2 hcf2
 have hlt2:(c.length:Int)+((S1.length:Int)+1)<(c.length:Int)+((S1.length:Int)+1+1)+(S4.length:Int):=by omega
 have hnn:(0:Int)≤(c.length:Int)+((S1.length:Int)+1):=by omega
 have htn:((c.length:Int)+((S1.length:Int)+1)).toNat=c.length+(S1.length+1):=by omega
 refine T.rx ag follows [0,1,2,3,4,5,6,7,8,9,10,11,12] [] yAb ?_
 simp[hC,fQ,hlt2,hnn,htn,hcf2,hco2]
 have hne:¬ el.length=0:=by omega
 have hS2:bO el E S2 (c.length+2+S1.length)=(S4,S5):=by rw[← hlen];exact hS'
 refine aa.le (k9 hC0 [5,4,0,1] 6 7 (e:=bE E0 l i) rfl (ph _ _ _) (pj _ _ _) rfl rfl rfl rfl (c':=c++In.branch (c.length+2+S1.length) (dR E x)::(S1++In.jump (c.length+2+S1.length+S4.length)::S4)) (s':=s++n::(S3++n::S6)) (qh _) rfl yAg yAg) (aa.here ?_)
 simp[ef,vJ,hne,hS,hS2,hT,hT',NS]
set_option maxHeartbeats 4000000 in
theorem Ha {C:Cx}{Q:Exit→St→Prop}(hC:C.nt=253)(hC0:C.n0=3)(p:Pg)(E0:List En)(l:List Sm)(i:Nat){g:Nat}{fs:List (ByteArray×List Pm)}{ps:List Pm}{V:List ByteArray}(E:List En)(k st:Nat)(c:List In)(s:List Nat)(n:Nat)
  (hE:EW g p.ms fs ps V E k) (hl:E.length≤90000) (_hk:k≤9000) (hc:c.length≤9000) (hs:s.length≤9000) (x:Ex) (th:List Sm) (hx:fM V 2 x)
  (hst:st=n+1) (h1:EY p th E k st (c++[.branch 0 (dR E x)]) (s++[n])) (hcl:c.length+(bO th E k (c.length+1)).1.length≤9000) (hsl:s.length+(iD th (n+1)).length≤9000) :
  T Tryz.prog C (jX Tryz.f92 2) (MS p E0 l i E k st c s (.cJ x th) n) (eR (aa C (fun z=>z=NS p E0 l i E (bO th E k (c.length+1)).2 (st+fp th) (c++(ef (.cJ x th) E k c.length).1) (s++vJ (.cJ x th) n))) Q):=by
 subst hst
 simp only[EY,List.length_append,List.length_singleton] at h1
 have hb:=j8 p E k (n+1) c.length s.length hE yA n 2 x hx
 obtain⟨a1,a2,a3,a4,a5,ha,hta⟩:=gE x
 obtain⟨b1,b2,b3,b4,b5,hb',htb⟩:=gE (dR E x)
 have hin:dv (.branch 0 (dR E x))=[I 6,I 0,.bool false,I b1,I b2,.str b3,.av b4 b5,.bool false,I 0,.av [] 0,.av [] 0,.av [] 0]:=by simp[dv,hb',oz]
 have hsm:ir (.cJ x th)=[I 8,.str eS,I a1,I a2,.str a3,.av a4 a5,.str eS,.av [] 0,.av [] 0,.av (bA th) th.length,.av [] 0]:=by simp[ir,ha,k8]
 rw[ha,hb'] at hb
 have t1:=bC th
 have q5:=aj (cm E0)
 have q6:=aj (bC l)
 apply T.block
 simp only[MS,mE,mH,Gr,hsm]
 apply au
 simp[hC]
 refine bj ?_
 simp
 apply au
 simp[hC]
 refine bj ?_
 simp
 apply aJ
 simp[hC]
 refine bj ?_
 simp
 apply aO
 simp[hC]
 refine bj ?_
 simp
 apply au
 simp[hC]
 refine bj ?_
 simp
 apply au
 simp[hC]
 refine bj ?_
 simp
 apply au
 simp[hC]
 refine bj ?_
 simp
 apply au
 simp[hC]
 refine dN ?_
 simp
 apply au
 simp[hC]
 refine TL.gW (hb) yA rfl yAc rfl rfl yAs yAq yAr (TL.go' ag ?_)
 simp[hC]
 refine TL.ik (uu p E k (n+1) c s [I 6,I 0,.bool false,I b1,I b2,.str b3,.av b4 b5,.bool false,I 0,.ah,.ah,.ah] rfl yB n yA yA) yAo (aT _) yAo (aT _) yA rfl yAc rfl rfl yAs yAq yAr (TL.go' ag ?_)
 simp[hC]
 refine T.le (jE hC0 [14,6,7,5,4,0,1] 6 7 (e:=(14,I c.length)::mE E0 l i n) rfl yBh rfl rfl rfl rfl rfl yB (jv _ _ (.branch 0 (dR E x)) (by simp[hin])) rfl yAa yAa) ?_
 simp only[mE]
 apply au
 simp[hC]
 refine TL.ik h1 (cc _) (aT _) (cc _) (aT _) yA rfl yAc rfl rfl rfl yBw rfl (TL.go' ag ?_)
 generalize hS:bO th E k (c.length+1)=S at h1 hcl
 obtain⟨S1,S2⟩:=S
 generalize hT:iD th (n+1)=S3 at h1 hsl
 simp only at h1 hcl
 simp
 refine T.le (jE hC0 [14,6,7,5,4,0,1] 6 7 (e:=(14,I c.length)::mE E0 l i n) (c':=c++In.branch 0 (dR E x)::S1) (s':=s++n::S3) rfl yBh rfl rfl rfl rfl rfl yB (qh _) rfl yAg yAg) ?_
 simp only[mE]
 apply au
 simp[hC]
 refine TL.ik (Ky p E S2 (n+1+fp th) (c++In.branch 0 (dR E x)::S1) (s++n::S3) (c.length+(S1.length+1)) (s.length+(S3.length+1)) yAa yAa [I 7,I c.length,.bool false,I 0,I 0,.str eS,.ah,.bool false,I 0,.ah,.ah,.ah] rfl rfl n yA yA) yAo (aT _) yAo (aT _) yA rfl yAc rfl rfl yAs yAq yAr (TL.go' ag ?_)
 simp
 refine T.le (jE hC0 [14,6,7,5,4,0,1] 6 7 (e:=(14,I c.length)::mE E0 l i n) (c':=c++In.branch 0 (dR E x)::(S1++[In.jump c.length])) (s':=s++n::(S3++[n])) rfl yBh rfl rfl rfl rfl rfl yB (by simpa using jv (c++In.branch 0 (dR E x)::S1) [I 7,I c.length,.bool false,I 0,I 0,.str eS,.ah,.bool false,I 0,.ah,.ah,.ah] (.jump c.length) (by simp[dv,aZ,oz])) rfl yAg yAg) ?_
 simp only[mE]
 have hin1:dv (.branch (c.length+2+S1.length) (dR E x))=[I 6,I ((c.length:Int)+((S1.length:Int)+1+1)),.bool false,I b1,I b2,.str b3,.av b4 b5,.bool false,I 0,.av [] 0,.av [] 0,.av [] 0]:=by
  simp[dv,hb',oz]
  omega
 have hco:=yP c (S1++[.jump c.length]) hin hin1
 have hcf:=yR c (S1++[.jump c.length]) (.branch 0 (dR E x))
 have hlt:(c.length:Int)<(c.length:Int)+((S1.length:Int)+1+1):=by omega
 refine T.rx ag follows [0,1,2,3,4,5,6,7,8,9,10,11,12] [] yAb ?_
 simp[hC,fQ,hlt,hcf,hco]
 refine aa.le (k9 hC0 [5,4,0,1] 3 4 (e:=bE E0 l i) rfl (ph _ _ _) (pj _ _ _) rfl rfl rfl rfl (c':=c++In.branch (c.length+2+S1.length) (dR E x)::(S1++[In.jump c.length])) (s':=s++n::(S3++[n])) (qh _) rfl yAa yAa) (aa.here ?_)
 simp[ef,vJ,hS,hT,NS]
theorem sR:(∀ x:Sm,∀ E k b n,(vJ x n).length=(ef x E k b).1.length)∧(∀ l:List Sm,∀ E k b n,(iD l n).length=(bO l E k b).1.length):=by
 let M1:Sm→Prop:=fun x=>∀ E k b n,(vJ x n).length=(ef x E k b).1.length
 let M2:List Sm→Prop:=fun l=>∀ E k b n,(iD l n).length=(bO l E k b).1.length
 have A1:∀ (s:ByteArray) (e:Ex),M1 (.gZ s e):=fun s e E k b n=>by simp[vJ,ef]
 have A2:∀ (s:ByteArray) (e:Ex),M1 (.iF s e):=fun s e E k b n=>by simp[vJ,ef]
 have A3:∀ (g:Bool) (s:ByteArray) (l:List Ar),M1 (.dY g s l):=fun g s l E k b n=>by simp[vJ,ef]
 have A4:∀ (u:Bool) (r:Rf),M1 (.dB u r):=fun u r E k b n=>by simp[vJ,ef]
 have A5:∀ (e:Ex) (th el:List Sm),M2 th→M2 el→M1 (.lG e th el):=fun e th el h1 h2 E k b n=>by
  simp only[vJ,ef]
  split
  ·simp[h1 E k (b+1) (n+1)]
  ·simp[h1 E k (b+1) (n+1),h2 E (bO th E k (b+1)).2 (b+2+(bO th E k (b+1)).1.length) (n+1+fp th)]
 have A6:∀ (e:Ex) (th:List Sm),M2 th→M1 (.cJ e th):=fun e th h1 E k b n=>by
  simp[vJ,ef,h1 E k (b+1) (n+1)]
 have A7:M1 .jC:=fun E k b n=>by simp[vJ,ef]
 have A0:M2 []:=fun E k b n=>by simp[iD,bO]
 have A8:∀ (s:Sm) (r:List Sm),M1 s→M2 r→M2 (s::r):=fun s r h1 h2 E k b n=>by
  simp only[iD,bO,List.length_append]
  rw[h1 E k b n,h2 (E++fx k s) (ef s E k b).2 (b+(ef s E k b).1.length) (n+ox s)]
 exact⟨fun s=>Sm.rec (motive_1:=M1) (motive_2:=M2) A1 A2 A3 A4 A5 A6 A7 A0 A8 s,fun l=>Sm.rec_1 (motive_1:=M1) (motive_2:=M2) A1 A2 A3 A4 A5 A6 A7 A0 A8 l⟩
theorem Kd (x:Sm):∃ cs,ir x=I (Gr x)::cs∧cs.length=10:=by
 have h:∃ cs,ir x=I (Gr x)::cs:=by cases x<;>exact⟨_,rfl⟩
 obtain⟨cs,h⟩:=h
 have:=kI x
 rw[h] at this
 exact⟨cs,h,by simpa using this⟩
theorem T.cutL {P:Program}{C:Cx}{s:St}{c:Code}{Q:Exit→St→Prop}(J:St→Prop)(h:T P C c s (eR (aa C J) Q))(hJ:∀ s',J s'→Q .normal s'):T P C c s Q:=by
 refine T.post h fun e s' q=>?_
 cases e with
 | normal=>
  obtain⟨s'',hj,hl⟩:=q
  exact⟨s'',hJ s'' hj,hl⟩
 | _=>exact⟨s',q,Le.refl _⟩
structure PgB (p:Pg):Prop where
 m:p.ms.length≤1000
 f:p.fs.length≤1000
 p:∀ f∈p.fs,f.params.length≤1000
theorem H4 {C:Cx}{Q:Exit→St→Prop}(hC:C.nt=253)(hC0:C.n0=3){p:Pg}(hp:PgB p)(E0:List En)(l:List Sm)(i:Nat){g:Nat}{ps:List Pm}{d:Nat}{V:List ByteArray}{E:List En}{k:Nat}{c:List In}{s:List Nat}{n:Nat}{x:Sm}
  (hE:EW g p.ms (p.fs.map fun f=>(f.name,f.params)) ps V E k) (hx:dS p.ms (p.fs.map fun f=>(f.name,f.params)) ps d V x) (hl:E.length+eA x≤5000) (hk:k+eA x≤5000) (hc:c.length+eA x≤5000) (hs:s.length+eA x≤5000) (hst:n+eA x≤1000000)
  (rec:∀ d' < d,∀ (l:List Sm) (V:List ByteArray) (E:List En) (k st:Nat) (c:List In) (s:List Nat),EW g p.ms (p.fs.map fun f=>(f.name,f.params)) ps V E k→cR p.ms (p.fs.map fun f=>(f.name,f.params)) ps d' V l→E.length+bG l≤5000→k+bG l≤5000→c.length+bG l≤5000→s.length+bG l≤5000→st+bG l≤1000000→EY p l E k st c s) :
  T Tryz.prog C (jX Tryz.f92 2) (MS p E0 l i E k (n+1) c s x n) (eR (aa C (fun z=>z=NS p E0 l i (E++fx k x) (ef x E k c.length).2 (n+ox x) (c++(ef x E k c.length).1) (s++vJ x n))) Q):=by
 cases x with
 | gZ nm e=>
  simp only[dS] at hx
  obtain⟨⟨j,hj,rfl⟩,hv,he⟩:=hx
  simp only[eA] at hl hk hc hs hst
  exact Lh hC hC0 p E0 l i E k (n+1) c s n hE yA yA yA yA _ e (hE.o _ hv (wg j hj)) he
 | iF nm e=>
  simp only[dS] at hx
  simp only[eA] at hl hk hc hs hst
  simpa only[fx,ef,ox,vJ,List.append_nil] using Lk (Q:=Q) hC hC0 p E0 l i E k (n+1) c s n hE yA yA yA nm e hx.1 hx.2
 | dY go nm al=>
  simp only[dS] at hx
  obtain⟨gp,h1,h2⟩:=hx
  simp only[eA] at hl hk hc hs hst
  have hgl:gp.length≤1000:=by
   obtain⟨f,hf,he⟩:=List.mem_map.1 h1
   have:=hp.p f hf
   simp only[Prod.mk.injEq] at he
   rw[← he.2]
   exact this
  simpa only[fx,ef,ox,vJ,List.append_nil] using I8 (Q:=Q) hC hC0 p E0 l i E k (n+1) c s n hE yA hp.m hp.f yA yA go nm gp al h1 h2 hgl
 | dB u r=>
  simp only[dS] at hx
  simp only[eA] at hl hk hc hs hst
  simpa only[fx,ef,ox,vJ,List.append_nil] using I7 (Q:=Q) hC hC0 p E0 l i E k (n+1) c s n hE yA hp.m yA yA u r hx
 | jC=>
  simp only[eA] at hl hk hc hs hst
  simpa only[fx,ef,ox,vJ,List.append_nil] using Li (Q:=Q) hC hC0 p E0 l i E k (n+1) c s n yA yA
 | lG e th el=>
  cases d with
  | zero=>simp only[dS] at hx
  | succ d=>
   simp only[dS] at hx
   simp only[eA] at hl hk hc hs hst
   obtain⟨v1,_,v3,v4⟩:=zC.2 th d V E k (c.length+1) hE hx.2.1
   have v5:=sR.2 th E k (c.length+1) (n+1)
   have v6:=x8.2 th
   have h1:=rec d yA th V E k (n+1) (c++[.branch 0 (dR E e)]) (s++[n]) hE hx.2.1 yA yA yAg yAg yA
   by_cases hel:el.length=0
   ·have hel2:el=[]:=List.eq_nil_of_length_eq_zero hel
    have:=cs_if (Q:=Q) hC hC0 p E0 l i E k (n+1) c s n hE yA yA yA yA e th el hx.1 rfl h1 hel
    subst hel2
    have e1:n+ox (.lG e th [])=n+1+fp th:=by simp only[ox,fp];omega
    have e2:(ef (.lG e th []) E k c.length).2=(bO th E k (c.length+1)).2:=by simp[ef]
    rw[e1,e2]
    simpa only[fx,List.append_nil] using this
   ·have h2:=rec d yA el V E (bO th E k (c.length+1)).2 (n+1+fp th) (c++.branch (c.length+2+(bO th E k (c.length+1)).1.length) (dR E e)::((bO th E k (c.length+1)).1++[.jump 0])) (s++n::(iD th (n+1)++[n])) (hE.up v1) hx.2.2 yA yA yAg yAg yA
    have:=Lj (Q:=Q) hC hC0 p E0 l i E k (n+1) c s n hE yA yA yA yA e th el hx.1 rfl h1 h2 yA yA yA
    have e1:n+ox (.lG e th el)=n+1+fp th+fp el:=by simp only[ox];omega
    have e2:(ef (.lG e th el) E k c.length).2=(bO el E (bO th E k (c.length+1)).2 (c.length+2+(bO th E k (c.length+1)).1.length)).2:=by simp[ef,hel]
    rw[e1,e2]
    simpa only[fx,List.append_nil] using this
 | cJ e th=>
  cases d with
  | zero=>simp only[dS] at hx
  | succ d=>
   simp only[dS] at hx
   simp only[eA] at hl hk hc hs hst
   obtain⟨v1,_,v3,v4⟩:=zC.2 th d V E k (c.length+1) hE hx.2
   have v5:=sR.2 th E k (c.length+1) (n+1)
   have h1:=rec d yA th V E k (n+1) (c++[.branch 0 (dR E e)]) (s++[n]) hE hx.2 yA yA yAg yAg yA
   have:=Ha (Q:=Q) hC hC0 p E0 l i E k (n+1) c s n hE yA yA yA yA e th hx.1 rfl h1 yA yA
   have e1:n+ox (.cJ e th)=n+1+fp th:=by simp only[ox];omega
   have e2:(ef (.cJ e th) E k c.length).2=(bO th E k (c.length+1)).2:=by simp[ef]
   rw[e1,e2]
   simpa only[fx,List.append_nil] using this
theorem Ab:∀ l:List Sm,l.length≤bG l
 | []=>Nat.le_refl _
 | x::r=>by
  have:=Ab r
  have h:1≤eA x:=by cases x<;>simp only[eA]<;>omega
  simp only[List.length_cons,bG]
  omega
theorem KG {c:CV}(h:okW c=true){m:List (Nat×Nat)}(h0:(assoc m 0).isSome=true):vV m c=true:=by
 cases c with
 | aw q f=>
  cases f with
  | zero=>
   simp only[okW,beq_iff_eq] at h
   subst h
   exact h0
  | succ f=>simp[okW,tree] at h
 | agg cs=>simp only[okW,tree] at h;exact aH h m
 | cr cs=>simp only[okW,tree] at h;exact aH h m
 | _=>first | exact h | simp[okW,tree] at h
theorem CQ {m:List (Nat×Nat)}{n:Nat}(h0:gg m n 0=0):∀ {e:List (Nat×CV)},(e.all fun x=>okW x.2)=true→dF (gg m n) e=e
 | [],_=>rfl
 | (t,c)::e,h=>by
  simp only[List.all_cons,Bool.and_eq_true] at h
  rw[dF,F2 h.1 _ h0,CQ h0 h.2]
theorem ms_le {C:Cx}{s:St}{p:Pg}(hC0:C.n0=3)(ks:List Nat)(o:Nat)(ho:5<o){kd:Int}{e:List (Nat×CV)}{E:List En}{k st cl sl:Nat}{cs:List CV}{c':List In}{s':List Nat}(he:pick s.env (41::6::ks)=(41,I kd)::(6,.aw o 0)::e)(hok:(e.all fun x=>okW x.2)=true)
  (h0:assoc s.heap 0=some (fQ p E k st 3 cl 4 sl)) (h3:assoc s.heap 3=some (fh c')) (h4:assoc s.heap 4=some (fW s')) (h5:assoc s.heap o=some ⟨188,0,cs⟩) (hcs:trees cs=true) :
  Le C s ⟨(41,I kd)::(6,.aw 5 0)::e,[(0,fQ p E k st 3 cl 4 sl),(3,fh c'),(4,fW s'),(5,⟨188,0,cs⟩)],6⟩:=by
 have n0:¬ 0=o:=by omega
 have n3:¬ 3=o:=by omega
 have n4:¬ 4=o:=by omega
 have r0:gg [(0,0),(3,3),(4,4),(o,5)] 6 0=0:=rfl
 have r3:gg [(0,0),(3,3),(4,4),(o,5)] 6 3=3:=rfl
 have r4:gg [(0,0),(3,3),(4,4),(o,5)] 6 4=4:=rfl
 have ro:gg [(0,0),(3,3),(4,4),(o,5)] 6 o=5:=by simp[gg,assoc,n0,n3,n4]
 have ao:(assoc [(0,0),(3,3),(4,4),(o,5)] o).isSome=true:=by simp[assoc,n0,n3,n4]
 have hnorm:=Le.norm (C:=C) (s:=s) (41::6::ks) [(0,0),(3,3),(4,4),(o,5)] 3 6 (by simp[uO,n0,n3,n4]) (by simp only[List.all_cons,List.all_nil,h0,h3,h4,h5];rfl) ?_ yA
 ·rw[he] at hnorm
  simp only[List.map_cons,List.map_nil,pick,h0,h3,h4,h5,bT,dF] at hnorm
  rw[CQ r0 hok,r0,r3,r4,ro,qX,r3,r4,fh,fW,cU _ _ _ (cc c'),cU _ _ _ (aT s'),cU _ _ _ hcs] at hnorm
  simp only[dU,ro] at hnorm
  exact hnorm
 ·unfold eC
  rw[he]
  simp only[List.map_cons,List.map_nil,pick,h0,h3,h4,h5,List.all_cons,List.all_nil,Bool.and_true,Bool.and_eq_true,List.all_eq_true (l:=e)]
  refine⟨⟨rfl,ao,fun x hx=>KG ((List.all_eq_true.1 hok) x hx) rfl⟩,BE E k st 3 _ 4 _ _ rfl rfl,aH (cc c') _,aH (aT s') _,aH hcs _⟩
structure InvB (p:Pg)(g:Nat)(ps:List Pm)(d:Nat)(l:List Sm)(E:List En)(k st:Nat)(c:List In)(s:List Nat)(i:Nat)(V:List ByteArray)(Ei:List En)(ki sti:Nat)(ci:List In)(si:List Nat):Prop where
 hi:i≤l.length
 he:EW g p.ms (p.fs.map fun f=>(f.name,f.params)) ps V Ei ki
 w:cR p.ms (p.fs.map fun f=>(f.name,f.params)) ps d V (l.drop i)
 l1:Ei.length+bG (l.drop i)≤5000
 l2:ki+bG (l.drop i)≤5000
 l3:ci.length+bG (l.drop i)≤5000
 l4:si.length+bG (l.drop i)≤5000
 l5:sti+bG (l.drop i)≤1000000
 r1:(bO l E k c.length).2=(bO (l.drop i) Ei ki ci.length).2
 r2:c++(bO l E k c.length).1=ci++(bO (l.drop i) Ei ki ci.length).1
 r3:s++iD l st=si++iD (l.drop i) sti
 r4:st+fp l=sti+fp (l.drop i)
def JB (p:Pg)(g:Nat)(ps:List Pm)(d:Nat)(l:List Sm)(E:List En)(k st:Nat)(c:List In)(s:List Nat)(m:Nat)(z:St):Prop:=
 ∃ i V Ei ki sti ci si,m=l.length-i∧InvB p g ps d l E k st c s i V Ei ki sti ci si∧z=NS p E l i Ei ki sti ci si
theorem Hu {p:Pg}(hp:PgB p){g:Nat}{ps:List Pm}:∀ (d:Nat) (l:List Sm) (V:List ByteArray) (E:List En) (k st:Nat) (c:List In) (s:List Nat),
  EW g p.ms (p.fs.map fun f=>(f.name,f.params)) ps V E k→cR p.ms (p.fs.map fun f=>(f.name,f.params)) ps d V l→E.length+bG l≤5000→k+bG l≤5000→c.length+bG l≤5000→s.length+bG l≤5000→st+bG l≤1000000→EY p l E k st c s:=by
 intro d
 induction d using Nat.strongRecOn with
 | _ d ih=>
 intro l V E k st c s hE hw hl hk hc hs hst
 unfold EY
 refine Body.j5 Tryz.func92 rfl yAb (by simp[Tryz.ntmps92]) fun C hC hC0=>?_
 rw[Tryz.ntmps92] at hC
 simp only[T3]
 have q1:=aj (je p.gs)
 have q2:=aj (dp p.ms)
 have q3:=aj (cP p.fs)
 have q4:=aj (cm E)
 have q6:=aj (bC l)
 apply au
 simp[hC,fQ]
 apply aJ
 simp[hC]
 apply T.block
 refine T.aL (JB p g ps d l E k st c s) (n:=l.length) ?_ ?_
 ·refine aa.le (Le.up 5 yAa) ?_
  refine aa.le (k9 (p:=p) (E:=E) (k:=k) (st:=st) hC0 [5,4,0,1] 1 2 (e:=bE E l 0) (c':=c) (s':=s) rfl (ph _ _ _) (pj _ _ _) rfl rfl rfl rfl (qh _) rfl rfl rfl) (aa.here ?_)
  exact⟨0,V,E,k,st,c,s,by omega,⟨by omega,hE,hw,hl,hk,hc,hs,hst,rfl,rfl,rfl,rfl⟩,rfl⟩
 ·rintro m z ⟨i,Vi,Ei,ki,sti,ci,si,rfl,hI,rfl⟩
  by_cases hil:i<l.length
  ·obtain⟨x,hix⟩:∃ x,l[i]? = some x:=⟨l[i],List.getElem?_eq_getElem hil⟩
   have hdl:l.drop i=x::l.drop (i+1):=by
    rw[List.drop_eq_getElem_cons hil,(List.getElem?_eq_some_iff.1 hix).2]
   obtain⟨i1,i2,i3,i4,i5,i6,i7,i8,i9,i10,i11,i12⟩:=hI
   rw[hdl] at i3 i4 i5 i6 i7 i8 i9 i10 i11 i12
   simp only[cR,bG,bO,iD,fp] at i3 i4 i5 i6 i7 i8 i9 i10 i11 i12
   obtain⟨hx1,hx2⟩:=i3
   have gq:=fun Q C hC hC0=>H4 (C:=C) (Q:=Q) hC hC0 hp E l i (n:=sti) (c:=ci) (s:=si) i2 hx1 yA yA yA yA yA (fun d' hd' l V E k st c s=>ih d' hd' l V E k st c s)
   obtain⟨v1,_,v3,v4,v5⟩:=zC.1 x d Vi Ei ki ci.length i2 hx1
   have v6:=sR.1 x Ei ki ci.length sti
   have v7:=x8.1 x
   obtain⟨xc,hxc,hxl⟩:=Kd x
   have hdr:List.drop (i*11) (bA l)=ir x++bA (l.drop (i+1)):=by rw[ov,ov];exact aE (f:=ir) (n:=11) kI hix
   have hll:=Ab l
   have wi:=ct ((i:Int)+1) yA yA
   have wst:=ct ((sti:Int)+1) yA yA
   have txc:trees xc=true:=by
    have:=iz x
    rw[hxc,trees] at this
    exact (Bool.and_eq_true _ _ ▸ this).2
   have htk:List.take 10 (xc++bA (l.drop (i+1)))=xc:=by rw[← hxl,List.take_left]
   rw[hxc] at hdr
   simp only[NS,bE]
   apply aJ
   simp[hC,hil]
   refine iv ?_
   simp
   apply fq
   apply T.seq
   refine T.rx ag follows [0,1,2,3,4,5,6,7,8,9,10] [(3,8),(7,8),(7,9)] yAb ?_
   simp[hC,hil,hdr,fQ,hxl,htk]
   apply au
   simp[hC,wst]
   apply au
   simp[hC]
   refine T.le (ms_le (p:=p) (E:=Ei) (k:=ki) (st:=sti+1) (cl:=ci.length) (sl:=si.length) (e:=[(7,I sti),(5,I i),(4,.av (E.flatMap iu) E.length),(0,.aw 0 0),(1,.av (bA l) l.length)]) hC0 [7,5,4,0,1] 13 yA rfl (by simp[okW,tree]) rfl rfl rfl rfl (by rw[trees,txc];rfl)) ?_
   rw[← hxc]
   refine T.cutL _ (gq _ C hC hC0) ?_
   rintro z rfl
   simp only[oa,eR,NS,bE]
   apply aO
   simp[hC,wi]
   have hde:(Ei++fx ki x).length≤Ei.length+1:=by cases x<;>simp[fx]
   have hde2:1≤eA x:=by cases x<;>simp only[eA]<;>omega
   refine⟨l.length-(i+1),by omega,aa.trim [5,4,0,1] [0,3,4] 5 yAu yA ⟨i+1,Vi++dW x,Ei++fx ki x,(ef x Ei ki ci.length).2,sti+ox x,ci++(ef x Ei ki ci.length).1,si++vJ x sti,rfl,⟨by omega,v3,hx2,by omega,by omega,by simp only[List.length_append];omega,by simp only[List.length_append];omega,by omega,?_,?_,?_,?_⟩,?_⟩⟩
   ·rw[i9,List.length_append]
   ·rw[i10,List.length_append,List.append_assoc]
   ·rw[i11,List.append_assoc]
   ·rw[i12];omega
   ·simp[NS,bE]
  ·have hie:i=l.length:=by have:=hI.hi;omega
   obtain⟨i1,i2,i3,i4,i5,i6,i7,i8,i9,i10,i11,i12⟩:=hI
   rw[hie,List.drop_length] at i9 i10 i11 i12
   simp only[bO,iD,fp,List.append_nil,Nat.add_zero] at i9 i10 i11 i12
   simp only[NS,bE]
   apply aJ
   simp[hC,hil]
   refine bj ?_
   simp
   apply T.exit
   simp
   apply aO
   simp[hC,fQ]
   refine aa.trim [] [0,3,4] 5 yAu yA ⟨_,rfl,rfl,?_,rfl⟩
   have e1:c.length+(bO l E k c.length).1.length=ci.length:=by rw[← i10,List.length_append]
   have e2:s.length+(iD l st).length=si.length:=by rw[← i11,List.length_append]
   rw[e1,e2,i9,i10,i11,i12]
   simp[T4,fQ]
end Go.Proofs.YtmnglemlimfpbaaGreat
namespace Go.aX
open Go.Can
theorem jb (c:Nat):∀ (l:List ByteArray) (i:Nat),(Dd c i l).length=l.length
 | [],_=>rfl
 | s::r,i=>by simp[Dd,jb c r]
theorem yL {c:Nat}:∀ {l:List ByteArray} {i j:Nat} {s:ByteArray},l[j]? = some s→(Dd c i l)[j]? = some ⟨s,c,i+j⟩
 | [],_,_,_,h=>by simp at h
 | x::r,i,0,s,h=>by
  simp only[List.getElem?_cons_zero,Option.some.injEq] at h
  subst h
  rfl
 | x::r,i,j+1,s,h=>by
  simp only[List.getElem?_cons_succ] at h
  simp only[Dd,List.getElem?_cons_succ]
  rw[yL h]
  congr 2
  omega
theorem AK (p:Pg):(df p).length=p.gs.length+p.ms.length+p.fs.length:=by simp[df,jb];omega
theorem K9 {p:Pg}{i:Nat}{x:Gl}(h:p.gs[i]? = some x):(df p)[i]? = some ⟨x.name,1,i⟩:=by
 have hl:=(List.getElem?_eq_some_iff.1 h).1
 have h2:(p.gs.map (·.name))[i]? = some x.name:=by rw[List.getElem?_map,h];rfl
 rw[df,List.append_assoc,List.getElem?_append_left (by rw[jb,List.length_map];exact hl),yL h2,Nat.zero_add]
theorem K8 {p:Pg}{i:Nat}{x:Mx}(h:p.ms[i]? = some x):(df p)[p.gs.length+i]? = some ⟨x.name,2,i⟩:=by
 have hl:=(List.getElem?_eq_some_iff.1 h).1
 have h2:(p.ms.map (·.name))[i]? = some x.name:=by rw[List.getElem?_map,h];rfl
 rw[df,List.append_assoc,List.getElem?_append_right (by rw[jb,List.length_map];omega),jb,List.length_map,Nat.add_sub_cancel_left,List.getElem?_append_left (by rw[jb,List.length_map];exact hl),yL h2,Nat.zero_add]
theorem La {p:Pg}{i:Nat}{x:Fu}(h:p.fs[i]? = some x):(df p)[p.gs.length+p.ms.length+i]? = some ⟨x.name,3,i⟩:=by
 have h2:(p.fs.map (·.name))[i]? = some x.name:=by rw[List.getElem?_map,h];rfl
 rw[df,List.getElem?_append_right (by rw[List.length_append,jb,jb,List.length_map,List.length_map];omega),List.length_append,jb,jb,List.length_map,List.length_map,Nat.add_sub_cancel_left,yL h2,Nat.zero_add]
theorem I6 {p:Pg}(h:kD p):((df p).map (·.name)).Nodup:=by
 obtain⟨a1,a2,_,_⟩:=gP
 obtain⟨s1,s2,s3,_⟩:=h.sub
 obtain⟨d1,d2,d3,_⟩:=h.nd
 rw[df,List.map_append,List.map_append,lW,lW,lW]
 refine List.nodup_append.2 ⟨List.nodup_append.2 ⟨d1,d2,fun a ha b hb e=>?_⟩,d3,fun a ha b hb e=>?_⟩
 ·subst e
  exact a1 _ (s2 _ hb) (s1 _ ha)
 ·subst e
  rcases List.mem_append.1 ha with ha | ha
  ·exact (a2 _ (s3 _ hb)).1 (s1 _ ha)
  ·exact (a2 _ (s3 _ hb)).2 (s2 _ ha)
theorem GW {E:List En}(h:(E.map (·.name)).Nodup){i:Nat}{x:En}(hx:E[i]? = some x):iZ (E.take i) x.name=none:=by
 obtain⟨hl,hx'⟩:=List.getElem?_eq_some_iff.1 hx
 have e:E=E.take i++x::E.drop (i+1):=by rw[← hx',← List.drop_eq_getElem_cons hl,List.take_append_drop]
 have h2:((E.take i++x::E.drop (i+1)).map (·.name)).Nodup:=by rw[← e];exact h
 rw[List.map_append,List.map_cons,List.nodup_append] at h2
 rw[qn]
 exact fun hm=>h2.2.2 _ hm _ List.mem_cons_self rfl
end Go.aX
namespace Go.Proofs.YtmnglemlimfpbaaGreat
open Go.Can Go.aX
def iw (E:List En):Ob:=⟨146,3,E.flatMap iu⟩
@[simp] theorem G1 (E:List En)(n:Nat):(iw E).cells.all (a8 n)=true:=aj (cm E) n
@[simp] theorem enOb_ltS (E:List En)(n:Nat):aQ n (iw E).cells=true:=by rw[a7];exact G1 E n
@[simp] theorem enOb_frz (E:List En)(o:Nat)(cs:List CV)(n:Nat):(iw E).cells.map (cL o cs n)=(iw E).cells:=ak (cm E) o cs n
@[simp] theorem enOb_eta (E:List En):(⟨(iw E).elem,(iw E).sz,(iw E).cells⟩:Ob)=iw E:=rfl
@[simp] theorem LN (ρ:Nat→Nat)(E:List En):ca ρ (iw E)=iw E:=cU _ _ _ (cm E)
def J59B (E:List En)(s:ByteArray)(n:Nat)(st:St):Prop:=∃ i:Nat,n=E.length-i∧i≤E.length∧iZ E s=iZ (E.drop i) s∧st=⟨[(6,I i),(5,.bool false),(4,.aw 1 0),(0,.bx 0 0 E.length),(1,.str s)],[(1,⟨146,0,[.str ⟨#[]⟩,I 0,I 0]⟩),(0,iw E)],2⟩
theorem Av (E:List En)(s:ByteArray)(hl:E.length≤100000):Body Tryz.prog aq 59 [.bx 0 0 E.length,.str s] [(0,iw E)] 1 (kk (qp (iZ E s)) [(0,iw E)] 1):=by
 have hfl:=fun (i:Nat) (x:En) (h:E[i]? = some x)=>aE (f:=iu) (n:=3) kP (m:=E) h
 refine Body.j5 Tryz.func59 rfl yAb (by simp[Tryz.ntmps59]) fun C hC hC0=>?_
 rw[Tryz.ntmps59] at hC
 apply au
 simp[hC]
 apply aJ
 simp[hC]
 apply T.block
 refine T.aL (J59B E s) (n:=E.length) ?_ ?_
 ·refine aa.here ⟨0,by omega,by omega,rfl,?_⟩
  simp
 ·rintro n st ⟨i,rfl,hi,hf,rfl⟩
  by_cases hil:i<E.length
  ·obtain⟨a,hia⟩:∃ a,E[i]? = some a:=⟨E[i],List.getElem?_eq_getElem hil⟩
   have hdr:=hfl i a hia
   have wi:=ct ((i:Int)+1) yA yA
   have hd:E.drop i=a::E.drop (i+1):=by
    rw[List.drop_eq_getElem_cons hil,(List.getElem?_eq_some_iff.1 hia).2]
   rw[hd,iZ] at hf
   apply aJ
   simp[hC,hil]
   refine iv ?_
   simp
   apply fq
   apply au
   simp[hC,hil,hdr,iu,iC,iw]
   by_cases hn:a.name=s
   ·rw[if_pos hn] at hf
    simp only[hn,decide_true]
    refine dN ?_
    simp
    apply au
    simp[hC,hil,hdr,iu]
    apply T.ret
    refine aa.le (Le.cG (o:=1) rfl rfl) ?_
    simp[ak (cm E)]
    refine aa.trim [4,5] [0] 1 (by simp[-List.all_eq_true,-List.all_flatMap,aj (cm E)]) yA ⟨_,?_,rfl,?_,rfl⟩
    ·simp[hf,qp,iu]
    ·simp
   ·rw[if_neg hn] at hf
    simp only[hn,decide_false]
    refine e9 ?_
    simp
    apply aO
    simp[hC,wi]
    refine⟨E.length-(i+1),by omega,?_⟩
    refine aa.trim [6,5,4,0,1] [1,0] 2 (by simp[-List.all_eq_true,-List.all_flatMap,aj (cm E)]) yA ⟨i+1,rfl,by omega,hf,?_⟩
    simp[iw]
  ·have hie:i=E.length:=by omega
   rw[hie,List.drop_length,iZ] at hf
   apply aJ
   simp[hC,hil]
   refine bj ?_
   simp
   apply T.exit
   simp
   apply au
   simp[hC]
   apply T.ret
   refine aa.le (Le.cG (o:=1) rfl rfl) ?_
   simp
   refine aa.trim [4,5] [0] 1 yAu yA ⟨_,?_,rfl,?_,rfl⟩
   ·simp[hf,qp]
   ·simp
def J58 (p:Pg)(m:Nat)(s:St):Prop:=∃ i:Nat,m=(df p).length-i∧i≤(df p).length∧
 s=⟨[(7,I i),(6,I (df p).length),(5,I (-1)),(4,.bx 1 0 i),(1,.aw 0 0)],[(0,⟨27,0,eH p⟩),(1,iw ((df p).take i))],2⟩
theorem AJ (p:Pg)(h:kD p)(hm:p.ms.length≤1000)(hf:p.fs.length≤1000)(hg:p.gs.length≤1000):ae Tryz.prog 58 [wT p] (.cr [.av ((df p).flatMap iu) (df p).length,I (-1)]):=by
 have hdl:=AK p
 have hnd:=I6 h
 obtain⟨t1,t2,t3⟩:=gY p
 refine ae.aB ag Tryz.func58 rfl yAb (by simp[Tryz.ntmps58]) rfl fun C hC hC0=>?_
 rw[Tryz.ntmps58] at hC
 have hw1:=ct ((p.gs.length:Int)+p.ms.length) yA yA
 have hw2:=ct ((p.gs.length:Int)+p.ms.length+p.fs.length) yA yA
 simp only[wT,eH]
 apply au
 simp[hC]
 apply au
 simp[hC]
 apply au
 simp[hC]
 apply au
 simp[hC,hw1,hw2]
 apply aJ
 simp[hC]
 apply T.block
 refine T.aL (J58 p) (n:=(df p).length) ?_ ?_
 ·refine aa.le (Le.own 4 146 3 rfl) ?_
  simp
  refine aa.trim [7,6,5,4,1] [0,1] 2 yAu yA ⟨0,by omega,by omega,?_⟩
  simp[eH,hdl,iw]
 ·rintro n s ⟨i,rfl,hi,rfl⟩
  by_cases hil:i<(df p).length
  ·obtain⟨x,hix⟩:∃ x,(df p)[i]? = some x:=⟨(df p)[i],List.getElem?_eq_getElem hil⟩
   have wi:=ct ((i:Int)+1) yA yA
   have wd:=ct ((i:Int)-(p.gs.length:Int)) yA yA
   apply aJ
   simp[hC,hil]
   refine iv ?_
   simp
   apply fq
   apply au
   simp[hC]
   refine T.cut (fun z=>z=⟨[(8,.aw 2 0),(7,I i),(6,I (df p).length),(5,I (-1)),(4,.bx 1 0 i),(1,.aw 0 0)],[(0,⟨27,0,eH p⟩),(1,iw ((df p).take i)),(2,⟨146,0,iu x⟩)],3⟩) ?_ ?_
   ·simp only[eH]
    by_cases c1:i<p.gs.length
    ·obtain⟨y,hy⟩:∃ y,p.gs[i]? = some y:=⟨p.gs[i],List.getElem?_eq_getElem c1⟩
     have hx:=K9 hy
     rw[hix] at hx
     cases hx
     have hdr:=aE (f:=pd) (n:=2) (fun _=>rfl) hy
     have hneg:(i:Int)-(p.gs.length:Int)<0:=by omega
     apply au
     simp[hC,wd]
     apply T.block
     apply au
     simp[hC,hneg]
     refine dN ?_
     simp
     apply aO
     simp[hC,c1,hdr,pd]
     refine aa.trim [8,7,6,5,4,1] [0,1,2] 3 yAu yA ?_
     simp[iu]
    ·by_cases c2:i<p.gs.length+p.ms.length
     ·obtain⟨j,rfl⟩:∃ j,i=p.gs.length+j:=⟨i-p.gs.length,by omega⟩
      have c3:j<p.ms.length:=by omega
      obtain⟨y,hy⟩:∃ y,p.ms[j]? = some y:=⟨p.ms[j],List.getElem?_eq_getElem c3⟩
      have hx:=K8 hy
      rw[hix] at hx
      cases hx
      have hdr:=aE (f:=cq) (n:=3) (fun _=>rfl) hy
      have hsub:(p.gs.length:Int)+(j:Int)-(p.gs.length:Int)=(j:Int):=by omega
      have wj:=ct (j:Int) yA yA
      apply au
      simp[hC,hsub,wj]
      apply T.block
      apply au
      simp[hC]
      refine bj ?_
      simp
      apply au
      simp[hC,c3]
      refine dN ?_
      simp
      apply aO
      simp[hC,c3,hdr,cq]
      refine aa.trim [8,7,6,5,4,1] [0,1,2] 3 yAu yA ?_
      simp[iu]
     ·obtain⟨j,rfl⟩:∃ j,i=p.gs.length+p.ms.length+j:=⟨i-p.gs.length-p.ms.length,by omega⟩
      have c3:j<p.fs.length:=by omega
      obtain⟨y,hy⟩:∃ y,p.fs[j]? = some y:=⟨p.fs[j],List.getElem?_eq_getElem c3⟩
      have hx:=La hy
      rw[hix] at hx
      cases hx
      have hdr:=aE (f:=fk) (n:=3) (fun _=>rfl) hy
      have hsub:(p.gs.length:Int)+(p.ms.length:Int)+(j:Int)-(p.gs.length:Int)=(p.ms.length:Int)+(j:Int):=by omega
      have hsub2:(p.ms.length:Int)+(j:Int)-(p.ms.length:Int)=(j:Int):=by omega
      have wj:=ct (j:Int) yA yA
      have wmj:=ct ((p.ms.length:Int)+(j:Int)) yA yA
      have hnn:¬ (p.ms.length:Int)+(j:Int)<0:=by omega
      have hnm:¬ (p.ms.length:Int)+(j:Int)<(p.ms.length:Int):=by omega
      apply au
      simp[hC,hsub,wmj]
      apply T.block
      apply au
      simp[hC,hnn]
      refine bj ?_
      simp
      apply au
      simp[hC,hnm]
      refine bj ?_
      simp
      refine T.rx ag follows [0,1,2,3,4,5,6,7,8,9,10,11,12,13,14,15,16] [] yAb ?_
      simp[hC,hsub2,wj,c3,hdr,fk]
      refine aa.trim [8,7,6,5,4,1] [0,1,2] 3 yAu yA ?_
      simp[iu]
   ·rintro z rfl
    simp only[eH]
    have hfd:=Av ((df p).take i) x.name (by rw[List.length_take];omega)
    rw[GW hnd hix,List.length_take,Nat.min_eq_left yA] at hfd
    have f1:=aD (f:=iu) (n:=3) kP ((df p).take i)
    rw[List.length_take,Nat.min_eq_left yA] at f1
    have bd1:(i+1)*32≤140737488355328:=by omega
    apply aJ
    simp[hC,iu]
    refine TL.jq ag 0 1 [1] 1 hfd yAc rfl rfl (by simp[bu,dU,bl,ev,assoc]) yAa yA yAa yAa (by simp[aQ,a8]) yAa rfl (by simp[bu,dU,a8]) yAa yAa (TL.go' ag ?_)
    simp[hC,qp]
    apply au
    simp[hC]
    refine e9 ?_
    simp
    apply aO
    simp[hC,f1,bd1,aI,iw]
    apply aO
    simp[hC,wi]
    have htk:(df p).take (i+1)=(df p).take i++[x]:=by rw[List.take_add_one,hix];rfl
    refine⟨(df p).length-(i+1),by omega,?_⟩
    refine aa.le (Le.trim [7,6,5,4,1] [0,5] 6 (by simp[-List.all_eq_true,-List.all_flatMap,aj (cm _)]) yA) ?_
    simp
    refine aa.le (Le.oP 5 1 rfl rfl yA yAa yAa (by simp[-List.all_eq_true,-List.all_flatMap,bh (cm _),qg 5 1 _ t1,qg 5 1 _ t2,qg 5 1 _ t3])) ?_
    simp[aY (cm _)]
    refine aa.trim [7,6,5,4,1] [0,1] 2 (by simp[-List.all_eq_true,-List.all_flatMap,aj (cm _)]) yA ⟨i+1,rfl,by omega,?_⟩
    simp[iw,htk,eH,iu]
  ·have hie:i=(df p).length:=by omega
   apply aJ
   simp[hC,hil]
   refine bj ?_
   simp
   apply T.exit
   simp
   apply au
   simp[hC]
   apply T.ret
   subst hie
   have tk:List.take ((df p).length*3) ((df p).flatMap iu)=(df p).flatMap iu:=List.take_of_length_le (by rw[aD (f:=iu) (n:=3) kP];omega)
   refine aa.le (Le.trim [2,3] [1] 2 yAu yA) ?_
   simp[List.take_length]
   refine aa.le (Le.cG (o:=1) rfl (cm _)) ?_
   apply aa.here
   simp[iw,tk]
end Go.Proofs.YtmnglemlimfpbaaGreat
