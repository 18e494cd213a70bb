/- block: if and while. -/
import Derived.Test.YtlkmbdfhdknlgaaGreatDoorZ33
namespace Go.Proofs.YtlkmbdfhdknlgaaGreatDoor
open Go.Can Go.aT
theorem vk (c S:List In){i0 i1:In}{a b d:CV}{r:List CV}(h0:cK i0=a::b::r)(h1:cK i1=a::d::r) :
  List.take (c.length*12+1) (dY (c++i0::S)).cells++d::List.drop (c.length*12+1+1) (dY (c++i0::S)).cells=(dY (c++i1::S)).cells:=by
 have e0:(dY (c++i0::S)).cells=c.flatMap cK++(a::b::(r++S.flatMap cK)):=by simp[dY,h0]
 have e1:(dY (c++i1::S)).cells=c.flatMap cK++(a::d::(r++S.flatMap cK)):=by simp[dY,h1]
 rw[e0,e1,← vl c];rw[List.take_append,List.drop_append,List.take_of_length_le yA,List.drop_of_length_le yA];have k1:(c.flatMap cK).length+1-(c.flatMap cK).length=1:=by omega
 have k2:(c.flatMap cK).length+1+1-(c.flatMap cK).length=2:=by omega
 rw[k1,k2];simp
theorem vm (c S:List In)(i0:In):c.length*12+1+1≤(dY (c++i0::S)).cells.length:=by
 simp only[dY,vl,List.length_append,List.length_cons];omega
def BZ (p:Pg)(l:List Sm)(E:List En)(k st:Nat)(c:List In)(s:List Nat):Prop:=
 Body Tryz.prog ak 84 [.ai 0 0,.au (bh l) l.length] (T3 p E k st c.length s.length (dY c) (eZ s)) 3
  (jQ (.db []) (T4 p E (bF l E k c.length).2 (st+ek l) (c.length+(bF l E k c.length).1.length) (s.length+(gy l st).length) (dY (c++(bF l E k c.length).1)) (eZ (s++gy l st))) (3+2))
set_option maxHeartbeats 4000000 in
theorem cs_if {C:Cx}{Q:Exit→St→Prop}(hC:C.nt=253)(xJ:C.n0=3)(p:Pg)(E0:List En)(l:List Sm)(i:Nat){g:Nat}{fs:List (ByteArray×List Pm)}{ps:List Pm}{V:List ByteArray}(E:List En)(k st:Nat)(c:List In)(s:List Nat)(n:Nat)
  (hE:EW g p.ms fs ps V E k) (hl:E.length≤90000) (_hk:k≤9000) (hc:c.length≤9000) (hs:s.length≤9000) (x:Ex) (th el:List Sm) (hx:eO V 2 x)
  (Km:st=n+1) (h1:BZ p th E k st (c++[.branch 0 (df E x)]) (s++[n])) (Ki:el.length=0) :
  T Tryz.prog C (iI Tryz.f84 2) (MS p E0 l i E k st c s (.jS x th el) n) (eC (aa C (fun z=>z=NS p E0 l i E (bF th E k (c.length+1)).2 (st+ek th) (c++(dq (.jS x th el) E k c.length).1) (s++sr (.jS x th el) n))) Q):=by
 subst Km;simp only[BZ,List.length_append,List.length_singleton] at h1;have hb:=iT p E k (n+1) c.length s.length hE yA n 2 x hx;obtain⟨a1,a2,a3,a4,a5,ha,SN⟩:=jI x;obtain⟨b1,b2,b3,b4,b5,Kc,Uv⟩:=jI (df E x);have Kz:cK (.branch 0 (df E x))=[I 6,I 0,.bool false,I b1,I b2,.str b3,.au b4 b5,.bool false,I 0,.au [] 0,.au [] 0,.au [] 0]:=by simp[cK,Kc,pO]
 have MJ:gk (.jS x th el)=[I 7,.str eS,I a1,I a2,.str a3,.au a4 a5,.str eS,.au [] 0,.au [] 0,.au (bh th) th.length,.au (bh el) el.length]:=by simp[gk,ha,jy]
 rw[ha,Kc] at hb;have t1:=bk th;have t2:=bk el;have q5:=aj (bS E0);have q6:=aj (bk l);apply T.block;simp only[MS,mE,mH,Dp,MJ];apply ah;simp[hC];refine aU ?_;simp;apply ah;simp[hC];refine aU ?_;simp;apply aL;simp[hC];refine aU ?_;simp;apply a8;simp[hC];refine aU ?_;simp;apply ah;simp[hC];refine aU ?_;simp;apply ah;simp[hC];refine aU ?_;simp;apply ah;simp[hC];refine cz ?_;simp;apply ah;simp[hC];refine TL.fH (hb) yA rfl yI rfl rfl Ml Mn Mm (TL.go' af ?_);simp[hC];refine TL.gg (qX p E k (n+1) c s [I 6,I 0,.bool false,I b1,I b2,.str b3,.au b4 b5,.bool false,I 0,.ag,.ag,.ag] rfl Oe n yA yA) L7 (aJ _) L7 (aJ _) yA rfl yI rfl rfl Ml Mn Mm (TL.go' af ?_);simp[hC];refine T.le (ic xJ [12,6,7,5,4,0,1] 6 7 (e:=(12,I c.length)::mE E0 l i n) rfl P8 rfl rfl rfl rfl rfl Oe (g8 _ _ (.branch 0 (df E x)) (by simp[Kz])) rfl j5 j5) ?_;simp only[mE];apply ah;simp[hC];refine TL.gg h1 (bP _) (aJ _) (bP _) (aJ _) yA rfl yI rfl rfl rfl So rfl (TL.go' af ?_);generalize hS:bF th E k (c.length+1)=S at h1;obtain⟨S1,S2⟩:=S;generalize hT:gy th (n+1)=S3 at h1;simp only at h1;simp[Ki];have PA:cK (.branch (c.length+1+S1.length) (df E x))=[I 6,I ((c.length+1+S1.length:Nat):Int),.bool false,I b1,I b2,.str b3,.au b4 b5,.bool false,I 0,.au [] 0,.au [] 0,.au [] 0]:=by simp[cK,Kc,pO]
 have Mi:=vk c S1 Kz PA;have RC:=vm c S1 (.branch 0 (df E x));simp only[Int.natCast_add,Int.cast_ofNat_Int] at Mi;apply ah;simp[hC];refine aU ?_;simp;refine T.rx af follows [0,1,2,3,4,5,6,7,8,9,10,11,12] [] lz ?_;have yN:(c.length:Int)<(c.length:Int)+1+(S1.length:Int):=by omega
 simp[hC,eT,yN,RC,Mi];refine aa.le (jz xJ [5,4,0,1] 6 7 (e:=bE E0 l i) rfl (mN _ _ _) (mO _ _ _) rfl rfl rfl rfl (c':=c++.branch (c.length+1+S1.length) (df E x)::S1) (s':=s++n::S3) (n8 _) rfl Lv Lv) (aa.here ?_);simp[dq,sr,Ki,hS,hT,NS]
set_option maxHeartbeats 4000000 in
theorem Iq {C:Cx}{Q:Exit→St→Prop}(hC:C.nt=253)(xJ:C.n0=3)(p:Pg)(E0:List En)(l:List Sm)(i:Nat){g:Nat}{fs:List (ByteArray×List Pm)}{ps:List Pm}{V:List ByteArray}(E:List En)(k st:Nat)(c:List In)(s:List Nat)(n:Nat)
  (hE:EW g p.ms fs ps V E k) (hl:E.length≤90000) (_hk:k≤9000) (hc:c.length≤9000) (hs:s.length≤9000) (x:Ex) (th el:List Sm) (hx:eO V 2 x)
  (Km:st=n+1) (h1:BZ p th E k st (c++[.branch 0 (df E x)]) (s++[n])) (h2:BZ p el E (bF th E k (c.length+1)).2 (n+1+ek th) (c++.branch (c.length+2+(bF th E k (c.length+1)).1.length) (df E x)::((bF th E k (c.length+1)).1++[.jump 0])) (s++n::(gy th (n+1)++[n]))) (Ki:0<el.length) (De:c.length+(bF th E k (c.length+1)).1.length≤9000) (QD:s.length+(gy th (n+1)).length≤9000) :
  T Tryz.prog C (iI Tryz.f84 2) (MS p E0 l i E k st c s (.jS x th el) n) (eC (aa C (fun z=>z=NS p E0 l i E (bF el E (bF th E k (c.length+1)).2 (c.length+2+(bF th E k (c.length+1)).1.length)).2 (st+ek th+ek el) (c++(dq (.jS x th el) E k c.length).1) (s++sr (.jS x th el) n))) Q):=by
 subst Km;simp only[BZ,List.length_append,List.length_singleton] at h1;simp only[BZ,List.length_append,List.length_cons,List.length_nil,Nat.zero_add] at h2;have hb:=iT p E k (n+1) c.length s.length hE yA n 2 x hx;obtain⟨a1,a2,a3,a4,a5,ha,SN⟩:=jI x;obtain⟨b1,b2,b3,b4,b5,Kc,Uv⟩:=jI (df E x);have Kz:cK (.branch 0 (df E x))=[I 6,I 0,.bool false,I b1,I b2,.str b3,.au b4 b5,.bool false,I 0,.au [] 0,.au [] 0,.au [] 0]:=by simp[cK,Kc,pO]
 have MJ:gk (.jS x th el)=[I 7,.str eS,I a1,I a2,.str a3,.au a4 a5,.str eS,.au [] 0,.au [] 0,.au (bh th) th.length,.au (bh el) el.length]:=by simp[gk,ha,jy]
 rw[ha,Kc] at hb;have t1:=bk th;have t2:=bk el;have q5:=aj (bS E0);have q6:=aj (bk l);apply T.block;simp only[MS,mE,mH,Dp,MJ];apply ah;simp[hC];refine aU ?_;simp;apply ah;simp[hC];refine aU ?_;simp;apply aL;simp[hC];refine aU ?_;simp;apply a8;simp[hC];refine aU ?_;simp;apply ah;simp[hC];refine aU ?_;simp;apply ah;simp[hC];refine aU ?_;simp;apply ah;simp[hC];refine cz ?_;simp;apply ah;simp[hC];refine TL.fH (hb) yA rfl yI rfl rfl Ml Mn Mm (TL.go' af ?_);simp[hC];refine TL.gg (qX p E k (n+1) c s [I 6,I 0,.bool false,I b1,I b2,.str b3,.au b4 b5,.bool false,I 0,.ag,.ag,.ag] rfl Oe n yA yA) L7 (aJ _) L7 (aJ _) yA rfl yI rfl rfl Ml Mn Mm (TL.go' af ?_);simp[hC];refine T.le (ic xJ [12,6,7,5,4,0,1] 6 7 (e:=(12,I c.length)::mE E0 l i n) rfl P8 rfl rfl rfl rfl rfl Oe (g8 _ _ (.branch 0 (df E x)) (by simp[Kz])) rfl j5 j5) ?_;simp only[mE];apply ah;simp[hC];refine TL.gg h1 (bP _) (aJ _) (bP _) (aJ _) yA rfl yI rfl rfl rfl So rfl (TL.go' af ?_);generalize hS:bF th E k (c.length+1)=S at h1 h2 De;obtain⟨S1,S2⟩:=S;generalize hT:gy th (n+1)=S3 at h1 h2 QD;simp only at h1 h2 De;have hlen:c.length+(S1.length+1+1)=c.length+2+S1.length:=by omega
 generalize hS':bF el E S2 (c.length+(S1.length+1+1))=S' at h2;obtain⟨S4,S5⟩:=S';generalize hT':gy el (n+1+ek th)=S6 at h2;simp only at h2;simp;refine T.le (ic xJ [12,6,7,5,4,0,1] 6 7 (e:=(12,I c.length)::mE E0 l i n) (c':=c++.branch 0 (df E x)::S1) (s':=s++n::S3) rfl P8 rfl rfl rfl rfl rfl Oe (n8 _) rfl Lv Lv) ?_;simp only[mE];have WE:0<el.length:=Ki;apply ah;simp[hC,WE];refine cz ?_;simp;apply ah;simp[hC];refine TL.gg (HE p E S2 (n+1+ek th) (c++.branch 0 (df E x)::S1) (s++n::S3) (c.length+(S1.length+1)) (s.length+(S3.length+1)) j5 j5 [I 7,I 0,.bool false,I 0,I 0,.str eS,.ag,.bool false,I 0,.ag,.ag,.ag] rfl rfl n yA yA) L7 (aJ _) L7 (aJ _) yA rfl yI rfl rfl Ml Mn Mm (TL.go' af ?_);simp[hC];refine T.le (ic xJ [13,12,6,7,5,4,0,1] 6 7 (e:=(13,I (c.length+(S1.length+1)))::(12,I c.length)::mE E0 l i n) (c':=c++.branch 0 (df E x)::(S1++[.jump 0])) (s':=s++n::(S3++[n])) rfl P8 rfl rfl rfl rfl rfl Oe (by simpa using g8 (c++In.branch 0 (df E x)::S1) [I 7,I 0,.bool false,I 0,I 0,.str eS,.ag,.bool false,I 0,.ag,.ag,.ag] (.jump 0) (by simp[cK,bC,pO])) rfl Lv Lv) ?_;simp only[mE];have PA:cK (.branch (c.length+2+S1.length) (df E x))=[I 6,I ((c.length:Int)+((S1.length:Int)+1+1)),.bool false,I b1,I b2,.str b3,.au b4 b5,.bool false,I 0,.au [] 0,.au [] 0,.au [] 0]:=by
  simp[cK,Kc,pO];omega
 have Mi:=vk c (S1++[.jump 0]) Kz PA;have RC:=vm c (S1++[.jump 0]) (.branch 0 (df E x));have yN:(c.length:Int)<(c.length:Int)+((S1.length:Int)+1+1):=by omega
 apply T.seq;refine T.rx af follows [0,1,2,3,4,5,6,7,8,9,10,11,12] [] lz ?_;simp[hC,eT,yN,RC,Mi];refine T.le (ic xJ [13,12,6,7,5,4,0,1] 3 4 (e:=(13,I (c.length+(S1.length+1)))::(12,I c.length)::mE E0 l i n) (c':=c++In.branch (c.length+2+S1.length) (df E x)::(S1++[In.jump 0])) (s':=s++n::(S3++[n])) rfl P8 rfl rfl rfl rfl rfl Oe (n8 _) rfl j5 j5) ?_;simp only[mE];apply ah;simp[hC];refine TL.gg h2 (bP _) (aJ _) (bP _) (aJ _) yA rfl yI rfl rfl rfl So rfl (TL.go' af ?_);simp;have Ws:cK (.jump 0)=[I 7,I 0,.bool false,I 0,I 0,.str eS,.au [] 0,.bool false,I 0,.au [] 0,.au [] 0,.au [] 0]:=by simp[cK,bC,pO]
 have Wq:cK (.jump (c.length+2+S1.length+S4.length))=[I 7,I ((c.length:Int)+((S1.length:Int)+1+1)+(S4.length:Int)),.bool false,I 0,I 0,.str eS,.au [] 0,.bool false,I 0,.au [] 0,.au [] 0,.au [] 0]:=by
  simp[cK,bC,pO];omega
 have TR:=vk (c++In.branch (c.length+2+S1.length) (df E x)::S1) S4 Ws Wq;have TT:=vm (c++In.branch (c.length+2+S1.length) (df E x)::S1) S4 (.jump 0);simp only[List.length_append,List.length_cons,List.append_assoc,List.cons_append] at TR TT;have Ky:(c.length:Int)+((S1.length:Int)+1)<(c.length:Int)+((S1.length:Int)+1+1)+(S4.length:Int):=by omega
 have Pq:(0:Int)≤(c.length:Int)+((S1.length:Int)+1):=by omega
 have Zb:((c.length:Int)+((S1.length:Int)+1)).toNat=c.length+(S1.length+1):=by omega
 refine T.rx af follows [0,1,2,3,4,5,6,7,8,9,10,11,12] [] lz ?_;simp[hC,eT,Ky,Pq,Zb,TT,TR];have F0:¬ el.length=0:=by omega
 have Sf:bF el E S2 (c.length+2+S1.length)=(S4,S5):=by rw[← hlen];exact hS'
 refine aa.le (jz xJ [5,4,0,1] 6 7 (e:=bE E0 l i) rfl (mN _ _ _) (mO _ _ _) rfl rfl rfl rfl (c':=c++In.branch (c.length+2+S1.length) (df E x)::(S1++In.jump (c.length+2+S1.length+S4.length)::S4)) (s':=s++n::(S3++n::S6)) (n8 _) rfl Lv Lv) (aa.here ?_);simp[dq,sr,F0,hS,Sf,hT,hT',NS]
set_option maxHeartbeats 4000000 in
theorem D4 {C:Cx}{Q:Exit→St→Prop}(hC:C.nt=253)(xJ:C.n0=3)(p:Pg)(E0:List En)(l:List Sm)(i:Nat){g:Nat}{fs:List (ByteArray×List Pm)}{ps:List Pm}{V:List ByteArray}(E:List En)(k st:Nat)(c:List In)(s:List Nat)(n:Nat)
  (hE:EW g p.ms fs ps V E k) (hl:E.length≤90000) (_hk:k≤9000) (hc:c.length≤9000) (hs:s.length≤9000) (x:Ex) (th:List Sm) (hx:eO V 2 x)
  (Km:st=n+1) (h1:BZ p th E k st (c++[.branch 0 (df E x)]) (s++[n])) (De:c.length+(bF th E k (c.length+1)).1.length≤9000) (QD:s.length+(gy th (n+1)).length≤9000) :
  T Tryz.prog C (iI Tryz.f84 2) (MS p E0 l i E k st c s (.cb x th) n) (eC (aa C (fun z=>z=NS p E0 l i E (bF th E k (c.length+1)).2 (st+ek th) (c++(dq (.cb x th) E k c.length).1) (s++sr (.cb x th) n))) Q):=by
 subst Km;simp only[BZ,List.length_append,List.length_singleton] at h1;have hb:=iT p E k (n+1) c.length s.length hE yA n 2 x hx;obtain⟨a1,a2,a3,a4,a5,ha,SN⟩:=jI x;obtain⟨b1,b2,b3,b4,b5,Kc,Uv⟩:=jI (df E x);have Kz:cK (.branch 0 (df E x))=[I 6,I 0,.bool false,I b1,I b2,.str b3,.au b4 b5,.bool false,I 0,.au [] 0,.au [] 0,.au [] 0]:=by simp[cK,Kc,pO]
 have MJ:gk (.cb x th)=[I 8,.str eS,I a1,I a2,.str a3,.au a4 a5,.str eS,.au [] 0,.au [] 0,.au (bh th) th.length,.au [] 0]:=by simp[gk,ha,jy]
 rw[ha,Kc] at hb;have t1:=bk th;have q5:=aj (bS E0);have q6:=aj (bk l);apply T.block;simp only[MS,mE,mH,Dp,MJ];apply ah;simp[hC];refine aU ?_;simp;apply ah;simp[hC];refine aU ?_;simp;apply aL;simp[hC];refine aU ?_;simp;apply a8;simp[hC];refine aU ?_;simp;apply ah;simp[hC];refine aU ?_;simp;apply ah;simp[hC];refine aU ?_;simp;apply ah;simp[hC];refine aU ?_;simp;apply ah;simp[hC];refine cz ?_;simp;apply ah;simp[hC];refine TL.fH (hb) yA rfl yI rfl rfl Ml Mn Mm (TL.go' af ?_);simp[hC];refine TL.gg (qX p E k (n+1) c s [I 6,I 0,.bool false,I b1,I b2,.str b3,.au b4 b5,.bool false,I 0,.ag,.ag,.ag] rfl Oe n yA yA) L7 (aJ _) L7 (aJ _) yA rfl yI rfl rfl Ml Mn Mm (TL.go' af ?_);simp[hC];refine T.le (ic xJ [14,6,7,5,4,0,1] 6 7 (e:=(14,I c.length)::mE E0 l i n) rfl P8 rfl rfl rfl rfl rfl Oe (g8 _ _ (.branch 0 (df E x)) (by simp[Kz])) rfl j5 j5) ?_;simp only[mE];apply ah;simp[hC];refine TL.gg h1 (bP _) (aJ _) (bP _) (aJ _) yA rfl yI rfl rfl rfl So rfl (TL.go' af ?_);generalize hS:bF th E k (c.length+1)=S at h1 De;obtain⟨S1,S2⟩:=S;generalize hT:gy th (n+1)=S3 at h1 QD;simp only at h1 De;simp;refine T.le (ic xJ [14,6,7,5,4,0,1] 6 7 (e:=(14,I c.length)::mE E0 l i n) (c':=c++In.branch 0 (df E x)::S1) (s':=s++n::S3) rfl P8 rfl rfl rfl rfl rfl Oe (n8 _) rfl Lv Lv) ?_;simp only[mE];apply ah;simp[hC];refine TL.gg (HE p E S2 (n+1+ek th) (c++In.branch 0 (df E x)::S1) (s++n::S3) (c.length+(S1.length+1)) (s.length+(S3.length+1)) j5 j5 [I 7,I c.length,.bool false,I 0,I 0,.str eS,.ag,.bool false,I 0,.ag,.ag,.ag] rfl rfl n yA yA) L7 (aJ _) L7 (aJ _) yA rfl yI rfl rfl Ml Mn Mm (TL.go' af ?_);simp;refine T.le (ic xJ [14,6,7,5,4,0,1] 6 7 (e:=(14,I c.length)::mE E0 l i n) (c':=c++In.branch 0 (df E x)::(S1++[In.jump c.length])) (s':=s++n::(S3++[n])) rfl P8 rfl rfl rfl rfl rfl Oe (by simpa using g8 (c++In.branch 0 (df E x)::S1) [I 7,I c.length,.bool false,I 0,I 0,.str eS,.ag,.bool false,I 0,.ag,.ag,.ag] (.jump c.length) (by simp[cK,bC,pO])) rfl Lv Lv) ?_;simp only[mE];have PA:cK (.branch (c.length+2+S1.length) (df E x))=[I 6,I ((c.length:Int)+((S1.length:Int)+1+1)),.bool false,I b1,I b2,.str b3,.au b4 b5,.bool false,I 0,.au [] 0,.au [] 0,.au [] 0]:=by
  simp[cK,Kc,pO];omega
 have Mi:=vk c (S1++[.jump c.length]) Kz PA;have RC:=vm c (S1++[.jump c.length]) (.branch 0 (df E x));have yN:(c.length:Int)<(c.length:Int)+((S1.length:Int)+1+1):=by omega
 refine T.rx af follows [0,1,2,3,4,5,6,7,8,9,10,11,12] [] lz ?_;simp[hC,eT,yN,RC,Mi];refine aa.le (jz xJ [5,4,0,1] 3 4 (e:=bE E0 l i) rfl (mN _ _ _) (mO _ _ _) rfl rfl rfl rfl (c':=c++In.branch (c.length+2+S1.length) (df E x)::(S1++[In.jump c.length])) (s':=s++n::(S3++[n])) (n8 _) rfl j5 j5) (aa.here ?_);simp[dq,sr,hS,hT,NS]
theorem qi:(∀ x:Sm,∀ E k b n,(sr x n).length=(dq x E k b).1.length)∧(∀ l:List Sm,∀ E k b n,(gy l n).length=(bF l E k b).1.length):=by
 let M1:Sm→Prop:=fun x=>∀ E k b n,(sr x n).length=(dq x E k b).1.length
 let M2:List Sm→Prop:=fun l=>∀ E k b n,(gy l n).length=(bF l E k b).1.length
 have A1:∀ (s:ByteArray) (e:Ex),M1 (.fN s e):=fun s e E k b n=>by simp[sr,dq]
 have A2:∀ (s:ByteArray) (e:Ex),M1 (.gz s e):=fun s e E k b n=>by simp[sr,dq]
 have A3:∀ (g:Bool) (s:ByteArray) (l:List Ar),M1 (.dm g s l):=fun g s l E k b n=>by simp[sr,dq]
 have A4:∀ (u:Bool) (r:Rf),M1 (.cR u r):=fun u r E k b n=>by simp[sr,dq]
 have A5:∀ (e:Ex) (th el:List Sm),M2 th→M2 el→M1 (.jS e th el):=fun e th el h1 h2 E k b n=>by
  simp only[sr,dq];split
  ·simp[h1 E k (b+1) (n+1)]
  ·simp[h1 E k (b+1) (n+1),h2 E (bF th E k (b+1)).2 (b+2+(bF th E k (b+1)).1.length) (n+1+ek th)]
 have A6:∀ (e:Ex) (th:List Sm),M2 th→M1 (.cb e th):=fun e th h1 E k b n=>by
  simp[sr,dq,h1 E k (b+1) (n+1)]
 have A7:M1 .ia:=fun E k b n=>by simp[sr,dq]
 have A0:M2 []:=fun E k b n=>by simp[gy,bF]
 have A8:∀ (s:Sm) (r:List Sm),M1 s→M2 r→M2 (s::r):=fun s r h1 h2 E k b n=>by
  simp only[gy,bF,List.length_append];rw[h1 E k b n,h2 (E++ez k s) (dq s E k b).2 (b+(dq s E k b).1.length) (n+lT s)]
 exact⟨fun s=>Sm.rec (motive_1:=M1) (motive_2:=M2) A1 A2 A3 A4 A5 A6 A7 A0 A8 s,fun l=>Sm.rec_1 (motive_1:=M1) (motive_2:=M2) A1 A2 A3 A4 A5 A6 A7 A0 A8 l⟩
theorem Hh (x:Sm):∃ cs,gk x=I (Dp x)::cs∧cs.length=10:=by
 have h:∃ cs,gk x=I (Dp x)::cs:=by cases x<;>exact⟨_,rfl⟩
 obtain⟨cs,h⟩:=h;have:=jh x;rw[h] at this;exact⟨cs,h,by simpa using this⟩
theorem T.cutL {P:Program}{C:Cx}{s:St}{c:Code}{Q:Exit→St→Prop}(J:St→Prop)(h:T P C c s (eC (aa C J) Q))(hJ:∀ s',J s'→Q .normal s'):T P C c s Q:=by
 refine T.post h fun e s' q=>?_
 cases e with
 | normal=>
  obtain⟨L3,hj,hl⟩:=q;exact⟨L3,hJ L3 hj,hl⟩
 | _=>exact⟨s',q,Le.refl _⟩
structure PgB (p:Pg):Prop where
 m:p.ms.length≤1000
 f:p.fs.length≤1000
 p:∀ f∈p.fs,f.params.length≤1000
theorem E1 {C:Cx}{Q:Exit→St→Prop}(hC:C.nt=253)(xJ:C.n0=3){p:Pg}(hp:PgB p)(E0:List En)(l:List Sm)(i:Nat){g:Nat}{ps:List Pm}{d:Nat}{V:List ByteArray}{E:List En}{k:Nat}{c:List In}{s:List Nat}{n:Nat}{x:Sm}
  (hE:EW g p.ms (p.fs.map fun f=>(f.name,f.params)) ps V E k) (hx:dh p.ms (p.fs.map fun f=>(f.name,f.params)) ps d V x) (hl:E.length+dB x≤5000) (hk:k+dB x≤5000) (hc:c.length+dB x≤5000) (hs:s.length+dB x≤5000) (Km:n+dB x≤1000000)
  (rec:∀ d' < d,∀ (l:List Sm) (V:List ByteArray) (E:List En) (k st:Nat) (c:List In) (s:List Nat),EW g p.ms (p.fs.map fun f=>(f.name,f.params)) ps V E k→ck p.ms (p.fs.map fun f=>(f.name,f.params)) ps d' V l→E.length+bz l≤5000→k+bz l≤5000→c.length+bz l≤5000→s.length+bz l≤5000→st+bz l≤1000000→BZ p l E k st c s) :
  T Tryz.prog C (iI Tryz.f84 2) (MS p E0 l i E k (n+1) c s x n) (eC (aa C (fun z=>z=NS p E0 l i (E++ez k x) (dq x E k c.length).2 (n+lT x) (c++(dq x E k c.length).1) (s++sr x n))) Q):=by
 cases x with
 | fN nm e=>
  simp only[dh] at hx;obtain⟨⟨j,hj,rfl⟩,hv,he⟩:=hx;simp only[dB] at hl hk hc hs Km;exact Io hC xJ p E0 l i E k (n+1) c s n hE yA yA yA yA _ e (hE.o _ hv (sR j hj)) he
 | gz nm e=>
  simp only[dh] at hx;simp only[dB] at hl hk hc hs Km
  simpa only[ez,dq,lT,sr,List.append_nil] using Ir (Q:=Q) hC xJ p E0 l i E k (n+1) c s n hE yA yA yA nm e hx.1 hx.2
 | dm go nm al=>
  simp only[dh] at hx;obtain⟨gp,h1,h2⟩:=hx;simp only[dB] at hl hk hc hs Km;have NR:gp.length≤1000:=by
   obtain⟨f,hf,he⟩:=List.mem_map.1 h1;have:=hp.p f hf;simp only[Prod.mk.injEq] at he;rw[← he.2];exact this
  simpa only[ez,dq,lT,sr,List.append_nil] using F3 (Q:=Q) hC xJ p E0 l i E k (n+1) c s n hE yA hp.m hp.f yA yA go nm gp al h1 h2 NR
 | cR u r=>
  simp only[dh] at hx;simp only[dB] at hl hk hc hs Km
  simpa only[ez,dq,lT,sr,List.append_nil] using F2 (Q:=Q) hC xJ p E0 l i E k (n+1) c s n hE yA hp.m yA yA u r hx
 | ia=>
  simp only[dB] at hl hk hc hs Km
  simpa only[ez,dq,lT,sr,List.append_nil] using Ip (Q:=Q) hC xJ p E0 l i E k (n+1) c s n yA yA
 | jS e th el=>
  cases d with
  | zero=>simp only[dh] at hx
  | succ d=>
   simp only[dh] at hx;simp only[dB] at hl hk hc hs Km;obtain⟨v1,_,v3,v4⟩:=vX.2 th d V E k (c.length+1) hE hx.2.1;have v5:=qi.2 th E k (c.length+1) (n+1);have v6:=uD.2 th;have h1:=rec d yA th V E k (n+1) (c++[.branch 0 (df E e)]) (s++[n]) hE hx.2.1 yA yA Lv Lv yA;by_cases Ki:el.length=0
   ·have N8:el=[]:=List.eq_nil_of_length_eq_zero Ki;have:=cs_if (Q:=Q) hC xJ p E0 l i E k (n+1) c s n hE yA yA yA yA e th el hx.1 rfl h1 Ki;subst N8;have e1:n+lT (.jS e th [])=n+1+ek th:=by simp only[lT,ek];omega
    have e2:(dq (.jS e th []) E k c.length).2=(bF th E k (c.length+1)).2:=by simp[dq]
    rw[e1,e2]
    simpa only[ez,List.append_nil] using this
   ·have h2:=rec d yA el V E (bF th E k (c.length+1)).2 (n+1+ek th) (c++.branch (c.length+2+(bF th E k (c.length+1)).1.length) (df E e)::((bF th E k (c.length+1)).1++[.jump 0])) (s++n::(gy th (n+1)++[n])) (hE.up v1) hx.2.2 yA yA Lv Lv yA;have:=Iq (Q:=Q) hC xJ p E0 l i E k (n+1) c s n hE yA yA yA yA e th el hx.1 rfl h1 h2 yA yA yA;have e1:n+lT (.jS e th el)=n+1+ek th+ek el:=by simp only[lT];omega
    have e2:(dq (.jS e th el) E k c.length).2=(bF el E (bF th E k (c.length+1)).2 (c.length+2+(bF th E k (c.length+1)).1.length)).2:=by simp[dq,Ki]
    rw[e1,e2]
    simpa only[ez,List.append_nil] using this
 | cb e th=>
  cases d with
  | zero=>simp only[dh] at hx
  | succ d=>
   simp only[dh] at hx;simp only[dB] at hl hk hc hs Km;obtain⟨v1,_,v3,v4⟩:=vX.2 th d V E k (c.length+1) hE hx.2;have v5:=qi.2 th E k (c.length+1) (n+1);have h1:=rec d yA th V E k (n+1) (c++[.branch 0 (df E e)]) (s++[n]) hE hx.2 yA yA Lv Lv yA;have:=D4 (Q:=Q) hC xJ p E0 l i E k (n+1) c s n hE yA yA yA yA e th hx.1 rfl h1 yA yA;have e1:n+lT (.cb e th)=n+1+ek th:=by simp only[lT];omega
   have e2:(dq (.cb e th) E k c.length).2=(bF th E k (c.length+1)).2:=by simp[dq]
   rw[e1,e2]
   simpa only[ez,List.append_nil] using this
theorem xg:∀ l:List Sm,l.length≤bz l
 | []=>Nat.le_refl _
 | x::r=>by
  have:=xg r;have h:1≤dB x:=by cases x<;>simp only[dB]<;>omega
  simp only[List.length_cons,bz];omega
theorem HL {c:CV}(h:okW c=true){m:List (Nat×Nat)}(h0:(assoc m 0).isSome=true):yf m c=true:=by
 cases c with
 | ai q f=>
  cases f with
  | zero=>
   simp only[okW,beq_iff_eq] at h;subst h;exact h0
  | succ f=>simp[okW,tree] at h
 | agg cs=>simp only[okW,tree] at h;exact aK h m
 | db cs=>simp only[okW,tree] at h;exact aK h m
 | _=>first | exact h | simp[okW,tree] at h
theorem zO {m:List (Nat×Nat)}{n:Nat}(h0:gA m n 0=0):∀ {e:List (Nat×CV)},(e.all fun x=>okW x.2)=true→dP (gA m n) e=e
 | [],_=>rfl
 | (t,c)::e,h=>by
  simp only[List.all_cons,Bool.and_eq_true] at h;rw[dP,C0 h.1 _ h0,zO h0 h.2]
theorem ms_le {C:Cx}{s:St}{p:Pg}(xJ:C.n0=3)(ks:List Nat)(o:Nat)(ho:5<o){kd:Int}{e:List (Nat×CV)}{E:List En}{k st cl sl:Nat}{cs:List CV}{c':List In}{s':List Nat}(he:pick s.env (41::6::ks)=(41,I kd)::(6,.ai o 0)::e)(Kb:(e.all fun x=>okW x.2)=true)
  (h0:assoc s.heap 0=some (eT p E k st 3 cl 4 sl)) (h3:assoc s.heap 3=some (dY c')) (h4:assoc s.heap 4=some (eZ s')) (h5:assoc s.heap o=some ⟨170,0,cs⟩) (Kr:trees cs=true) :
  Le C s ⟨(41,I kd)::(6,.ai 5 0)::e,[(0,eT p E k st 3 cl 4 sl),(3,dY c'),(4,eZ s'),(5,⟨170,0,cs⟩)],6⟩:=by
 have n0:¬ 0=o:=by omega
 have n3:¬ 3=o:=by omega
 have n4:¬ 4=o:=by omega
 have r0:gA [(0,0),(3,3),(4,4),(o,5)] 6 0=0:=rfl;have r3:gA [(0,0),(3,3),(4,4),(o,5)] 6 3=3:=rfl;have r4:gA [(0,0),(3,3),(4,4),(o,5)] 6 4=4:=rfl;have ro:gA [(0,0),(3,3),(4,4),(o,5)] 6 o=5:=by simp[gA,assoc,n0,n3,n4]
 have ao:(assoc [(0,0),(3,3),(4,4),(o,5)] o).isSome=true:=by simp[assoc,n0,n3,n4]
 have KO:=Le.norm (C:=C) (s:=s) (41::6::ks) [(0,0),(3,3),(4,4),(o,5)] 3 6 (by simp[rz,n0,n3,n4]) (by simp only[List.all_cons,List.all_nil,h0,h3,h4,h5];rfl) ?_ yA
 ·rw[he] at KO;simp only[List.map_cons,List.map_nil,pick,h0,h3,h4,h5,bY,dP] at KO;rw[zO r0 Kb,r0,r3,r4,ro,oY,r3,r4,dY,eZ,cq _ _ _ (bP c'),cq _ _ _ (aJ s'),cq _ _ _ Kr] at KO;simp only[en,ro] at KO;exact KO
 ·unfold e8;rw[he];simp only[List.map_cons,List.map_nil,pick,h0,h3,h4,h5,List.all_cons,List.all_nil,Bool.and_true,Bool.and_eq_true,List.all_eq_true (l:=e)];refine⟨⟨rfl,ao,fun x hx=>HL ((List.all_eq_true.1 Kb) x hx) rfl⟩,yG E k st 3 _ 4 _ _ rfl rfl,aK (bP c') _,aK (aJ s') _,aK Kr _⟩
structure InvB (p:Pg)(g:Nat)(ps:List Pm)(d:Nat)(l:List Sm)(E:List En)(k st:Nat)(c:List In)(s:List Nat)(i:Nat)(V:List ByteArray)(Ei:List En)(ki Oh:Nat)(ci:List In)(si:List Nat):Prop where
 hi:i≤l.length
 he:EW g p.ms (p.fs.map fun f=>(f.name,f.params)) ps V Ei ki
 w:ck p.ms (p.fs.map fun f=>(f.name,f.params)) ps d V (l.drop i)
 l1:Ei.length+bz (l.drop i)≤5000
 l2:ki+bz (l.drop i)≤5000
 l3:ci.length+bz (l.drop i)≤5000
 l4:si.length+bz (l.drop i)≤5000
 l5:Oh+bz (l.drop i)≤1000000
 r1:(bF l E k c.length).2=(bF (l.drop i) Ei ki ci.length).2
 r2:c++(bF l E k c.length).1=ci++(bF (l.drop i) Ei ki ci.length).1
 r3:s++gy l st=si++gy (l.drop i) Oh
 r4:st+ek l=Oh+ek (l.drop i)
def JB (p:Pg)(g:Nat)(ps:List Pm)(d:Nat)(l:List Sm)(E:List En)(k st:Nat)(c:List In)(s:List Nat)(m:Nat)(z:St):Prop:=
 ∃ i V Ei ki Oh ci si,m=l.length-i∧InvB p g ps d l E k st c s i V Ei ki Oh ci si∧z=NS p E l i Ei ki Oh ci si
theorem Em {p:Pg}(hp:PgB p){g:Nat}{ps:List Pm}:∀ (d:Nat) (l:List Sm) (V:List ByteArray) (E:List En) (k st:Nat) (c:List In) (s:List Nat),
  EW g p.ms (p.fs.map fun f=>(f.name,f.params)) ps V E k→ck p.ms (p.fs.map fun f=>(f.name,f.params)) ps d V l→E.length+bz l≤5000→k+bz l≤5000→c.length+bz l≤5000→s.length+bz l≤5000→st+bz l≤1000000→BZ p l E k st c s:=by
 intro d
 induction d using Nat.strongRecOn with
 | _ d ih=>
 intro l V E k st c s hE hw hl hk hc hs Km;unfold BZ;refine Body.je Tryz.func84 rfl lz (by simp[Tryz.ntmps84]) fun C hC xJ=>?_;rw[Tryz.ntmps84] at hC;simp only[T3];have q1:=aj (gP p.gs);have q2:=aj (fj p.ms);have q3:=aj (cf p.fs);have q4:=aj (bS E);have q6:=aj (bk l);apply ah;simp[hC,eT];apply aL;simp[hC];apply T.block;refine T.aI (JB p g ps d l E k st c s) (n:=l.length) ?_ ?_
 ·refine aa.le (Le.up 5 j5) ?_;refine aa.le (jz (p:=p) (E:=E) (k:=k) (st:=st) xJ [5,4,0,1] 1 2 (e:=bE E l 0) (c':=c) (s':=s) rfl (mN _ _ _) (mO _ _ _) rfl rfl rfl rfl (n8 _) rfl rfl rfl) (aa.here ?_);exact⟨0,V,E,k,st,c,s,by omega,⟨by omega,hE,hw,hl,hk,hc,hs,Km,rfl,rfl,rfl,rfl⟩,rfl⟩
 ·rintro m z ⟨i,Vi,Ei,ki,Oh,ci,si,rfl,hI,rfl⟩;by_cases nr:i<l.length
  ·obtain⟨x,NQ⟩:∃ x,l[i]? = some x:=⟨l[i],List.getElem?_eq_getElem nr⟩;have PE:l.drop i=x::l.drop (i+1):=by
    rw[List.drop_eq_getElem_cons nr,(List.getElem?_eq_some_iff.1 NQ).2]
   obtain⟨i1,i2,i3,i4,i5,i6,i7,i8,i9,i10,i11,i12⟩:=hI;rw[PE] at i3 i4 i5 i6 i7 i8 i9 i10 i11 i12;simp only[ck,bz,bF,gy,ek] at i3 i4 i5 i6 i7 i8 i9 i10 i11 i12;obtain⟨PU,Lq⟩:=i3;have oe:=fun Q C hC xJ=>E1 (C:=C) (Q:=Q) hC xJ hp E l i (n:=Oh) (c:=ci) (s:=si) i2 PU yA yA yA yA yA (fun d' Ks l V E k st c s=>ih d' Ks l V E k st c s);obtain⟨v1,_,v3,v4,v5⟩:=vX.1 x d Vi Ei ki ci.length i2 PU;have v6:=qi.1 x Ei ki ci.length Oh;have v7:=uD.1 x;obtain⟨xc,Lp,NZ⟩:=Hh x;have oy:List.drop (i*11) (bh l)=gk x++bh (l.drop (i+1)):=by rw[lS,lS];exact az (f:=gk) (n:=11) jh NQ
   have MD:=xg l;have wi:=cm ((i:Int)+1) yA yA;have YF:=cm ((Oh:Int)+1) yA yA;have YL:trees xc=true:=by
    have:=gv x;rw[Lp,trees] at this;exact (Bool.and_eq_true _ _ ▸ this).2
   have Kk:List.take 10 (xc++bh (l.drop (i+1)))=xc:=by rw[← NZ,List.take_left]
   rw[Lp] at oy;simp only[NS,bE];apply aL;simp[hC,nr];refine gF ?_;simp;apply fw;apply T.seq;refine T.rx af follows [0,1,2,3,4,5,6,7,8,9,10] [(3,8),(7,8),(7,9)] lz ?_;simp[hC,nr,oy,eT,NZ,Kk];apply ah;simp[hC,YF];apply ah;simp[hC];refine T.le (ms_le (p:=p) (E:=Ei) (k:=ki) (st:=Oh+1) (cl:=ci.length) (sl:=si.length) (e:=[(7,I Oh),(5,I i),(4,.au (E.flatMap gq) E.length),(0,.ai 0 0),(1,.au (bh l) l.length)]) xJ [7,5,4,0,1] 13 yA rfl (by simp[okW,tree]) rfl rfl rfl rfl (by rw[trees,YL];rfl)) ?_;rw[← Lp];refine T.cutL _ (oe _ C hC xJ) ?_;rintro z rfl;simp only[nA,eC,NS,bE];apply a8;simp[hC,wi];have UJ:(Ei++ez ki x).length≤Ei.length+1:=by cases x<;>simp[ez]
   have OJ:1≤dB x:=by cases x<;>simp only[dB]<;>omega
   refine⟨l.length-(i+1),by omega,aa.trim [5,4,0,1] [0,3,4] 5 LR yA ⟨i+1,Vi++di x,Ei++ez ki x,(dq x Ei ki ci.length).2,Oh+lT x,ci++(dq x Ei ki ci.length).1,si++sr x Oh,rfl,⟨by omega,v3,Lq,by omega,by omega,by simp only[List.length_append];omega,by simp only[List.length_append];omega,by omega,?_,?_,?_,?_⟩,?_⟩⟩
   ·rw[i9,List.length_append]
   ·rw[i10,List.length_append,List.append_assoc]
   ·rw[i11,List.append_assoc]
   ·rw[i12];omega
   ·simp[NS,bE]
  ·have CW:i=l.length:=by have:=hI.hi;omega
   obtain⟨i1,i2,i3,i4,i5,i6,i7,i8,i9,i10,i11,i12⟩:=hI;rw[CW,List.drop_length] at i9 i10 i11 i12;simp only[bF,gy,ek,List.append_nil,Nat.add_zero] at i9 i10 i11 i12;simp only[NS,bE];apply aL;simp[hC,nr];refine aU ?_;simp;apply T.exit;simp;apply a8;simp[hC,eT];refine aa.trim [] [0,3,4] 5 LR yA ⟨_,rfl,rfl,?_,rfl⟩;have e1:c.length+(bF l E k c.length).1.length=ci.length:=by rw[← i10,List.length_append]
   have e2:s.length+(gy l st).length=si.length:=by rw[← i11,List.length_append]
   rw[e1,e2,i9,i10,i11,i12];simp[T4,eT]
end Go.Proofs.YtlkmbdfhdknlgaaGreatDoor
namespace Go.aT
open Go.Can
theorem gK (c:Nat):∀ (l:List ByteArray) (i:Nat),(Ac c i l).length=l.length
 | [],_=>rfl
 | s::r,i=>by simp[Ac,gK c r]
theorem vg {c:Nat}:∀ {l:List ByteArray} {i j:Nat} {s:ByteArray},l[j]? = some s→(Ac c i l)[j]? = some ⟨s,c,i+j⟩
 | [],_,_,_,h=>by simp at h
 | x::r,i,0,s,h=>by
  simp only[List.getElem?_cons_zero,Option.some.injEq] at h;subst h;rfl
 | x::r,i,j+1,s,h=>by
  simp only[List.getElem?_cons_succ] at h;simp only[Ac,List.getElem?_cons_succ];rw[vg h];congr 2;omega
theorem xI (p:Pg):(cD p).length=p.gs.length+p.ms.length+p.fs.length:=by simp[cD,gK];omega
theorem Ih {p:Pg}{i:Nat}{x:Gl}(h:p.gs[i]? = some x):(cD p)[i]? = some ⟨x.name,1,i⟩:=by
 have hl:=(List.getElem?_eq_some_iff.1 h).1;have h2:(p.gs.map (·.name))[i]? = some x.name:=by rw[List.getElem?_map,h];rfl
 rw[cD,List.append_assoc,List.getElem?_append_left (by rw[gK,List.length_map];exact hl),vg h2,Nat.zero_add]
theorem Ig {p:Pg}{i:Nat}{x:Mx}(h:p.ms[i]? = some x):(cD p)[p.gs.length+i]? = some ⟨x.name,2,i⟩:=by
 have hl:=(List.getElem?_eq_some_iff.1 h).1;have h2:(p.ms.map (·.name))[i]? = some x.name:=by rw[List.getElem?_map,h];rfl
 rw[cD,List.append_assoc,List.getElem?_append_right (by rw[gK,List.length_map];omega),gK,List.length_map,Nat.add_sub_cancel_left,List.getElem?_append_left (by rw[gK,List.length_map];exact hl),vg h2,Nat.zero_add]
theorem Ii {p:Pg}{i:Nat}{x:Fu}(h:p.fs[i]? = some x):(cD p)[p.gs.length+p.ms.length+i]? = some ⟨x.name,3,i⟩:=by
 have h2:(p.fs.map (·.name))[i]? = some x.name:=by rw[List.getElem?_map,h];rfl
 rw[cD,List.getElem?_append_right (by rw[List.length_append,gK,gK,List.length_map,List.length_map];omega),List.length_append,gK,gK,List.length_map,List.length_map,Nat.add_sub_cancel_left,vg h2,Nat.zero_add]
theorem FZ {p:Pg}(h:jg p):((cD p).map (·.name)).Nodup:=by
 obtain⟨a1,a2,_,_⟩:=fC;obtain⟨s1,s2,s3,_⟩:=h.sub;obtain⟨d1,d2,d3,_⟩:=h.nd;rw[cD,List.map_append,List.map_append,ke,ke,ke];refine List.nodup_append.2 ⟨List.nodup_append.2 ⟨d1,d2,fun a ha b hb e=>?_⟩,d3,fun a ha b hb e=>?_⟩
 ·subst e;exact a1 _ (s2 _ hb) (s1 _ ha)
 ·subst e;rcases List.mem_append.1 ha with ha | ha
  ·exact (a2 _ (s3 _ hb)).1 (s1 _ ha)
  ·exact (a2 _ (s3 _ hb)).2 (s2 _ ha)
theorem DO {E:List En}(h:(E.map (·.name)).Nodup){i:Nat}{x:En}(hx:E[i]? = some x):gI (E.take i) x.name=none:=by
 obtain⟨hl,K5⟩:=List.getElem?_eq_some_iff.1 hx;have e:E=E.take i++x::E.drop (i+1):=by rw[← K5,← List.drop_eq_getElem_cons hl,List.take_append_drop]
 have h2:((E.take i++x::E.drop (i+1)).map (·.name)).Nodup:=by rw[← e];exact h
 rw[List.map_append,List.map_cons,List.nodup_append] at h2;rw[om];exact fun hm=>h2.2.2 _ hm _ List.mem_cons_self rfl
end Go.aT
namespace Go.Proofs.YtlkmbdfhdknlgaaGreatDoor
open Go.Can Go.aT
def gr (E:List En):Ob:=⟨118,3,E.flatMap gq⟩
@[simp] theorem DW (E:List En)(n:Nat):(gr E).cells.all (aZ n)=true:=aj (bS E) n
@[simp] theorem enOb_ltS (E:List En)(n:Nat):aO n (gr E).cells=true:=by rw[bU];exact DW E n
@[simp] theorem enOb_frz (E:List En)(o:Nat)(cs:List CV)(n:Nat):(gr E).cells.map (bZ o cs n)=(gr E).cells:=dv (bS E) o cs n
@[simp] theorem enOb_eta (E:List En):(⟨(gr E).elem,(gr E).sz,(gr E).cells⟩:Ob)=gr E:=rfl
@[simp] theorem I2 (ρ:Nat→Nat)(E:List En):cr ρ (gr E)=gr E:=cq _ _ _ (bS E)
def J59B (E:List En)(s:ByteArray)(n:Nat)(st:St):Prop:=∃ i:Nat,n=E.length-i∧i≤E.length∧gI E s=gI (E.drop i) s∧st=⟨[(6,I i),(5,.bool false),(4,.ai 1 0),(0,.bw 0 0 E.length),(1,.str s)],[(1,⟨118,0,[.str ⟨#[]⟩,I 0,I 0]⟩),(0,gr E)],2⟩
theorem xz (E:List En)(s:ByteArray)(hl:E.length≤100000):Body Tryz.prog ak 48 [.bw 0 0 E.length,.str s] [(0,gr E)] 1 (jQ (oq (gI E s)) [(0,gr E)] 1):=by
 have Ld:=fun (i:Nat) (x:En) (h:E[i]? = some x)=>az (f:=gq) (n:=3) jm (m:=E) h;refine Body.je Tryz.func48 rfl lz (by simp[Tryz.ntmps48]) fun C hC xJ=>?_;rw[Tryz.ntmps48] at hC;apply ah;simp[hC];apply aL;simp[hC];apply T.block;refine T.aI (J59B E s) (n:=E.length) ?_ ?_
 ·refine aa.here ⟨0,by omega,by omega,rfl,?_⟩;simp
 ·rintro n st ⟨i,rfl,hi,hf,rfl⟩;by_cases nr:i<E.length
  ·obtain⟨a,KH⟩:∃ a,E[i]? = some a:=⟨E[i],List.getElem?_eq_getElem nr⟩;have oy:=Ld i a KH;have wi:=cm ((i:Int)+1) yA yA;have hd:E.drop i=a::E.drop (i+1):=by
    rw[List.drop_eq_getElem_cons nr,(List.getElem?_eq_some_iff.1 KH).2]
   rw[hd,gI] at hf;apply aL;simp[hC,nr];refine gF ?_;simp;apply fw;apply ah;simp[hC,nr,oy,gq,gx,gr];by_cases hn:a.name=s
   ·rw[if_pos hn] at hf;simp only[hn,decide_true];refine cz ?_;simp;apply ah;simp[hC,nr,oy,gq];apply T.ret;refine aa.le (Le.dC (o:=1) rfl rfl) ?_;simp[dv (bS E)];refine aa.trim [4,5] [0] 1 (by simp[-List.all_eq_true,-List.all_flatMap,aj (bS E)]) yA ⟨_,?_,rfl,?_,rfl⟩
    ·simp[hf,oq,gq]
    ·simp
   ·rw[if_neg hn] at hf;simp only[hn,decide_false];refine dg ?_;simp;apply a8;simp[hC,wi];refine⟨E.length-(i+1),by omega,?_⟩;refine aa.trim [6,5,4,0,1] [1,0] 2 (by simp[-List.all_eq_true,-List.all_flatMap,aj (bS E)]) yA ⟨i+1,rfl,by omega,hf,?_⟩;simp[gr]
  ·have CW:i=E.length:=by omega
   rw[CW,List.drop_length,gI] at hf;apply aL;simp[hC,nr];refine aU ?_;simp;apply T.exit;simp;apply ah;simp[hC];apply T.ret;refine aa.le (Le.dC (o:=1) rfl rfl) ?_;simp;refine aa.trim [4,5] [0] 1 LR yA ⟨_,?_,rfl,?_,rfl⟩
   ·simp[hf,oq]
   ·simp
def J58 (p:Pg)(m:Nat)(s:St):Prop:=∃ i:Nat,m=(cD p).length-i∧i≤(cD p).length∧
 s=⟨[(7,I i),(6,I (cD p).length),(5,I (-1)),(4,.bw 1 0 i),(1,.ai 0 0)],[(0,⟨27,0,dH p⟩),(1,gr ((cD p).take i))],2⟩
theorem xH (p:Pg)(h:jg p)(hm:p.ms.length≤1000)(hf:p.fs.length≤1000)(hg:p.gs.length≤1000):ae Tryz.prog 47 [tv p] (.db [.au ((cD p).flatMap gq) (cD p).length,I (-1)]):=by
 have PE:=xI p;have LC:=FZ h;obtain⟨t1,t2,t3⟩:=gN p;refine ae.aD af Tryz.func47 rfl lz (by simp[Tryz.ntmps47]) rfl fun C hC xJ=>?_;rw[Tryz.ntmps47] at hC;have Y5:=cm ((p.gs.length:Int)+p.ms.length) yA yA;have Vu:=cm ((p.gs.length:Int)+p.ms.length+p.fs.length) yA yA;simp only[tv,dH];apply ah;simp[hC];apply ah;simp[hC];apply ah;simp[hC];apply ah;simp[hC,Y5,Vu];apply aL;simp[hC];apply T.block;refine T.aI (J58 p) (n:=(cD p).length) ?_ ?_
 ·refine aa.le (Le.own 4 118 3 rfl) ?_;simp;refine aa.trim [7,6,5,4,1] [0,1] 2 LR yA ⟨0,by omega,by omega,?_⟩;simp[dH,PE,gr]
 ·rintro n s ⟨i,rfl,hi,rfl⟩;by_cases nr:i<(cD p).length
  ·obtain⟨x,NQ⟩:∃ x,(cD p)[i]? = some x:=⟨(cD p)[i],List.getElem?_eq_getElem nr⟩;have wi:=cm ((i:Int)+1) yA yA;have wd:=cm ((i:Int)-(p.gs.length:Int)) yA yA;apply aL;simp[hC,nr];refine gF ?_;simp;apply fw;apply ah;simp[hC];refine T.cut (fun z=>z=⟨[(8,.ai 2 0),(7,I i),(6,I (cD p).length),(5,I (-1)),(4,.bw 1 0 i),(1,.ai 0 0)],[(0,⟨27,0,dH p⟩),(1,gr ((cD p).take i)),(2,⟨118,0,gq x⟩)],3⟩) ?_ ?_
   ·simp only[dH];by_cases c1:i<p.gs.length
    ·obtain⟨y,hy⟩:∃ y,p.gs[i]? = some y:=⟨p.gs[i],List.getElem?_eq_getElem c1⟩;have hx:=Ih hy;rw[NQ] at hx;cases hx;have oy:=az (f:=mL) (n:=2) (fun _=>rfl) hy;have MU:(i:Int)-(p.gs.length:Int)<0:=by omega
     apply ah;simp[hC,wd];apply T.block;apply ah;simp[hC,MU];refine cz ?_;simp;apply a8;simp[hC,c1,oy,mL];refine aa.trim [8,7,6,5,4,1] [0,1,2] 3 LR yA ?_;simp[gq]
    ·by_cases c2:i<p.gs.length+p.ms.length
     ·obtain⟨j,rfl⟩:∃ j,i=p.gs.length+j:=⟨i-p.gs.length,by omega⟩;have c3:j<p.ms.length:=by omega
      obtain⟨y,hy⟩:∃ y,p.ms[j]? = some y:=⟨p.ms[j],List.getElem?_eq_getElem c3⟩;have hx:=Ig hy;rw[NQ] at hx;cases hx;have oy:=az (f:=eQ) (n:=3) (fun _=>rfl) hy;have Lh:(p.gs.length:Int)+(j:Int)-(p.gs.length:Int)=(j:Int):=by omega
      have wj:=cm (j:Int) yA yA;apply ah;simp[hC,Lh,wj];apply T.block;apply ah;simp[hC];refine aU ?_;simp;apply ah;simp[hC,c3];refine cz ?_;simp;apply a8;simp[hC,c3,oy,eQ];refine aa.trim [8,7,6,5,4,1] [0,1,2] 3 LR yA ?_;simp[gq]
     ·obtain⟨j,rfl⟩:∃ j,i=p.gs.length+p.ms.length+j:=⟨i-p.gs.length-p.ms.length,by omega⟩;have c3:j<p.fs.length:=by omega
      obtain⟨y,hy⟩:∃ y,p.fs[j]? = some y:=⟨p.fs[j],List.getElem?_eq_getElem c3⟩;have hx:=Ii hy;rw[NQ] at hx;cases hx;have oy:=az (f:=ed) (n:=3) (fun _=>rfl) hy;have Lh:(p.gs.length:Int)+(p.ms.length:Int)+(j:Int)-(p.gs.length:Int)=(p.ms.length:Int)+(j:Int):=by omega
      have SR:(p.ms.length:Int)+(j:Int)-(p.ms.length:Int)=(j:Int):=by omega
      have wj:=cm (j:Int) yA yA;have YG:=cm ((p.ms.length:Int)+(j:Int)) yA yA;have Pq:¬ (p.ms.length:Int)+(j:Int)<0:=by omega
      have KV:¬ (p.ms.length:Int)+(j:Int)<(p.ms.length:Int):=by omega
      apply ah;simp[hC,Lh,YG];apply T.block;apply ah;simp[hC,Pq];refine aU ?_;simp;apply ah;simp[hC,KV];refine aU ?_;simp;refine T.rx af follows [0,1,2,3,4,5,6,7,8,9,10,11,12,13,14,15,16] [] lz ?_;simp[hC,SR,wj,c3,oy,ed];refine aa.trim [8,7,6,5,4,1] [0,1,2] 3 LR yA ?_;simp[gq]
   ·rintro z rfl;simp only[dH];have M0:=xz ((cD p).take i) x.name (by rw[List.length_take];omega);rw[DO LC NQ,List.length_take,Nat.min_eq_left yA] at M0;have f1:=aQ (f:=gq) (n:=3) jm ((cD p).take i);rw[List.length_take,Nat.min_eq_left yA] at f1;have Nj:(i+1)*32≤140737488355328:=by omega
    apply aL;simp[hC,gq];refine TL.hZ af 0 1 [1] 1 M0 yI rfl rfl (by simp[cg,en,bl,ev,assoc]) j5 yA j5 j5 (by simp[aO,aZ]) j5 rfl (by simp[cg,en,aZ]) j5 j5 (TL.go' af ?_);simp[hC,oq];apply ah;simp[hC];refine dg ?_;simp;apply a8;simp[hC,f1,Nj,aS,gr];apply a8;simp[hC,wi];have Kk:(cD p).take (i+1)=(cD p).take i++[x]:=by rw[List.take_add_one,NQ];rfl
    refine⟨(cD p).length-(i+1),by omega,?_⟩;refine aa.le (Le.trim [7,6,5,4,1] [0,5] 6 (by simp[-List.all_eq_true,-List.all_flatMap,aj (bS _)]) yA) ?_;simp;refine aa.le (Le.mq 5 1 rfl rfl yA j5 j5 (by simp[-List.all_eq_true,-List.all_flatMap,aY (bS _),n7 5 1 _ t1,n7 5 1 _ t2,n7 5 1 _ t3])) ?_;simp[aM (bS _)];refine aa.trim [7,6,5,4,1] [0,1] 2 (by simp[-List.all_eq_true,-List.all_flatMap,aj (bS _)]) yA ⟨i+1,rfl,by omega,?_⟩;simp[gr,Kk,dH,gq]
  ·have CW:i=(cD p).length:=by omega
   apply aL;simp[hC,nr];refine aU ?_;simp;apply T.exit;simp;apply ah;simp[hC];apply T.ret;subst CW;have tk:List.take ((cD p).length*3) ((cD p).flatMap gq)=(cD p).flatMap gq:=List.take_of_length_le (by rw[aQ (f:=gq) (n:=3) jm];omega);refine aa.le (Le.trim [2,3] [1] 2 LR yA) ?_;simp[List.take_length];refine aa.le (Le.dC (o:=1) rfl (bS _)) ?_;apply aa.here;simp[gr,tk]
end Go.Proofs.YtlkmbdfhdknlgaaGreatDoor
