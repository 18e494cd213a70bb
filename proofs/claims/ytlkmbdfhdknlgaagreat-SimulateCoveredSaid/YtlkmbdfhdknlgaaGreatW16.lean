/- Lemmas. -/
import Derived.Test.YtlkmbdfhdknlgaaGreatW15
namespace Go.Proofs.YtlkmbdfhdknlgaaGreat
open Go.Can Go.aK List Tryz
theorem Nl (e:Ex):e.op=(e.mV:Int):=by cases e<;>simp[Ex.op,Ex.mV]
theorem gO {ns:List ByteArray}:∀ {d:Nat} {e:Ex},gC ns d e->e.mV<=17
 | _,.num _,_=>by simp[Ex.mV]
 | _,.nm _,_=>by simp[Ex.mV]
 | d+1,.un k e,h=>by simp only[gC] at h;simp only[Ex.mV];omega
 | d+1,.bin k a b,h=>by simp only[gC] at h;simp only[Ex.mV];omega
 | 0,.un _ _,h=>h.elim
 | 0,.bin _ _ _,h=>h.elim
 | 0,.zero,h=>h.elim
 | 0,.loc _,h=>h.elim
 | 0,.jE _,h=>h.elim
 | _+1,.zero,h=>h.elim
 | _+1,.loc _,h=>h.elim
 | _+1,.jE _,h=>h.elim
theorem C4 (e:Ex)(i:Nat)(x:Ex)(h:e.args[i]? = some x)(hx:x.mV<=17)(he:e.mV<=17):ae prog 207 [.agg (bf e),I i] (.bool (decide (x.st<e.st) || (decide (x.st=e.st) && decide (i=1)))):=by
 have P1:i<e.args.length:=(List.getElem?_eq_some_iff.1 h).1;have OZ:(e.args.flatMap bf).drop (i*4)=bf x++(e.args.drop (i+1)).flatMap bf:=aL (f:=bf) (n:=4) bC h;have hcx:=gq _ hx;have YL:=gq _ he;have e1:=bZ e;have e2:=bZ x;rw[Nl] at e1 e2;rw[e2] at OZ;rw[e1];clear e1 e2;unfold Ex.st;generalize oW x.mV=sx at *;generalize oW e.mV=se at *;refine ae.aD af Tryz.func207 rfl Bw (by simp[Tryz.ntmps207]) rfl λ C hC M0=>?_;rw[Tryz.ntmps207] at hC;apply aq;simp[hC];apply T.seq;refine T.rx af follows [0,1,2,3,4,5,7,8,6,9,10,11] [(8,6)] Bw ?_;simp[hC,P1,OZ];refine RX.call rfl xr rfl rfl rfl SD (hcx) ?_;simp;refine RX.call rfl xr rfl rfl rfl SD (YL) ?_;simp;apply T.seq;by_cases h1:sx<se
 .apply aM;simp[hC,h1];apply T.ret;apply aa.here;simp[Tryz.results207]
 .by_cases h2:sx=se
  .subst h2;apply aM;simp[hC];apply T.ret;apply aa.here;simp[Tryz.results207]
  .have Wc:((sx:Int) == se)=false:=by simp;omega
   apply aM;simp[hC,h1,Wc];apply T.ret;apply aa.here;simp[Tryz.results207,h2]
def qZ (e x:Ex)(i:Nat):Bool:=decide (x.st<e.st) || (decide (x.st=e.st) && decide (i=1))
def Mn (e:Ex)(ht:Ex->Nat):Nat->List Ex->Nat->Nat
 | _,[],h=>h
 | i,x::r,h=>Mn e ht (i+1) r (max h (ht x+if qZ e x i=true then 1 else 0))
theorem K2 (e:Ex)(ht:Ex->Nat)(B:Nat):∀ (l:List Ex) (i h:Nat),(∀ x∈l,ht x+1<=B)->h<=B->Mn e ht i l h<=B
 | [],_,_,_,h=>h
 | x::r,i,h,hx,hh=>by
  rw[Mn];have:=hx x mem_cons_self;refine K2 e ht B r _ _ (λ y hy=>hx y (mem_cons_of_mem _ hy)) ?_;split<;>omega
def J152 (ht:Ex->Nat)(e:Ex)(H:Nat)(m:Nat)(s:St):Prop:=∃ i h:Nat,m=e.args.length-i/\i<=e.args.length/\h<=101/\Mn e ht i (e.args.drop i) h=H/\s=⟨[(4,I i),(3,I h),(1,.ax 0 0)],[(0,⟨85,0,[I e.mV,I e.n,.str e.name,.az (e.args.flatMap bf) e.args.length]⟩)],1⟩
theorem lX (ht:Ex->Nat)(e:Ex)(he:e.mV<=17)(hlen:e.args.length<=2)(ha:∀ x∈e.args,x.mV<=17/\ht x<=100/\ae prog 191 [.agg (bf x)] (I (ht x))) :
  ae prog 191 [.agg (bf e)] (I ((Mn e ht 0 e.args 0+if oW e.mV=5 then 1 else 0:Nat))):=by
 have SG:=gq _ he;have SF:=λ (i:Nat) (x:Ex) (h:e.args[i]? = some x)=>C4 e i x h (ha x (mem_of_getElem? h)).1 he;have T2:=λ (i:Nat) (x:Ex) (h:e.args[i]? = some x)=>aL (f:=bf) (n:=4) bC (m:=e.args) h;have hB:=K2 e ht 101 e.args 0 0 (λ x hx=>by have:=(ha x hx).2.1;omega) yA;obtain⟨H,hH⟩:∃ H,Mn e ht 0 e.args 0=H:=⟨_,rfl⟩;rw[hH] at hB |-;rw[bZ,Nl] at SF |-;refine ae.aD af Tryz.func191 rfl Bw (by simp[Tryz.ntmps191]) rfl λ C hC M0=>?_;rw[Tryz.ntmps191] at hC;apply aq;simp[hC];apply aq;simp[hC];refine T.cut (λ s=>s=⟨[(3,I H),(1,.ax 0 0)],[(0,⟨85,0,[I e.mV,I e.n,.str e.name,.az (e.args.flatMap bf) e.args.length]⟩)],1⟩) ?_ ?_
 .apply aq;simp[hC];apply T.block;refine T.aI (J152 ht e H) (n:=e.args.length) ?_ ?_
  .refine aa.le (Le.env [4,3,1]) (aa.here ⟨0,0,by omega,by omega,by omega,hH,?_⟩);simp
  .rintro n s ⟨i,h,rfl,Jz,hh,hhA,rfl⟩;by_cases hi:i<e.args.length
   .obtain⟨x,hx⟩:∃ x,e.args[i]? = some x:=⟨e.args[i],getElem?_eq_getElem hi⟩;have OZ:=T2 i x hx;have hd:e.args.drop i=x::e.args.drop (i+1):=by
     rw[drop_eq_getElem_cons hi,(List.getElem?_eq_some_iff.1 hx).2]
    rw[hd,Mn] at hhA;obtain⟨x1,x2,x3⟩:=ha x (mem_of_getElem? hx);have VB:=SF i x hx;rw[show (decide (x.st<e.st) || (decide (x.st=e.st) && decide (i=1)))=qZ e x i from rfl] at VB;have wi:=cr ((i:Int)+1) yA yA;have wh:=cr ((ht x:Int)+1) yA yA;apply aW;simp[hC,hi];refine jk ?_;simp;apply eE;apply aq;simp[hC,hi,OZ];refine cS yBu (x3) ?_;simp[hC];refine T.cut (λ s=>s=⟨[(5,I ((ht x+if qZ e x i=true then 1 else 0:Nat))),(4,I i),(3,I h),(1,.ax 0 0)],[(0,⟨85,0,[I e.mV,I e.n,.str e.name,.az (e.args.flatMap bf) e.args.length]⟩)],1⟩) ?_ ?_
    .apply aq;simp[hC];refine cS SD (VB) ?_;simp;refine T.bw rfl (λ h=>?_) (λ h=>?_)
     .have h1:qZ e x i=true:=by simpa using h
      apply aM;simp[hC,wh];refine aa.le (Le.env [5,4,3,1]) (aa.here ?_);simp[h1]
     .have h1:qZ e x i=false:=by simpa using h
      apply T.skip;simp;refine aa.le (Le.env [5,4,3,1]) (aa.here ?_);simp[h1]
    rintro s rfl;obtain⟨g,hg⟩:∃ g,(ht x+if qZ e x i=true then 1 else 0)=g:=⟨_,rfl⟩;rw[hg] at hhA |-;have WE:g<=101:=by rw[<- hg];split<;>omega
    have VC:(if h<g then (g:Int) else h)=((max h g:Nat):Int):=by
     split<;>omega
    apply aM;simp[hC,VC];apply aM;simp[hC,wi];refine⟨e.args.length-(i+1),by omega,?_⟩;refine aa.le (Le.env [4,3,1]) (aa.here ⟨i+1,max h g,rfl,by omega,by omega,hhA,?_⟩);simp
   .have Rz:i=e.args.length:=by omega
    rw[Rz,drop_length,Mn] at hhA;apply aW;simp[hC,hi];refine bg ?_;simp;apply T.exit;simp;refine aa.le (Le.env [3,1]) (aa.here ?_);simp[hhA]
 .rintro s rfl;have wH:=cr ((H:Int)+1) yA yA;refine T.cut (λ s=>s=⟨[(3,I ((H+if oW e.mV=5 then 1 else 0:Nat)))],[],1⟩) ?_ ?_
  .apply aq;simp[hC];refine cS SD (SG) ?_;simp[hC];refine T.bw rfl (λ h=>?_) (λ h=>?_)
   .have h1:oW e.mV=5:=by simp at h;omega
    apply aM;simp[hC,wH];refine aa.trim [3] [] 1 xr yA ?_;simp[h1]
   .have h1:¬ oW e.mV=5:=by simp at h;omega
    apply T.skip;simp;refine aa.trim [3] [] 1 xr yA ?_;simp[h1]
  .rintro s rfl;apply aq;simp[hC];apply T.ret;apply aa.here;simp[Tryz.results191]
def GJ:Ex->Nat
 | .un k x=>Mn (.un k x) (λ _=>GJ x) 0 [x] 0+1
 | .bin k a b=>max (max 0 (GJ a+if qZ (.bin k a b) a 0=true then 1 else 0)) (GJ b+if qZ (.bin k a b) b 1=true then 1 else 0)
 | _=>0
theorem qb {ns:List ByteArray}:∀ (d:Nat) (e:Ex),d<=5->gC ns d e->GJ e<=2*d/\ae prog 191 [.agg (bf e)] (I (GJ e))
 | d,.num n,_,hw=>⟨by simp[GJ],by
  have h:=lX GJ (.num n) (gO hw) V2 V2;exact h⟩
 | d,.nm n,_,hw=>⟨by simp[GJ],by
  have h:=lX GJ (.nm n) (gO hw) V2 V2;exact h⟩
 | d+1,.un k x,hd,hw=>by
  have Tj:=hw;simp only[gC] at Tj;obtain⟨i1,i2⟩:=qb d x yA Tj.2;have h:=lX GJ (.un k x) (gO hw) V2 (by
   intro y hy;simp only[Ex.args,mem_singleton] at hy;subst hy;exact⟨gO Tj.2,by omega,i2⟩)
  have h5:oW (Ex.un k x).mV=5:=by
   simp only[Ex.mV];have:=Tj.1;have:∀ k,k<2->oW (3+k)=5:=by decide
   exact this k Tj.1
  rw[if_pos h5] at h;refine⟨?_,h⟩;simp only[GJ,Mn];split<;>omega
 | d+1,.bin k a b,hd,hw=>by
  have Tj:=hw;simp only[gC] at Tj;obtain⟨i1,i2⟩:=qb d a yA Tj.2.1;obtain⟨j1,j2⟩:=qb d b yA Tj.2.2;have h:=lX GJ (.bin k a b) (gO hw) V2 (by
   intro y hy;simp only[Ex.args,mem_cons,not_mem_nil,or_false] at hy;rcases hy with rfl | rfl
   .exact⟨gO Tj.2.1,by omega,i2⟩
   .exact⟨gO Tj.2.2,by omega,j2⟩)
  have h5:¬ oW (Ex.bin k a b).mV=5:=by
   simp only[Ex.mV];have:=Tj.1;have:∀ k,k<13->¬ oW (5+k)=5:=by decide
   exact this k Tj.1
  rw[if_neg h5] at h;refine⟨?_,h⟩;simp only[GJ];split<;>split<;>omega
 | 0,.un _ _,_,h=>h.elim
 | 0,.bin _ _ _,_,h=>h.elim
 | 0,.zero,_,h=>h.elim
 | 0,.loc _,_,h=>h.elim
 | 0,.jE _,_,h=>h.elim
 | _+1,.zero,_,h=>h.elim
 | _+1,.loc _,_,h=>h.elim
 | _+1,.jE _,_,h=>h.elim
def oC (s:ByteArray):Prop:=dI s/\bs s∉uz
theorem HD (n:Nat)(hn:n<4611686018427387904):ae prog 190 [.agg (bf (.num n))] (.bool true):=by
 have SG:ae prog 206 [I (1:Nat)] (I 6):=gq 1 yA;refine ae.aD af Tryz.func190 rfl Bw (by simp[Tryz.ntmps190]) rfl λ C hC M0=>?_;rw[Tryz.ntmps190] at hC;apply aq;simp[hC];apply aq;simp[hC];refine T.cut (λ s=>s=⟨[(3,.int .i64 0),(1,.ax 0 0)],[(0,⟨85,0,bf (.num n)⟩)],1⟩) ?_ ?_
 .apply aq;simp[hC,bf,eS];refine cS SD (SG) ?_;simp;apply T.block;apply aq;simp[hC];refine du ?_;simp;apply aq;simp[hC];apply T.seq;have Vt:(0:Int)<=n:=by omega
  refine T.rx af follows [0,1,2,3,4,5,6,7,8,9,10,11,12,13,14,15,16,17,18,19,20,21,22,23,24,25,26,27] [(10,24)] Bw ?_;simp[hC,Vt,jv];apply aq;simp[hC];refine bg ?_;simp;apply T.skip;simp;refine aa.trim [3,1] [0] 1 xr yA ?_;simp
 .rintro s rfl;apply aW;simp[hC,bf,eS];refine bg ?_;simp;apply T.skip;simp;apply aW;simp[hC];apply T.block;refine T.aI (λ m s=>s=⟨[(6,.int .i64 0),(3,.int .i64 0),(1,.ax 0 0)],[(0,⟨85,0,bf (.num n)⟩)],1⟩) (n:=0) ?_ ?_
  .refine aa.trim [6,3,1] [0] 1 xr yA ?_;simp[bf,eS]
  .rintro m s rfl;apply aW;simp[hC];refine bg ?_;simp;apply T.exit;simp;apply aq;simp[hC];apply T.ret;apply aa.here;simp[Tryz.results190]
theorem JK (x:ByteArray)(hx:oC x):ae prog 190 [.agg (bf (.nm x))] (.bool true):=by
 have SG:ae prog 206 [I (2:Nat)] (I 6):=gq 2 yA;have Tu:=kz x hx.1 hx.2;refine ae.aD af Tryz.func190 rfl Bw (by simp[Tryz.ntmps190]) rfl λ C hC M0=>?_;rw[Tryz.ntmps190] at hC;apply aq;simp[hC];apply aq;simp[hC];refine T.cut (λ s=>s=⟨[(3,.int .i64 0),(1,.ax 0 0)],[(0,⟨85,0,bf (.nm x)⟩)],1⟩) ?_ ?_
 .apply aq;simp[hC,bf];refine cS SD (SG) ?_;simp;apply T.block;apply aq;simp[hC];refine du ?_;simp;apply aq;simp[hC];apply T.seq;refine T.rx af follows [0,1,2,3,4,5,6,7,8,9,10,11,12,13,14,15,16,17,18,19,20,21,22,23,24,25,26,27] [(10,24)] Bw ?_;simp[hC];refine RX.call rfl xr rfl rfl rfl SD (Tu) ?_;simp;apply aq;simp[hC];refine bg ?_;simp;apply T.skip;simp;refine aa.trim [3,1] [0] 1 xr yA ?_;simp
 .rintro s rfl;apply aW;simp[hC,bf];refine bg ?_;simp;apply T.skip;simp;apply aW;simp[hC];apply T.block;refine T.aI (λ m s=>s=⟨[(6,.int .i64 0),(3,.int .i64 0),(1,.ax 0 0)],[(0,⟨85,0,bf (.nm x)⟩)],1⟩) (n:=0) ?_ ?_
  .refine aa.trim [6,3,1] [0] 1 xr yA ?_;simp[bf]
  .rintro m s rfl;apply aW;simp[hC];refine bg ?_;simp;apply T.exit;simp;apply aq;simp[hC];apply T.ret;apply aa.here;simp[Tryz.results190]
theorem xa (e:Ex)(st:Nat)(he:e.mV<=17)(Sz:oW e.mV=st)(h6:st<=5)(hn:e.n=0)(Tu:e.name=eS)(hlen:e.args.length=if st=5 then 1 else 2)(ha:∀ x∈e.args,ae prog 190 [.agg (bf x)] (.bool true)):ae prog 190 [.agg (bf e)] (.bool true):=by
 have SG:=gq _ he;rw[Sz] at SG;have T2:=λ (i:Nat) (x:Ex) (h:e.args[i]? = some x)=>aL (f:=bf) (n:=4) bC (m:=e.args) h;rw[bZ,Nl,hn,Tu];obtain⟨al,VJ⟩:∃ al,e.args.length=al:=⟨_,rfl⟩;rw[VJ] at hlen;have h6':¬ (st:Int)=6:=by omega
 refine ae.aD af Tryz.func190 rfl Bw (by simp[Tryz.ntmps190]) rfl λ C hC M0=>?_;rw[Tryz.ntmps190] at hC;apply aq;simp[hC];apply aq;simp[hC];refine T.cut (λ s=>s=⟨[(3,I al),(1,.ax 0 0)],[(0,⟨85,0,[I e.mV,I 0,.str eS,.az (e.args.flatMap bf) al]⟩)],1⟩) ?_ ?_
 .apply aq;simp[hC,VJ];refine cS SD (SG) ?_;simp;apply T.block;apply aq;simp[hC];refine T.bw rfl (λ h=>?_) (λ h=>?_)
  .simp at h;omega
  apply aq;simp[hC];refine T.bw rfl (λ h=>?_) (λ h=>?_)
  .have h5:st=5:=by simp at h;omega
   rw[if_pos h5] at hlen;apply aM;simp[hC];refine aa.trim [3,1] [0] 1 xr yA ?_;simp[hlen]
  .have h5:¬ st=5:=by simp at h;omega
   rw[if_neg h5] at hlen;apply T.skip;simp;refine aa.trim [3,1] [0] 1 xr yA ?_;simp[hlen]
 .rintro s rfl;have Wa:0<al:=by rw[hlen];split<;>omega
  have hal2:al<=2:=by rw[hlen];split<;>omega
  apply aW;simp[hC,Wa,eS,kP];refine bg ?_;simp;apply T.skip;simp;apply aW;simp[hC];apply T.block;refine T.aI (λ m s=>∃ i:Nat,m=al-i/\i<=al/\s=⟨[(6,I i),(3,I al),(1,.ax 0 0)],[(0,⟨85,0,[I e.mV,I 0,.str ⟨#[]⟩,.az (e.args.flatMap bf) al]⟩)],1⟩) (n:=al) ?_ ?_
  .refine aa.trim [6,3,1] [0] 1 xr yA ⟨0,by omega,by omega,?_⟩;simp
  .rintro m s ⟨i,rfl,hi,rfl⟩;by_cases Jz:i<al
   .obtain⟨x,hx⟩:∃ x,e.args[i]? = some x:=⟨e.args[i],getElem?_eq_getElem yA⟩;have OZ:=T2 i x hx;have hcx:=ha x (mem_of_getElem? hx);have wi:=cr ((i:Int)+1) yA yA;apply aW;simp[hC,Jz];refine jk ?_;simp;apply eE;apply aq;simp[hC,Jz,OZ];refine cS yBu (hcx) ?_;simp[hC];refine bg ?_;simp;apply T.skip;simp;apply aM;simp[hC,wi];refine⟨al-(i+1),by omega,?_⟩;refine aa.trim [6,3,1] [0] 1 xr yA ⟨i+1,rfl,by omega,?_⟩;simp
   .apply aW;simp[hC,Jz];refine bg ?_;simp;apply T.exit;simp;apply aq;simp[hC];apply T.ret;apply aa.here;simp[Tryz.results190]
theorem sy {ns:List ByteArray}(Vr:∀ s∈ns,oC s):∀ (d:Nat) (e:Ex),gC ns d e->ae prog 190 [.agg (bf e)] (.bool true)
 | _,.num n,hw=>HD n (by simpa [gC] using hw)
 | _,.nm s,hw=>JK s (Vr s (by simpa [gC] using hw))
 | d+1,.un k x,hw=>by
  have Tj:=hw;simp only[gC] at Tj;have h5:oW (Ex.un k x).mV=5:=(by decide:∀ k,k<2->oW (3+k)=5) k Tj.1;refine xa (.un k x) 5 (gO hw) h5 yA rfl rfl rfl ?_;intro y hy;simp only[Ex.args,mem_singleton] at hy;subst hy;exact sy Vr d _ Tj.2
 | d+1,.bin k a b,hw=>by
  have Tj:=hw;simp only[gC] at Tj;have h5:oW (Ex.bin k a b).mV<=4:=(by decide:∀ k,k<13->oW (5+k)<=4) k Tj.1;refine xa (.bin k a b) _ (gO hw) rfl yA rfl rfl ?_ ?_
  .rw[if_neg yA];rfl
  .intro y hy;simp only[Ex.args,mem_cons,not_mem_nil,or_false] at hy;rcases hy with rfl | rfl
   .exact sy Vr d _ Tj.2.1
   .exact sy Vr d _ Tj.2.2
 | 0,.un _ _,h=>h.elim
 | 0,.bin _ _ _,h=>h.elim
 | 0,.zero,h=>h.elim
 | 0,.loc _,h=>h.elim
 | 0,.jE _,h=>h.elim
 | _+1,.zero,h=>h.elim
 | _+1,.loc _,h=>h.elim
 | _+1,.jE _,h=>h.elim
theorem gF {ns:List ByteArray}(Vr:∀ s∈ns,oC s)(d:Nat)(e:Ex)(hd:d<=5)(hw:gC ns d e):ae prog 160 [.agg (bf e)] (.bool true):=by
 obtain⟨h1,h2⟩:=qb d e hd hw;have h3:=sy Vr d e hw;have h4:(GJ e:Int)<=24:=by omega
 refine ae.aD af Tryz.func160 rfl Bw (by simp[Tryz.ntmps160]) rfl λ C hC M0=>?_;rw[Tryz.ntmps160] at hC;apply aq;simp[hC];apply aq;simp[hC];refine cS yBu (h3) ?_;simp[hC];refine TL.cN Rg rfl rfl rfl rfl (bW.of rfl yBu (h2)) (TL.go' af ?_);simp[hC,h4];apply T.ret;apply aa.here;simp[Tryz.results160]
theorem qE (n:Int)(h:0<=n/\n<18446744073709551616):IntKind.u64.wrap n=n:=by
 exact IntWalk.u64_in n ⟨h.1,by omega⟩
def Dn (m:Nat)(s:ByteArray):ByteArray:=if m=0 then s else lq m++s
theorem Fj (n:Nat):lq n=Dn (n / 10) (eR (48+n % 10)):=by
 unfold Dn;rw[lq];split
 .rename_i h;rw[if_pos yA,Nat.mod_eq_of_lt h]
 .rw[if_neg yA]
theorem Ir (m:Nat)(s:ByteArray)(h:0<m):Dn m s=Dn (m / 10) (eR (48+m % 10)++s):=by
 unfold Dn;rw[if_neg yA,lq];split
 .rename_i h1;rw[if_pos yA,Nat.mod_eq_of_lt h1]
 .rw[if_neg yA,ByteArray.append_assoc]
def J153 (T:ByteArray)(m:Nat)(s:St):Prop:=∃ x:ByteArray,x.size+m<=9223372036854775807/\Dn m x=T/\s=⟨[(3,.str x),(0,.int .u64 m)],[],0⟩
theorem zU (n:Nat)(hn:n<9223372036854775808):ae prog 192 [.int .u64 n] (.str (lq n)):=by
 rw[Fj];obtain⟨X,hT⟩:∃ X,Dn (n / 10) (eR (48+n % 10))=X:=⟨_,rfl⟩;rw[hT];have m1:(n:Int).tmod 10=((n % 10:Nat):Int):=by rw[Int.tmod_eq_emod_of_nonneg yA];omega
 have d1:(n:Int).tdiv 10=((n / 10:Nat):Int):=by rw[Int.tdiv_eq_ediv_of_nonneg yA];omega
 refine ae.aD af Tryz.func192 rfl Bw (by simp[Tryz.ntmps192]) rfl λ C hC M0=>?_;rw[Tryz.ntmps192] at hC;apply aq;simp[hC];obtain⟨q,hq⟩:∃ q,n % 10=q:=⟨_,rfl⟩;have hq9:q<10:=by omega
 have m2:(n:Int) % 10=(q:Int):=by omega
 have w1:=qE (48+(q:Int)) yA;have w1b:=qE (q:Int) yA;have w2:IntKind.u8.wrap (48+(q:Int))=48+(q:Int):=IntWalk.u8_in _ yA;have w3:(0:Int)<=48+(q:Int)/\48+(q:Int)<256:=by omega
 have w4:(48+(q:Int)).toNat=48+q:=by omega
 refine T.seq (T.D2 af ?_);simp[hC,m1,hq,w1,w2,w3,w4];refine T.le (Le.trim [3,0] [] 0 xr yA) ?_;simp;have WJ:(⟨#[48+UInt8.ofNat q]⟩:ByteArray)=eR (48+q):=by simp[eR]
 rw[WJ];have wd:=qE ((n / 10:Nat):Int) yA;have d2:(n:Int) / 10=((n / 10:Nat):Int):=by omega
 obtain⟨m0,V6⟩:∃ m0,n / 10=m0:=⟨_,rfl⟩;rw[V6] at d1 d2 wd hT;rw[hq] at hT;apply aW;simp[hC,d1,wd];apply T.block;refine T.aI (J153 X) (n:=m0) ?_ ?_
 .refine aa.trim [3,0] [] 0 xr yA ⟨eR (48+q),?_,hT,?_⟩
  .have:(eR (48+q)).size=1:=rfl;omega
  .simp
 .rintro m s ⟨x,hx,hX,rfl⟩;by_cases hm:0<m
  .have hm':(0:Int)<m:=by omega
   rw[Ir m x hm] at hX;obtain⟨r,hr⟩:∃ r,m % 10=r:=⟨_,rfl⟩;have hr9:r<10:=by omega
   have m1:(m:Int).tmod 10=(r:Int):=by rw[Int.tmod_eq_emod_of_nonneg yA];omega
   have m2:(m:Int) % 10=(r:Int):=by omega
   have v1:=qE (48+(r:Int)) yA;have v1b:=qE (r:Int) yA;have v2:IntKind.u8.wrap (48+(r:Int))=48+(r:Int):=IntWalk.u8_in _ yA;have v3:(0:Int)<=48+(r:Int)/\48+(r:Int)<256:=by omega
   have v4:(48+(r:Int)).toNat=48+r:=by omega
   have e1:(m:Int).tdiv 10=((m / 10:Nat):Int):=by rw[Int.tdiv_eq_ediv_of_nonneg yA];omega
   have e2:(m:Int) / 10=((m / 10:Nat):Int):=by omega
   have ve:=qE ((m / 10:Nat):Int) yA;rw[hr] at hX;have hch2:(⟨#[48+UInt8.ofNat r]⟩:ByteArray)=eR (48+r):=by simp[eR]
   have SB:(eR (48+r)).size=1:=rfl;have so:=aB (eR (48+r)) x yA;obtain⟨m',hm'⟩:∃ m',m / 10=m':=⟨_,rfl⟩;rw[hm'] at e1 e2 ve hX;apply aW;simp[hC,hm];refine jk ?_;simp;apply eE;refine T.D2 af ?_;simp[hC,m1,v1,v2,v3,v4,hch2,so];apply aM;simp[hC,e1,ve];refine⟨m',by omega,?_⟩;refine aa.trim [3,0] [] 0 xr yA ⟨eR (48+r)++x,?_,hX,?_⟩
   .rw[ByteArray.size_append];omega
   .simp
  .have V6:m=0:=by omega
   subst V6;have hxT:x=X:=by simpa [Dn] using hX
   apply aW;simp[hC];refine bg ?_;simp;apply T.exit;simp;apply aq;simp[hC];apply T.ret;apply aa.here;simp[Tryz.results192,hxT]
theorem qW (n:Int)(h1 : -1000<=n)(h2:n<9223372036854775808):ae prog 164 [I n] (.str (mv n)):=by
 refine ae.aD af Tryz.func164 rfl Bw (by simp[Tryz.ntmps164]) rfl λ C hC M0=>?_;rw[Tryz.ntmps164] at hC;apply aq;simp[hC];apply aW;simp[hC];refine T.bw rfl (λ h=>?_) (λ h=>?_)
 .have hn:n<0:=by simpa using h
  obtain⟨m,hm⟩:∃ m:Nat,n=-(m:Int):=⟨(-n).toNat,by omega⟩;subst hm;have ZE:=zU m yA;have w1:=cr (-(m:Int)+1) yA yA;have w2:=cr (-(-(m:Int)+1)) yA yA;have w3:=qE (-(-(m:Int)+1)) yA;have w4:=qE (-(-(m:Int)+1)+1) yA;have e5 : -(-(m:Int)+1)+1=(m:Int):=by omega
  have w5:=qE (m:Int) yA;have SB:(lq m).size<=19:=by
   have:=(Bj m).2.2.2 18 yA;rw[mK] at this;exact this
  have so:=aB ⟨#[45]⟩ (lq m) (by have:(⟨#[45]⟩:ByteArray).size=1:=rfl;omega);refine T.seq (T.D2 af ?_);simp[hC,w1,w2,w3,e5,w5];refine cS SD (ZE) ?_;simp[hC,so];apply T.ret;apply aa.here;have hnT:mv (-(m:Int))=⟨#[45]⟩++lq m:=by
   unfold mv;rw[if_pos hn];simp
  rw[hnT];simp[Tryz.results164]
 .have hn:¬ n<0:=by simpa using h
  obtain⟨m,hm⟩:∃ m:Nat,n=(m:Int):=⟨n.toNat,by omega⟩;subst hm;have ZE:=zU m yA;have w5:=qE (m:Int) yA;apply T.skip;simp;refine T.seq (T.D2 af ?_);simp[hC,w5];refine cS SD (ZE) ?_;simp[hC];apply T.ret;apply aa.here;have hnT:mv (m:Int)=lq m:=by
   unfold mv;rw[if_neg hn];simp
  rw[hnT];simp[Tryz.results164]
def wV (e x:Ex)(i:Nat):ByteArray:=vN (qZ e x i) (jK x)
theorem HY (b:Bool)(x:ByteArray):(vN b x).size<=x.size+2:=by
 unfold vN;split
 .rw[ByteArray.size_append,ByteArray.size_append];have h1:(⟨#[40]⟩:ByteArray).size=1:=rfl;have h2:(⟨#[41]⟩:ByteArray).size=1:=rfl;omega
 .omega
def J154 (e:Ex)(tl:List ByteArray)(n:Nat)(s:St):Prop:=∃ i:Nat,n=e.args.length-i/\i<=e.args.length/\s=⟨[(4,I i),(3,.a7 1 0 i),(1,.ax 0 0)],[(0,⟨85,0,[I e.mV,I e.n,.str e.name,.az (e.args.flatMap bf) e.args.length]⟩),(1,bu (tl.take i))],2⟩
theorem QM:∀ k,k<13->oW (5+k)<=4/\∃ i,i<(xB (oW (5+k))).2.length/\(xB (oW (5+k))).1.length=(xB (oW (5+k))).2.length/\(xB (oW (5+k))).2[i]? = some ((5+k:Nat):Int)/\(xB (oW (5+k))).1[i]? = some (FA.getD k ⟨#[]⟩)/\(xB (oW (5+k))).2.length<=6/\∀ j,j<i->∀ o,(xB (oW (5+k))).2[j]? = some o->o≠((5+k:Nat):Int)
 | 0,_=>⟨by decide,0,by decide,rfl,rfl,rfl,by decide,by decide⟩
 | 1,_=>⟨by decide,1,by decide,rfl,rfl,rfl,by decide,by decide⟩
 | 2,_=>⟨by decide,2,by decide,rfl,rfl,rfl,by decide,by decide⟩
 | 3,_=>⟨by decide,0,by decide,rfl,rfl,rfl,by decide,by decide⟩
 | 4,_=>⟨by decide,1,by decide,rfl,rfl,rfl,by decide,by decide⟩
 | 5,_=>⟨by decide,2,by decide,rfl,rfl,rfl,by decide,by decide⟩
 | 6,_=>⟨by decide,3,by decide,rfl,rfl,rfl,by decide,by decide⟩
 | 7,_=>⟨by decide,4,by decide,rfl,rfl,rfl,by decide,by decide⟩
 | 8,_=>⟨by decide,5,by decide,rfl,rfl,rfl,by decide,by decide⟩
 | 9,_=>⟨by decide,0,by decide,rfl,rfl,rfl,by decide,by decide⟩
 | 10,_=>⟨by decide,1,by decide,rfl,rfl,rfl,by decide,by decide⟩
 | 11,_=>⟨by decide,0,by decide,rfl,rfl,rfl,by decide,by decide⟩
 | 12,_=>⟨by decide,0,by decide,rfl,rfl,rfl,by decide,by decide⟩
 | _+13,h=>absurd h yA
theorem pQ (e:Ex)(tl:List ByteArray)(SM:tl.length=e.args.length)(he:e.mV<=17)(VJ:e.args.length<=2)(R:ByteArray)
  (ha:∀ i x,e.args[i]? = some x->x.mV<=17/\ae prog 193 [.agg (bf x)] (.str (jK x))/\(jK x).size<=100000/\tl[i]? = some (wV e x i))
  (hR:(∃ n:Nat,e=.num n/\n<4611686018427387904/\R=lq n)\/(∃ x,e=.nm x/\R=x)\/(∃ k x,e=.un k x/\k<2/\R=(if k=0 then ⟨#[45]⟩ else ⟨#[33]⟩)++tl.getD 0 eS)\/(∃ k a b,e=.bin k a b/\k<13/\R=tl.getD 0 eS++⟨#[32]⟩++FA.getD k ⟨#[]⟩++⟨#[32]⟩++tl.getD 1 eS)):ae prog 193 [.agg (bf e)] (.str R):=by
 have T2:=λ (i:Nat) (x:Ex) (h:e.args[i]? = some x)=>aL (f:=bf) (n:=4) bC (m:=e.args) h;have SF:=λ (i:Nat) (x:Ex) (h:e.args[i]? = some x)=>C4 e i x h (ha i x h).1 he;have TS:∀ x∈tl,x.size<=100002:=by
  intro x hx;obtain⟨i,hi⟩:=getElem?_of_mem hx;have Jz:i<e.args.length:=by rw[<- SM];exact (List.getElem?_eq_some_iff.1 hi).1
  obtain⟨y,hy⟩:∃ y,e.args[i]? = some y:=⟨e.args[i],getElem?_eq_getElem Jz⟩;obtain⟨_,_,h3,h4⟩:=ha i y hy;rw[hi] at h4;cases h4;have:=HY (qZ e y i) (jK y);unfold wV;omega
 rw[bZ,Nl] at SF |-;refine ae.aD af Tryz.func193 rfl Bw (by simp[Tryz.ntmps193]) rfl λ C hC M0=>?_;rw[Tryz.ntmps193] at hC;apply aq;simp[hC];apply aq;simp[hC];refine T.cut (λ s=>s=⟨[(3,.a7 1 0 e.args.length),(1,.ax 0 0)],[(0,⟨85,0,[I e.mV,I e.n,.str e.name,.az (e.args.flatMap bf) e.args.length]⟩),(1,bu tl)],2⟩) ?_ ?_
 .apply aq;simp[hC];apply T.block;refine T.aI (J154 e tl) (n:=e.args.length) ?_ ?_
  .refine aa.le (Le.own 3 9 1 rfl) ?_;simp;refine aa.trim [4,3,1] [0,1] 2 xr yA ⟨0,by omega,by omega,?_⟩;simp[bu]
  .rintro n s ⟨i,rfl,Jz,rfl⟩;by_cases hi:i<e.args.length
   .obtain⟨x,hx⟩:∃ x,e.args[i]? = some x:=⟨e.args[i],getElem?_eq_getElem hi⟩;have OZ:=T2 i x hx;obtain⟨x1,x2,x3,x4⟩:=ha i x hx;have VB:=SF i x hx;rw[show (decide (x.st<e.st) || (decide (x.st=e.st) && decide (i=1)))=qZ e x i from rfl] at VB;have wi:=cr ((i:Int)+1) yA yA;apply aW;simp[hC,hi];refine jk ?_;simp;apply eE;apply aq;simp[hC,hi,OZ];refine cS yBu (x2) ?_;simp[hC];refine T.cut (λ s=>s=⟨[(5,.str (wV e x i)),(4,I i),(3,.a7 1 0 i),(1,.ax 0 0)],[(0,⟨85,0,[I e.mV,I e.n,.str e.name,.az (e.args.flatMap bf) e.args.length]⟩),(1,bu (tl.take i))],2⟩) ?_ ?_
    .apply aq;simp[hC];refine cS SD (VB) ?_;simp;refine T.bw rfl (λ h=>?_) (λ h=>?_)
     .have h1:qZ e x i=true:=by simpa using h
      have s1:=aB ⟨#[40]⟩ (jK x) (by have:(⟨#[40]⟩:ByteArray).size=1:=rfl;omega);have s2:=aB (⟨#[40]⟩++jK x) ⟨#[41]⟩ (by rw[ByteArray.size_append];have:(⟨#[40]⟩:ByteArray).size=1:=rfl;have:(⟨#[41]⟩:ByteArray).size=1:=rfl;omega);apply aM;simp[hC,s1,s2];refine aa.trim [5,4,3,1] [0,1] 2 xr yA ?_;simp[wV,vN,h1]
     .have h1:qZ e x i=false:=by simpa using h
      apply T.skip;simp;refine aa.trim [5,4,3,1] [0,1] 2 xr yA ?_;simp[wV,vN,h1]
    rintro s rfl;have WW:(i+1)*16<=140737488355328:=by omega
    have ZO:(bu (tl.take i)).cells.length=i:=by simp[bu];omega
    have hws:(bu (tl.take i)).sz=1:=rfl;have hwe:(bu (tl.take i)).elem=9:=rfl;apply aM;simp[hC,WW,ZO,hws,hwe,aY];apply aM;simp[hC,wi];refine⟨e.args.length-(i+1),by omega,?_⟩;refine aa.le (Le.trim [4,3,1] [0,3] 4 U2 yA) ?_;simp;refine aa.le (Le.qt 3 1 rfl rfl yA xr xr U2) ?_;simp;refine aa.trim [4,3,1] [0,1] 2 U2 yA ⟨i+1,rfl,by omega,?_⟩;have SE:tl.take (i+1)=tl.take i++[wV e x i]:=by rw[take_add_one,x4];rfl
    rw[SE];simp[bu]
   .have Rz:i=e.args.length:=by omega
    apply aW;simp[hC,hi];refine bg ?_;simp;apply T.exit;simp;refine aa.trim [3,1] [0,1] 2 xr yA ?_;rw[Rz,<- SM,take_length];simp
 .rintro s rfl;rcases hR with ⟨n,rfl,hn,rfl⟩ | ⟨x,rfl,rfl⟩ | ⟨k,x,rfl,hk,rfl⟩ | ⟨k,a,b,rfl,hk,rfl⟩
  .have hcn:=qW n yA yA;have hnT:mv (n:Int)=lq n:=by
    unfold mv;rw[if_neg yA];simp
   rw[hnT] at hcn;apply eE;apply aq;simp[hC,Ex.mV,Ex.n,Ex.name,Ex.args];refine du ?_;simp;apply aq;simp[hC];refine cS SD (hcn) ?_;simp[hC];apply T.ret;apply aa.here;simp[Tryz.results193]
  .apply eE;apply aq;simp[hC,Ex.mV,Ex.n,Ex.name,Ex.args];refine bg ?_;simp;apply aq;simp[hC];refine du ?_;simp;apply aq;simp[hC];apply T.ret;apply aa.here;simp[Tryz.results193]
  .have h1:tl.length=1:=SM;have OZ:=jR (ns:=tl) (i:=0) yA;rw[drop_zero] at OZ;have Tu:(bu tl).cells=.str (tl.getD 0 eS)::(tl.map CV.str).drop 1:=OZ;have Vr:(bu tl).sz=1:=rfl;have SB:=TS (tl.getD 0 eS) (jV yA eS);generalize tl.getD 0 eS=t0 at Tu SB;have s45:(⟨#[45]⟩:ByteArray).size=1:=rfl;have s33:(⟨#[33]⟩:ByteArray).size=1:=rfl;apply eE
   match k,hk with
   | 0,_=>
    have so:=aB ⟨#[45]⟩ t0 yA;apply aq;simp[hC,Ex.mV,Ex.n,Ex.name,Ex.args];refine bg ?_;simp;apply aq;simp[hC];refine bg ?_;simp;apply aq;simp[hC];refine du ?_;simp;apply aq;simp[hC,Tu,so];apply T.ret;apply aa.here;simp[Tryz.results193]
   | 1,_=>
    have so:=aB ⟨#[33]⟩ t0 yA;apply aq;simp[hC,Ex.mV,Ex.n,Ex.name,Ex.args];refine bg ?_;simp;apply aq;simp[hC];refine bg ?_;simp;apply aq;simp[hC];refine bg ?_;simp;apply aq;simp[hC];refine du ?_;simp;apply aq;simp[hC,Tu,so];apply T.ret;apply aa.here;simp[Tryz.results193]
  .have h1:tl.length=2:=SM;have OZ:=jR (ns:=tl) (i:=0) yA;have Uq:=jR (ns:=tl) (i:=1) yA;rw[drop_zero,Uq] at OZ;have Tu:(bu tl).cells=[.str (tl.getD 0 eS),.str (tl.getD 1 eS)]:=by
    have e3:(tl.map CV.str).drop (1+1)=[]:=drop_eq_nil_of_le Tv;rw[e3] at OZ;exact OZ
   have Vr:(bu tl).sz=1:=rfl;have hsz0:=TS (tl.getD 0 eS) (jV yA eS);have Yk:=TS (tl.getD 1 eS) (jV yA eS);generalize tl.getD 0 eS=t0 at Tu hsz0;generalize tl.getD 1 eS=t1 at Tu Yk;obtain⟨hst4,ix,VB,Ym,Vu,W3,h6,Yw⟩:=QM k hk;have hbz:(FA.getD k ⟨#[]⟩).size<=2:=(by decide:∀ k,k<13->(FA.getD k ⟨#[]⟩).size<=2) k hk;have S8:=gq (5+k) yA;have hcg:=JI _ hst4;generalize FA.getD k ⟨#[]⟩=bo at W3 hbz;generalize oW (5+k)=sk at S8 hcg VB Ym Vu W3 h6 Yw hst4;generalize Xz:(xB sk).1=sl at *;generalize hog:(xB sk).2=ol at *;have n1:((5+k:Nat):Int)=5+(k:Int):=by omega
   rw[n1] at S8 Vu Yw;have k1:((5:Int)+k == 1)=false:=by simp;omega
   have k2:((5:Int)+k == 2)=false:=by simp;omega
   have k3:((5:Int)+k == 3)=false:=by simp;omega
   have k4:((5:Int)+k == 4)=false:=by simp;omega
   apply eE;apply aq;simp[hC,Ex.mV,Ex.n,Ex.name,Ex.args,k1];refine bg ?_;simp;apply aq;simp[hC,k2];refine bg ?_;simp;apply aq;simp[hC,k3];refine bg ?_;simp;apply aq;simp[hC,k4];refine bg ?_;simp;apply T.skip;simp;refine T.le (Le.trim [3,1] [0,1] 2 xr yA) ?_;simp;apply aq;simp[hC];refine cS SD (S8) ?_;simp;refine cS SD (hcg) ?_;simp[hC];have q1:(⟨#[32]⟩:ByteArray).size=1:=rfl;have s1:=aB t0 ⟨#[32]⟩ yA;have s2:=aB (t0++⟨#[32]⟩) bo (by rw[ByteArray.size_append];omega);have s3:=aB (t0++⟨#[32]⟩++bo) ⟨#[32]⟩ (by rw[ByteArray.size_append,ByteArray.size_append];omega);have s4:=aB (t0++⟨#[32]⟩++bo++⟨#[32]⟩) t1 (by rw[ByteArray.size_append,ByteArray.size_append,ByteArray.size_append];omega);obtain⟨X,hX⟩:∃ X,t0++⟨#[32]⟩++bo++⟨#[32]⟩++t1=X:=⟨_,rfl⟩;rw[hX] at s4 |-;refine T.le (Le.trim [7,6,3,1] [0,1] 2 (by simp[strs,ints]) yA) ?_;simp;apply aW;simp[hC];apply T.block;refine T.aI (λ n s=>∃ i:Nat,n=ix-i/\i<=ix/\s=⟨[(8,I i),(7,ints ol),(6,strs sl),(3,.a7 1 0 2),(1,.ax 0 0)],[(0,⟨85,0,[I (5+k),I 0,.str eS,.az (bf a++bf b) 2]⟩),(1,bu tl)],2⟩) (n:=ix) ?_ ?_
   .refine aa.trim [8,7,6,3,1] [0,1] 2 (by simp[strs,ints]) yA ⟨0,by omega,by omega,?_⟩;simp
   .rintro n s ⟨i,rfl,hi,rfl⟩;have Jz:i<ol.length:=by omega
    obtain⟨o,ho⟩:∃ o,ol[i]? = some o:=⟨ol[i],getElem?_eq_getElem Jz⟩;have hdo:(ol.map dg).drop i=I o::(ol.map dg).drop (i+1):=by
     rw[drop_eq_getElem_cons (by simpa using Jz)];have:=(List.getElem?_eq_some_iff.1 ho).2;simp[dg,this]
    have wi:=cr ((i:Int)+1) yA yA;apply aW;simp[hC,ints,strs,Jz];refine jk ?_;simp;apply eE;apply T.seq;refine T.rx af follows [0,1,2,3,4,5,6] [] Bw ?_;simp[hC,Jz,hdo];by_cases Rz:i=ix
    .subst Rz;rw[Vu] at ho;have hoe:o=5+(k:Int):=by simpa using ho.symm
     have hsd:(sl.map CV.str).drop i=.str bo::(sl.map CV.str).drop (i+1):=by
      have:=jR (ns:=sl) (i:=i) yA;rw[this];simp[getD,W3]
     have Zv:i<sl.length:=by omega
     refine T.bw rfl (λ h=>?_) (λ h=>?_)
     .apply T.seq;refine T.rx af follows [0,1,2,3,4,5,6,7,8,9,10,11,12,13,14] [] Bw ?_;simp[hC,Tu,Zv,hsd,s1,s2,s3,s4];apply T.ret;apply aa.here;simp[Tryz.results193]
     .simp[hoe] at h
    .have SL:=Yw i yA o ho;refine T.bw rfl (λ h=>?_) (λ h=>?_)
     .simp at h;exact absurd h SL
     apply T.skip;simp;apply aM;simp[hC,wi];refine⟨ix-(i+1),by omega,?_⟩;refine aa.trim [8,7,6,3,1] [0,1] 2 xr yA ⟨i+1,rfl,by omega,?_⟩;simp
end Go.Proofs.YtlkmbdfhdknlgaaGreat
