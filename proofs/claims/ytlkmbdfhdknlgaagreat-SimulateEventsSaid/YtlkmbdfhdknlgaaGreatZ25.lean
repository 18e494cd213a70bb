/- inner, Height, shape, Vali -/
import Derived.Test.YtlkmbdfhdknlgaaGreatZ24
namespace Go.Proofs.YtlkmbdfhdknlgaaGreat
open Go.Can Go.aJ List Tryz
theorem MD (e:Ex):e.op=(e.mA:Int):=by cases e<;>simp[Ex.op,Ex.mA]
theorem gK {ns:List ByteArray}:∀ {d:Nat} {e:Ex},gu ns d e->e.mA<=17
 | _,.num _,_=>by simp[Ex.mA]
 | _,.nm _,_=>by simp[Ex.mA]
 | d+1,.un k e,h=>by simp only[gu] at h;simp only[Ex.mA];omega
 | d+1,.bin k a b,h=>by simp only[gu] at h;simp only[Ex.mA];omega
 | 0,.un _ _,h=>h.elim
 | 0,.bin _ _ _,h=>h.elim
 | 0,.zero,h=>h.elim
 | 0,.loc _,h=>h.elim
 | 0,.jk _,h=>h.elim
 | _+1,.zero,h=>h.elim
 | _+1,.loc _,h=>h.elim
 | _+1,.jk _,h=>h.elim
theorem CR (e:Ex)(i:Nat)(x:Ex)(h:e.args[i]? = some x)(hx:x.mA<=17)(he:e.mA<=17):ae prog 207 [.agg (bf e),I i] (.bool (decide (x.st<e.st) || (decide (x.st=e.st) && decide (i=1)))):=by
 have RS:i<e.args.length:=(List.getElem?_eq_some_iff.1 h).1;have Qd:(e.args.flatMap bf).drop (i*4)=bf x++(e.args.drop (i+1)).flatMap bf:=aI (f:=bf) (n:=4) bA h;have hcx:=fZ _ hx;have hce:=fZ _ he;have e1:=bW e;have e2:=bW x;rw[MD] at e1 e2;rw[e2] at Qd;rw[e1];clear e1 e2;unfold Ex.st;generalize oC x.mA=sx at *;generalize oC e.mA=se at *;refine ae.aE ah Tryz.func207 rfl Ix (by simp[Tryz.ntmps207]) rfl λ C hC RR=>?_;rw[Tryz.ntmps207] at hC;apply aq;simp[hC];apply T.seq;refine T.rx ah follows [0,1,2,3,4,5,7,8,6,9,10,11] [(8,6)] Ix ?_;simp[hC,RS,Qd];refine RX.call rfl xr rfl rfl rfl R2 (hcx) ?_;simp;refine RX.call rfl xr rfl rfl rfl R2 (hce) ?_;simp;apply T.seq;by_cases h1:sx<se
 ·apply aN;simp[hC,h1];apply T.ret;apply aa.here;simp[Tryz.results207]
 ·by_cases h2:sx=se
  ·subst h2;apply aN;simp[hC];apply T.ret;apply aa.here;simp[Tryz.results207]
  ·have Vx:((sx:Int) == se)=false:=by simp;omega
   apply aN;simp[hC,h1,Vx];apply T.ret;apply aa.here;simp[Tryz.results207,h2]
def qD (e x:Ex)(i:Nat):Bool:=decide (x.st<e.st) || (decide (x.st=e.st) && decide (i=1))
def LM (e:Ex)(ht:Ex->Nat):Nat->List Ex->Nat->Nat
 | _,[],h=>h
 | i,x::r,h=>LM e ht (i+1) r (max h (ht x+if qD e x i=true then 1 else 0))
theorem Kv (e:Ex)(ht:Ex->Nat)(B:Nat):∀ (l:List Ex) (i h:Nat),(∀ x∈l,ht x+1<=B)->h<=B->LM e ht i l h<=B
 | [],_,_,_,h=>h
 | x::r,i,h,hx,hh=>by
  rw[LM];have:=hx x mem_cons_self;refine Kv e ht B r _ _ (λ y hy=>hx y (mem_cons_of_mem _ hy)) ?_;split<;>omega
def J152 (ht:Ex->Nat)(e:Ex)(H:Nat)(m:Nat)(s:St):Prop:=∃ i h:Nat,m=e.args.length-i/\i<=e.args.length/\h<=101/\LM e ht i (e.args.drop i) h=H/\s=⟨[(4,I i),(3,I h),(1,.aw 0 0)],[(0,⟨85,0,[I e.mA,I e.n,.str e.name,.ax (e.args.flatMap bf) e.args.length]⟩)],1⟩
theorem lp (ht:Ex->Nat)(e:Ex)(he:e.mA<=17)(hlen:e.args.length<=2)(ha:∀ x∈e.args,x.mA<=17/\ht x<=100/\ae prog 191 [.agg (bf x)] (I (ht x))) :
  ae prog 191 [.agg (bf e)] (I ((LM e ht 0 e.args 0+if oC e.mA=5 then 1 else 0:Nat))):=by
 have R5:=fZ _ he;have R4:=λ (i:Nat) (x:Ex) (h:e.args[i]? = some x)=>CR e i x h (ha x (mem_of_getElem? h)).1 he;have Tl:=λ (i:Nat) (x:Ex) (h:e.args[i]? = some x)=>aI (f:=bf) (n:=4) bA (m:=e.args) h;have hB:=Kv e ht 101 e.args 0 0 (λ x hx=>by have:=(ha x hx).2.1;omega) yA;obtain⟨H,hH⟩:∃ H,LM e ht 0 e.args 0=H:=⟨_,rfl⟩;rw[hH] at hB |-;rw[bW,MD] at R4 |-;refine ae.aE ah Tryz.func191 rfl Ix (by simp[Tryz.ntmps191]) rfl λ C hC RR=>?_;rw[Tryz.ntmps191] at hC;apply aq;simp[hC];apply aq;simp[hC];refine T.cut (λ s=>s=⟨[(3,I H),(1,.aw 0 0)],[(0,⟨85,0,[I e.mA,I e.n,.str e.name,.ax (e.args.flatMap bf) e.args.length]⟩)],1⟩) ?_ ?_
 ·apply aq;simp[hC];apply T.block;refine T.aH (J152 ht e H) (n:=e.args.length) ?_ ?_
  ·refine aa.le (Le.env [4,3,1]) (aa.here ⟨0,0,by omega,by omega,by omega,hH,?_⟩);simp
  ·rintro n s ⟨i,h,rfl,Og,hh,hhA,rfl⟩;by_cases hi:i<e.args.length
   ·obtain⟨x,hx⟩:∃ x,e.args[i]? = some x:=⟨e.args[i],getElem?_eq_getElem hi⟩;have Qd:=Tl i x hx;have hd:e.args.drop i=x::e.args.drop (i+1):=by
     rw[drop_eq_getElem_cons hi,(List.getElem?_eq_some_iff.1 hx).2]
    rw[hd,LM] at hhA;obtain⟨x1,x2,x3⟩:=ha x (mem_of_getElem? hx);have US:=R4 i x hx;rw[show (decide (x.st<e.st) || (decide (x.st=e.st) && decide (i=1)))=qD e x i from rfl] at US;have wi:=cF ((i:Int)+1) yA yA;have wh:=cF ((ht x:Int)+1) yA yA;apply aW;simp[hC,hi];refine gw ?_;simp;apply eN;apply aq;simp[hC,hi,Qd];refine cX ZH (x3) ?_;simp[hC];refine T.cut (λ s=>s=⟨[(5,I ((ht x+if qD e x i=true then 1 else 0:Nat))),(4,I i),(3,I h),(1,.aw 0 0)],[(0,⟨85,0,[I e.mA,I e.n,.str e.name,.ax (e.args.flatMap bf) e.args.length]⟩)],1⟩) ?_ ?_
    ·apply aq;simp[hC];refine cX R2 (US) ?_;simp;refine T.bu rfl (λ h=>?_) (λ h=>?_)
     ·have h1:qD e x i=true:=by simpa using h
      apply aN;simp[hC,wh];refine aa.le (Le.env [5,4,3,1]) (aa.here ?_);simp[h1]
     ·have h1:qD e x i=false:=by simpa using h
      apply T.skip;simp;refine aa.le (Le.env [5,4,3,1]) (aa.here ?_);simp[h1]
    rintro s rfl;obtain⟨g,hg⟩:∃ g,(ht x+if qD e x i=true then 1 else 0)=g:=⟨_,rfl⟩;rw[hg] at hhA |-;have Vq:g<=101:=by rw[<- hg];split<;>omega
    have UW:(if h<g then (g:Int) else h)=((max h g:Nat):Int):=by
     split<;>omega
    apply aN;simp[hC,UW];apply aN;simp[hC,wi];refine⟨e.args.length-(i+1),by omega,?_⟩;refine aa.le (Le.env [4,3,1]) (aa.here ⟨i+1,max h g,rfl,by omega,by omega,hhA,?_⟩);simp
   ·have RU:i=e.args.length:=by omega
    rw[RU,drop_length,LM] at hhA;apply aW;simp[hC,hi];refine a9 ?_;simp;apply T.exit;simp;refine aa.le (Le.env [3,1]) (aa.here ?_);simp[hhA]
 ·rintro s rfl;have wH:=cF ((H:Int)+1) yA yA;refine T.cut (λ s=>s=⟨[(3,I ((H+if oC e.mA=5 then 1 else 0:Nat)))],[],1⟩) ?_ ?_
  ·apply aq;simp[hC];refine cX R2 (R5) ?_;simp[hC];refine T.bu rfl (λ h=>?_) (λ h=>?_)
   ·have h1:oC e.mA=5:=by simp at h;omega
    apply aN;simp[hC,wH];refine aa.trim [3] [] 1 xr yA ?_;simp[h1]
   ·have h1:¬ oC e.mA=5:=by simp at h;omega
    apply T.skip;simp;refine aa.trim [3] [] 1 xr yA ?_;simp[h1]
  ·rintro s rfl;apply aq;simp[hC];apply T.ret;apply aa.here;simp[Tryz.results191]
def Gk:Ex->Nat
 | .un k x=>LM (.un k x) (λ _=>Gk x) 0 [x] 0+1
 | .bin k a b=>max (max 0 (Gk a+if qD (.bin k a b) a 0=true then 1 else 0)) (Gk b+if qD (.bin k a b) b 1=true then 1 else 0)
 | _=>0
theorem pN {ns:List ByteArray}:∀ (d:Nat) (e:Ex),d<=5->gu ns d e->Gk e<=2*d/\ae prog 191 [.agg (bf e)] (I (Gk e))
 | d,.num n,_,hw=>⟨by simp[Gk],by
  have h:=lp Gk (.num n) (gK hw) Vm Vm;exact h⟩
 | d,.nm n,_,hw=>⟨by simp[Gk],by
  have h:=lp Gk (.nm n) (gK hw) Vm Vm;exact h⟩
 | d+1,.un k x,hd,hw=>by
  have SC:=hw;simp only[gu] at SC;obtain⟨i1,i2⟩:=pN d x yA SC.2;have h:=lp Gk (.un k x) (gK hw) Vm (by
   intro y hy;simp only[Ex.args,mem_singleton] at hy;subst hy;exact⟨gK SC.2,by omega,i2⟩)
  have h5:oC (Ex.un k x).mA=5:=by
   simp only[Ex.mA];have:=SC.1;have:∀ k,k<2->oC (3+k)=5:=by decide
   exact this k SC.1
  rw[if_pos h5] at h;refine⟨?_,h⟩;simp only[Gk,LM];split<;>omega
 | d+1,.bin k a b,hd,hw=>by
  have SC:=hw;simp only[gu] at SC;obtain⟨i1,i2⟩:=pN d a yA SC.2.1;obtain⟨j1,j2⟩:=pN d b yA SC.2.2;have h:=lp Gk (.bin k a b) (gK hw) Vm (by
   intro y hy;simp only[Ex.args,mem_cons,not_mem_nil,or_false] at hy;rcases hy with rfl | rfl
   ·exact⟨gK SC.2.1,by omega,i2⟩
   ·exact⟨gK SC.2.2,by omega,j2⟩)
  have h5:¬ oC (Ex.bin k a b).mA=5:=by
   simp only[Ex.mA];have:=SC.1;have:∀ k,k<13->¬ oC (5+k)=5:=by decide
   exact this k SC.1
  rw[if_neg h5] at h;refine⟨?_,h⟩;simp only[Gk];split<;>split<;>omega
 | 0,.un _ _,_,h=>h.elim
 | 0,.bin _ _ _,_,h=>h.elim
 | 0,.zero,_,h=>h.elim
 | 0,.loc _,_,h=>h.elim
 | 0,.jk _,_,h=>h.elim
 | _+1,.zero,_,h=>h.elim
 | _+1,.loc _,_,h=>h.elim
 | _+1,.jk _,_,h=>h.elim
def nX (s:ByteArray):Prop:=dF s/\bs s∉ua
theorem Hh (n:Nat)(hn:n<4611686018427387904):ae prog 190 [.agg (bf (.num n))] (.bool true):=by
 have R5:ae prog 206 [I (1:Nat)] (I 6):=fZ 1 yA;refine ae.aE ah Tryz.func190 rfl Ix (by simp[Tryz.ntmps190]) rfl λ C hC RR=>?_;rw[Tryz.ntmps190] at hC;apply aq;simp[hC];apply aq;simp[hC];refine T.cut (λ s=>s=⟨[(3,.int .i64 0),(1,.aw 0 0)],[(0,⟨85,0,bf (.num n)⟩)],1⟩) ?_ ?_
 ·apply aq;simp[hC,bf,eS];refine cX R2 (R5) ?_;simp;apply T.block;apply aq;simp[hC];refine dy ?_;simp;apply aq;simp[hC];apply T.seq;have Uj:(0:Int)<=n:=by omega
  refine T.rx ah follows [0,1,2,3,4,5,6,7,8,9,10,11,12,13,14,15,16,17,18,19,20,21,22,23,24,25,26,27] [(10,24)] Ix ?_;simp[hC,Uj,jb];apply aq;simp[hC];refine a9 ?_;simp;apply T.skip;simp;refine aa.trim [3,1] [0] 1 xr yA ?_;simp
 ·rintro s rfl;apply aW;simp[hC,bf,eS];refine a9 ?_;simp;apply T.skip;simp;apply aW;simp[hC];apply T.block;refine T.aH (λ m s=>s=⟨[(6,.int .i64 0),(3,.int .i64 0),(1,.aw 0 0)],[(0,⟨85,0,bf (.num n)⟩)],1⟩) (n:=0) ?_ ?_
  ·refine aa.trim [6,3,1] [0] 1 xr yA ?_;simp[bf,eS]
  ·rintro m s rfl;apply aW;simp[hC];refine a9 ?_;simp;apply T.exit;simp;apply aq;simp[hC];apply T.ret;apply aa.here;simp[Tryz.results190]
theorem Jg (x:ByteArray)(hx:nX x):ae prog 190 [.agg (bf (.nm x))] (.bool true):=by
 have R5:ae prog 206 [I (2:Nat)] (I 6):=fZ 2 yA;have SW:=jU x hx.1 hx.2;refine ae.aE ah Tryz.func190 rfl Ix (by simp[Tryz.ntmps190]) rfl λ C hC RR=>?_;rw[Tryz.ntmps190] at hC;apply aq;simp[hC];apply aq;simp[hC];refine T.cut (λ s=>s=⟨[(3,.int .i64 0),(1,.aw 0 0)],[(0,⟨85,0,bf (.nm x)⟩)],1⟩) ?_ ?_
 ·apply aq;simp[hC,bf];refine cX R2 (R5) ?_;simp;apply T.block;apply aq;simp[hC];refine dy ?_;simp;apply aq;simp[hC];apply T.seq;refine T.rx ah follows [0,1,2,3,4,5,6,7,8,9,10,11,12,13,14,15,16,17,18,19,20,21,22,23,24,25,26,27] [(10,24)] Ix ?_;simp[hC];refine RX.call rfl xr rfl rfl rfl R2 (SW) ?_;simp;apply aq;simp[hC];refine a9 ?_;simp;apply T.skip;simp;refine aa.trim [3,1] [0] 1 xr yA ?_;simp
 ·rintro s rfl;apply aW;simp[hC,bf];refine a9 ?_;simp;apply T.skip;simp;apply aW;simp[hC];apply T.block;refine T.aH (λ m s=>s=⟨[(6,.int .i64 0),(3,.int .i64 0),(1,.aw 0 0)],[(0,⟨85,0,bf (.nm x)⟩)],1⟩) (n:=0) ?_ ?_
  ·refine aa.trim [6,3,1] [0] 1 xr yA ?_;simp[bf]
  ·rintro m s rfl;apply aW;simp[hC];refine a9 ?_;simp;apply T.exit;simp;apply aq;simp[hC];apply T.ret;apply aa.here;simp[Tryz.results190]
theorem wC (e:Ex)(st:Nat)(he:e.mA<=17)(RW:oC e.mA=st)(h6:st<=5)(hn:e.n=0)(SW:e.name=eS)(hlen:e.args.length=if st=5 then 1 else 2)(ha:∀ x∈e.args,ae prog 190 [.agg (bf x)] (.bool true)):ae prog 190 [.agg (bf e)] (.bool true):=by
 have R5:=fZ _ he;rw[RW] at R5;have Tl:=λ (i:Nat) (x:Ex) (h:e.args[i]? = some x)=>aI (f:=bf) (n:=4) bA (m:=e.args) h;rw[bW,MD,hn,SW];obtain⟨al,WO⟩:∃ al,e.args.length=al:=⟨_,rfl⟩;rw[WO] at hlen;have h6':¬ (st:Int)=6:=by omega
 refine ae.aE ah Tryz.func190 rfl Ix (by simp[Tryz.ntmps190]) rfl λ C hC RR=>?_;rw[Tryz.ntmps190] at hC;apply aq;simp[hC];apply aq;simp[hC];refine T.cut (λ s=>s=⟨[(3,I al),(1,.aw 0 0)],[(0,⟨85,0,[I e.mA,I 0,.str eS,.ax (e.args.flatMap bf) al]⟩)],1⟩) ?_ ?_
 ·apply aq;simp[hC,WO];refine cX R2 (R5) ?_;simp;apply T.block;apply aq;simp[hC];refine T.bu rfl (λ h=>?_) (λ h=>?_)
  ·simp at h;omega
  apply aq;simp[hC];refine T.bu rfl (λ h=>?_) (λ h=>?_)
  ·have h5:st=5:=by simp at h;omega
   rw[if_pos h5] at hlen;apply aN;simp[hC];refine aa.trim [3,1] [0] 1 xr yA ?_;simp[hlen]
  ·have h5:¬ st=5:=by simp at h;omega
   rw[if_neg h5] at hlen;apply T.skip;simp;refine aa.trim [3,1] [0] 1 xr yA ?_;simp[hlen]
 ·rintro s rfl;have Vu:0<al:=by rw[hlen];split<;>omega
  have hal2:al<=2:=by rw[hlen];split<;>omega
  apply aW;simp[hC,Vu,eS,j8];refine a9 ?_;simp;apply T.skip;simp;apply aW;simp[hC];apply T.block;refine T.aH (λ m s=>∃ i:Nat,m=al-i/\i<=al/\s=⟨[(6,I i),(3,I al),(1,.aw 0 0)],[(0,⟨85,0,[I e.mA,I 0,.str ⟨#[]⟩,.ax (e.args.flatMap bf) al]⟩)],1⟩) (n:=al) ?_ ?_
  ·refine aa.trim [6,3,1] [0] 1 xr yA ⟨0,by omega,by omega,?_⟩;simp
  ·rintro m s ⟨i,rfl,hi,rfl⟩;by_cases Og:i<al
   ·obtain⟨x,hx⟩:∃ x,e.args[i]? = some x:=⟨e.args[i],getElem?_eq_getElem yA⟩;have Qd:=Tl i x hx;have hcx:=ha x (mem_of_getElem? hx);have wi:=cF ((i:Int)+1) yA yA;apply aW;simp[hC,Og];refine gw ?_;simp;apply eN;apply aq;simp[hC,Og,Qd];refine cX ZH (hcx) ?_;simp[hC];refine a9 ?_;simp;apply T.skip;simp;apply aN;simp[hC,wi];refine⟨al-(i+1),by omega,?_⟩;refine aa.trim [6,3,1] [0] 1 xr yA ⟨i+1,rfl,by omega,?_⟩;simp
   ·apply aW;simp[hC,Og];refine a9 ?_;simp;apply T.exit;simp;apply aq;simp[hC];apply T.ret;apply aa.here;simp[Tryz.results190]
theorem rJ {ns:List ByteArray}(UI:∀ s∈ns,nX s):∀ (d:Nat) (e:Ex),gu ns d e->ae prog 190 [.agg (bf e)] (.bool true)
 | _,.num n,hw=>Hh n (by simpa [gu] using hw)
 | _,.nm s,hw=>Jg s (UI s (by simpa [gu] using hw))
 | d+1,.un k x,hw=>by
  have SC:=hw;simp only[gu] at SC;have h5:oC (Ex.un k x).mA=5:=(by decide:∀ k,k<2->oC (3+k)=5) k SC.1;refine wC (.un k x) 5 (gK hw) h5 yA rfl rfl rfl ?_;intro y hy;simp only[Ex.args,mem_singleton] at hy;subst hy;exact rJ UI d _ SC.2
 | d+1,.bin k a b,hw=>by
  have SC:=hw;simp only[gu] at SC;have h5:oC (Ex.bin k a b).mA<=4:=(by decide:∀ k,k<13->oC (5+k)<=4) k SC.1;refine wC (.bin k a b) _ (gK hw) rfl yA rfl rfl ?_ ?_
  ·rw[if_neg yA];rfl
  ·intro y hy;simp only[Ex.args,mem_cons,not_mem_nil,or_false] at hy;rcases hy with rfl | rfl
   ·exact rJ UI d _ SC.2.1
   ·exact rJ UI d _ SC.2.2
 | 0,.un _ _,h=>h.elim
 | 0,.bin _ _ _,h=>h.elim
 | 0,.zero,h=>h.elim
 | 0,.loc _,h=>h.elim
 | 0,.jk _,h=>h.elim
 | _+1,.zero,h=>h.elim
 | _+1,.loc _,h=>h.elim
 | _+1,.jk _,h=>h.elim
theorem gx {ns:List ByteArray}(UI:∀ s∈ns,nX s)(d:Nat)(e:Ex)(hd:d<=5)(hw:gu ns d e):ae prog 160 [.agg (bf e)] (.bool true):=by
 obtain⟨h1,h2⟩:=pN d e hd hw;have h3:=rJ UI d e hw;have h4:(Gk e:Int)<=24:=by omega
 refine ae.aE ah Tryz.func160 rfl Ix (by simp[Tryz.ntmps160]) rfl λ C hC RR=>?_;rw[Tryz.ntmps160] at hC;apply aq;simp[hC];apply aq;simp[hC];refine cX ZH (h3) ?_;simp[hC];refine TL.cM RT rfl rfl rfl rfl (bU.of rfl ZH (h2)) (TL.go' ah ?_);simp[hC,h4];apply T.ret;apply aa.here;simp[Tryz.results160]
theorem qg (n:Int)(h:0<=n/\n<18446744073709551616):IntKind.u64.wrap n=n:=by
 exact IntWalk.u64_in n ⟨h.1,by omega⟩
def Dd (m:Nat)(s:ByteArray):ByteArray:=if m=0 then s else kO m++s
theorem EY (n:Nat):kO n=Dd (n / 10) (eP (48+n % 10)):=by
 unfold Dd;rw[kO];split
 ·rename_i h;rw[if_pos yA,Nat.mod_eq_of_lt h]
 ·rw[if_neg yA]
theorem HX (m:Nat)(s:ByteArray)(h:0<m):Dd m s=Dd (m / 10) (eP (48+m % 10)++s):=by
 unfold Dd;rw[if_neg yA,kO];split
 ·rename_i h1;rw[if_pos yA,Nat.mod_eq_of_lt h1]
 ·rw[if_neg yA,ByteArray.append_assoc]
def J153 (T:ByteArray)(m:Nat)(s:St):Prop:=∃ x:ByteArray,x.size+m<=9223372036854775807/\Dd m x=T/\s=⟨[(3,.str x),(0,.int .u64 m)],[],0⟩
theorem zE (n:Nat)(hn:n<9223372036854775808):ae prog 192 [.int .u64 n] (.str (kO n)):=by
 rw[EY];obtain⟨X,hT⟩:∃ X,Dd (n / 10) (eP (48+n % 10))=X:=⟨_,rfl⟩;rw[hT];have m1:(n:Int).tmod 10=((n % 10:Nat):Int):=by rw[Int.tmod_eq_emod_of_nonneg yA];omega
 have d1:(n:Int).tdiv 10=((n / 10:Nat):Int):=by rw[Int.tdiv_eq_ediv_of_nonneg yA];omega
 refine ae.aE ah Tryz.func192 rfl Ix (by simp[Tryz.ntmps192]) rfl λ C hC RR=>?_;rw[Tryz.ntmps192] at hC;apply aq;simp[hC];obtain⟨q,hq⟩:∃ q,n % 10=q:=⟨_,rfl⟩;have hq9:q<10:=by omega
 have m2:(n:Int) % 10=(q:Int):=by omega
 have w1:=qg (48+(q:Int)) yA;have w1b:=qg (q:Int) yA;have w2:IntKind.u8.wrap (48+(q:Int))=48+(q:Int):=IntWalk.u8_in _ yA;have w3:(0:Int)<=48+(q:Int)/\48+(q:Int)<256:=by omega
 have w4:(48+(q:Int)).toNat=48+q:=by omega
 refine T.seq (T.DN ah ?_);simp[hC,m1,hq,w1,w2,w3,w4];refine T.le (Le.trim [3,0] [] 0 xr yA) ?_;simp;have WL:(⟨#[48+UInt8.ofNat q]⟩:ByteArray)=eP (48+q):=by simp[eP]
 rw[WL];have wd:=qg ((n / 10:Nat):Int) yA;have d2:(n:Int) / 10=((n / 10:Nat):Int):=by omega
 obtain⟨m0,Vp⟩:∃ m0,n / 10=m0:=⟨_,rfl⟩;rw[Vp] at d1 d2 wd hT;rw[hq] at hT;apply aW;simp[hC,d1,wd];apply T.block;refine T.aH (J153 X) (n:=m0) ?_ ?_
 ·refine aa.trim [3,0] [] 0 xr yA ⟨eP (48+q),?_,hT,?_⟩
  ·have:(eP (48+q)).size=1:=rfl;omega
  ·simp
 ·rintro m s ⟨x,hx,hX,rfl⟩;by_cases hm:0<m
  ·have Z9:(0:Int)<m:=by omega
   rw[HX m x hm] at hX;obtain⟨r,hr⟩:∃ r,m % 10=r:=⟨_,rfl⟩;have hr9:r<10:=by omega
   have m1:(m:Int).tmod 10=(r:Int):=by rw[Int.tmod_eq_emod_of_nonneg yA];omega
   have m2:(m:Int) % 10=(r:Int):=by omega
   have v1:=qg (48+(r:Int)) yA;have v1b:=qg (r:Int) yA;have v2:IntKind.u8.wrap (48+(r:Int))=48+(r:Int):=IntWalk.u8_in _ yA;have v3:(0:Int)<=48+(r:Int)/\48+(r:Int)<256:=by omega
   have v4:(48+(r:Int)).toNat=48+r:=by omega
   have e1:(m:Int).tdiv 10=((m / 10:Nat):Int):=by rw[Int.tdiv_eq_ediv_of_nonneg yA];omega
   have e2:(m:Int) / 10=((m / 10:Nat):Int):=by omega
   have ve:=qg ((m / 10:Nat):Int) yA;rw[hr] at hX;have hch2:(⟨#[48+UInt8.ofNat r]⟩:ByteArray)=eP (48+r):=by simp[eP]
   have R0:(eP (48+r)).size=1:=rfl;have so:=aA (eP (48+r)) x yA;obtain⟨m',Z9⟩:∃ m',m / 10=m':=⟨_,rfl⟩;rw[Z9] at e1 e2 ve hX;apply aW;simp[hC,hm];refine gw ?_;simp;apply eN;refine T.DN ah ?_;simp[hC,m1,v1,v2,v3,v4,hch2,so];apply aN;simp[hC,e1,ve];refine⟨m',by omega,?_⟩;refine aa.trim [3,0] [] 0 xr yA ⟨eP (48+r)++x,?_,hX,?_⟩
   ·rw[ByteArray.size_append];omega
   ·simp
  ·have Vp:m=0:=by omega
   subst Vp;have hxT:x=X:=by simpa [Dd] using hX
   apply aW;simp[hC];refine a9 ?_;simp;apply T.exit;simp;apply aq;simp[hC];apply T.ret;apply aa.here;simp[Tryz.results192,hxT]
theorem qB (n:Int)(h1 : -1000<=n)(h2:n<9223372036854775808):ae prog 164 [I n] (.str (lW n)):=by
 refine ae.aE ah Tryz.func164 rfl Ix (by simp[Tryz.ntmps164]) rfl λ C hC RR=>?_;rw[Tryz.ntmps164] at hC;apply aq;simp[hC];apply aW;simp[hC];refine T.bu rfl (λ h=>?_) (λ h=>?_)
 ·have hn:n<0:=by simpa using h
  obtain⟨m,hm⟩:∃ m:Nat,n=-(m:Int):=⟨(-n).toNat,by omega⟩;subst hm;have YX:=zE m yA;have w1:=cF (-(m:Int)+1) yA yA;have w2:=cF (-(-(m:Int)+1)) yA yA;have w3:=qg (-(-(m:Int)+1)) yA;have w4:=qg (-(-(m:Int)+1)+1) yA;have e5 : -(-(m:Int)+1)+1=(m:Int):=by omega
  have w5:=qg (m:Int) yA;have R0:(kO m).size<=19:=by
   have:=(AZ m).2.2.2 18 yA;rw[me] at this;exact this
  have so:=aA ⟨#[45]⟩ (kO m) (by have:(⟨#[45]⟩:ByteArray).size=1:=rfl;omega);refine T.seq (T.DN ah ?_);simp[hC,w1,w2,w3,e5,w5];refine cX R2 (YX) ?_;simp[hC,so];apply T.ret;apply aa.here;have hnT:lW (-(m:Int))=⟨#[45]⟩++kO m:=by
   unfold lW;rw[if_pos hn];simp
  rw[hnT];simp[Tryz.results164]
 ·have hn:¬ n<0:=by simpa using h
  obtain⟨m,hm⟩:∃ m:Nat,n=(m:Int):=⟨n.toNat,by omega⟩;subst hm;have YX:=zE m yA;have w5:=qg (m:Int) yA;apply T.skip;simp;refine T.seq (T.DN ah ?_);simp[hC,w5];refine cX R2 (YX) ?_;simp[hC];apply T.ret;apply aa.here;have hnT:lW (m:Int)=kO m:=by
   unfold lW;rw[if_neg hn];simp
  rw[hnT];simp[Tryz.results164]
def wv (e x:Ex)(i:Nat):ByteArray:=vp (qD e x i) (jn x)
theorem HB (b:Bool)(x:ByteArray):(vp b x).size<=x.size+2:=by
 unfold vp;split
 ·rw[ByteArray.size_append,ByteArray.size_append];have h1:(⟨#[40]⟩:ByteArray).size=1:=rfl;have h2:(⟨#[41]⟩:ByteArray).size=1:=rfl;omega
 ·omega
def J154 (e:Ex)(tl:List ByteArray)(n:Nat)(s:St):Prop:=∃ i:Nat,n=e.args.length-i/\i<=e.args.length/\s=⟨[(4,I i),(3,.bb 1 0 i),(1,.aw 0 0)],[(0,⟨85,0,[I e.mA,I e.n,.str e.name,.ax (e.args.flatMap bf) e.args.length]⟩),(1,bt (tl.take i))],2⟩
theorem P8:∀ k,k<13->oC (5+k)<=4/\∃ i,i<(w9 (oC (5+k))).2.length/\(w9 (oC (5+k))).1.length=(w9 (oC (5+k))).2.length/\(w9 (oC (5+k))).2[i]? = some ((5+k:Nat):Int)/\(w9 (oC (5+k))).1[i]? = some (Fg.getD k ⟨#[]⟩)/\(w9 (oC (5+k))).2.length<=6/\∀ j,j<i->∀ o,(w9 (oC (5+k))).2[j]? = some o->o≠((5+k:Nat):Int)
 | 0,_=>⟨by decide,0,by decide,rfl,rfl,rfl,by decide,by decide⟩
 | 1,_=>⟨by decide,1,by decide,rfl,rfl,rfl,by decide,by decide⟩
 | 2,_=>⟨by decide,2,by decide,rfl,rfl,rfl,by decide,by decide⟩
 | 3,_=>⟨by decide,0,by decide,rfl,rfl,rfl,by decide,by decide⟩
 | 4,_=>⟨by decide,1,by decide,rfl,rfl,rfl,by decide,by decide⟩
 | 5,_=>⟨by decide,2,by decide,rfl,rfl,rfl,by decide,by decide⟩
 | 6,_=>⟨by decide,3,by decide,rfl,rfl,rfl,by decide,by decide⟩
 | 7,_=>⟨by decide,4,by decide,rfl,rfl,rfl,by decide,by decide⟩
 | 8,_=>⟨by decide,5,by decide,rfl,rfl,rfl,by decide,by decide⟩
 | 9,_=>⟨by decide,0,by decide,rfl,rfl,rfl,by decide,by decide⟩
 | 10,_=>⟨by decide,1,by decide,rfl,rfl,rfl,by decide,by decide⟩
 | 11,_=>⟨by decide,0,by decide,rfl,rfl,rfl,by decide,by decide⟩
 | 12,_=>⟨by decide,0,by decide,rfl,rfl,rfl,by decide,by decide⟩
 | _+13,h=>absurd h yA
theorem py (e:Ex)(tl:List ByteArray)(Si:tl.length=e.args.length)(he:e.mA<=17)(WO:e.args.length<=2)(R:ByteArray)
  (ha:∀ i x,e.args[i]? = some x->x.mA<=17/\ae prog 193 [.agg (bf x)] (.str (jn x))/\(jn x).size<=100000/\tl[i]? = some (wv e x i))
  (hR:(∃ n:Nat,e=.num n/\n<4611686018427387904/\R=kO n)\/(∃ x,e=.nm x/\R=x)\/(∃ k x,e=.un k x/\k<2/\R=(if k=0 then ⟨#[45]⟩ else ⟨#[33]⟩)++tl.getD 0 eS)\/(∃ k a b,e=.bin k a b/\k<13/\R=tl.getD 0 eS++⟨#[32]⟩++Fg.getD k ⟨#[]⟩++⟨#[32]⟩++tl.getD 1 eS)):ae prog 193 [.agg (bf e)] (.str R):=by
 have Tl:=λ (i:Nat) (x:Ex) (h:e.args[i]? = some x)=>aI (f:=bf) (n:=4) bA (m:=e.args) h;have R4:=λ (i:Nat) (x:Ex) (h:e.args[i]? = some x)=>CR e i x h (ha i x h).1 he;have Tj:∀ x∈tl,x.size<=100002:=by
  intro x hx;obtain⟨i,hi⟩:=getElem?_of_mem hx;have Og:i<e.args.length:=by rw[<- Si];exact (List.getElem?_eq_some_iff.1 hi).1
  obtain⟨y,hy⟩:∃ y,e.args[i]? = some y:=⟨e.args[i],getElem?_eq_getElem Og⟩;obtain⟨_,_,h3,h4⟩:=ha i y hy;rw[hi] at h4;cases h4;have:=HB (qD e y i) (jn y);unfold wv;omega
 rw[bW,MD] at R4 |-;refine ae.aE ah Tryz.func193 rfl Ix (by simp[Tryz.ntmps193]) rfl λ C hC RR=>?_;rw[Tryz.ntmps193] at hC;apply aq;simp[hC];apply aq;simp[hC];refine T.cut (λ s=>s=⟨[(3,.bb 1 0 e.args.length),(1,.aw 0 0)],[(0,⟨85,0,[I e.mA,I e.n,.str e.name,.ax (e.args.flatMap bf) e.args.length]⟩),(1,bt tl)],2⟩) ?_ ?_
 ·apply aq;simp[hC];apply T.block;refine T.aH (J154 e tl) (n:=e.args.length) ?_ ?_
  ·refine aa.le (Le.own 3 9 1 rfl) ?_;simp;refine aa.trim [4,3,1] [0,1] 2 xr yA ⟨0,by omega,by omega,?_⟩;simp[bt]
  ·rintro n s ⟨i,rfl,Og,rfl⟩;by_cases hi:i<e.args.length
   ·obtain⟨x,hx⟩:∃ x,e.args[i]? = some x:=⟨e.args[i],getElem?_eq_getElem hi⟩;have Qd:=Tl i x hx;obtain⟨x1,x2,x3,x4⟩:=ha i x hx;have US:=R4 i x hx;rw[show (decide (x.st<e.st) || (decide (x.st=e.st) && decide (i=1)))=qD e x i from rfl] at US;have wi:=cF ((i:Int)+1) yA yA;apply aW;simp[hC,hi];refine gw ?_;simp;apply eN;apply aq;simp[hC,hi,Qd];refine cX ZH (x2) ?_;simp[hC];refine T.cut (λ s=>s=⟨[(5,.str (wv e x i)),(4,I i),(3,.bb 1 0 i),(1,.aw 0 0)],[(0,⟨85,0,[I e.mA,I e.n,.str e.name,.ax (e.args.flatMap bf) e.args.length]⟩),(1,bt (tl.take i))],2⟩) ?_ ?_
    ·apply aq;simp[hC];refine cX R2 (US) ?_;simp;refine T.bu rfl (λ h=>?_) (λ h=>?_)
     ·have h1:qD e x i=true:=by simpa using h
      have s1:=aA ⟨#[40]⟩ (jn x) (by have:(⟨#[40]⟩:ByteArray).size=1:=rfl;omega);have s2:=aA (⟨#[40]⟩++jn x) ⟨#[41]⟩ (by rw[ByteArray.size_append];have:(⟨#[40]⟩:ByteArray).size=1:=rfl;have:(⟨#[41]⟩:ByteArray).size=1:=rfl;omega);apply aN;simp[hC,s1,s2];refine aa.trim [5,4,3,1] [0,1] 2 xr yA ?_;simp[wv,vp,h1]
     ·have h1:qD e x i=false:=by simpa using h
      apply T.skip;simp;refine aa.trim [5,4,3,1] [0,1] 2 xr yA ?_;simp[wv,vp,h1]
    rintro s rfl;have Vl:(i+1)*16<=140737488355328:=by omega
    have hwl:(bt (tl.take i)).cells.length=i:=by simp[bt];omega
    have hws:(bt (tl.take i)).sz=1:=rfl;have hwe:(bt (tl.take i)).elem=9:=rfl;apply aN;simp[hC,Vl,hwl,hws,hwe,aY];apply aN;simp[hC,wi];refine⟨e.args.length-(i+1),by omega,?_⟩;refine aa.le (Le.trim [4,3,1] [0,3] 4 U2 yA) ?_;simp;refine aa.le (Le.p7 3 1 rfl rfl yA xr xr U2) ?_;simp;refine aa.trim [4,3,1] [0,1] 2 U2 yA ⟨i+1,rfl,by omega,?_⟩;have R3:tl.take (i+1)=tl.take i++[wv e x i]:=by rw[take_add_one,x4];rfl
    rw[R3];simp[bt]
   ·have RU:i=e.args.length:=by omega
    apply aW;simp[hC,hi];refine a9 ?_;simp;apply T.exit;simp;refine aa.trim [3,1] [0,1] 2 xr yA ?_;rw[RU,<- Si,take_length];simp
 ·rintro s rfl;rcases hR with ⟨n,rfl,hn,rfl⟩ | ⟨x,rfl,rfl⟩ | ⟨k,x,rfl,hk,rfl⟩ | ⟨k,a,b,rfl,hk,rfl⟩
  ·have hcn:=qB n yA yA;have hnT:lW (n:Int)=kO n:=by
    unfold lW;rw[if_neg yA];simp
   rw[hnT] at hcn;apply eN;apply aq;simp[hC,Ex.mA,Ex.n,Ex.name,Ex.args];refine dy ?_;simp;apply aq;simp[hC];refine cX R2 (hcn) ?_;simp[hC];apply T.ret;apply aa.here;simp[Tryz.results193]
  ·apply eN;apply aq;simp[hC,Ex.mA,Ex.n,Ex.name,Ex.args];refine a9 ?_;simp;apply aq;simp[hC];refine dy ?_;simp;apply aq;simp[hC];apply T.ret;apply aa.here;simp[Tryz.results193]
  ·have h1:tl.length=1:=Si;have Qd:=ju (ns:=tl) (i:=0) yA;rw[drop_zero] at Qd;have SW:(bt tl).cells=.str (tl.getD 0 eS)::(tl.map CV.str).drop 1:=Qd;have UI:(bt tl).sz=1:=rfl;have R0:=Tj (tl.getD 0 eS) (jz yA eS);generalize tl.getD 0 eS=t0 at SW R0;have s45:(⟨#[45]⟩:ByteArray).size=1:=rfl;have s33:(⟨#[33]⟩:ByteArray).size=1:=rfl;apply eN
   match k,hk with
   | 0,_=>
    have so:=aA ⟨#[45]⟩ t0 yA;apply aq;simp[hC,Ex.mA,Ex.n,Ex.name,Ex.args];refine a9 ?_;simp;apply aq;simp[hC];refine a9 ?_;simp;apply aq;simp[hC];refine dy ?_;simp;apply aq;simp[hC,SW,so];apply T.ret;apply aa.here;simp[Tryz.results193]
   | 1,_=>
    have so:=aA ⟨#[33]⟩ t0 yA;apply aq;simp[hC,Ex.mA,Ex.n,Ex.name,Ex.args];refine a9 ?_;simp;apply aq;simp[hC];refine a9 ?_;simp;apply aq;simp[hC];refine a9 ?_;simp;apply aq;simp[hC];refine dy ?_;simp;apply aq;simp[hC,SW,so];apply T.ret;apply aa.here;simp[Tryz.results193]
  ·have h1:tl.length=2:=Si;have Qd:=ju (ns:=tl) (i:=0) yA;have TF:=ju (ns:=tl) (i:=1) yA;rw[drop_zero,TF] at Qd;have SW:(bt tl).cells=[.str (tl.getD 0 eS),.str (tl.getD 1 eS)]:=by
    have e3:(tl.map CV.str).drop (1+1)=[]:=drop_eq_nil_of_le SO;rw[e3] at Qd;exact Qd
   have UI:(bt tl).sz=1:=rfl;have hsz0:=Tj (tl.getD 0 eS) (jz yA eS);have XC:=Tj (tl.getD 1 eS) (jz yA eS);generalize tl.getD 0 eS=t0 at SW hsz0;generalize tl.getD 1 eS=t1 at SW XC;obtain⟨hst4,ix,US,VH,UK,XE,h6,XP⟩:=P8 k hk;have hbz:(Fg.getD k ⟨#[]⟩).size<=2:=(by decide:∀ k,k<13->(Fg.getD k ⟨#[]⟩).size<=2) k hk;have Sw:=fZ (5+k) yA;have hcg:=Je _ hst4;generalize Fg.getD k ⟨#[]⟩=bo at XE hbz;generalize oC (5+k)=sk at Sw hcg US VH UK XE h6 XP hst4;generalize WW:(w9 sk).1=sl at *;generalize hog:(w9 sk).2=ol at *;have n1:((5+k:Nat):Int)=5+(k:Int):=by omega
   rw[n1] at Sw UK XP;have k1:((5:Int)+k == 1)=false:=by simp;omega
   have k2:((5:Int)+k == 2)=false:=by simp;omega
   have k3:((5:Int)+k == 3)=false:=by simp;omega
   have k4:((5:Int)+k == 4)=false:=by simp;omega
   apply eN;apply aq;simp[hC,Ex.mA,Ex.n,Ex.name,Ex.args,k1];refine a9 ?_;simp;apply aq;simp[hC,k2];refine a9 ?_;simp;apply aq;simp[hC,k3];refine a9 ?_;simp;apply aq;simp[hC,k4];refine a9 ?_;simp;apply T.skip;simp;refine T.le (Le.trim [3,1] [0,1] 2 xr yA) ?_;simp;apply aq;simp[hC];refine cX R2 (Sw) ?_;simp;refine cX R2 (hcg) ?_;simp[hC];have q1:(⟨#[32]⟩:ByteArray).size=1:=rfl;have s1:=aA t0 ⟨#[32]⟩ yA;have s2:=aA (t0++⟨#[32]⟩) bo (by rw[ByteArray.size_append];omega);have s3:=aA (t0++⟨#[32]⟩++bo) ⟨#[32]⟩ (by rw[ByteArray.size_append,ByteArray.size_append];omega);have s4:=aA (t0++⟨#[32]⟩++bo++⟨#[32]⟩) t1 (by rw[ByteArray.size_append,ByteArray.size_append,ByteArray.size_append];omega);obtain⟨X,hX⟩:∃ X,t0++⟨#[32]⟩++bo++⟨#[32]⟩++t1=X:=⟨_,rfl⟩;rw[hX] at s4 |-;refine T.le (Le.trim [7,6,3,1] [0,1] 2 (by simp[strs,ints]) yA) ?_;simp;apply aW;simp[hC];apply T.block;refine T.aH (λ n s=>∃ i:Nat,n=ix-i/\i<=ix/\s=⟨[(8,I i),(7,ints ol),(6,strs sl),(3,.bb 1 0 2),(1,.aw 0 0)],[(0,⟨85,0,[I (5+k),I 0,.str eS,.ax (bf a++bf b) 2]⟩),(1,bt tl)],2⟩) (n:=ix) ?_ ?_
   ·refine aa.trim [8,7,6,3,1] [0,1] 2 (by simp[strs,ints]) yA ⟨0,by omega,by omega,?_⟩;simp
   ·rintro n s ⟨i,rfl,hi,rfl⟩;have Og:i<ol.length:=by omega
    obtain⟨o,ho⟩:∃ o,ol[i]? = some o:=⟨ol[i],getElem?_eq_getElem Og⟩;have hdo:(ol.map dc).drop i=I o::(ol.map dc).drop (i+1):=by
     rw[drop_eq_getElem_cons (by simpa using Og)];have:=(List.getElem?_eq_some_iff.1 ho).2;simp[dc,this]
    have wi:=cF ((i:Int)+1) yA yA;apply aW;simp[hC,ints,strs,Og];refine gw ?_;simp;apply eN;apply T.seq;refine T.rx ah follows [0,1,2,3,4,5,6] [] Ix ?_;simp[hC,Og,hdo];by_cases RU:i=ix
    ·subst RU;rw[UK] at ho;have hoe:o=5+(k:Int):=by simpa using ho.symm
     have hsd:(sl.map CV.str).drop i=.str bo::(sl.map CV.str).drop (i+1):=by
      have:=ju (ns:=sl) (i:=i) yA;rw[this];simp[getD,XE]
     have YO:i<sl.length:=by omega
     refine T.bu rfl (λ h=>?_) (λ h=>?_)
     ·apply T.seq;refine T.rx ah follows [0,1,2,3,4,5,6,7,8,9,10,11,12,13,14] [] Ix ?_;simp[hC,SW,YO,hsd,s1,s2,s3,s4];apply T.ret;apply aa.here;simp[Tryz.results193]
     ·simp[hoe] at h
    ·have Sb:=XP i yA o ho;refine T.bu rfl (λ h=>?_) (λ h=>?_)
     ·simp at h;exact absurd h Sb
     apply T.skip;simp;apply aN;simp[hC,wi];refine⟨ix-(i+1),by omega,?_⟩;refine aa.trim [8,7,6,3,1] [0,1] 2 xr yA ⟨i+1,rfl,by omega,?_⟩;simp
end Go.Proofs.YtlkmbdfhdknlgaaGreat
