/- inner, Height, shape, Vali -/
import Derived.Test.YtlkmbdfhdknlgaaGreatV25
namespace Go.Proofs.YtlkmbdfhdknlgaaGreat
open Go.Can Go.aV List Tryz
theorem JN (e:Ex):e.op=(e.lY:Int):=by cases e<;>simp[Ex.op,Ex.lY]
theorem gu {ns:List ByteArray}:∀ {d:Nat} {e:Ex},fV ns d e->e.lY<=17
 | _,.num _,_=>by simp[Ex.lY]
 | _,.nm _,_=>by simp[Ex.lY]
 | d+1,.un k e,h=>by simp only[fV] at h;simp only[Ex.lY];omega
 | d+1,.bin k a b,h=>by simp only[fV] at h;simp only[Ex.lY];omega
 | 0,.un _ _,h=>h.elim
 | 0,.bin _ _ _,h=>h.elim
 | 0,.zero,h=>h.elim
 | 0,.loc _,h=>h.elim
 | 0,.iK _,h=>h.elim
 | _+1,.zero,h=>h.elim
 | _+1,.loc _,h=>h.elim
 | _+1,.iK _,h=>h.elim
theorem AY (e:Ex)(i:Nat)(x:Ex)(h:e.args[i]? = some x)(hx:x.lY<=17)(he:e.lY<=17):af prog 207 [.agg (a8 e),I i] (.bool (decide (x.st<e.st) || (decide (x.st=e.st) && decide (i=1)))):=by
 have OT:i<e.args.length:=(List.getElem?_eq_some_iff.1 h).1;have OS:(e.args.flatMap a8).drop (i*4)=a8 x++(e.args.drop (i+1)).flatMap a8:=aH (f:=a8) (n:=4) bA h;have hcx:=fL _ hx;have X9:=fL _ he;have e1:=bV e;have e2:=bV x;rw[JN] at e1 e2;rw[e2] at OS;rw[e1];clear e1 e2;unfold Ex.st;generalize nS x.lY=sx at *;generalize nS e.lY=se at *;refine af.aC ag Tryz.func207 rfl GK (by simp[Tryz.ntmps207]) rfl λ C hC OR=>?_;rw[Tryz.ntmps207] at hC;apply aq;simp[hC];apply T.seq;refine T.rx ag follows [0,1,2,3,4,5,7,8,6,9,10,11] [(8,6)] GK ?_;simp[hC,OT,OS];refine RX.call rfl xr rfl rfl rfl O4 (hcx) ?_;simp;refine RX.call rfl xr rfl rfl rfl O4 (X9) ?_;simp;apply T.seq;by_cases h1:sx<se
 ·apply aG;simp[hC,h1];apply T.ret;apply aa.here;simp[Tryz.results207]
 ·by_cases h2:sx=se
  ·subst h2;apply aG;simp[hC];apply T.ret;apply aa.here;simp[Tryz.results207]
  ·have SH:((sx:Int) == se)=false:=by simp;omega
   apply aG;simp[hC,h1,SH];apply T.ret;apply aa.here;simp[Tryz.results207,h2]
def pY (e x:Ex)(i:Nat):Bool:=decide (x.st<e.st) || (decide (x.st=e.st) && decide (i=1))
def I4 (e:Ex)(ht:Ex->Nat):Nat->List Ex->Nat->Nat
 | _,[],h=>h
 | i,x::r,h=>I4 e ht (i+1) r (max h (ht x+if pY e x i=true then 1 else 0))
theorem HR (e:Ex)(ht:Ex->Nat)(B:Nat):∀ (l:List Ex) (i h:Nat),(∀ x∈l,ht x+1<=B)->h<=B->I4 e ht i l h<=B
 | [],_,_,_,h=>h
 | x::r,i,h,hx,hh=>by
  rw[I4];have:=hx x mem_cons_self;refine HR e ht B r _ _ (λ y hy=>hx y (mem_cons_of_mem _ hy)) ?_;split<;>omega
def J152 (ht:Ex->Nat)(e:Ex)(H:Nat)(m:Nat)(s:St):Prop:=∃ i h:Nat,m=e.args.length-i/\i<=e.args.length/\h<=101/\I4 e ht i (e.args.drop i) h=H/\s=⟨[(4,I i),(3,I h),(1,.ax 0 0)],[(0,⟨85,0,[I e.lY,I e.n,.str e.name,.au (e.args.flatMap a8) e.args.length]⟩)],1⟩
theorem kQ (ht:Ex->Nat)(e:Ex)(he:e.lY<=17)(hlen:e.args.length<=2)(ha:∀ x∈e.args,x.lY<=17/\ht x<=100/\af prog 191 [.agg (a8 x)] (I (ht x))) :
  af prog 191 [.agg (a8 e)] (I ((I4 e ht 0 e.args 0+if nS e.lY=5 then 1 else 0:Nat))):=by
 have Pj:=fL _ he;have OZ:=λ (i:Nat) (x:Ex) (h:e.args[i]? = some x)=>AY e i x h (ha x (mem_of_getElem? h)).1 he;have Qv:=λ (i:Nat) (x:Ex) (h:e.args[i]? = some x)=>aH (f:=a8) (n:=4) bA (m:=e.args) h;have hB:=HR e ht 101 e.args 0 0 (λ x hx=>by have:=(ha x hx).2.1;omega) yA;obtain⟨H,hH⟩:∃ H,I4 e ht 0 e.args 0=H:=⟨_,rfl⟩;rw[hH] at hB |-;rw[bV,JN] at OZ |-;refine af.aC ag Tryz.func191 rfl GK (by simp[Tryz.ntmps191]) rfl λ C hC OR=>?_;rw[Tryz.ntmps191] at hC;apply aq;simp[hC];apply aq;simp[hC];refine T.cut (λ s=>s=⟨[(3,I H),(1,.ax 0 0)],[(0,⟨85,0,[I e.lY,I e.n,.str e.name,.au (e.args.flatMap a8) e.args.length]⟩)],1⟩) ?_ ?_
 ·apply aq;simp[hC];apply T.block;refine T.aQ (J152 ht e H) (n:=e.args.length) ?_ ?_
  ·refine aa.le (Le.env [4,3,1]) (aa.here ⟨0,0,by omega,by omega,by omega,hH,?_⟩);simp
  ·rintro n s ⟨i,h,rfl,OP,hh,Zz,rfl⟩;by_cases hi:i<e.args.length
   ·obtain⟨x,hx⟩:∃ x,e.args[i]? = some x:=⟨e.args[i],getElem?_eq_getElem hi⟩;have OS:=Qv i x hx;have hd:e.args.drop i=x::e.args.drop (i+1):=by
     rw[drop_eq_getElem_cons hi,(List.getElem?_eq_some_iff.1 hx).2]
    rw[hd,I4] at Zz;obtain⟨x1,x2,x3⟩:=ha x (mem_of_getElem? hx);have Rp:=OZ i x hx;rw[show (decide (x.st<e.st) || (decide (x.st=e.st) && decide (i=1)))=pY e x i from rfl] at Rp;have wi:=cw ((i:Int)+1) yA yA;have wh:=cw ((ht x:Int)+1) yA yA;apply aT;simp[hC,hi];refine iI ?_;simp;apply eZ;apply aq;simp[hC,hi,OS];refine ct WJ (x3) ?_;simp[hC];refine T.cut (λ s=>s=⟨[(5,I ((ht x+if pY e x i=true then 1 else 0:Nat))),(4,I i),(3,I h),(1,.ax 0 0)],[(0,⟨85,0,[I e.lY,I e.n,.str e.name,.au (e.args.flatMap a8) e.args.length]⟩)],1⟩) ?_ ?_
    ·apply aq;simp[hC];refine ct O4 (Rp) ?_;simp;refine T.bB rfl (λ h=>?_) (λ h=>?_)
     ·have h1:pY e x i=true:=by simpa using h
      apply aG;simp[hC,wh];refine aa.le (Le.env [5,4,3,1]) (aa.here ?_);simp[h1]
     ·have h1:pY e x i=false:=by simpa using h
      apply T.skip;simp;refine aa.le (Le.env [5,4,3,1]) (aa.here ?_);simp[h1]
    rintro s rfl;obtain⟨g,hg⟩:∃ g,(ht x+if pY e x i=true then 1 else 0)=g:=⟨_,rfl⟩;rw[hg] at Zz |-;have QN:g<=101:=by rw[<- hg];split<;>omega
    have To:(if h<g then (g:Int) else h)=((max h g:Nat):Int):=by
     split<;>omega
    apply aG;simp[hC,To];apply aG;simp[hC,wi];refine⟨e.args.length-(i+1),by omega,?_⟩;refine aa.le (Le.env [4,3,1]) (aa.here ⟨i+1,max h g,rfl,by omega,by omega,Zz,?_⟩);simp
   ·have OV:i=e.args.length:=by omega
    rw[OV,drop_length,I4] at Zz;apply aT;simp[hC,hi];refine bh ?_;simp;apply T.exit;simp;refine aa.le (Le.env [3,1]) (aa.here ?_);simp[Zz]
 ·rintro s rfl;have wH:=cw ((H:Int)+1) yA yA;refine T.cut (λ s=>s=⟨[(3,I ((H+if nS e.lY=5 then 1 else 0:Nat)))],[],1⟩) ?_ ?_
  ·apply aq;simp[hC];refine ct O4 (Pj) ?_;simp[hC];refine T.bB rfl (λ h=>?_) (λ h=>?_)
   ·have h1:nS e.lY=5:=by simp at h;omega
    apply aG;simp[hC,wH];refine aa.trim [3] [] 1 xr yA ?_;simp[h1]
   ·have h1:¬ nS e.lY=5:=by simp at h;omega
    apply T.skip;simp;refine aa.trim [3] [] 1 xr yA ?_;simp[h1]
  ·rintro s rfl;apply aq;simp[hC];apply T.ret;apply aa.here;simp[Tryz.results191]
def D2:Ex->Nat
 | .un k x=>I4 (.un k x) (λ _=>D2 x) 0 [x] 0+1
 | .bin k a b=>max (max 0 (D2 a+if pY (.bin k a b) a 0=true then 1 else 0)) (D2 b+if pY (.bin k a b) b 1=true then 1 else 0)
 | _=>0
theorem oT {ns:List ByteArray}:∀ (d:Nat) (e:Ex),d<=5->fV ns d e->D2 e<=2*d/\af prog 191 [.agg (a8 e)] (I (D2 e))
 | d,.num n,_,hw=>⟨by simp[D2],by
  have h:=kQ D2 (.num n) (gu hw) Sz Sz;exact h⟩
 | d,.nm n,_,hw=>⟨by simp[D2],by
  have h:=kQ D2 (.nm n) (gu hw) Sz Sz;exact h⟩
 | d+1,.un k x,hd,hw=>by
  have PT:=hw;simp only[fV] at PT;obtain⟨i1,i2⟩:=oT d x yA PT.2;have h:=kQ D2 (.un k x) (gu hw) Sz (by
   intro y hy;simp only[Ex.args,mem_singleton] at hy;subst hy;exact⟨gu PT.2,by omega,i2⟩)
  have h5:nS (Ex.un k x).lY=5:=by
   simp only[Ex.lY];have:=PT.1;have:∀ k,k<2->nS (3+k)=5:=by decide
   exact this k PT.1
  rw[if_pos h5] at h;refine⟨?_,h⟩;simp only[D2,I4];split<;>omega
 | d+1,.bin k a b,hd,hw=>by
  have PT:=hw;simp only[fV] at PT;obtain⟨i1,i2⟩:=oT d a yA PT.2.1;obtain⟨j1,j2⟩:=oT d b yA PT.2.2;have h:=kQ D2 (.bin k a b) (gu hw) Sz (by
   intro y hy;simp only[Ex.args,mem_cons,not_mem_nil,or_false] at hy;rcases hy with rfl | rfl
   ·exact⟨gu PT.2.1,by omega,i2⟩
   ·exact⟨gu PT.2.2,by omega,j2⟩)
  have h5:¬ nS (Ex.bin k a b).lY=5:=by
   simp only[Ex.lY];have:=PT.1;have:∀ k,k<13->¬ nS (5+k)=5:=by decide
   exact this k PT.1
  rw[if_neg h5] at h;refine⟨?_,h⟩;simp only[D2];split<;>split<;>omega
 | 0,.un _ _,_,h=>h.elim
 | 0,.bin _ _ _,_,h=>h.elim
 | 0,.zero,_,h=>h.elim
 | 0,.loc _,_,h=>h.elim
 | 0,.iK _,_,h=>h.elim
 | _+1,.zero,_,h=>h.elim
 | _+1,.loc _,_,h=>h.elim
 | _+1,.iK _,_,h=>h.elim
def ni (s:ByteArray):Prop:=dG s/\bs s∉r8
theorem EX (n:Nat)(hn:n<4611686018427387904):af prog 190 [.agg (a8 (.num n))] (.bool true):=by
 have Pj:af prog 206 [I (1:Nat)] (I 6):=fL 1 yA;refine af.aC ag Tryz.func190 rfl GK (by simp[Tryz.ntmps190]) rfl λ C hC OR=>?_;rw[Tryz.ntmps190] at hC;apply aq;simp[hC];apply aq;simp[hC];refine T.cut (λ s=>s=⟨[(3,.int .i64 0),(1,.ax 0 0)],[(0,⟨85,0,a8 (.num n)⟩)],1⟩) ?_ ?_
 ·apply aq;simp[hC,a8,eS];refine ct O4 (Pj) ?_;simp;apply T.block;apply aq;simp[hC];refine cX ?_;simp;apply aq;simp[hC];apply T.seq;have Rc:(0:Int)<=n:=by omega
  refine T.rx ag follows [0,1,2,3,4,5,6,7,8,9,10,11,12,13,14,15,16,17,18,19,20,21,22,23,24,25,26,27] [(10,24)] GK ?_;simp[hC,Rc,iV];apply aq;simp[hC];refine bh ?_;simp;apply T.skip;simp;refine aa.trim [3,1] [0] 1 xr yA ?_;simp
 ·rintro s rfl;apply aT;simp[hC,a8,eS];refine bh ?_;simp;apply T.skip;simp;apply aT;simp[hC];apply T.block;refine T.aQ (λ m s=>s=⟨[(6,.int .i64 0),(3,.int .i64 0),(1,.ax 0 0)],[(0,⟨85,0,a8 (.num n)⟩)],1⟩) (n:=0) ?_ ?_
  ·refine aa.trim [6,3,1] [0] 1 xr yA ?_;simp[a8,eS]
  ·rintro m s rfl;apply aT;simp[hC];refine bh ?_;simp;apply T.exit;simp;apply aq;simp[hC];apply T.ret;apply aa.here;simp[Tryz.results190]
theorem GS (x:ByteArray)(hx:ni x):af prog 190 [.agg (a8 (.nm x))] (.bool true):=by
 have Pj:af prog 206 [I (2:Nat)] (I 6):=fL 2 yA;have P5:=jQ x hx.1 hx.2;refine af.aC ag Tryz.func190 rfl GK (by simp[Tryz.ntmps190]) rfl λ C hC OR=>?_;rw[Tryz.ntmps190] at hC;apply aq;simp[hC];apply aq;simp[hC];refine T.cut (λ s=>s=⟨[(3,.int .i64 0),(1,.ax 0 0)],[(0,⟨85,0,a8 (.nm x)⟩)],1⟩) ?_ ?_
 ·apply aq;simp[hC,a8];refine ct O4 (Pj) ?_;simp;apply T.block;apply aq;simp[hC];refine cX ?_;simp;apply aq;simp[hC];apply T.seq;refine T.rx ag follows [0,1,2,3,4,5,6,7,8,9,10,11,12,13,14,15,16,17,18,19,20,21,22,23,24,25,26,27] [(10,24)] GK ?_;simp[hC];refine RX.call rfl xr rfl rfl rfl O4 (P5) ?_;simp;apply aq;simp[hC];refine bh ?_;simp;apply T.skip;simp;refine aa.trim [3,1] [0] 1 xr yA ?_;simp
 ·rintro s rfl;apply aT;simp[hC,a8];refine bh ?_;simp;apply T.skip;simp;apply aT;simp[hC];apply T.block;refine T.aQ (λ m s=>s=⟨[(6,.int .i64 0),(3,.int .i64 0),(1,.ax 0 0)],[(0,⟨85,0,a8 (.nm x)⟩)],1⟩) (n:=0) ?_ ?_
  ·refine aa.trim [6,3,1] [0] 1 xr yA ?_;simp[a8]
  ·rintro m s rfl;apply aT;simp[hC];refine bh ?_;simp;apply T.exit;simp;apply aq;simp[hC];apply T.ret;apply aa.here;simp[Tryz.results190]
theorem uX (e:Ex)(st:Nat)(he:e.lY<=17)(Pk:nS e.lY=st)(h6:st<=5)(hn:e.n=0)(P5:e.name=eS)(hlen:e.args.length=if st=5 then 1 else 2)(ha:∀ x∈e.args,af prog 190 [.agg (a8 x)] (.bool true)):af prog 190 [.agg (a8 e)] (.bool true):=by
 have Pj:=fL _ he;rw[Pk] at Pj;have Qv:=λ (i:Nat) (x:Ex) (h:e.args[i]? = some x)=>aH (f:=a8) (n:=4) bA (m:=e.args) h;rw[bV,JN,hn,P5];obtain⟨al,ZW⟩:∃ al,e.args.length=al:=⟨_,rfl⟩;rw[ZW] at hlen;have h6':¬ (st:Int)=6:=by omega
 refine af.aC ag Tryz.func190 rfl GK (by simp[Tryz.ntmps190]) rfl λ C hC OR=>?_;rw[Tryz.ntmps190] at hC;apply aq;simp[hC];apply aq;simp[hC];refine T.cut (λ s=>s=⟨[(3,I al),(1,.ax 0 0)],[(0,⟨85,0,[I e.lY,I 0,.str eS,.au (e.args.flatMap a8) al]⟩)],1⟩) ?_ ?_
 ·apply aq;simp[hC,ZW];refine ct O4 (Pj) ?_;simp;apply T.block;apply aq;simp[hC];refine T.bB rfl (λ h=>?_) (λ h=>?_)
  ·simp at h;omega
  apply aq;simp[hC];refine T.bB rfl (λ h=>?_) (λ h=>?_)
  ·have h5:st=5:=by simp at h;omega
   rw[if_pos h5] at hlen;apply aG;simp[hC];refine aa.trim [3,1] [0] 1 xr yA ?_;simp[hlen]
  ·have h5:¬ st=5:=by simp at h;omega
   rw[if_neg h5] at hlen;apply T.skip;simp;refine aa.trim [3,1] [0] 1 xr yA ?_;simp[hlen]
 ·rintro s rfl;have Tw:0<al:=by rw[hlen];split<;>omega
  have hal2:al<=2:=by rw[hlen];split<;>omega
  apply aT;simp[hC,Tw,eS,j4];refine bh ?_;simp;apply T.skip;simp;apply aT;simp[hC];apply T.block;refine T.aQ (λ m s=>∃ i:Nat,m=al-i/\i<=al/\s=⟨[(6,I i),(3,I al),(1,.ax 0 0)],[(0,⟨85,0,[I e.lY,I 0,.str ⟨#[]⟩,.au (e.args.flatMap a8) al]⟩)],1⟩) (n:=al) ?_ ?_
  ·refine aa.trim [6,3,1] [0] 1 xr yA ⟨0,by omega,by omega,?_⟩;simp
  ·rintro m s ⟨i,rfl,hi,rfl⟩;by_cases OP:i<al
   ·obtain⟨x,hx⟩:∃ x,e.args[i]? = some x:=⟨e.args[i],getElem?_eq_getElem yA⟩;have OS:=Qv i x hx;have hcx:=ha x (mem_of_getElem? hx);have wi:=cw ((i:Int)+1) yA yA;apply aT;simp[hC,OP];refine iI ?_;simp;apply eZ;apply aq;simp[hC,OP,OS];refine ct WJ (hcx) ?_;simp[hC];refine bh ?_;simp;apply T.skip;simp;apply aG;simp[hC,wi];refine⟨al-(i+1),by omega,?_⟩;refine aa.trim [6,3,1] [0] 1 xr yA ⟨i+1,rfl,by omega,?_⟩;simp
   ·apply aT;simp[hC,OP];refine bh ?_;simp;apply T.exit;simp;apply aq;simp[hC];apply T.ret;apply aa.here;simp[Tryz.results190]
theorem qB {ns:List ByteArray}(RN:∀ s∈ns,ni s):∀ (d:Nat) (e:Ex),fV ns d e->af prog 190 [.agg (a8 e)] (.bool true)
 | _,.num n,hw=>EX n (by simpa [fV] using hw)
 | _,.nm s,hw=>GS s (RN s (by simpa [fV] using hw))
 | d+1,.un k x,hw=>by
  have PT:=hw;simp only[fV] at PT;have h5:nS (Ex.un k x).lY=5:=(by decide:∀ k,k<2->nS (3+k)=5) k PT.1;refine uX (.un k x) 5 (gu hw) h5 yA rfl rfl rfl ?_;intro y hy;simp only[Ex.args,mem_singleton] at hy;subst hy;exact qB RN d _ PT.2
 | d+1,.bin k a b,hw=>by
  have PT:=hw;simp only[fV] at PT;have h5:nS (Ex.bin k a b).lY<=4:=(by decide:∀ k,k<13->nS (5+k)<=4) k PT.1;refine uX (.bin k a b) _ (gu hw) rfl yA rfl rfl ?_ ?_
  ·rw[if_neg yA];rfl
  ·intro y hy;simp only[Ex.args,mem_cons,not_mem_nil,or_false] at hy;rcases hy with rfl | rfl
   ·exact qB RN d _ PT.2.1
   ·exact qB RN d _ PT.2.2
 | 0,.un _ _,h=>h.elim
 | 0,.bin _ _ _,h=>h.elim
 | 0,.zero,h=>h.elim
 | 0,.loc _,h=>h.elim
 | 0,.iK _,h=>h.elim
 | _+1,.zero,h=>h.elim
 | _+1,.loc _,h=>h.elim
 | _+1,.iK _,h=>h.elim
theorem fY {ns:List ByteArray}(RN:∀ s∈ns,ni s)(d:Nat)(e:Ex)(hd:d<=5)(hw:fV ns d e):af prog 160 [.agg (a8 e)] (.bool true):=by
 obtain⟨h1,h2⟩:=oT d e hd hw;have h3:=qB RN d e hw;have h4:(D2 e:Int)<=24:=by omega
 refine af.aC ag Tryz.func160 rfl GK (by simp[Tryz.ntmps160]) rfl λ C hC OR=>?_;rw[Tryz.ntmps160] at hC;apply aq;simp[hC];apply aq;simp[hC];refine ct WJ (h3) ?_;simp[hC];refine TL.cU OU rfl rfl rfl rfl (bR.of rfl WJ (h2)) (TL.go' ag ?_);simp[hC,h4];apply T.ret;apply aa.here;simp[Tryz.results160]
theorem pB (n:Int)(h:0<=n/\n<18446744073709551616):IntKind.u64.wrap n=n:=by
 exact IntWalk.u64_in n ⟨h.1,by omega⟩
def Bs (m:Nat)(s:ByteArray):ByteArray:=if m=0 then s else ky m++s
theorem C5 (n:Nat):ky n=Bs (n / 10) (eC (48+n % 10)):=by
 unfold Bs;rw[ky];split
 ·rename_i h;rw[if_pos yA,Nat.mod_eq_of_lt h]
 ·rw[if_neg yA]
theorem FJ (m:Nat)(s:ByteArray)(h:0<m):Bs m s=Bs (m / 10) (eC (48+m % 10)++s):=by
 unfold Bs;rw[if_neg yA,ky];split
 ·rename_i h1;rw[if_pos yA,Nat.mod_eq_of_lt h1]
 ·rw[if_neg yA,ByteArray.append_assoc]
def J153 (T:ByteArray)(m:Nat)(s:St):Prop:=∃ x:ByteArray,x.size+m<=9223372036854775807/\Bs m x=T/\s=⟨[(3,.str x),(0,.int .u64 m)],[],0⟩
theorem x8 (n:Nat)(hn:n<9223372036854775808):af prog 192 [.int .u64 n] (.str (ky n)):=by
 rw[C5];obtain⟨X,hT⟩:∃ X,Bs (n / 10) (eC (48+n % 10))=X:=⟨_,rfl⟩;rw[hT];have m1:(n:Int).tmod 10=((n % 10:Nat):Int):=by rw[Int.tmod_eq_emod_of_nonneg yA];omega
 have d1:(n:Int).tdiv 10=((n / 10:Nat):Int):=by rw[Int.tdiv_eq_ediv_of_nonneg yA];omega
 refine af.aC ag Tryz.func192 rfl GK (by simp[Tryz.ntmps192]) rfl λ C hC OR=>?_;rw[Tryz.ntmps192] at hC;apply aq;simp[hC];obtain⟨q,hq⟩:∃ q,n % 10=q:=⟨_,rfl⟩;have hq9:q<10:=by omega
 have m2:(n:Int) % 10=(q:Int):=by omega
 have w1:=pB (48+(q:Int)) yA;have w1b:=pB (q:Int) yA;have w2:IntKind.u8.wrap (48+(q:Int))=48+(q:Int):=IntWalk.u8_in _ yA;have w3:(0:Int)<=48+(q:Int)/\48+(q:Int)<256:=by omega
 have w4:(48+(q:Int)).toNat=48+q:=by omega
 refine T.seq (T.B1 ag ?_);simp[hC,m1,hq,w1,w2,w3,w4];refine T.le (Le.trim [3,0] [] 0 xr yA) ?_;simp;have UZ:(⟨#[48+UInt8.ofNat q]⟩:ByteArray)=eC (48+q):=by simp[eC]
 rw[UZ];have wd:=pB ((n / 10:Nat):Int) yA;have d2:(n:Int) / 10=((n / 10:Nat):Int):=by omega
 obtain⟨m0,SC⟩:∃ m0,n / 10=m0:=⟨_,rfl⟩;rw[SC] at d1 d2 wd hT;rw[hq] at hT;apply aT;simp[hC,d1,wd];apply T.block;refine T.aQ (J153 X) (n:=m0) ?_ ?_
 ·refine aa.trim [3,0] [] 0 xr yA ⟨eC (48+q),?_,hT,?_⟩
  ·have:(eC (48+q)).size=1:=rfl;omega
  ·simp
 ·rintro m s ⟨x,hx,hX,rfl⟩;by_cases hm:0<m
  ·have Xb:(0:Int)<m:=by omega
   rw[FJ m x hm] at hX;obtain⟨r,hr⟩:∃ r,m % 10=r:=⟨_,rfl⟩;have hr9:r<10:=by omega
   have m1:(m:Int).tmod 10=(r:Int):=by rw[Int.tmod_eq_emod_of_nonneg yA];omega
   have m2:(m:Int) % 10=(r:Int):=by omega
   have v1:=pB (48+(r:Int)) yA;have v1b:=pB (r:Int) yA;have v2:IntKind.u8.wrap (48+(r:Int))=48+(r:Int):=IntWalk.u8_in _ yA;have v3:(0:Int)<=48+(r:Int)/\48+(r:Int)<256:=by omega
   have v4:(48+(r:Int)).toNat=48+r:=by omega
   have e1:(m:Int).tdiv 10=((m / 10:Nat):Int):=by rw[Int.tdiv_eq_ediv_of_nonneg yA];omega
   have e2:(m:Int) / 10=((m / 10:Nat):Int):=by omega
   have ve:=pB ((m / 10:Nat):Int) yA;rw[hr] at hX;have hch2:(⟨#[48+UInt8.ofNat r]⟩:ByteArray)=eC (48+r):=by simp[eC]
   have O0:(eC (48+r)).size=1:=rfl;have so:=az (eC (48+r)) x yA;obtain⟨m',Xb⟩:∃ m',m / 10=m':=⟨_,rfl⟩;rw[Xb] at e1 e2 ve hX;apply aT;simp[hC,hm];refine iI ?_;simp;apply eZ;refine T.B1 ag ?_;simp[hC,m1,v1,v2,v3,v4,hch2,so];apply aG;simp[hC,e1,ve];refine⟨m',by omega,?_⟩;refine aa.trim [3,0] [] 0 xr yA ⟨eC (48+r)++x,?_,hX,?_⟩
   ·rw[ByteArray.size_append];omega
   ·simp
  ·have SC:m=0:=by omega
   subst SC;have hxT:x=X:=by simpa [Bs] using hX
   apply aT;simp[hC];refine bh ?_;simp;apply T.exit;simp;apply aq;simp[hC];apply T.ret;apply aa.here;simp[Tryz.results192,hxT]
theorem pW (n:Int)(h1 : -1000<=n)(h2:n<9223372036854775808):af prog 164 [I n] (.str (lu n)):=by
 refine af.aC ag Tryz.func164 rfl GK (by simp[Tryz.ntmps164]) rfl λ C hC OR=>?_;rw[Tryz.ntmps164] at hC;apply aq;simp[hC];apply aT;simp[hC];refine T.bB rfl (λ h=>?_) (λ h=>?_)
 ·have hn:n<0:=by simpa using h
  obtain⟨m,hm⟩:∃ m:Nat,n=-(m:Int):=⟨(-n).toNat,by omega⟩;subst hm;have V7:=x8 m yA;have w1:=cw (-(m:Int)+1) yA yA;have w2:=cw (-(-(m:Int)+1)) yA yA;have w3:=pB (-(-(m:Int)+1)) yA;have w4:=pB (-(-(m:Int)+1)+1) yA;have e5 : -(-(m:Int)+1)+1=(m:Int):=by omega
  have w5:=pB (m:Int) yA;have O0:(ky m).size<=19:=by
   have:=(zo m).2.2.2 18 yA;rw[lM] at this;exact this
  have so:=az ⟨#[45]⟩ (ky m) (by have:(⟨#[45]⟩:ByteArray).size=1:=rfl;omega);refine T.seq (T.B1 ag ?_);simp[hC,w1,w2,w3,e5,w5];refine ct O4 (V7) ?_;simp[hC,so];apply T.ret;apply aa.here;have Zf:lu (-(m:Int))=⟨#[45]⟩++ky m:=by
   unfold lu;rw[if_pos hn];simp
  rw[Zf];simp[Tryz.results164]
 ·have hn:¬ n<0:=by simpa using h
  obtain⟨m,hm⟩:∃ m:Nat,n=(m:Int):=⟨n.toNat,by omega⟩;subst hm;have V7:=x8 m yA;have w5:=pB (m:Int) yA;apply T.skip;simp;refine T.seq (T.B1 ag ?_);simp[hC,w5];refine ct O4 (V7) ?_;simp[hC];apply T.ret;apply aa.here;have Zf:lu (m:Int)=ky m:=by
   unfold lu;rw[if_neg hn];simp
  rw[Zf];simp[Tryz.results164]
def uR (e x:Ex)(i:Nat):ByteArray:=uh (pY e x i) (ji x)
theorem Fh (b:Bool)(x:ByteArray):(uh b x).size<=x.size+2:=by
 unfold uh;split
 ·rw[ByteArray.size_append,ByteArray.size_append];have h1:(⟨#[40]⟩:ByteArray).size=1:=rfl;have h2:(⟨#[41]⟩:ByteArray).size=1:=rfl;omega
 ·omega
def J154 (e:Ex)(tl:List ByteArray)(n:Nat)(s:St):Prop:=∃ i:Nat,n=e.args.length-i/\i<=e.args.length/\s=⟨[(4,I i),(3,.bg 1 0 i),(1,.ax 0 0)],[(0,⟨85,0,[I e.lY,I e.n,.str e.name,.au (e.args.flatMap a8) e.args.length]⟩),(1,bw (tl.take i))],2⟩
theorem M3:∀ k,k<13->nS (5+k)<=4/\∃ i,i<(vo (nS (5+k))).2.length/\(vo (nS (5+k))).1.length=(vo (nS (5+k))).2.length/\(vo (nS (5+k))).2[i]? = some ((5+k:Nat):Int)/\(vo (nS (5+k))).1[i]? = some (Dg.getD k ⟨#[]⟩)/\(vo (nS (5+k))).2.length<=6/\∀ j,j<i->∀ o,(vo (nS (5+k))).2[j]? = some o->o≠((5+k:Nat):Int)
 | 0,_=>⟨by decide,0,by decide,rfl,rfl,rfl,by decide,by decide⟩
 | 1,_=>⟨by decide,1,by decide,rfl,rfl,rfl,by decide,by decide⟩
 | 2,_=>⟨by decide,2,by decide,rfl,rfl,rfl,by decide,by decide⟩
 | 3,_=>⟨by decide,0,by decide,rfl,rfl,rfl,by decide,by decide⟩
 | 4,_=>⟨by decide,1,by decide,rfl,rfl,rfl,by decide,by decide⟩
 | 5,_=>⟨by decide,2,by decide,rfl,rfl,rfl,by decide,by decide⟩
 | 6,_=>⟨by decide,3,by decide,rfl,rfl,rfl,by decide,by decide⟩
 | 7,_=>⟨by decide,4,by decide,rfl,rfl,rfl,by decide,by decide⟩
 | 8,_=>⟨by decide,5,by decide,rfl,rfl,rfl,by decide,by decide⟩
 | 9,_=>⟨by decide,0,by decide,rfl,rfl,rfl,by decide,by decide⟩
 | 10,_=>⟨by decide,1,by decide,rfl,rfl,rfl,by decide,by decide⟩
 | 11,_=>⟨by decide,0,by decide,rfl,rfl,rfl,by decide,by decide⟩
 | 12,_=>⟨by decide,0,by decide,rfl,rfl,rfl,by decide,by decide⟩
 | _+13,h=>absurd h yA
theorem oK (e:Ex)(tl:List ByteArray)(O5:tl.length=e.args.length)(he:e.lY<=17)(ZW:e.args.length<=2)(R:ByteArray)
  (ha:∀ i x,e.args[i]? = some x->x.lY<=17/\af prog 193 [.agg (a8 x)] (.str (ji x))/\(ji x).size<=100000/\tl[i]? = some (uR e x i))
  (hR:(∃ n:Nat,e=.num n/\n<4611686018427387904/\R=ky n)\/(∃ x,e=.nm x/\R=x)\/(∃ k x,e=.un k x/\k<2/\R=(if k=0 then ⟨#[45]⟩ else ⟨#[33]⟩)++tl.getD 0 eS)\/(∃ k a b,e=.bin k a b/\k<13/\R=tl.getD 0 eS++⟨#[32]⟩++Dg.getD k ⟨#[]⟩++⟨#[32]⟩++tl.getD 1 eS)):af prog 193 [.agg (a8 e)] (.str R):=by
 have Qv:=λ (i:Nat) (x:Ex) (h:e.args[i]? = some x)=>aH (f:=a8) (n:=4) bA (m:=e.args) h;have OZ:=λ (i:Nat) (x:Ex) (h:e.args[i]? = some x)=>AY e i x h (ha i x h).1 he;have Qt:∀ x∈tl,x.size<=100002:=by
  intro x hx;obtain⟨i,hi⟩:=getElem?_of_mem hx;have OP:i<e.args.length:=by rw[<- O5];exact (List.getElem?_eq_some_iff.1 hi).1
  obtain⟨y,hy⟩:∃ y,e.args[i]? = some y:=⟨e.args[i],getElem?_eq_getElem OP⟩;obtain⟨_,_,h3,h4⟩:=ha i y hy;rw[hi] at h4;cases h4;have:=Fh (pY e y i) (ji y);unfold uR;omega
 rw[bV,JN] at OZ |-;refine af.aC ag Tryz.func193 rfl GK (by simp[Tryz.ntmps193]) rfl λ C hC OR=>?_;rw[Tryz.ntmps193] at hC;apply aq;simp[hC];apply aq;simp[hC];refine T.cut (λ s=>s=⟨[(3,.bg 1 0 e.args.length),(1,.ax 0 0)],[(0,⟨85,0,[I e.lY,I e.n,.str e.name,.au (e.args.flatMap a8) e.args.length]⟩),(1,bw tl)],2⟩) ?_ ?_
 ·apply aq;simp[hC];apply T.block;refine T.aQ (J154 e tl) (n:=e.args.length) ?_ ?_
  ·refine aa.le (Le.own 3 9 1 rfl) ?_;simp;refine aa.trim [4,3,1] [0,1] 2 xr yA ⟨0,by omega,by omega,?_⟩;simp[bw]
  ·rintro n s ⟨i,rfl,OP,rfl⟩;by_cases hi:i<e.args.length
   ·obtain⟨x,hx⟩:∃ x,e.args[i]? = some x:=⟨e.args[i],getElem?_eq_getElem hi⟩;have OS:=Qv i x hx;obtain⟨x1,x2,x3,x4⟩:=ha i x hx;have Rp:=OZ i x hx;rw[show (decide (x.st<e.st) || (decide (x.st=e.st) && decide (i=1)))=pY e x i from rfl] at Rp;have wi:=cw ((i:Int)+1) yA yA;apply aT;simp[hC,hi];refine iI ?_;simp;apply eZ;apply aq;simp[hC,hi,OS];refine ct WJ (x2) ?_;simp[hC];refine T.cut (λ s=>s=⟨[(5,.str (uR e x i)),(4,I i),(3,.bg 1 0 i),(1,.ax 0 0)],[(0,⟨85,0,[I e.lY,I e.n,.str e.name,.au (e.args.flatMap a8) e.args.length]⟩),(1,bw (tl.take i))],2⟩) ?_ ?_
    ·apply aq;simp[hC];refine ct O4 (Rp) ?_;simp;refine T.bB rfl (λ h=>?_) (λ h=>?_)
     ·have h1:pY e x i=true:=by simpa using h
      have s1:=az ⟨#[40]⟩ (ji x) (by have:(⟨#[40]⟩:ByteArray).size=1:=rfl;omega);have s2:=az (⟨#[40]⟩++ji x) ⟨#[41]⟩ (by rw[ByteArray.size_append];have:(⟨#[40]⟩:ByteArray).size=1:=rfl;have:(⟨#[41]⟩:ByteArray).size=1:=rfl;omega);apply aG;simp[hC,s1,s2];refine aa.trim [5,4,3,1] [0,1] 2 xr yA ?_;simp[uR,uh,h1]
     ·have h1:pY e x i=false:=by simpa using h
      apply T.skip;simp;refine aa.trim [5,4,3,1] [0,1] 2 xr yA ?_;simp[uR,uh,h1]
    rintro s rfl;have Tg:(i+1)*16<=140737488355328:=by omega
    have hwl:(bw (tl.take i)).cells.length=i:=by simp[bw];omega
    have hws:(bw (tl.take i)).sz=1:=rfl;have hwe:(bw (tl.take i)).elem=9:=rfl;apply aG;simp[hC,Tg,hwl,hws,hwe,aS];apply aG;simp[hC,wi];refine⟨e.args.length-(i+1),by omega,?_⟩;refine aa.le (Le.trim [4,3,1] [0,3] 4 Ue yA) ?_;simp;refine aa.le (Le.ph 3 1 rfl rfl yA xr xr Ue) ?_;simp;refine aa.trim [4,3,1] [0,1] 2 Ue yA ⟨i+1,rfl,by omega,?_⟩;have Pb:tl.take (i+1)=tl.take i++[uR e x i]:=by rw[take_add_one,x4];rfl
    rw[Pb];simp[bw]
   ·have OV:i=e.args.length:=by omega
    apply aT;simp[hC,hi];refine bh ?_;simp;apply T.exit;simp;refine aa.trim [3,1] [0,1] 2 xr yA ?_;rw[OV,<- O5,take_length];simp
 ·rintro s rfl;rcases hR with ⟨n,rfl,hn,rfl⟩ | ⟨x,rfl,rfl⟩ | ⟨k,x,rfl,hk,rfl⟩ | ⟨k,a,b,rfl,hk,rfl⟩
  ·have X7:=pW n yA yA;have Zf:lu (n:Int)=ky n:=by
    unfold lu;rw[if_neg yA];simp
   rw[Zf] at X7;apply eZ;apply aq;simp[hC,Ex.lY,Ex.n,Ex.name,Ex.args];refine cX ?_;simp;apply aq;simp[hC];refine ct O4 (X7) ?_;simp[hC];apply T.ret;apply aa.here;simp[Tryz.results193]
  ·apply eZ;apply aq;simp[hC,Ex.lY,Ex.n,Ex.name,Ex.args];refine bh ?_;simp;apply aq;simp[hC];refine cX ?_;simp;apply aq;simp[hC];apply T.ret;apply aa.here;simp[Tryz.results193]
  ·have h1:tl.length=1:=O5;have OS:=jq (ns:=tl) (i:=0) yA;rw[drop_zero] at OS;have P5:(bw tl).cells=.str (tl.getD 0 eS)::(tl.map CV.str).drop 1:=OS;have RN:(bw tl).sz=1:=rfl;have O0:=Qt (tl.getD 0 eS) (jt yA eS);generalize tl.getD 0 eS=t0 at P5 O0;have s45:(⟨#[45]⟩:ByteArray).size=1:=rfl;have s33:(⟨#[33]⟩:ByteArray).size=1:=rfl;apply eZ
   match k,hk with
   | 0,_=>
    have so:=az ⟨#[45]⟩ t0 yA;apply aq;simp[hC,Ex.lY,Ex.n,Ex.name,Ex.args];refine bh ?_;simp;apply aq;simp[hC];refine bh ?_;simp;apply aq;simp[hC];refine cX ?_;simp;apply aq;simp[hC,P5,so];apply T.ret;apply aa.here;simp[Tryz.results193]
   | 1,_=>
    have so:=az ⟨#[33]⟩ t0 yA;apply aq;simp[hC,Ex.lY,Ex.n,Ex.name,Ex.args];refine bh ?_;simp;apply aq;simp[hC];refine bh ?_;simp;apply aq;simp[hC];refine bh ?_;simp;apply aq;simp[hC];refine cX ?_;simp;apply aq;simp[hC,P5,so];apply T.ret;apply aa.here;simp[Tryz.results193]
  ·have h1:tl.length=2:=O5;have OS:=jq (ns:=tl) (i:=0) yA;have QO:=jq (ns:=tl) (i:=1) yA;rw[drop_zero,QO] at OS;have P5:(bw tl).cells=[.str (tl.getD 0 eS),.str (tl.getD 1 eS)]:=by
    have e3:(tl.map CV.str).drop (1+1)=[]:=drop_eq_nil_of_le PA;rw[e3] at OS;exact OS
   have RN:(bw tl).sz=1:=rfl;have hsz0:=Qt (tl.getD 0 eS) (jt yA eS);have UE:=Qt (tl.getD 1 eS) (jt yA eS);generalize tl.getD 0 eS=t0 at P5 hsz0;generalize tl.getD 1 eS=t1 at P5 UE;obtain⟨YV,ix,Rp,VK,QM,Uj,h6,UM⟩:=M3 k hk;have hbz:(Dg.getD k ⟨#[]⟩).size<=2:=(by decide:∀ k,k<13->(Dg.getD k ⟨#[]⟩).size<=2) k hk;have PQ:=fL (5+k) yA;have X8:=GQ _ YV;generalize Dg.getD k ⟨#[]⟩=bo at Uj hbz;generalize nS (5+k)=sk at PQ X8 Rp VK QM Uj h6 UM YV;generalize T1:(vo sk).1=sl at *;generalize hog:(vo sk).2=ol at *;have n1:((5+k:Nat):Int)=5+(k:Int):=by omega
   rw[n1] at PQ QM UM;have k1:((5:Int)+k == 1)=false:=by simp;omega
   have k2:((5:Int)+k == 2)=false:=by simp;omega
   have k3:((5:Int)+k == 3)=false:=by simp;omega
   have k4:((5:Int)+k == 4)=false:=by simp;omega
   apply eZ;apply aq;simp[hC,Ex.lY,Ex.n,Ex.name,Ex.args,k1];refine bh ?_;simp;apply aq;simp[hC,k2];refine bh ?_;simp;apply aq;simp[hC,k3];refine bh ?_;simp;apply aq;simp[hC,k4];refine bh ?_;simp;apply T.skip;simp;refine T.le (Le.trim [3,1] [0,1] 2 xr yA) ?_;simp;apply aq;simp[hC];refine ct O4 (PQ) ?_;simp;refine ct O4 (X8) ?_;simp[hC];have q1:(⟨#[32]⟩:ByteArray).size=1:=rfl;have s1:=az t0 ⟨#[32]⟩ yA;have s2:=az (t0++⟨#[32]⟩) bo (by rw[ByteArray.size_append];omega);have s3:=az (t0++⟨#[32]⟩++bo) ⟨#[32]⟩ (by rw[ByteArray.size_append,ByteArray.size_append];omega);have s4:=az (t0++⟨#[32]⟩++bo++⟨#[32]⟩) t1 (by rw[ByteArray.size_append,ByteArray.size_append,ByteArray.size_append];omega);obtain⟨X,hX⟩:∃ X,t0++⟨#[32]⟩++bo++⟨#[32]⟩++t1=X:=⟨_,rfl⟩;rw[hX] at s4 |-;refine T.le (Le.trim [7,6,3,1] [0,1] 2 (by simp[strs,ints]) yA) ?_;simp;apply aT;simp[hC];apply T.block;refine T.aQ (λ n s=>∃ i:Nat,n=ix-i/\i<=ix/\s=⟨[(8,I i),(7,ints ol),(6,strs sl),(3,.bg 1 0 2),(1,.ax 0 0)],[(0,⟨85,0,[I (5+k),I 0,.str eS,.au (a8 a++a8 b) 2]⟩),(1,bw tl)],2⟩) (n:=ix) ?_ ?_
   ·refine aa.trim [8,7,6,3,1] [0,1] 2 (by simp[strs,ints]) yA ⟨0,by omega,by omega,?_⟩;simp
   ·rintro n s ⟨i,rfl,hi,rfl⟩;have OP:i<ol.length:=by omega
    obtain⟨o,ho⟩:∃ o,ol[i]? = some o:=⟨ol[i],getElem?_eq_getElem OP⟩;have hdo:(ol.map bj).drop i=I o::(ol.map bj).drop (i+1):=by
     rw[drop_eq_getElem_cons (by simpa using OP)];have:=(List.getElem?_eq_some_iff.1 ho).2;simp[bj,this]
    have wi:=cw ((i:Int)+1) yA yA;apply aT;simp[hC,ints,strs,OP];refine iI ?_;simp;apply eZ;apply T.seq;refine T.rx ag follows [0,1,2,3,4,5,6] [] GK ?_;simp[hC,OP,hdo];by_cases OV:i=ix
    ·subst OV;rw[QM] at ho;have hoe:o=5+(k:Int):=by simpa using ho.symm
     have WY:(sl.map CV.str).drop i=.str bo::(sl.map CV.str).drop (i+1):=by
      have:=jq (ns:=sl) (i:=i) yA;rw[this];simp[getD,Uj]
     have VY:i<sl.length:=by omega
     refine T.bB rfl (λ h=>?_) (λ h=>?_)
     ·apply T.seq;refine T.rx ag follows [0,1,2,3,4,5,6,7,8,9,10,11,12,13,14] [] GK ?_;simp[hC,P5,VY,WY,s1,s2,s3,s4];apply T.ret;apply aa.here;simp[Tryz.results193]
     ·simp[hoe] at h
    ·have Pp:=UM i yA o ho;refine T.bB rfl (λ h=>?_) (λ h=>?_)
     ·simp at h;exact absurd h Pp
     apply T.skip;simp;apply aG;simp[hC,wi];refine⟨ix-(i+1),by omega,?_⟩;refine aa.trim [8,7,6,3,1] [0,1] 2 xr yA ⟨i+1,rfl,by omega,?_⟩;simp
end Go.Proofs.YtlkmbdfhdknlgaaGreat
