/- inner, Height, shape, ValidExpr. -/
import Derived.Test.YtnecpnjdonibmaaGreatZ26
import Derived.Test.YtnecpnjdonibmaaGreatZ29
namespace Go.Proofs.YtnecpnjdonibmaaGreat
open Go.Can Go.aP
theorem Kn (e:Ex):e.op=(e.lO:Int):=by cases e<;>simp[Ex.op,Ex.lO]
theorem gr {ns:List ByteArray}:∀ {d:Nat} {e:Ex},fS ns d e→e.lO≤17
 | _,.num _,_=>by simp[Ex.lO]
 | _,.nm _,_=>by simp[Ex.lO]
 | d+1,.un k e,h=>by simp only[fS] at h;simp only[Ex.lO];omega
 | d+1,.bin k a b,h=>by simp only[fS] at h;simp only[Ex.lO];omega
 | 0,.un _ _,h=>h.elim
 | 0,.bin _ _ _,h=>h.elim
 | 0,.zero,h=>h.elim
 | 0,.loc _,h=>h.elim
 | 0,.ke _,h=>h.elim
 | _+1,.zero,h=>h.elim
 | _+1,.loc _,h=>h.elim
 | _+1,.ke _,h=>h.elim
theorem Bd (e:Ex)(i:Nat)(x:Ex)(h:e.args[i]? = some x)(hx:x.lO≤17)(he:e.lO≤17):af Tryz.prog 329 [.agg (bR e),I i] (.bool (decide (x.st<e.st) || (decide (x.st=e.st) && decide (i=1)))):=by
 have O1:i<e.args.length:=(List.getElem?_eq_some_iff.1 h).1;have OZ:(e.args.flatMap bR).drop (i*4)=bR x++(e.args.drop (i+1)).flatMap bR:=aN (f:=bR) (n:=4) bP h;have hcx:=fI _ hx;have V2:=fI _ he;have e1:=b9 e;have e2:=b9 x;rw[Kn] at e1 e2;rw[e2] at OZ;rw[e1];clear e1 e2;unfold Ex.st;generalize nC x.lO=sx at *;generalize nC e.lO=se at *;refine af.aK ai Tryz.func329 rfl OV (by simp[Tryz.ntmps329]) rfl fun C hC O0=>?_;rw[Tryz.ntmps329] at hC;apply aq;simp[hC];apply T.seq;refine T.rx ai follows [0,1,2,3,4,5,7,8,6,9,10,11] [(8,6)] OV ?_;simp[hC,O1,OZ];refine RX.call rfl OU rfl rfl rfl Pc (hcx) ?_;simp;refine RX.call rfl OU rfl rfl rfl Pc (V2) ?_;simp;apply T.seq;by_cases h1:sx<se
 ·apply aV;simp[hC,h1];apply T.ret;apply ae.here;simp[Tryz.results329]
 ·by_cases h2:sx=se
  ·subst h2;apply aV;simp[hC];apply T.ret;apply ae.here;simp[Tryz.results329]
  ·have So:((sx:Int) == se)=false:=by simp;omega
   apply aV;simp[hC,h1,So];apply T.ret;apply ae.here;simp[Tryz.results329,h2]
def pT (e x:Ex)(i:Nat):Bool:=decide (x.st<e.st) || (decide (x.st=e.st) && decide (i=1))
def Ed (e:Ex)(ht:Ex→Nat):Nat→List Ex→Nat→Nat
 | _,[],h=>h
 | i,x::r,h=>Ed e ht (i+1) r (max h (ht x+if pT e x i=true then 1 else 0))
theorem Ix (e:Ex)(ht:Ex→Nat)(B:Nat):∀ (l:List Ex) (i h:Nat),(∀ x∈l,ht x+1≤B)→h≤B→Ed e ht i l h≤B
 | [],_,_,_,h=>h
 | x::r,i,h,hx,hh=>by
  rw[Ed];have:=hx x List.mem_cons_self;refine Ix e ht B r _ _ (fun y hy=>hx y (List.mem_cons_of_mem _ hy)) ?_;split<;>omega
def J152 (ht:Ex→Nat)(e:Ex)(H:Nat)(m:Nat)(s:St):Prop:=∃ i h:Nat,m=e.args.length-i∧i≤e.args.length∧h≤101∧Ed e ht i (e.args.drop i) h=H∧s=⟨[(4,I i),(3,I h),(1,.ax 0 0)],[(0,⟨80,0,[I e.lO,I e.n,.str e.name,.aA (e.args.flatMap bR) e.args.length]⟩)],1⟩
theorem kK (ht:Ex→Nat)(e:Ex)(he:e.lO≤17)(hlen:e.args.length≤2)(ha:∀ x∈e.args,x.lO≤17∧ht x≤100∧af Tryz.prog 307 [.agg (bR x)] (I (ht x))) :
  af Tryz.prog 307 [.agg (bR e)] (I ((Ed e ht 0 e.args 0+if nC e.lO=5 then 1 else 0:Nat))):=by
 have O8:=fI _ he;have Pj:=fun (i:Nat) (x:Ex) (h:e.args[i]? = some x)=>Bd e i x h (ha x (List.mem_of_getElem? h)).1 he;have Qu:=fun (i:Nat) (x:Ex) (h:e.args[i]? = some x)=>aN (f:=bR) (n:=4) bP (m:=e.args) h;have hB:=Ix e ht 101 e.args 0 0 (fun x hx=>by have:=(ha x hx).2.1;omega) yA;obtain⟨H,hH⟩:∃ H,Ed e ht 0 e.args 0=H:=⟨_,rfl⟩;rw[hH] at hB ⊢;rw[b9,Kn] at Pj ⊢;refine af.aK ai Tryz.func307 rfl OV (by simp[Tryz.ntmps307]) rfl fun C hC O0=>?_;rw[Tryz.ntmps307] at hC;apply aq;simp[hC];apply aq;simp[hC];refine T.cut (fun s=>s=⟨[(3,I H),(1,.ax 0 0)],[(0,⟨80,0,[I e.lO,I e.n,.str e.name,.aA (e.args.flatMap bR) e.args.length]⟩)],1⟩) ?_ ?_
 ·apply aq;simp[hC];apply T.block;refine T.aH (J152 ht e H) (n:=e.args.length) ?_ ?_
  ·refine ae.le (Le.env [4,3,1]) (ae.here ⟨0,0,by omega,by omega,by omega,hH,?_⟩);simp
  ·rintro n s ⟨i,h,rfl,OX,hh,Zo,rfl⟩;by_cases hi:i<e.args.length
   ·obtain⟨x,hx⟩:∃ x,e.args[i]? = some x:=⟨e.args[i],List.getElem?_eq_getElem hi⟩;have OZ:=Qu i x hx;have hd:e.args.drop i=x::e.args.drop (i+1):=by
     rw[List.drop_eq_getElem_cons hi,(List.getElem?_eq_some_iff.1 hx).2]
    rw[hd,Ed] at Zo;obtain⟨x1,x2,x3⟩:=ha x (List.mem_of_getElem? hx);have SS:=Pj i x hx;rw[show (decide (x.st<e.st) || (decide (x.st=e.st) && decide (i=1)))=pT e x i from rfl] at SS;have wi:=cC ((i:Int)+1) yA yA;have wh:=cC ((ht x:Int)+1) yA yA;apply aO;simp[hC,hi];refine fB ?_;simp;apply ed;apply aq;simp[hC,hi,OZ];refine dz WC (x3) ?_;simp[hC];refine T.cut (fun s=>s=⟨[(5,I ((ht x+if pT e x i=true then 1 else 0:Nat))),(4,I i),(3,I h),(1,.ax 0 0)],[(0,⟨80,0,[I e.lO,I e.n,.str e.name,.aA (e.args.flatMap bR) e.args.length]⟩)],1⟩) ?_ ?_
    ·apply aq;simp[hC];refine dz Pc (SS) ?_;simp;refine T.bh rfl (fun h=>?_) (fun h=>?_)
     ·have h1:pT e x i=true:=by simpa using h
      apply aV;simp[hC,wh];refine ae.le (Le.env [5,4,3,1]) (ae.here ?_);simp[h1]
     ·have h1:pT e x i=false:=by simpa using h
      apply T.skip;simp;refine ae.le (Le.env [5,4,3,1]) (ae.here ?_);simp[h1]
    rintro s rfl;obtain⟨g,hg⟩:∃ g,(ht x+if pT e x i=true then 1 else 0)=g:=⟨_,rfl⟩;rw[hg] at Zo ⊢;have hg2:g≤101:=by rw[← hg];split<;>omega
    have Rj:(if h<g then (g:Int) else h)=((max h g:Nat):Int):=by
     split<;>omega
    apply aV;simp[hC,Rj];apply aV;simp[hC,wi];refine⟨e.args.length-(i+1),by omega,?_⟩;refine ae.le (Le.env [4,3,1]) (ae.here ⟨i+1,max h g,rfl,by omega,by omega,Zo,?_⟩);simp
   ·have O6:i=e.args.length:=by omega
    rw[O6,List.drop_length,Ed] at Zo;apply aO;simp[hC,hi];refine a7 ?_;simp;apply T.exit;simp;refine ae.le (Le.env [3,1]) (ae.here ?_);simp[Zo]
 ·rintro s rfl;have wH:=cC ((H:Int)+1) yA yA;refine T.cut (fun s=>s=⟨[(3,I ((H+if nC e.lO=5 then 1 else 0:Nat)))],[],1⟩) ?_ ?_
  ·apply aq;simp[hC];refine dz Pc (O8) ?_;simp[hC];refine T.bh rfl (fun h=>?_) (fun h=>?_)
   ·have h1:nC e.lO=5:=by simp at h;omega
    apply aV;simp[hC,wH];refine ae.trim [3] [] 1 OU yA ?_;simp[h1]
   ·have h1:¬ nC e.lO=5:=by simp at h;omega
    apply T.skip;simp;refine ae.trim [3] [] 1 OU yA ?_;simp[h1]
  ·rintro s rfl;apply aq;simp[hC];apply T.ret;apply ae.here;simp[Tryz.results307]
def Ec:Ex→Nat
 | .un k x=>Ed (.un k x) (fun _=>Ec x) 0 [x] 0+1
 | .bin k a b=>max (max 0 (Ec a+if pT (.bin k a b) a 0=true then 1 else 0)) (Ec b+if pT (.bin k a b) b 1=true then 1 else 0)
 | _=>0
theorem oM {ns:List ByteArray}:∀ (d:Nat) (e:Ex),d≤5→fS ns d e→Ec e≤2*d∧af Tryz.prog 307 [.agg (bR e)] (I (Ec e))
 | d,.num n,_,hw=>⟨by simp[Ec],by
  have h:=kK Ec (.num n) (gr hw) Sj Sj;exact h⟩
 | d,.nm n,_,hw=>⟨by simp[Ec],by
  have h:=kK Ec (.nm n) (gr hw) Sj Sj;exact h⟩
 | d+1,.un k x,hd,hw=>by
  have PN:=hw;simp only[fS] at PN;obtain⟨i1,i2⟩:=oM d x yA PN.2;have h:=kK Ec (.un k x) (gr hw) Sj (by
   intro y hy;simp only[Ex.args,List.mem_singleton] at hy;subst hy;exact⟨gr PN.2,by omega,i2⟩)
  have h5:nC (Ex.un k x).lO=5:=by
   simp only[Ex.lO];have:=PN.1;have:∀ k,k<2→nC (3+k)=5:=by decide
   exact this k PN.1
  rw[if_pos h5] at h;refine⟨?_,h⟩;simp only[Ec,Ed];split<;>omega
 | d+1,.bin k a b,hd,hw=>by
  have PN:=hw;simp only[fS] at PN;obtain⟨i1,i2⟩:=oM d a yA PN.2.1;obtain⟨j1,j2⟩:=oM d b yA PN.2.2;have h:=kK Ec (.bin k a b) (gr hw) Sj (by
   intro y hy;simp only[Ex.args,List.mem_cons,List.not_mem_nil,or_false] at hy;rcases hy with rfl | rfl
   ·exact⟨gr PN.2.1,by omega,i2⟩
   ·exact⟨gr PN.2.2,by omega,j2⟩)
  have h5:¬ nC (Ex.bin k a b).lO=5:=by
   simp only[Ex.lO];have:=PN.1;have:∀ k,k<13→¬ nC (5+k)=5:=by decide
   exact this k PN.1
  rw[if_neg h5] at h;refine⟨?_,h⟩;simp only[Ec];split<;>split<;>omega
 | 0,.un _ _,_,h=>h.elim
 | 0,.bin _ _ _,_,h=>h.elim
 | 0,.zero,_,h=>h.elim
 | 0,.loc _,_,h=>h.elim
 | 0,.ke _,_,h=>h.elim
 | _+1,.zero,_,h=>h.elim
 | _+1,.loc _,_,h=>h.elim
 | _+1,.ke _,_,h=>h.elim
def mO (s:ByteArray):Prop:=dn s∧bs s∉rV
theorem Ff (n:Nat)(hn:n<4611686018427387904):af Tryz.prog 306 [.agg (bR (.num n))] (.bool true):=by
 have O8:af Tryz.prog 328 [I (1:Nat)] (I 6):=fI 1 yA;refine af.aK ai Tryz.func306 rfl OV (by simp[Tryz.ntmps306]) rfl fun C hC O0=>?_;rw[Tryz.ntmps306] at hC;apply aq;simp[hC];apply aq;simp[hC];refine T.cut (fun s=>s=⟨[(3,.int .i64 0),(1,.ax 0 0)],[(0,⟨80,0,bR (.num n)⟩)],1⟩) ?_ ?_
 ·apply aq;simp[hC,bR,eS];refine dz Pc (O8) ?_;simp;apply T.block;apply aq;simp[hC];refine fE ?_;simp;apply aq;simp[hC];apply T.seq;have Sl:(0:Int)≤n:=by omega
  refine T.rx ai follows [0,1,2,3,4,5,6,7,8,9,10,11,12,13,14,15,16,17,18,19,20,21,22,23,24,25,26,27] [(10,24)] OV ?_;simp[hC,Sl,iB];apply aq;simp[hC];refine a7 ?_;simp;apply T.skip;simp;refine ae.trim [3,1] [0] 1 OU yA ?_;simp
 ·rintro s rfl;apply aO;simp[hC,bR,eS];refine a7 ?_;simp;apply T.skip;simp;apply aO;simp[hC];apply T.block;refine T.aH (fun m s=>s=⟨[(6,.int .i64 0),(3,.int .i64 0),(1,.ax 0 0)],[(0,⟨80,0,bR (.num n)⟩)],1⟩) (n:=0) ?_ ?_
  ·refine ae.trim [6,3,1] [0] 1 OU yA ?_;simp[bR,eS]
  ·rintro m s rfl;apply aO;simp[hC];refine a7 ?_;simp;apply T.exit;simp;apply aq;simp[hC];apply T.ret;apply ae.here;simp[Tryz.results306]
theorem Ho (x:ByteArray)(hx:mO x):af Tryz.prog 306 [.agg (bR (.nm x))] (.bool true):=by
 have O8:af Tryz.prog 328 [I (2:Nat)] (I 6):=fI 2 yA;have P2:=jL x hx.1 hx.2;refine af.aK ai Tryz.func306 rfl OV (by simp[Tryz.ntmps306]) rfl fun C hC O0=>?_;rw[Tryz.ntmps306] at hC;apply aq;simp[hC];apply aq;simp[hC];refine T.cut (fun s=>s=⟨[(3,.int .i64 0),(1,.ax 0 0)],[(0,⟨80,0,bR (.nm x)⟩)],1⟩) ?_ ?_
 ·apply aq;simp[hC,bR];refine dz Pc (O8) ?_;simp;apply T.block;apply aq;simp[hC];refine fE ?_;simp;apply aq;simp[hC];apply T.seq;refine T.rx ai follows [0,1,2,3,4,5,6,7,8,9,10,11,12,13,14,15,16,17,18,19,20,21,22,23,24,25,26,27] [(10,24)] OV ?_;simp[hC];refine RX.call rfl OU rfl rfl rfl Pc (P2) ?_;simp;apply aq;simp[hC];refine a7 ?_;simp;apply T.skip;simp;refine ae.trim [3,1] [0] 1 OU yA ?_;simp
 ·rintro s rfl;apply aO;simp[hC,bR];refine a7 ?_;simp;apply T.skip;simp;apply aO;simp[hC];apply T.block;refine T.aH (fun m s=>s=⟨[(6,.int .i64 0),(3,.int .i64 0),(1,.ax 0 0)],[(0,⟨80,0,bR (.nm x)⟩)],1⟩) (n:=0) ?_ ?_
  ·refine ae.trim [6,3,1] [0] 1 OU yA ?_;simp[bR]
  ·rintro m s rfl;apply aO;simp[hC];refine a7 ?_;simp;apply T.exit;simp;apply aq;simp[hC];apply T.ret;apply ae.here;simp[Tryz.results306]
theorem uU (e:Ex)(st:Nat)(he:e.lO≤17)(Pw:nC e.lO=st)(h6:st≤5)(hn:e.n=0)(P2:e.name=eS)(hlen:e.args.length=if st=5 then 1 else 2)(ha:∀ x∈e.args,af Tryz.prog 306 [.agg (bR x)] (.bool true)):af Tryz.prog 306 [.agg (bR e)] (.bool true):=by
 have O8:=fI _ he;rw[Pw] at O8;have Qu:=fun (i:Nat) (x:Ex) (h:e.args[i]? = some x)=>aN (f:=bR) (n:=4) bP (m:=e.args) h;rw[b9,Kn,hn,P2];obtain⟨al,Q2⟩:∃ al,e.args.length=al:=⟨_,rfl⟩;rw[Q2] at hlen;have h6':¬ (st:Int)=6:=by omega
 refine af.aK ai Tryz.func306 rfl OV (by simp[Tryz.ntmps306]) rfl fun C hC O0=>?_;rw[Tryz.ntmps306] at hC;apply aq;simp[hC];apply aq;simp[hC];refine T.cut (fun s=>s=⟨[(3,I al),(1,.ax 0 0)],[(0,⟨80,0,[I e.lO,I 0,.str eS,.aA (e.args.flatMap bR) al]⟩)],1⟩) ?_ ?_
 ·apply aq;simp[hC,Q2];refine dz Pc (O8) ?_;simp;apply T.block;apply aq;simp[hC];refine T.bh rfl (fun h=>?_) (fun h=>?_)
  ·simp at h;omega
  apply aq;simp[hC];refine T.bh rfl (fun h=>?_) (fun h=>?_)
  ·have h5:st=5:=by simp at h;omega
   rw[if_pos h5] at hlen;apply aV;simp[hC];refine ae.trim [3,1] [0] 1 OU yA ?_;simp[hlen]
  ·have h5:¬ st=5:=by simp at h;omega
   rw[if_neg h5] at hlen;apply T.skip;simp;refine ae.trim [3,1] [0] 1 OU yA ?_;simp[hlen]
 ·rintro s rfl;have PJ:0<al:=by rw[hlen];split<;>omega
  have hal2:al≤2:=by rw[hlen];split<;>omega
  apply aO;simp[hC,PJ,eS,jW];refine a7 ?_;simp;apply T.skip;simp;apply aO;simp[hC];apply T.block;refine T.aH (fun m s=>∃ i:Nat,m=al-i∧i≤al∧s=⟨[(6,I i),(3,I al),(1,.ax 0 0)],[(0,⟨80,0,[I e.lO,I 0,.str ⟨#[]⟩,.aA (e.args.flatMap bR) al]⟩)],1⟩) (n:=al) ?_ ?_
  ·refine ae.trim [6,3,1] [0] 1 OU yA ⟨0,by omega,by omega,?_⟩;simp
  ·rintro m s ⟨i,rfl,hi,rfl⟩;by_cases OX:i<al
   ·obtain⟨x,hx⟩:∃ x,e.args[i]? = some x:=⟨e.args[i],List.getElem?_eq_getElem yA⟩;have OZ:=Qu i x hx;have hcx:=ha x (List.mem_of_getElem? hx);have wi:=cC ((i:Int)+1) yA yA;apply aO;simp[hC,OX];refine fB ?_;simp;apply ed;apply aq;simp[hC,OX,OZ];refine dz WC (hcx) ?_;simp[hC];refine a7 ?_;simp;apply T.skip;simp;apply aV;simp[hC,wi];refine⟨al-(i+1),by omega,?_⟩;refine ae.trim [6,3,1] [0] 1 OU yA ⟨i+1,rfl,by omega,?_⟩;simp
   ·apply aO;simp[hC,OX];refine a7 ?_;simp;apply T.exit;simp;apply aq;simp[hC];apply T.ret;apply ae.here;simp[Tryz.results306]
theorem qp {ns:List ByteArray}(RL:∀ s∈ns,mO s):∀ (d:Nat) (e:Ex),fS ns d e→af Tryz.prog 306 [.agg (bR e)] (.bool true)
 | _,.num n,hw=>Ff n (by simpa [fS] using hw)
 | _,.nm s,hw=>Ho s (RL s (by simpa [fS] using hw))
 | d+1,.un k x,hw=>by
  have PN:=hw;simp only[fS] at PN;have h5:nC (Ex.un k x).lO=5:=(by decide:∀ k,k<2→nC (3+k)=5) k PN.1;refine uU (.un k x) 5 (gr hw) h5 yA rfl rfl rfl ?_;intro y hy;simp only[Ex.args,List.mem_singleton] at hy;subst hy;exact qp RL d _ PN.2
 | d+1,.bin k a b,hw=>by
  have PN:=hw;simp only[fS] at PN;have h5:nC (Ex.bin k a b).lO≤4:=(by decide:∀ k,k<13→nC (5+k)≤4) k PN.1;refine uU (.bin k a b) _ (gr hw) rfl yA rfl rfl ?_ ?_
  ·rw[if_neg yA];rfl
  ·intro y hy;simp only[Ex.args,List.mem_cons,List.not_mem_nil,or_false] at hy;rcases hy with rfl | rfl
   ·exact qp RL d _ PN.2.1
   ·exact qp RL d _ PN.2.2
 | 0,.un _ _,h=>h.elim
 | 0,.bin _ _ _,h=>h.elim
 | 0,.zero,h=>h.elim
 | 0,.loc _,h=>h.elim
 | 0,.ke _,h=>h.elim
 | _+1,.zero,h=>h.elim
 | _+1,.loc _,h=>h.elim
 | _+1,.ke _,h=>h.elim
theorem fT {ns:List ByteArray}(RL:∀ s∈ns,mO s)(d:Nat)(e:Ex)(hd:d≤5)(hw:fS ns d e):af Tryz.prog 257 [.agg (bR e)] (.bool true):=by
 obtain⟨h1,h2⟩:=oM d e hd hw;have h3:=qp RL d e hw;have h4:(Ec e:Int)≤24:=by omega
 refine af.aK ai Tryz.func257 rfl OV (by simp[Tryz.ntmps257]) rfl fun C hC O0=>?_;rw[Tryz.ntmps257] at hC;apply aq;simp[hC];apply aq;simp[hC];refine dz WC (h3) ?_;simp[hC];refine TL.cm O5 rfl rfl rfl rfl (bN.of rfl WC (h2)) (TL.go' ai ?_);simp[hC,h4];apply T.ret;apply ae.here;simp[Tryz.results257]
theorem pt (n:Int)(h:0≤n∧n<18446744073709551616):IntKind.u64.wrap n=n:=by
 exact IntWalk.u64_in n ⟨h.1,by omega⟩
def Bt (m:Nat)(s:ByteArray):ByteArray:=if m=0 then s else kg m++s
theorem CX (n:Nat):kg n=Bt (n / 10) (ep (48+n % 10)):=by
 unfold Bt;rw[kg];split
 ·rename_i h;rw[if_pos yA,Nat.mod_eq_of_lt h]
 ·rw[if_neg yA]
theorem F1 (m:Nat)(s:ByteArray)(h:0<m):Bt m s=Bt (m / 10) (ep (48+m % 10)++s):=by
 unfold Bt;rw[if_neg yA,kg];split
 ·rename_i h1;rw[if_pos yA,Nat.mod_eq_of_lt h1]
 ·rw[if_neg yA,ByteArray.append_assoc]
def J153 (T:ByteArray)(m:Nat)(s:St):Prop:=∃ x:ByteArray,x.size+m≤9223372036854775807∧Bt m x=T∧s=⟨[(3,.str x),(0,.int .u64 m)],[],0⟩
theorem yc (n:Nat)(hn:n<9223372036854775808):af Tryz.prog 308 [.int .u64 n] (.str (kg n)):=by
 rw[CX];obtain⟨X,hT⟩:∃ X,Bt (n / 10) (ep (48+n % 10))=X:=⟨_,rfl⟩;rw[hT];have m1:(n:Int).tmod 10=((n % 10:Nat):Int):=by rw[Int.tmod_eq_emod_of_nonneg yA];omega
 have d1:(n:Int).tdiv 10=((n / 10:Nat):Int):=by rw[Int.tdiv_eq_ediv_of_nonneg yA];omega
 refine af.aK ai Tryz.func308 rfl OV (by simp[Tryz.ntmps308]) rfl fun C hC O0=>?_;rw[Tryz.ntmps308] at hC;apply aq;simp[hC];obtain⟨q,hq⟩:∃ q,n % 10=q:=⟨_,rfl⟩;have hq9:q<10:=by omega
 have m2:(n:Int) % 10=(q:Int):=by omega
 have w1:=pt (48+(q:Int)) yA;have w1b:=pt (q:Int) yA;have w2:IntKind.u8.wrap (48+(q:Int))=48+(q:Int):=IntWalk.u8_in _ yA;have w3:(0:Int)≤48+(q:Int)∧48+(q:Int)<256:=by omega
 have w4:(48+(q:Int)).toNat=48+q:=by omega
 refine T.seq (T.BZ ai ?_);simp[hC,m1,hq,w1,w2,w3,w4];refine T.le (Le.trim [3,0] [] 0 OU yA) ?_;simp;have RN:(⟨#[48+UInt8.ofNat q]⟩:ByteArray)=ep (48+q):=by simp[ep]
 rw[RN];have wd:=pt ((n / 10:Nat):Int) yA;have d2:(n:Int) / 10=((n / 10:Nat):Int):=by omega
 obtain⟨m0,RR⟩:∃ m0,n / 10=m0:=⟨_,rfl⟩;rw[RR] at d1 d2 wd hT;rw[hq] at hT;apply aO;simp[hC,d1,wd];apply T.block;refine T.aH (J153 X) (n:=m0) ?_ ?_
 ·refine ae.trim [3,0] [] 0 OU yA ⟨ep (48+q),?_,hT,?_⟩
  ·have:(ep (48+q)).size=1:=rfl;omega
  ·simp
 ·rintro m s ⟨x,hx,hX,rfl⟩;by_cases hm:0<m
  ·have UQ:(0:Int)<m:=by omega
   rw[F1 m x hm] at hX;obtain⟨r,hr⟩:∃ r,m % 10=r:=⟨_,rfl⟩;have hr9:r<10:=by omega
   have m1:(m:Int).tmod 10=(r:Int):=by rw[Int.tmod_eq_emod_of_nonneg yA];omega
   have m2:(m:Int) % 10=(r:Int):=by omega
   have v1:=pt (48+(r:Int)) yA;have v1b:=pt (r:Int) yA;have v2:IntKind.u8.wrap (48+(r:Int))=48+(r:Int):=IntWalk.u8_in _ yA;have v3:(0:Int)≤48+(r:Int)∧48+(r:Int)<256:=by omega
   have v4:(48+(r:Int)).toNat=48+r:=by omega
   have e1:(m:Int).tdiv 10=((m / 10:Nat):Int):=by rw[Int.tdiv_eq_ediv_of_nonneg yA];omega
   have e2:(m:Int) / 10=((m / 10:Nat):Int):=by omega
   have ve:=pt ((m / 10:Nat):Int) yA;rw[hr] at hX;have hch2:(⟨#[48+UInt8.ofNat r]⟩:ByteArray)=ep (48+r):=by simp[ep]
   have O9:(ep (48+r)).size=1:=rfl;have so:=aB (ep (48+r)) x yA;obtain⟨m',UQ⟩:∃ m',m / 10=m':=⟨_,rfl⟩;rw[UQ] at e1 e2 ve hX;apply aO;simp[hC,hm];refine fB ?_;simp;apply ed;refine T.BZ ai ?_;simp[hC,m1,v1,v2,v3,v4,hch2,so];apply aV;simp[hC,e1,ve];refine⟨m',by omega,?_⟩;refine ae.trim [3,0] [] 0 OU yA ⟨ep (48+r)++x,?_,hX,?_⟩
   ·rw[ByteArray.size_append];omega
   ·simp
  ·have RR:m=0:=by omega
   subst RR;have hxT:x=X:=by simpa [Bt] using hX
   apply aO;simp[hC];refine a7 ?_;simp;apply T.exit;simp;apply aq;simp[hC];apply T.ret;apply ae.here;simp[Tryz.results308,hxT]
theorem pP (n:Int)(h1 : -1000≤n)(h2:n<9223372036854775808):af Tryz.prog 261 [I n] (.str (lj n)):=by
 refine af.aK ai Tryz.func261 rfl OV (by simp[Tryz.ntmps261]) rfl fun C hC O0=>?_;rw[Tryz.ntmps261] at hC;apply aq;simp[hC];apply aO;simp[hC];refine T.bh rfl (fun h=>?_) (fun h=>?_)
 ·have hn:n<0:=by simpa using h
  obtain⟨m,hm⟩:∃ m:Nat,n=-(m:Int):=⟨(-n).toNat,by omega⟩;subst hm;have Vv:=yc m yA;have w1:=cC (-(m:Int)+1) yA yA;have w2:=cC (-(-(m:Int)+1)) yA yA;have w3:=pt (-(-(m:Int)+1)) yA;have w4:=pt (-(-(m:Int)+1)+1) yA;have e5 : -(-(m:Int)+1)+1=(m:Int):=by omega
  have w5:=pt (m:Int) yA;have O9:(kg m).size≤19:=by
   have:=(zH m).2.2.2 18 yA;rw[lC] at this;exact this
  have so:=aB ⟨#[45]⟩ (kg m) (by have:(⟨#[45]⟩:ByteArray).size=1:=rfl;omega);refine T.seq (T.BZ ai ?_);simp[hC,w1,w2,w3,e5,w5];refine dz Pc (Vv) ?_;simp[hC,so];apply T.ret;apply ae.here;have Y5:lj (-(m:Int))=⟨#[45]⟩++kg m:=by
   unfold lj;rw[if_pos hn];simp
  rw[Y5];simp[Tryz.results261]
 ·have hn:¬ n<0:=by simpa using h
  obtain⟨m,hm⟩:∃ m:Nat,n=(m:Int):=⟨n.toNat,by omega⟩;subst hm;have Vv:=yc m yA;have w5:=pt (m:Int) yA;apply T.skip;simp;refine T.seq (T.BZ ai ?_);simp[hC,w5];refine dz Pc (Vv) ?_;simp[hC];apply T.ret;apply ae.here;have Y5:lj (m:Int)=kg m:=by
   unfold lj;rw[if_neg hn];simp
  rw[Y5];simp[Tryz.results261]
def uO (e x:Ex)(i:Nat):ByteArray:=tH (pT e x i) (iY x)
theorem Fz (b:Bool)(x:ByteArray):(tH b x).size≤x.size+2:=by
 unfold tH;split
 ·rw[ByteArray.size_append,ByteArray.size_append];have h1:(⟨#[40]⟩:ByteArray).size=1:=rfl;have h2:(⟨#[41]⟩:ByteArray).size=1:=rfl;omega
 ·omega
def J154 (e:Ex)(tl:List ByteArray)(n:Nat)(s:St):Prop:=∃ i:Nat,n=e.args.length-i∧i≤e.args.length∧s=⟨[(4,I i),(3,.bl 1 0 i),(1,.ax 0 0)],[(0,⟨80,0,[I e.lO,I e.n,.str e.name,.aA (e.args.flatMap bR) e.args.length]⟩),(1,bg (tl.take i))],2⟩
theorem Nj:∀ k,k<13→nC (5+k)≤4∧∃ i,i<(vi (nC (5+k))).2.length∧(vi (nC (5+k))).1.length=(vi (nC (5+k))).2.length∧(vi (nC (5+k))).2[i]? = some ((5+k:Nat):Int)∧(vi (nC (5+k))).1[i]? = some (Db.getD k ⟨#[]⟩)∧(vi (nC (5+k))).2.length≤6∧∀ j,j<i→∀ o,(vi (nC (5+k))).2[j]? = some o→o≠((5+k:Nat):Int)
 | 0,_=>⟨by decide,0,by decide,rfl,rfl,rfl,by decide,by decide⟩
 | 1,_=>⟨by decide,1,by decide,rfl,rfl,rfl,by decide,by decide⟩
 | 2,_=>⟨by decide,2,by decide,rfl,rfl,rfl,by decide,by decide⟩
 | 3,_=>⟨by decide,0,by decide,rfl,rfl,rfl,by decide,by decide⟩
 | 4,_=>⟨by decide,1,by decide,rfl,rfl,rfl,by decide,by decide⟩
 | 5,_=>⟨by decide,2,by decide,rfl,rfl,rfl,by decide,by decide⟩
 | 6,_=>⟨by decide,3,by decide,rfl,rfl,rfl,by decide,by decide⟩
 | 7,_=>⟨by decide,4,by decide,rfl,rfl,rfl,by decide,by decide⟩
 | 8,_=>⟨by decide,5,by decide,rfl,rfl,rfl,by decide,by decide⟩
 | 9,_=>⟨by decide,0,by decide,rfl,rfl,rfl,by decide,by decide⟩
 | 10,_=>⟨by decide,1,by decide,rfl,rfl,rfl,by decide,by decide⟩
 | 11,_=>⟨by decide,0,by decide,rfl,rfl,rfl,by decide,by decide⟩
 | 12,_=>⟨by decide,0,by decide,rfl,rfl,rfl,by decide,by decide⟩
 | _+13,h=>absurd h yA
theorem oB (e:Ex)(tl:List ByteArray)(PK:tl.length=e.args.length)(he:e.lO≤17)(Q2:e.args.length≤2)(R:ByteArray)
  (ha:∀ i x,e.args[i]? = some x→x.lO≤17∧af Tryz.prog 309 [.agg (bR x)] (.str (iY x))∧(iY x).size≤100000∧tl[i]? = some (uO e x i))
  (hR:(∃ n:Nat,e=.num n∧n<4611686018427387904∧R=kg n)∨(∃ x,e=.nm x∧R=x)∨(∃ k x,e=.un k x∧k<2∧R=(if k=0 then ⟨#[45]⟩ else ⟨#[33]⟩)++tl.getD 0 eS)∨(∃ k a b,e=.bin k a b∧k<13∧R=tl.getD 0 eS++⟨#[32]⟩++Db.getD k ⟨#[]⟩++⟨#[32]⟩++tl.getD 1 eS)):af Tryz.prog 309 [.agg (bR e)] (.str R):=by
 have Qu:=fun (i:Nat) (x:Ex) (h:e.args[i]? = some x)=>aN (f:=bR) (n:=4) bP (m:=e.args) h;have Pj:=fun (i:Nat) (x:Ex) (h:e.args[i]? = some x)=>Bd e i x h (ha i x h).1 he;have QC:∀ x∈tl,x.size≤100002:=by
  intro x hx;obtain⟨i,hi⟩:=List.getElem?_of_mem hx;have OX:i<e.args.length:=by rw[← PK];exact (List.getElem?_eq_some_iff.1 hi).1
  obtain⟨y,hy⟩:∃ y,e.args[i]? = some y:=⟨e.args[i],List.getElem?_eq_getElem OX⟩;obtain⟨_,_,h3,h4⟩:=ha i y hy;rw[hi] at h4;cases h4;have:=Fz (pT e y i) (iY y);unfold uO;omega
 rw[b9,Kn] at Pj ⊢;refine af.aK ai Tryz.func309 rfl OV (by simp[Tryz.ntmps309]) rfl fun C hC O0=>?_;rw[Tryz.ntmps309] at hC;apply aq;simp[hC];apply aq;simp[hC];refine T.cut (fun s=>s=⟨[(3,.bl 1 0 e.args.length),(1,.ax 0 0)],[(0,⟨80,0,[I e.lO,I e.n,.str e.name,.aA (e.args.flatMap bR) e.args.length]⟩),(1,bg tl)],2⟩) ?_ ?_
 ·apply aq;simp[hC];apply T.block;refine T.aH (J154 e tl) (n:=e.args.length) ?_ ?_
  ·refine ae.le (Le.own 3 9 1 rfl) ?_;simp;refine ae.trim [4,3,1] [0,1] 2 OU yA ⟨0,by omega,by omega,?_⟩;simp[bg]
  ·rintro n s ⟨i,rfl,OX,rfl⟩;by_cases hi:i<e.args.length
   ·obtain⟨x,hx⟩:∃ x,e.args[i]? = some x:=⟨e.args[i],List.getElem?_eq_getElem hi⟩;have OZ:=Qu i x hx;obtain⟨x1,x2,x3,x4⟩:=ha i x hx;have SS:=Pj i x hx;rw[show (decide (x.st<e.st) || (decide (x.st=e.st) && decide (i=1)))=pT e x i from rfl] at SS;have wi:=cC ((i:Int)+1) yA yA;apply aO;simp[hC,hi];refine fB ?_;simp;apply ed;apply aq;simp[hC,hi,OZ];refine dz WC (x2) ?_;simp[hC];refine T.cut (fun s=>s=⟨[(5,.str (uO e x i)),(4,I i),(3,.bl 1 0 i),(1,.ax 0 0)],[(0,⟨80,0,[I e.lO,I e.n,.str e.name,.aA (e.args.flatMap bR) e.args.length]⟩),(1,bg (tl.take i))],2⟩) ?_ ?_
    ·apply aq;simp[hC];refine dz Pc (SS) ?_;simp;refine T.bh rfl (fun h=>?_) (fun h=>?_)
     ·have h1:pT e x i=true:=by simpa using h
      have s1:=aB ⟨#[40]⟩ (iY x) (by have:(⟨#[40]⟩:ByteArray).size=1:=rfl;omega);have s2:=aB (⟨#[40]⟩++iY x) ⟨#[41]⟩ (by rw[ByteArray.size_append];have:(⟨#[40]⟩:ByteArray).size=1:=rfl;have:(⟨#[41]⟩:ByteArray).size=1:=rfl;omega);apply aV;simp[hC,s1,s2];refine ae.trim [5,4,3,1] [0,1] 2 OU yA ?_;simp[uO,tH,h1]
     ·have h1:pT e x i=false:=by simpa using h
      apply T.skip;simp;refine ae.trim [5,4,3,1] [0,1] 2 OU yA ?_;simp[uO,tH,h1]
    rintro s rfl;have Si:(i+1)*16≤140737488355328:=by omega
    have Vh:(bg (tl.take i)).cells.length=i:=by simp[bg];omega
    have hws:(bg (tl.take i)).sz=1:=rfl;have hwe:(bg (tl.take i)).elem=9:=rfl;apply aV;simp[hC,Si,Vh,hws,hwe,bb];apply aV;simp[hC,wi];refine⟨e.args.length-(i+1),by omega,?_⟩;refine ae.le (Le.trim [4,3,1] [0,3] 4 QJ yA) ?_;simp;refine ae.le (Le.oX 3 1 rfl rfl yA OU OU QJ) ?_;simp;refine ae.trim [4,3,1] [0,1] 2 QJ yA ⟨i+1,rfl,by omega,?_⟩;have Pd:tl.take (i+1)=tl.take i++[uO e x i]:=by rw[List.take_add_one,x4];rfl
    rw[Pd];simp[bg]
   ·have O6:i=e.args.length:=by omega
    apply aO;simp[hC,hi];refine a7 ?_;simp;apply T.exit;simp;refine ae.trim [3,1] [0,1] 2 OU yA ?_;rw[O6,← PK,List.take_length];simp
 ·rintro s rfl;rcases hR with ⟨n,rfl,hn,rfl⟩ | ⟨x,rfl,rfl⟩ | ⟨k,x,rfl,hk,rfl⟩ | ⟨k,a,b,rfl,hk,rfl⟩
  ·have ZC:=pP n yA yA;have Y5:lj (n:Int)=kg n:=by
    unfold lj;rw[if_neg yA];simp
   rw[Y5] at ZC;apply ed;apply aq;simp[hC,Ex.lO,Ex.n,Ex.name,Ex.args];refine fE ?_;simp;apply aq;simp[hC];refine dz Pc (ZC) ?_;simp[hC];apply T.ret;apply ae.here;simp[Tryz.results309]
  ·apply ed;apply aq;simp[hC,Ex.lO,Ex.n,Ex.name,Ex.args];refine a7 ?_;simp;apply aq;simp[hC];refine fE ?_;simp;apply aq;simp[hC];apply T.ret;apply ae.here;simp[Tryz.results309]
  ·have h1:tl.length=1:=PK;have OZ:=ji (ns:=tl) (i:=0) yA;rw[List.drop_zero] at OZ;have P2:(bg tl).cells=.str (tl.getD 0 eS)::(tl.map CV.str).drop 1:=OZ;have RL:(bg tl).sz=1:=rfl;have O9:=QC (tl.getD 0 eS) (jm yA eS);generalize tl.getD 0 eS=t0 at P2 O9;have s45:(⟨#[45]⟩:ByteArray).size=1:=rfl;have s33:(⟨#[33]⟩:ByteArray).size=1:=rfl;apply ed
   match k,hk with
   | 0,_=>
    have so:=aB ⟨#[45]⟩ t0 yA;apply aq;simp[hC,Ex.lO,Ex.n,Ex.name,Ex.args];refine a7 ?_;simp;apply aq;simp[hC];refine a7 ?_;simp;apply aq;simp[hC];refine fE ?_;simp;apply aq;simp[hC,P2,so];apply T.ret;apply ae.here;simp[Tryz.results309]
   | 1,_=>
    have so:=aB ⟨#[33]⟩ t0 yA;apply aq;simp[hC,Ex.lO,Ex.n,Ex.name,Ex.args];refine a7 ?_;simp;apply aq;simp[hC];refine a7 ?_;simp;apply aq;simp[hC];refine a7 ?_;simp;apply aq;simp[hC];refine fE ?_;simp;apply aq;simp[hC,P2,so];apply T.ret;apply ae.here;simp[Tryz.results309]
  ·have h1:tl.length=2:=PK;have OZ:=ji (ns:=tl) (i:=0) yA;have QP:=ji (ns:=tl) (i:=1) yA;rw[List.drop_zero,QP] at OZ;have P2:(bg tl).cells=[.str (tl.getD 0 eS),.str (tl.getD 1 eS)]:=by
    have e3:(tl.map CV.str).drop (1+1)=[]:=List.drop_eq_nil_of_le QS;rw[e3] at OZ;exact OZ
   have RL:(bg tl).sz=1:=rfl;have hsz0:=QC (tl.getD 0 eS) (jm yA eS);have TN:=QC (tl.getD 1 eS) (jm yA eS);generalize tl.getD 0 eS=t0 at P2 hsz0;generalize tl.getD 1 eS=t1 at P2 TN;obtain⟨YG,ix,SS,Ts,RM,Ub,h6,UP⟩:=Nj k hk;have hbz:(Db.getD k ⟨#[]⟩).size≤2:=(by decide:∀ k,k<13→(Db.getD k ⟨#[]⟩).size≤2) k hk;have PE:=fI (5+k) yA;have X4:=Hm _ YG;generalize Db.getD k ⟨#[]⟩=bo at Ub hbz;generalize nC (5+k)=sk at PE X4 SS Ts RM Ub h6 UP YG;generalize TQ:(vi sk).1=sl at *;generalize hog:(vi sk).2=ol at *;have n1:((5+k:Nat):Int)=5+(k:Int):=by omega
   rw[n1] at PE RM UP;have k1:((5:Int)+k == 1)=false:=by simp;omega
   have k2:((5:Int)+k == 2)=false:=by simp;omega
   have k3:((5:Int)+k == 3)=false:=by simp;omega
   have k4:((5:Int)+k == 4)=false:=by simp;omega
   apply ed;apply aq;simp[hC,Ex.lO,Ex.n,Ex.name,Ex.args,k1];refine a7 ?_;simp;apply aq;simp[hC,k2];refine a7 ?_;simp;apply aq;simp[hC,k3];refine a7 ?_;simp;apply aq;simp[hC,k4];refine a7 ?_;simp;apply T.skip;simp;refine T.le (Le.trim [3,1] [0,1] 2 OU yA) ?_;simp;apply aq;simp[hC];refine dz Pc (PE) ?_;simp;refine dz Pc (X4) ?_;simp[hC];have q1:(⟨#[32]⟩:ByteArray).size=1:=rfl;have s1:=aB t0 ⟨#[32]⟩ yA;have s2:=aB (t0++⟨#[32]⟩) bo (by rw[ByteArray.size_append];omega);have s3:=aB (t0++⟨#[32]⟩++bo) ⟨#[32]⟩ (by rw[ByteArray.size_append,ByteArray.size_append];omega);have s4:=aB (t0++⟨#[32]⟩++bo++⟨#[32]⟩) t1 (by rw[ByteArray.size_append,ByteArray.size_append,ByteArray.size_append];omega);obtain⟨X,hX⟩:∃ X,t0++⟨#[32]⟩++bo++⟨#[32]⟩++t1=X:=⟨_,rfl⟩;rw[hX] at s4 ⊢;refine T.le (Le.trim [7,6,3,1] [0,1] 2 (by simp[strs,ints]) yA) ?_;simp;apply aO;simp[hC];apply T.block;refine T.aH (fun n s=>∃ i:Nat,n=ix-i∧i≤ix∧s=⟨[(8,I i),(7,ints ol),(6,strs sl),(3,.bl 1 0 2),(1,.ax 0 0)],[(0,⟨80,0,[I (5+k),I 0,.str eS,.aA (bR a++bR b) 2]⟩),(1,bg tl)],2⟩) (n:=ix) ?_ ?_
   ·refine ae.trim [8,7,6,3,1] [0,1] 2 (by simp[strs,ints]) yA ⟨0,by omega,by omega,?_⟩;simp
   ·rintro n s ⟨i,rfl,hi,rfl⟩;have OX:i<ol.length:=by omega
    obtain⟨o,ho⟩:∃ o,ol[i]? = some o:=⟨ol[i],List.getElem?_eq_getElem OX⟩;have hdo:(ol.map wE).drop i=I o::(ol.map wE).drop (i+1):=by
     rw[List.drop_eq_getElem_cons (by simpa using OX)];have:=(List.getElem?_eq_some_iff.1 ho).2;simp[wE,this]
    have wi:=cC ((i:Int)+1) yA yA;apply aO;simp[hC,ints,strs,OX];refine fB ?_;simp;apply ed;apply T.seq;refine T.rx ai follows [0,1,2,3,4,5,6] [] OV ?_;simp[hC,OX,hdo];by_cases O6:i=ix
    ·subst O6;rw[RM] at ho;have hoe:o=5+(k:Int):=by simpa using ho.symm
     have hsd:(sl.map CV.str).drop i=.str bo::(sl.map CV.str).drop (i+1):=by
      have:=ji (ns:=sl) (i:=i) yA;rw[this];simp[List.getD,Ub]
     have hisl:i<sl.length:=by omega
     refine T.bh rfl (fun h=>?_) (fun h=>?_)
     ·apply T.seq;refine T.rx ai follows [0,1,2,3,4,5,6,7,8,9,10,11,12,13,14] [] OV ?_;simp[hC,P2,hisl,hsd,s1,s2,s3,s4];apply T.ret;apply ae.here;simp[Tryz.results309]
     ·simp[hoe] at h
    ·have Pf:=UP i yA o ho;refine T.bh rfl (fun h=>?_) (fun h=>?_)
     ·simp at h;exact absurd h Pf
     apply T.skip;simp;apply aV;simp[hC,wi];refine⟨ix-(i+1),by omega,?_⟩;refine ae.trim [8,7,6,3,1] [0,1] 2 OU yA ⟨i+1,rfl,by omega,?_⟩;simp
end Go.Proofs.YtnecpnjdonibmaaGreat
