/- inner, Height, shape, ValidExpr. -/
import Derived.Test.YtlkmbdfhdknlgaaGreatDoorZ26
namespace Go.Proofs.YtlkmbdfhdknlgaaGreatDoor
open Go.Can Go.aT
theorem Fo (e:Ex):e.op=(e.j4:Int):=by cases e<;>simp[Ex.op,Ex.j4]
theorem fb {ns:List ByteArray}:∀ {d:Nat} {e:Ex},eO ns d e→e.j4≤17
 | _,.num _,_=>by simp[Ex.j4]
 | _,.nm _,_=>by simp[Ex.j4]
 | d+1,.un k e,h=>by simp only[eO] at h;simp only[Ex.j4];omega
 | d+1,.bin k a b,h=>by simp only[eO] at h;simp only[Ex.j4];omega
 | 0,.un _ _,h=>h.elim
 | 0,.bin _ _ _,h=>h.elim
 | 0,.zero,h=>h.elim
 | 0,.loc _,h=>h.elim
 | 0,.iV _,h=>h.elim
 | _+1,.zero,h=>h.elim
 | _+1,.loc _,h=>h.elim
 | _+1,.iV _,h=>h.elim
theorem xo (e:Ex)(i:Nat)(x:Ex)(h:e.args[i]? = some x)(hx:x.j4≤17)(he:e.j4≤17):ae Tryz.prog 133 [.agg (bC e),I i] (.bool (decide (x.st<e.st) || (decide (x.st=e.st) && decide (i=1)))):=by
 have yN:i<e.args.length:=(List.getElem?_eq_some_iff.1 h).1;have oy:(e.args.flatMap bC).drop (i*4)=bC x++(e.args.drop (i+1)).flatMap bC:=az (f:=bC) (n:=4) bA h;have WO:=eD _ hx;have Qr:=eD _ he;have e1:=bJ e;have e2:=bJ x;rw[Fo] at e1 e2;rw[e2] at oy;rw[e1];clear e1 e2;unfold Ex.st;generalize lk x.j4=sx at *;generalize lk e.j4=se at *;refine ae.aD af Tryz.func133 rfl lz (by simp[Tryz.ntmps133]) rfl fun C hC xJ=>?_;rw[Tryz.ntmps133] at hC;apply ah;simp[hC];apply T.seq;refine T.rx af follows [0,1,2,3,4,5,7,8,6,9,10,11] [(8,6)] lz ?_;simp[hC,yN,oy];refine RX.call rfl j5 rfl rfl rfl zK (WO) ?_;simp;refine RX.call rfl j5 rfl rfl rfl zK (Qr) ?_;simp;apply T.seq;by_cases h1:sx<se
 ·apply a8;simp[hC,h1];apply T.ret;apply aa.here;simp[Tryz.results133]
 ·by_cases h2:sx=se
  ·subst h2;apply a8;simp[hC];apply T.ret;apply aa.here;simp[Tryz.results133]
  ·have Ni:((sx:Int) == se)=false:=by simp;omega
   apply a8;simp[hC,h1,Ni];apply T.ret;apply aa.here;simp[Tryz.results133,h2]
def na (e x:Ex)(i:Nat):Bool:=decide (x.st<e.st) || (decide (x.st=e.st) && decide (i=1))
def EM (e:Ex)(ht:Ex→Nat):Nat→List Ex→Nat→Nat
 | _,[],h=>h
 | i,x::r,h=>EM e ht (i+1) r (max h (ht x+if na e x i=true then 1 else 0))
theorem DC (e:Ex)(ht:Ex→Nat)(B:Nat):∀ (l:List Ex) (i h:Nat),(∀ x∈l,ht x+1≤B)→h≤B→EM e ht i l h≤B
 | [],_,_,_,h=>h
 | x::r,i,h,hx,hh=>by
  rw[EM];have:=hx x List.mem_cons_self;refine DC e ht B r _ _ (fun y hy=>hx y (List.mem_cons_of_mem _ hy)) ?_;split<;>omega
def J152 (ht:Ex→Nat)(e:Ex)(H:Nat)(m:Nat)(s:St):Prop:=∃ i h:Nat,m=e.args.length-i∧i≤e.args.length∧h≤101∧EM e ht i (e.args.drop i) h=H∧s=⟨[(4,I i),(3,I h),(1,.ai 0 0)],[(0,⟨131,0,[I e.j4,I e.n,.str e.name,.au (e.args.flatMap bC) e.args.length]⟩)],1⟩
theorem jk (ht:Ex→Nat)(e:Ex)(he:e.j4≤17)(hlen:e.args.length≤2)(ha:∀ x∈e.args,x.j4≤17∧ht x≤100∧ae Tryz.prog 124 [.agg (bC x)] (I (ht x))) :
  ae Tryz.prog 124 [.agg (bC e)] (I ((EM e ht 0 e.args 0+if lk e.j4=5 then 1 else 0:Nat))):=by
 have Fm:=eD _ he;have Kz:=fun (i:Nat) (x:Ex) (h:e.args[i]? = some x)=>xo e i x h (ha x (List.mem_of_getElem? h)).1 he;have K8:=fun (i:Nat) (x:Ex) (h:e.args[i]? = some x)=>az (f:=bC) (n:=4) bA (m:=e.args) h;have hB:=DC e ht 101 e.args 0 0 (fun x hx=>by have:=(ha x hx).2.1;omega) yA;obtain⟨H,hH⟩:∃ H,EM e ht 0 e.args 0=H:=⟨_,rfl⟩;rw[hH] at hB ⊢;rw[bJ,Fo] at Kz ⊢;refine ae.aD af Tryz.func124 rfl lz (by simp[Tryz.ntmps124]) rfl fun C hC xJ=>?_;rw[Tryz.ntmps124] at hC;apply ah;simp[hC];apply ah;simp[hC];refine T.cut (fun s=>s=⟨[(3,I H),(1,.ai 0 0)],[(0,⟨131,0,[I e.j4,I e.n,.str e.name,.au (e.args.flatMap bC) e.args.length]⟩)],1⟩) ?_ ?_
 ·apply ah;simp[hC];apply T.block;refine T.aI (J152 ht e H) (n:=e.args.length) ?_ ?_
  ·refine aa.le (Le.env [4,3,1]) (aa.here ⟨0,0,by omega,by omega,by omega,hH,?_⟩);simp
  ·rintro n s ⟨i,h,rfl,nr,hh,TC,rfl⟩;by_cases hi:i<e.args.length
   ·obtain⟨x,hx⟩:∃ x,e.args[i]? = some x:=⟨e.args[i],List.getElem?_eq_getElem hi⟩;have oy:=K8 i x hx;have hd:e.args.drop i=x::e.args.drop (i+1):=by
     rw[List.drop_eq_getElem_cons hi,(List.getElem?_eq_some_iff.1 hx).2]
    rw[hd,EM] at TC;obtain⟨x1,x2,x3⟩:=ha x (List.mem_of_getElem? hx);have NQ:=Kz i x hx;rw[show (decide (x.st<e.st) || (decide (x.st=e.st) && decide (i=1)))=na e x i from rfl] at NQ;have wi:=cm ((i:Int)+1) yA yA;have wh:=cm ((ht x:Int)+1) yA yA;apply aL;simp[hC,hi];refine gF ?_;simp;apply fw;apply ah;simp[hC,hi,oy];refine dk QR (x3) ?_;simp[hC];refine T.cut (fun s=>s=⟨[(5,I ((ht x+if na e x i=true then 1 else 0:Nat))),(4,I i),(3,I h),(1,.ai 0 0)],[(0,⟨131,0,[I e.j4,I e.n,.str e.name,.au (e.args.flatMap bC) e.args.length]⟩)],1⟩) ?_ ?_
    ·apply ah;simp[hC];refine dk zK (NQ) ?_;simp;refine T.aX rfl (fun h=>?_) (fun h=>?_)
     ·have h1:na e x i=true:=by simpa using h
      apply a8;simp[hC,wh];refine aa.le (Le.env [5,4,3,1]) (aa.here ?_);simp[h1]
     ·have h1:na e x i=false:=by simpa using h
      apply T.skip;simp;refine aa.le (Le.env [5,4,3,1]) (aa.here ?_);simp[h1]
    rintro s rfl;obtain⟨g,hg⟩:∃ g,(ht x+if na e x i=true then 1 else 0)=g:=⟨_,rfl⟩;rw[hg] at TC ⊢;have Yk:g≤101:=by rw[← hg];split<;>omega
    have L5:(if h<g then (g:Int) else h)=((max h g:Nat):Int):=by
     split<;>omega
    apply a8;simp[hC,L5];apply a8;simp[hC,wi];refine⟨e.args.length-(i+1),by omega,?_⟩;refine aa.le (Le.env [4,3,1]) (aa.here ⟨i+1,max h g,rfl,by omega,by omega,TC,?_⟩);simp
   ·have CW:i=e.args.length:=by omega
    rw[CW,List.drop_length,EM] at TC;apply aL;simp[hC,hi];refine aU ?_;simp;apply T.exit;simp;refine aa.le (Le.env [3,1]) (aa.here ?_);simp[TC]
 ·rintro s rfl;have wH:=cm ((H:Int)+1) yA yA;refine T.cut (fun s=>s=⟨[(3,I ((H+if lk e.j4=5 then 1 else 0:Nat)))],[],1⟩) ?_ ?_
  ·apply ah;simp[hC];refine dk zK (Fm) ?_;simp[hC];refine T.aX rfl (fun h=>?_) (fun h=>?_)
   ·have h1:lk e.j4=5:=by simp at h;omega
    apply a8;simp[hC,wH];refine aa.trim [3] [] 1 j5 yA ?_;simp[h1]
   ·have h1:¬ lk e.j4=5:=by simp at h;omega
    apply T.skip;simp;refine aa.trim [3] [] 1 j5 yA ?_;simp[h1]
  ·rintro s rfl;apply ah;simp[hC];apply T.ret;apply aa.here;simp[Tryz.results124]
def z6:Ex→Nat
 | .un k x=>EM (.un k x) (fun _=>z6 x) 0 [x] 0+1
 | .bin k a b=>max (max 0 (z6 a+if na (.bin k a b) a 0=true then 1 else 0)) (z6 b+if na (.bin k a b) b 1=true then 1 else 0)
 | _=>0
theorem mb {ns:List ByteArray}:∀ (d:Nat) (e:Ex),d≤5→eO ns d e→z6 e≤2*d∧ae Tryz.prog 124 [.agg (bC e)] (I (z6 e))
 | d,.num n,_,hw=>⟨by simp[z6],by
  have h:=jk z6 (.num n) (fb hw) M9 M9;exact h⟩
 | d,.nm n,_,hw=>⟨by simp[z6],by
  have h:=jk z6 (.nm n) (fb hw) M9 M9;exact h⟩
 | d+1,.un k x,hd,hw=>by
  have KA:=hw;simp only[eO] at KA;obtain⟨i1,i2⟩:=mb d x yA KA.2;have h:=jk z6 (.un k x) (fb hw) M9 (by
   intro y hy;simp only[Ex.args,List.mem_singleton] at hy;subst hy;exact⟨fb KA.2,by omega,i2⟩)
  have h5:lk (Ex.un k x).j4=5:=by
   simp only[Ex.j4];have:=KA.1;have:∀ k,k<2→lk (3+k)=5:=by decide
   exact this k KA.1
  rw[if_pos h5] at h;refine⟨?_,h⟩;simp only[z6,EM];split<;>omega
 | d+1,.bin k a b,hd,hw=>by
  have KA:=hw;simp only[eO] at KA;obtain⟨i1,i2⟩:=mb d a yA KA.2.1;obtain⟨j1,j2⟩:=mb d b yA KA.2.2;have h:=jk z6 (.bin k a b) (fb hw) M9 (by
   intro y hy;simp only[Ex.args,List.mem_cons,List.not_mem_nil,or_false] at hy;rcases hy with rfl | rfl
   ·exact⟨fb KA.2.1,by omega,i2⟩
   ·exact⟨fb KA.2.2,by omega,j2⟩)
  have h5:¬ lk (Ex.bin k a b).j4=5:=by
   simp only[Ex.j4];have:=KA.1;have:∀ k,k<13→¬ lk (5+k)=5:=by decide
   exact this k KA.1
  rw[if_neg h5] at h;refine⟨?_,h⟩;simp only[z6];split<;>split<;>omega
 | 0,.un _ _,_,h=>h.elim
 | 0,.bin _ _ _,_,h=>h.elim
 | 0,.zero,_,h=>h.elim
 | 0,.loc _,_,h=>h.elim
 | 0,.iV _,_,h=>h.elim
 | _+1,.zero,_,h=>h.elim
 | _+1,.loc _,_,h=>h.elim
 | _+1,.iV _,_,h=>h.elim
def kO (s:ByteArray):Prop:=cJ s∧bs s∉pa
theorem AP (n:Nat)(hn:n<4611686018427387904):ae Tryz.prog 123 [.agg (bC (.num n))] (.bool true):=by
 have Fm:ae Tryz.prog 132 [I (1:Nat)] (I 6):=eD 1 yA;refine ae.aD af Tryz.func123 rfl lz (by simp[Tryz.ntmps123]) rfl fun C hC xJ=>?_;rw[Tryz.ntmps123] at hC;apply ah;simp[hC];apply ah;simp[hC];refine T.cut (fun s=>s=⟨[(3,.int .i64 0),(1,.ai 0 0)],[(0,⟨131,0,bC (.num n)⟩)],1⟩) ?_ ?_
 ·apply ah;simp[hC,bC,eS];refine dk zK (Fm) ?_;simp;apply T.block;apply ah;simp[hC];refine cz ?_;simp;apply ah;simp[hC];apply T.seq;have ML:(0:Int)≤n:=by omega
  refine T.rx af follows [0,1,2,3,4,5,6,7,8,9,10,11,12,13,14,15,16,17,18,19,20,21,22,23,24,25,26,27] [(10,24)] lz ?_;simp[hC,ML,gx];apply ah;simp[hC];refine aU ?_;simp;apply T.skip;simp;refine aa.trim [3,1] [0] 1 j5 yA ?_;simp
 ·rintro s rfl;apply aL;simp[hC,bC,eS];refine aU ?_;simp;apply T.skip;simp;apply aL;simp[hC];apply T.block;refine T.aI (fun m s=>s=⟨[(6,.int .i64 0),(3,.int .i64 0),(1,.ai 0 0)],[(0,⟨131,0,bC (.num n)⟩)],1⟩) (n:=0) ?_ ?_
  ·refine aa.trim [6,3,1] [0] 1 j5 yA ?_;simp[bC,eS]
  ·rintro m s rfl;apply aL;simp[hC];refine aU ?_;simp;apply T.exit;simp;apply ah;simp[hC];apply T.ret;apply aa.here;simp[Tryz.results123]
theorem CC (x:ByteArray)(hx:kO x):ae Tryz.prog 123 [.agg (bC (.nm x))] (.bool true):=by
 have Fm:ae Tryz.prog 132 [I (2:Nat)] (I 6):=eD 2 yA;have KV:=im x hx.1 hx.2;refine ae.aD af Tryz.func123 rfl lz (by simp[Tryz.ntmps123]) rfl fun C hC xJ=>?_;rw[Tryz.ntmps123] at hC;apply ah;simp[hC];apply ah;simp[hC];refine T.cut (fun s=>s=⟨[(3,.int .i64 0),(1,.ai 0 0)],[(0,⟨131,0,bC (.nm x)⟩)],1⟩) ?_ ?_
 ·apply ah;simp[hC,bC];refine dk zK (Fm) ?_;simp;apply T.block;apply ah;simp[hC];refine cz ?_;simp;apply ah;simp[hC];apply T.seq;refine T.rx af follows [0,1,2,3,4,5,6,7,8,9,10,11,12,13,14,15,16,17,18,19,20,21,22,23,24,25,26,27] [(10,24)] lz ?_;simp[hC];refine RX.call rfl j5 rfl rfl rfl zK (KV) ?_;simp;apply ah;simp[hC];refine aU ?_;simp;apply T.skip;simp;refine aa.trim [3,1] [0] 1 j5 yA ?_;simp
 ·rintro s rfl;apply aL;simp[hC,bC];refine aU ?_;simp;apply T.skip;simp;apply aL;simp[hC];apply T.block;refine T.aI (fun m s=>s=⟨[(6,.int .i64 0),(3,.int .i64 0),(1,.ai 0 0)],[(0,⟨131,0,bC (.nm x)⟩)],1⟩) (n:=0) ?_ ?_
  ·refine aa.trim [6,3,1] [0] 1 j5 yA ?_;simp[bC]
  ·rintro m s rfl;apply aL;simp[hC];refine aU ?_;simp;apply T.exit;simp;apply ah;simp[hC];apply T.ret;apply aa.here;simp[Tryz.results123]
theorem qN (e:Ex)(st:Nat)(he:e.j4≤17)(Km:lk e.j4=st)(h6:st≤5)(hn:e.n=0)(KV:e.name=eS)(hlen:e.args.length=if st=5 then 1 else 2)(ha:∀ x∈e.args,ae Tryz.prog 123 [.agg (bC x)] (.bool true)):ae Tryz.prog 123 [.agg (bC e)] (.bool true):=by
 have Fm:=eD _ he;rw[Km] at Fm;have K8:=fun (i:Nat) (x:Ex) (h:e.args[i]? = some x)=>az (f:=bC) (n:=4) bA (m:=e.args) h;rw[bJ,Fo,hn,KV];obtain⟨al,T2⟩:∃ al,e.args.length=al:=⟨_,rfl⟩;rw[T2] at hlen;have h6':¬ (st:Int)=6:=by omega
 refine ae.aD af Tryz.func123 rfl lz (by simp[Tryz.ntmps123]) rfl fun C hC xJ=>?_;rw[Tryz.ntmps123] at hC;apply ah;simp[hC];apply ah;simp[hC];refine T.cut (fun s=>s=⟨[(3,I al),(1,.ai 0 0)],[(0,⟨131,0,[I e.j4,I 0,.str eS,.au (e.args.flatMap bC) al]⟩)],1⟩) ?_ ?_
 ·apply ah;simp[hC,T2];refine dk zK (Fm) ?_;simp;apply T.block;apply ah;simp[hC];refine T.aX rfl (fun h=>?_) (fun h=>?_)
  ·simp at h;omega
  apply ah;simp[hC];refine T.aX rfl (fun h=>?_) (fun h=>?_)
  ·have h5:st=5:=by simp at h;omega
   rw[if_pos h5] at hlen;apply a8;simp[hC];refine aa.trim [3,1] [0] 1 j5 yA ?_;simp[hlen]
  ·have h5:¬ st=5:=by simp at h;omega
   rw[if_neg h5] at hlen;apply T.skip;simp;refine aa.trim [3,1] [0] 1 j5 yA ?_;simp[hlen]
 ·rintro s rfl;have T1:0<al:=by rw[hlen];split<;>omega
  have hal2:al≤2:=by rw[hlen];split<;>omega
  apply aL;simp[hC,T1,eS,iF];refine aU ?_;simp;apply T.skip;simp;apply aL;simp[hC];apply T.block;refine T.aI (fun m s=>∃ i:Nat,m=al-i∧i≤al∧s=⟨[(6,I i),(3,I al),(1,.ai 0 0)],[(0,⟨131,0,[I e.j4,I 0,.str ⟨#[]⟩,.au (e.args.flatMap bC) al]⟩)],1⟩) (n:=al) ?_ ?_
  ·refine aa.trim [6,3,1] [0] 1 j5 yA ⟨0,by omega,by omega,?_⟩;simp
  ·rintro m s ⟨i,rfl,hi,rfl⟩;by_cases nr:i<al
   ·obtain⟨x,hx⟩:∃ x,e.args[i]? = some x:=⟨e.args[i],List.getElem?_eq_getElem yA⟩;have oy:=K8 i x hx;have WO:=ha x (List.mem_of_getElem? hx);have wi:=cm ((i:Int)+1) yA yA;apply aL;simp[hC,nr];refine gF ?_;simp;apply fw;apply ah;simp[hC,nr,oy];refine dk QR (WO) ?_;simp[hC];refine aU ?_;simp;apply T.skip;simp;apply a8;simp[hC,wi];refine⟨al-(i+1),by omega,?_⟩;refine aa.trim [6,3,1] [0] 1 j5 yA ⟨i+1,rfl,by omega,?_⟩;simp
   ·apply aL;simp[hC,nr];refine aU ?_;simp;apply T.exit;simp;apply ah;simp[hC];apply T.ret;apply aa.here;simp[Tryz.results123]
theorem nU {ns:List ByteArray}(Mo:∀ s∈ns,kO s):∀ (d:Nat) (e:Ex),eO ns d e→ae Tryz.prog 123 [.agg (bC e)] (.bool true)
 | _,.num n,hw=>AP n (by simpa [eO] using hw)
 | _,.nm s,hw=>CC s (Mo s (by simpa [eO] using hw))
 | d+1,.un k x,hw=>by
  have KA:=hw;simp only[eO] at KA;have h5:lk (Ex.un k x).j4=5:=(by decide:∀ k,k<2→lk (3+k)=5) k KA.1;refine qN (.un k x) 5 (fb hw) h5 yA rfl rfl rfl ?_;intro y hy;simp only[Ex.args,List.mem_singleton] at hy;subst hy;exact nU Mo d _ KA.2
 | d+1,.bin k a b,hw=>by
  have KA:=hw;simp only[eO] at KA;have h5:lk (Ex.bin k a b).j4≤4:=(by decide:∀ k,k<13→lk (5+k)≤4) k KA.1;refine qN (.bin k a b) _ (fb hw) rfl yA rfl rfl ?_ ?_
  ·rw[if_neg yA];rfl
  ·intro y hy;simp only[Ex.args,List.mem_cons,List.not_mem_nil,or_false] at hy;rcases hy with rfl | rfl
   ·exact nU Mo d _ KA.2.1
   ·exact nU Mo d _ KA.2.2
 | 0,.un _ _,h=>h.elim
 | 0,.bin _ _ _,h=>h.elim
 | 0,.zero,h=>h.elim
 | 0,.loc _,h=>h.elim
 | 0,.iV _,h=>h.elim
 | _+1,.zero,h=>h.elim
 | _+1,.loc _,h=>h.elim
 | _+1,.iV _,h=>h.elim
theorem eR {ns:List ByteArray}(Mo:∀ s∈ns,kO s)(d:Nat)(e:Ex)(hd:d≤5)(hw:eO ns d e):ae Tryz.prog 104 [.agg (bC e)] (.bool true):=by
 obtain⟨h1,h2⟩:=mb d e hd hw;have h3:=nU Mo d e hw;have h4:(z6 e:Int)≤24:=by omega
 refine ae.aD af Tryz.func104 rfl lz (by simp[Tryz.ntmps104]) rfl fun C hC xJ=>?_;rw[Tryz.ntmps104] at hC;apply ah;simp[hC];apply ah;simp[hC];refine dk QR (h3) ?_;simp[hC];refine TL.bG yI rfl rfl rfl rfl (bm.of rfl QR (h2)) (TL.go' af ?_);simp[hC,h4];apply T.ret;apply aa.here;simp[Tryz.results104]
theorem mI (n:Int)(h:0≤n∧n<18446744073709551616):IntKind.u64.wrap n=n:=by
 exact IntWalk.u64_in n ⟨h.1,by omega⟩
def xD (m:Nat)(s:ByteArray):ByteArray:=if m=0 then s else iX m++s
theorem zb (n:Nat):iX n=xD (n / 10) (dr (48+n % 10)):=by
 unfold xD;rw[iX];split
 ·rename_i h;rw[if_pos yA,Nat.mod_eq_of_lt h]
 ·rw[if_neg yA]
theorem Bw (m:Nat)(s:ByteArray)(h:0<m):xD m s=xD (m / 10) (dr (48+m % 10)++s):=by
 unfold xD;rw[if_neg yA,iX];split
 ·rename_i h1;rw[if_pos yA,Nat.mod_eq_of_lt h1]
 ·rw[if_neg yA,ByteArray.append_assoc]
def J153 (T:ByteArray)(m:Nat)(s:St):Prop:=∃ x:ByteArray,x.size+m≤9223372036854775807∧xD m x=T∧s=⟨[(3,.str x),(0,.int .u64 m)],[],0⟩
theorem ub (n:Nat)(hn:n<9223372036854775808):ae Tryz.prog 125 [.int .u64 n] (.str (iX n)):=by
 rw[zb];obtain⟨X,hT⟩:∃ X,xD (n / 10) (dr (48+n % 10))=X:=⟨_,rfl⟩;rw[hT];have m1:(n:Int).tmod 10=((n % 10:Nat):Int):=by rw[Int.tmod_eq_emod_of_nonneg yA];omega
 have d1:(n:Int).tdiv 10=((n / 10:Nat):Int):=by rw[Int.tdiv_eq_ediv_of_nonneg yA];omega
 refine ae.aD af Tryz.func125 rfl lz (by simp[Tryz.ntmps125]) rfl fun C hC xJ=>?_;rw[Tryz.ntmps125] at hC;apply ah;simp[hC];obtain⟨q,hq⟩:∃ q,n % 10=q:=⟨_,rfl⟩;have hq9:q<10:=by omega
 have m2:(n:Int) % 10=(q:Int):=by omega
 have w1:=mI (48+(q:Int)) yA;have w1b:=mI (q:Int) yA;have w2:IntKind.u8.wrap (48+(q:Int))=48+(q:Int):=IntWalk.u8_in _ yA;have w3:(0:Int)≤48+(q:Int)∧48+(q:Int)<256:=by omega
 have w4:(48+(q:Int)).toNat=48+q:=by omega
 refine T.seq (T.yh af ?_);simp[hC,m1,hq,w1,w2,w3,w4];refine T.le (Le.trim [3,0] [] 0 j5 yA) ?_;simp;have NH:(⟨#[48+UInt8.ofNat q]⟩:ByteArray)=dr (48+q):=by simp[dr]
 rw[NH];have wd:=mI ((n / 10:Nat):Int) yA;have d2:(n:Int) / 10=((n / 10:Nat):Int):=by omega
 obtain⟨m0,MW⟩:∃ m0,n / 10=m0:=⟨_,rfl⟩;rw[MW] at d1 d2 wd hT;rw[hq] at hT;apply aL;simp[hC,d1,wd];apply T.block;refine T.aI (J153 X) (n:=m0) ?_ ?_
 ·refine aa.trim [3,0] [] 0 j5 yA ⟨dr (48+q),?_,hT,?_⟩
  ·have:(dr (48+q)).size=1:=rfl;omega
  ·simp
 ·rintro m s ⟨x,hx,hX,rfl⟩;by_cases hm:0<m
  ·have Rg:(0:Int)<m:=by omega
   rw[Bw m x hm] at hX;obtain⟨r,hr⟩:∃ r,m % 10=r:=⟨_,rfl⟩;have hr9:r<10:=by omega
   have m1:(m:Int).tmod 10=(r:Int):=by rw[Int.tmod_eq_emod_of_nonneg yA];omega
   have m2:(m:Int) % 10=(r:Int):=by omega
   have v1:=mI (48+(r:Int)) yA;have v1b:=mI (r:Int) yA;have v2:IntKind.u8.wrap (48+(r:Int))=48+(r:Int):=IntWalk.u8_in _ yA;have v3:(0:Int)≤48+(r:Int)∧48+(r:Int)<256:=by omega
   have v4:(48+(r:Int)).toNat=48+r:=by omega
   have e1:(m:Int).tdiv 10=((m / 10:Nat):Int):=by rw[Int.tdiv_eq_ediv_of_nonneg yA];omega
   have e2:(m:Int) / 10=((m / 10:Nat):Int):=by omega
   have ve:=mI ((m / 10:Nat):Int) yA;rw[hr] at hX;have WS:(⟨#[48+UInt8.ofNat r]⟩:ByteArray)=dr (48+r):=by simp[dr]
   have CX:(dr (48+r)).size=1:=rfl;have so:=aq (dr (48+r)) x yA;obtain⟨m',Rg⟩:∃ m',m / 10=m':=⟨_,rfl⟩;rw[Rg] at e1 e2 ve hX;apply aL;simp[hC,hm];refine gF ?_;simp;apply fw;refine T.yh af ?_;simp[hC,m1,v1,v2,v3,v4,WS,so];apply a8;simp[hC,e1,ve];refine⟨m',by omega,?_⟩;refine aa.trim [3,0] [] 0 j5 yA ⟨dr (48+r)++x,?_,hX,?_⟩
   ·rw[ByteArray.size_append];omega
   ·simp
  ·have MW:m=0:=by omega
   subst MW;have Y3:x=X:=by simpa [xD] using hX
   apply aL;simp[hC];refine aU ?_;simp;apply T.exit;simp;apply ah;simp[hC];apply T.ret;apply aa.here;simp[Tryz.results125,Y3]
theorem mX (n:Int)(h1 : -1000≤n)(h2:n<9223372036854775808):ae Tryz.prog 108 [I n] (.str (jC n)):=by
 refine ae.aD af Tryz.func108 rfl lz (by simp[Tryz.ntmps108]) rfl fun C hC xJ=>?_;rw[Tryz.ntmps108] at hC;apply ah;simp[hC];apply aL;simp[hC];refine T.aX rfl (fun h=>?_) (fun h=>?_)
 ·have hn:n<0:=by simpa using h
  obtain⟨m,hm⟩:∃ m:Nat,n=-(m:Int):=⟨(-n).toNat,by omega⟩;subst hm;have OZ:=ub m yA;have w1:=cm (-(m:Int)+1) yA yA;have w2:=cm (-(-(m:Int)+1)) yA yA;have w3:=mI (-(-(m:Int)+1)) yA;have w4:=mI (-(-(m:Int)+1)+1) yA;have e5 : -(-(m:Int)+1)+1=(m:Int):=by omega
  have w5:=mI (m:Int) yA;have CX:(iX m).size≤19:=by
   have:=(vi m).2.2.2 18 yA;rw[jO] at this;exact this
  have so:=aq ⟨#[45]⟩ (iX m) (by have:(⟨#[45]⟩:ByteArray).size=1:=rfl;omega);refine T.seq (T.yh af ?_);simp[hC,w1,w2,w3,e5,w5];refine dk zK (OZ) ?_;simp[hC,so];apply T.ret;apply aa.here;have Tm:jC (-(m:Int))=⟨#[45]⟩++iX m:=by
   unfold jC;rw[if_pos hn];simp
  rw[Tm];simp[Tryz.results108]
 ·have hn:¬ n<0:=by simpa using h
  obtain⟨m,hm⟩:∃ m:Nat,n=(m:Int):=⟨n.toNat,by omega⟩;subst hm;have OZ:=ub m yA;have w5:=mI (m:Int) yA;apply T.skip;simp;refine T.seq (T.yh af ?_);simp[hC,w5];refine dk zK (OZ) ?_;simp[hC];apply T.ret;apply aa.here;have Tm:jC (m:Int)=iX m:=by
   unfold jC;rw[if_neg hn];simp
  rw[Tm];simp[Tryz.results108]
def qH (e x:Ex)(i:Nat):ByteArray:=qa (na e x i) (gJ x)
theorem Bc (b:Bool)(x:ByteArray):(qa b x).size≤x.size+2:=by
 unfold qa;split
 ·rw[ByteArray.size_append,ByteArray.size_append];have h1:(⟨#[40]⟩:ByteArray).size=1:=rfl;have h2:(⟨#[41]⟩:ByteArray).size=1:=rfl;omega
 ·omega
def J154 (e:Ex)(tl:List ByteArray)(n:Nat)(s:St):Prop:=∃ i:Nat,n=e.args.length-i∧i≤e.args.length∧s=⟨[(4,I i),(3,.bw 1 0 i),(1,.ai 0 0)],[(0,⟨131,0,[I e.j4,I e.n,.str e.name,.au (e.args.flatMap bC) e.args.length]⟩),(1,aW (tl.take i))],2⟩
theorem H7:∀ k,k<13→lk (5+k)≤4∧∃ i,i<(rk (lk (5+k))).2.length∧(rk (lk (5+k))).1.length=(rk (lk (5+k))).2.length∧(rk (lk (5+k))).2[i]? = some ((5+k:Nat):Int)∧(rk (lk (5+k))).1[i]? = some (zl.getD k ⟨#[]⟩)∧(rk (lk (5+k))).2.length≤6∧∀ j,j<i→∀ o,(rk (lk (5+k))).2[j]? = some o→o≠((5+k:Nat):Int)
 | 0,_=>⟨by decide,0,by decide,rfl,rfl,rfl,by decide,by decide⟩
 | 1,_=>⟨by decide,1,by decide,rfl,rfl,rfl,by decide,by decide⟩
 | 2,_=>⟨by decide,2,by decide,rfl,rfl,rfl,by decide,by decide⟩
 | 3,_=>⟨by decide,0,by decide,rfl,rfl,rfl,by decide,by decide⟩
 | 4,_=>⟨by decide,1,by decide,rfl,rfl,rfl,by decide,by decide⟩
 | 5,_=>⟨by decide,2,by decide,rfl,rfl,rfl,by decide,by decide⟩
 | 6,_=>⟨by decide,3,by decide,rfl,rfl,rfl,by decide,by decide⟩
 | 7,_=>⟨by decide,4,by decide,rfl,rfl,rfl,by decide,by decide⟩
 | 8,_=>⟨by decide,5,by decide,rfl,rfl,rfl,by decide,by decide⟩
 | 9,_=>⟨by decide,0,by decide,rfl,rfl,rfl,by decide,by decide⟩
 | 10,_=>⟨by decide,1,by decide,rfl,rfl,rfl,by decide,by decide⟩
 | 11,_=>⟨by decide,0,by decide,rfl,rfl,rfl,by decide,by decide⟩
 | 12,_=>⟨by decide,0,by decide,rfl,rfl,rfl,by decide,by decide⟩
 | _+13,h=>absurd h yA
theorem lP (e:Ex)(tl:List ByteArray)(R3:tl.length=e.args.length)(he:e.j4≤17)(T2:e.args.length≤2)(R:ByteArray)
  (ha:∀ i x,e.args[i]? = some x→x.j4≤17∧ae Tryz.prog 126 [.agg (bC x)] (.str (gJ x))∧(gJ x).size≤100000∧tl[i]? = some (qH e x i))
  (hR:(∃ n:Nat,e=.num n∧n<4611686018427387904∧R=iX n)∨(∃ x,e=.nm x∧R=x)∨(∃ k x,e=.un k x∧k<2∧R=(if k=0 then ⟨#[45]⟩ else ⟨#[33]⟩)++tl.getD 0 eS)∨(∃ k a b,e=.bin k a b∧k<13∧R=tl.getD 0 eS++⟨#[32]⟩++zl.getD k ⟨#[]⟩++⟨#[32]⟩++tl.getD 1 eS)):ae Tryz.prog 126 [.agg (bC e)] (.str R):=by
 have K8:=fun (i:Nat) (x:Ex) (h:e.args[i]? = some x)=>az (f:=bC) (n:=4) bA (m:=e.args) h;have Kz:=fun (i:Nat) (x:Ex) (h:e.args[i]? = some x)=>xo e i x h (ha i x h).1 he;have Lg:∀ x∈tl,x.size≤100002:=by
  intro x hx;obtain⟨i,hi⟩:=List.getElem?_of_mem hx;have nr:i<e.args.length:=by rw[← R3];exact (List.getElem?_eq_some_iff.1 hi).1
  obtain⟨y,hy⟩:∃ y,e.args[i]? = some y:=⟨e.args[i],List.getElem?_eq_getElem nr⟩;obtain⟨_,_,h3,h4⟩:=ha i y hy;rw[hi] at h4;cases h4;have:=Bc (na e y i) (gJ y);unfold qH;omega
 rw[bJ,Fo] at Kz ⊢;refine ae.aD af Tryz.func126 rfl lz (by simp[Tryz.ntmps126]) rfl fun C hC xJ=>?_;rw[Tryz.ntmps126] at hC;apply ah;simp[hC];apply ah;simp[hC];refine T.cut (fun s=>s=⟨[(3,.bw 1 0 e.args.length),(1,.ai 0 0)],[(0,⟨131,0,[I e.j4,I e.n,.str e.name,.au (e.args.flatMap bC) e.args.length]⟩),(1,aW tl)],2⟩) ?_ ?_
 ·apply ah;simp[hC];apply T.block;refine T.aI (J154 e tl) (n:=e.args.length) ?_ ?_
  ·refine aa.le (Le.own 3 9 1 rfl) ?_;simp;refine aa.trim [4,3,1] [0,1] 2 j5 yA ⟨0,by omega,by omega,?_⟩;simp[aW]
  ·rintro n s ⟨i,rfl,nr,rfl⟩;by_cases hi:i<e.args.length
   ·obtain⟨x,hx⟩:∃ x,e.args[i]? = some x:=⟨e.args[i],List.getElem?_eq_getElem hi⟩;have oy:=K8 i x hx;obtain⟨x1,x2,x3,x4⟩:=ha i x hx;have NQ:=Kz i x hx;rw[show (decide (x.st<e.st) || (decide (x.st=e.st) && decide (i=1)))=na e x i from rfl] at NQ;have wi:=cm ((i:Int)+1) yA yA;apply aL;simp[hC,hi];refine gF ?_;simp;apply fw;apply ah;simp[hC,hi,oy];refine dk QR (x2) ?_;simp[hC];refine T.cut (fun s=>s=⟨[(5,.str (qH e x i)),(4,I i),(3,.bw 1 0 i),(1,.ai 0 0)],[(0,⟨131,0,[I e.j4,I e.n,.str e.name,.au (e.args.flatMap bC) e.args.length]⟩),(1,aW (tl.take i))],2⟩) ?_ ?_
    ·apply ah;simp[hC];refine dk zK (NQ) ?_;simp;refine T.aX rfl (fun h=>?_) (fun h=>?_)
     ·have h1:na e x i=true:=by simpa using h
      have s1:=aq ⟨#[40]⟩ (gJ x) (by have:(⟨#[40]⟩:ByteArray).size=1:=rfl;omega);have s2:=aq (⟨#[40]⟩++gJ x) ⟨#[41]⟩ (by rw[ByteArray.size_append];have:(⟨#[40]⟩:ByteArray).size=1:=rfl;have:(⟨#[41]⟩:ByteArray).size=1:=rfl;omega);apply a8;simp[hC,s1,s2];refine aa.trim [5,4,3,1] [0,1] 2 j5 yA ?_;simp[qH,qa,h1]
     ·have h1:na e x i=false:=by simpa using h
      apply T.skip;simp;refine aa.trim [5,4,3,1] [0,1] 2 j5 yA ?_;simp[qH,qa,h1]
    rintro s rfl;have K1:(i+1)*16≤140737488355328:=by omega
    have QV:(aW (tl.take i)).cells.length=i:=by simp[aW];omega
    have Vp:(aW (tl.take i)).sz=1:=rfl;have Vt:(aW (tl.take i)).elem=9:=rfl;apply a8;simp[hC,K1,QV,Vp,Vt,aS];apply a8;simp[hC,wi];refine⟨e.args.length-(i+1),by omega,?_⟩;refine aa.le (Le.trim [4,3,1] [0,3] 4 Nk yA) ?_;simp;refine aa.le (Le.mq 3 1 rfl rfl yA j5 j5 Nk) ?_;simp;refine aa.trim [4,3,1] [0,1] 2 Nk yA ⟨i+1,rfl,by omega,?_⟩;have Kk:tl.take (i+1)=tl.take i++[qH e x i]:=by rw[List.take_add_one,x4];rfl
    rw[Kk];simp[aW]
   ·have CW:i=e.args.length:=by omega
    apply aL;simp[hC,hi];refine aU ?_;simp;apply T.exit;simp;refine aa.trim [3,1] [0,1] 2 j5 yA ?_;rw[CW,← R3,List.take_length];simp
 ·rintro s rfl;rcases hR with ⟨n,rfl,hn,rfl⟩ | ⟨x,rfl,rfl⟩ | ⟨k,x,rfl,hk,rfl⟩ | ⟨k,a,b,rfl,hk,rfl⟩
  ·have Ou:=mX n yA yA;have Tm:jC (n:Int)=iX n:=by
    unfold jC;rw[if_neg yA];simp
   rw[Tm] at Ou;apply fw;apply ah;simp[hC,Ex.j4,Ex.n,Ex.name,Ex.args];refine cz ?_;simp;apply ah;simp[hC];refine dk zK (Ou) ?_;simp[hC];apply T.ret;apply aa.here;simp[Tryz.results126]
  ·apply fw;apply ah;simp[hC,Ex.j4,Ex.n,Ex.name,Ex.args];refine aU ?_;simp;apply ah;simp[hC];refine cz ?_;simp;apply ah;simp[hC];apply T.ret;apply aa.here;simp[Tryz.results126]
  ·have h1:tl.length=1:=R3;have oy:=gS (ns:=tl) (i:=0) yA;rw[List.drop_zero] at oy;have KV:(aW tl).cells=.str (tl.getD 0 eS)::(tl.map CV.str).drop 1:=oy;have Mo:(aW tl).sz=1:=rfl;have CX:=Lg (tl.getD 0 eS) (gV yA eS);generalize tl.getD 0 eS=t0 at KV CX;have s45:(⟨#[45]⟩:ByteArray).size=1:=rfl;have s33:(⟨#[33]⟩:ByteArray).size=1:=rfl;apply fw
   match k,hk with
   | 0,_=>
    have so:=aq ⟨#[45]⟩ t0 yA;apply ah;simp[hC,Ex.j4,Ex.n,Ex.name,Ex.args];refine aU ?_;simp;apply ah;simp[hC];refine aU ?_;simp;apply ah;simp[hC];refine cz ?_;simp;apply ah;simp[hC,KV,so];apply T.ret;apply aa.here;simp[Tryz.results126]
   | 1,_=>
    have so:=aq ⟨#[33]⟩ t0 yA;apply ah;simp[hC,Ex.j4,Ex.n,Ex.name,Ex.args];refine aU ?_;simp;apply ah;simp[hC];refine aU ?_;simp;apply ah;simp[hC];refine aU ?_;simp;apply ah;simp[hC];refine cz ?_;simp;apply ah;simp[hC,KV,so];apply T.ret;apply aa.here;simp[Tryz.results126]
  ·have h1:tl.length=2:=R3;have oy:=gS (ns:=tl) (i:=0) yA;have KU:=gS (ns:=tl) (i:=1) yA;rw[List.drop_zero,KU] at oy;have KV:(aW tl).cells=[.str (tl.getD 0 eS),.str (tl.getD 1 eS)]:=by
    have e3:(tl.map CV.str).drop (1+1)=[]:=List.drop_eq_nil_of_le Lv;rw[e3] at oy;exact oy
   have Mo:(aW tl).sz=1:=rfl;have VE:=Lg (tl.getD 0 eS) (gV yA eS);have Pe:=Lg (tl.getD 1 eS) (gV yA eS);generalize tl.getD 0 eS=t0 at KV VE;generalize tl.getD 1 eS=t1 at KV Pe;obtain⟨SU,ix,NQ,QD,On,R4,h6,Pt⟩:=H7 k hk;have Z9:(zl.getD k ⟨#[]⟩).size≤2:=(by decide:∀ k,k<13→(zl.getD k ⟨#[]⟩).size≤2) k hk;have Kr:=eD (5+k) yA;have Sd:=CA _ SU;generalize zl.getD k ⟨#[]⟩=bo at R4 Z9;generalize lk (5+k)=sk at Kr Sd NQ QD On R4 h6 Pt SU;generalize OA:(rk sk).1=sl at *;generalize hog:(rk sk).2=ol at *;have n1:((5+k:Nat):Int)=5+(k:Int):=by omega
   rw[n1] at Kr On Pt;have k1:((5:Int)+k == 1)=false:=by simp;omega
   have k2:((5:Int)+k == 2)=false:=by simp;omega
   have k3:((5:Int)+k == 3)=false:=by simp;omega
   have k4:((5:Int)+k == 4)=false:=by simp;omega
   apply fw;apply ah;simp[hC,Ex.j4,Ex.n,Ex.name,Ex.args,k1];refine aU ?_;simp;apply ah;simp[hC,k2];refine aU ?_;simp;apply ah;simp[hC,k3];refine aU ?_;simp;apply ah;simp[hC,k4];refine aU ?_;simp;apply T.skip;simp;refine T.le (Le.trim [3,1] [0,1] 2 j5 yA) ?_;simp;apply ah;simp[hC];refine dk zK (Kr) ?_;simp;refine dk zK (Sd) ?_;simp[hC];have q1:(⟨#[32]⟩:ByteArray).size=1:=rfl;have s1:=aq t0 ⟨#[32]⟩ yA;have s2:=aq (t0++⟨#[32]⟩) bo (by rw[ByteArray.size_append];omega);have s3:=aq (t0++⟨#[32]⟩++bo) ⟨#[32]⟩ (by rw[ByteArray.size_append,ByteArray.size_append];omega);have s4:=aq (t0++⟨#[32]⟩++bo++⟨#[32]⟩) t1 (by rw[ByteArray.size_append,ByteArray.size_append,ByteArray.size_append];omega);obtain⟨X,hX⟩:∃ X,t0++⟨#[32]⟩++bo++⟨#[32]⟩++t1=X:=⟨_,rfl⟩;rw[hX] at s4 ⊢;refine T.le (Le.trim [7,6,3,1] [0,1] 2 (by simp[strs,ints]) yA) ?_;simp;apply aL;simp[hC];apply T.block;refine T.aI (fun n s=>∃ i:Nat,n=ix-i∧i≤ix∧s=⟨[(8,I i),(7,ints ol),(6,strs sl),(3,.bw 1 0 2),(1,.ai 0 0)],[(0,⟨131,0,[I (5+k),I 0,.str eS,.au (bC a++bC b) 2]⟩),(1,aW tl)],2⟩) (n:=ix) ?_ ?_
   ·refine aa.trim [8,7,6,3,1] [0,1] 2 (by simp[strs,ints]) yA ⟨0,by omega,by omega,?_⟩;simp
   ·rintro n s ⟨i,rfl,hi,rfl⟩;have nr:i<ol.length:=by omega
    obtain⟨o,ho⟩:∃ o,ol[i]? = some o:=⟨ol[i],List.getElem?_eq_getElem nr⟩;have TO:(ol.map um).drop i=I o::(ol.map um).drop (i+1):=by
     rw[List.drop_eq_getElem_cons (by simpa using nr)];have:=(List.getElem?_eq_some_iff.1 ho).2;simp[um,this]
    have wi:=cm ((i:Int)+1) yA yA;apply aL;simp[hC,ints,strs,nr];refine gF ?_;simp;apply fw;apply T.seq;refine T.rx af follows [0,1,2,3,4,5,6] [] lz ?_;simp[hC,nr,TO];by_cases CW:i=ix
    ·subst CW;rw[On] at ho;have Zv:o=5+(k:Int):=by simpa using ho.symm
     have Zh:(sl.map CV.str).drop i=.str bo::(sl.map CV.str).drop (i+1):=by
      have:=gS (ns:=sl) (i:=i) yA;rw[this];simp[List.getD,R4]
     have Wo:i<sl.length:=by omega
     refine T.aX rfl (fun h=>?_) (fun h=>?_)
     ·apply T.seq;refine T.rx af follows [0,1,2,3,4,5,6,7,8,9,10,11,12,13,14] [] lz ?_;simp[hC,KV,Wo,Zh,s1,s2,s3,s4];apply T.ret;apply aa.here;simp[Tryz.results126]
     ·simp[Zv] at h
    ·have F0:=Pt i yA o ho;refine T.aX rfl (fun h=>?_) (fun h=>?_)
     ·simp at h;exact absurd h F0
     apply T.skip;simp;apply a8;simp[hC,wi];refine⟨ix-(i+1),by omega,?_⟩;refine aa.trim [8,7,6,3,1] [0,1] 2 j5 yA ⟨i+1,rfl,by omega,?_⟩;simp
end Go.Proofs.YtlkmbdfhdknlgaaGreatDoor
