/- inner, Height, shape, ValidExpr. -/
import Derived.Test.YtlkmbdfhdknlgaaGreatDoorZ23
namespace Go.Proofs.YtlkmbdfhdknlgaaGreatDoor
open Go.Can Go.aN
theorem Ju (e:Ex):e.op=(e.lI:Int):=by cases e<;>simp[Ex.op,Ex.lI]
theorem fZ {ns:List ByteArray}:∀ {d:Nat} {e:Ex},fK ns d e→e.lI≤17
 | _,.num _,_=>by simp[Ex.lI]
 | _,.nm _,_=>by simp[Ex.lI]
 | d+1,.un k e,h=>by simp only[fK] at h;simp only[Ex.lI];omega
 | d+1,.bin k a b,h=>by simp only[fK] at h;simp only[Ex.lI];omega
 | 0,.un _ _,h=>h.elim
 | 0,.bin _ _ _,h=>h.elim
 | 0,.zero,h=>h.elim
 | 0,.loc _,h=>h.elim
 | 0,.jX _,h=>h.elim
 | _+1,.zero,h=>h.elim
 | _+1,.loc _,h=>h.elim
 | _+1,.jX _,h=>h.elim
theorem Ay (e:Ex)(i:Nat)(x:Ex)(h:e.args[i]? = some x)(hx:x.lI≤17)(he:e.lI≤17):ae Tryz.prog 133 [.agg (bM e),I i] (.bool (decide (x.st<e.st) || (decide (x.st=e.st) && decide (i=1)))):=by
 have Oa:i<e.args.length:=(List.getElem?_eq_some_iff.1 h).1;have N7:(e.args.flatMap bM).drop (i*4)=bM x++(e.args.drop (i+1)).flatMap bM:=aD (f:=bM) (n:=4) bK h;have hcx:=fx _ hx;have Vu:=fx _ he;have e1:=bW e;have e2:=bW x;rw[Ju] at e1 e2;rw[e2] at N7;rw[e1];clear e1 e2;unfold Ex.st;generalize mY x.lI=sx at *;generalize mY e.lI=se at *;refine ae.aH af Tryz.func133 rfl N4 (by simp[Tryz.ntmps133]) rfl fun C hC N8=>?_;rw[Tryz.ntmps133] at hC;apply ai;simp[hC];apply T.seq;refine T.rx af follows [0,1,2,3,4,5,7,8,6,9,10,11] [(8,6)] N4 ?_;simp[hC,Oa,N7];refine RX.call rfl N3 rfl rfl rfl Od (hcx) ?_;simp;refine RX.call rfl N3 rfl rfl rfl Od (Vu) ?_;simp;apply T.seq;by_cases h1:sx<se
 ·apply aY;simp[hC,h1];apply T.ret;apply aa.here;simp[Tryz.results133]
 ·by_cases h2:sx=se
  ·subst h2;apply aY;simp[hC];apply T.ret;apply aa.here;simp[Tryz.results133]
  ·have Q4:((sx:Int) == se)=false:=by simp;omega
   apply aY;simp[hC,h1,Q4];apply T.ret;apply aa.here;simp[Tryz.results133,h2]
def pA (e x:Ex)(i:Nat):Bool:=decide (x.st<e.st) || (decide (x.st=e.st) && decide (i=1))
def Fe (e:Ex)(ht:Ex→Nat):Nat→List Ex→Nat→Nat
 | _,[],h=>h
 | i,x::r,h=>Fe e ht (i+1) r (max h (ht x+if pA e x i=true then 1 else 0))
theorem HC (e:Ex)(ht:Ex→Nat)(B:Nat):∀ (l:List Ex) (i h:Nat),(∀ x∈l,ht x+1≤B)→h≤B→Fe e ht i l h≤B
 | [],_,_,_,h=>h
 | x::r,i,h,hx,hh=>by
  rw[Fe];have:=hx x List.mem_cons_self;refine HC e ht B r _ _ (fun y hy=>hx y (List.mem_cons_of_mem _ hy)) ?_;split<;>omega
def J152 (ht:Ex→Nat)(e:Ex)(H:Nat)(m:Nat)(s:St):Prop:=∃ i h:Nat,m=e.args.length-i∧i≤e.args.length∧h≤101∧Fe e ht i (e.args.drop i) h=H∧s=⟨[(4,I i),(3,I h),(1,.aq 0 0)],[(0,⟨131,0,[I e.lI,I e.n,.str e.name,.az (e.args.flatMap bM) e.args.length]⟩)],1⟩
theorem ky (ht:Ex→Nat)(e:Ex)(he:e.lI≤17)(hlen:e.args.length≤2)(ha:∀ x∈e.args,x.lI≤17∧ht x≤100∧ae Tryz.prog 124 [.agg (bM x)] (I (ht x))) :
  ae Tryz.prog 124 [.agg (bM e)] (I ((Fe e ht 0 e.args 0+if mY e.lI=5 then 1 else 0:Nat))):=by
 have Ol:=fx _ he;have Oo:=fun (i:Nat) (x:Ex) (h:e.args[i]? = some x)=>Ay e i x h (ha x (List.mem_of_getElem? h)).1 he;have PC:=fun (i:Nat) (x:Ex) (h:e.args[i]? = some x)=>aD (f:=bM) (n:=4) bK (m:=e.args) h;have hB:=HC e ht 101 e.args 0 0 (fun x hx=>by have:=(ha x hx).2.1;omega) yA;obtain⟨H,hH⟩:∃ H,Fe e ht 0 e.args 0=H:=⟨_,rfl⟩;rw[hH] at hB ⊢;rw[bW,Ju] at Oo ⊢;refine ae.aH af Tryz.func124 rfl N4 (by simp[Tryz.ntmps124]) rfl fun C hC N8=>?_;rw[Tryz.ntmps124] at hC;apply ai;simp[hC];apply ai;simp[hC];refine T.cut (fun s=>s=⟨[(3,I H),(1,.aq 0 0)],[(0,⟨131,0,[I e.lI,I e.n,.str e.name,.az (e.args.flatMap bM) e.args.length]⟩)],1⟩) ?_ ?_
 ·apply ai;simp[hC];apply T.block;refine T.aI (J152 ht e H) (n:=e.args.length) ?_ ?_
  ·refine aa.le (Le.env [4,3,1]) (aa.here ⟨0,0,by omega,by omega,by omega,hH,?_⟩);simp
  ·rintro n s ⟨i,h,rfl,N6,hh,Zk,rfl⟩;by_cases hi:i<e.args.length
   ·obtain⟨x,hx⟩:∃ x,e.args[i]? = some x:=⟨e.args[i],List.getElem?_eq_getElem hi⟩;have N7:=PC i x hx;have hd:e.args.drop i=x::e.args.drop (i+1):=by
     rw[List.drop_eq_getElem_cons hi,(List.getElem?_eq_some_iff.1 hx).2]
    rw[hd,Fe] at Zk;obtain⟨x1,x2,x3⟩:=ha x (List.mem_of_getElem? hx);have Sj:=Oo i x hx;rw[show (decide (x.st<e.st) || (decide (x.st=e.st) && decide (i=1)))=pA e x i from rfl] at Sj;have wi:=cf ((i:Int)+1) yA yA;have wh:=cf ((ht x:Int)+1) yA yA;apply aL;simp[hC,hi];refine fh ?_;simp;apply eG;apply ai;simp[hC,hi,N7];refine dc Wc (x3) ?_;simp[hC];refine T.cut (fun s=>s=⟨[(5,I ((ht x+if pA e x i=true then 1 else 0:Nat))),(4,I i),(3,I h),(1,.aq 0 0)],[(0,⟨131,0,[I e.lI,I e.n,.str e.name,.az (e.args.flatMap bM) e.args.length]⟩)],1⟩) ?_ ?_
    ·apply ai;simp[hC];refine dc Od (Sj) ?_;simp;refine T.bg rfl (fun h=>?_) (fun h=>?_)
     ·have h1:pA e x i=true:=by simpa using h
      apply aY;simp[hC,wh];refine aa.le (Le.env [5,4,3,1]) (aa.here ?_);simp[h1]
     ·have h1:pA e x i=false:=by simpa using h
      apply T.skip;simp;refine aa.le (Le.env [5,4,3,1]) (aa.here ?_);simp[h1]
    rintro s rfl;obtain⟨g,hg⟩:∃ g,(ht x+if pA e x i=true then 1 else 0)=g:=⟨_,rfl⟩;rw[hg] at Zk ⊢;have hg2:g≤101:=by rw[← hg];split<;>omega
    have Qw:(if h<g then (g:Int) else h)=((max h g:Nat):Int):=by
     split<;>omega
    apply aY;simp[hC,Qw];apply aY;simp[hC,wi];refine⟨e.args.length-(i+1),by omega,?_⟩;refine aa.le (Le.env [4,3,1]) (aa.here ⟨i+1,max h g,rfl,by omega,by omega,Zk,?_⟩);simp
   ·have Oe:i=e.args.length:=by omega
    rw[Oe,List.drop_length,Fe] at Zk;apply aL;simp[hC,hi];refine aX ?_;simp;apply T.exit;simp;refine aa.le (Le.env [3,1]) (aa.here ?_);simp[Zk]
 ·rintro s rfl;have wH:=cf ((H:Int)+1) yA yA;refine T.cut (fun s=>s=⟨[(3,I ((H+if mY e.lI=5 then 1 else 0:Nat)))],[],1⟩) ?_ ?_
  ·apply ai;simp[hC];refine dc Od (Ol) ?_;simp[hC];refine T.bg rfl (fun h=>?_) (fun h=>?_)
   ·have h1:mY e.lI=5:=by simp at h;omega
    apply aY;simp[hC,wH];refine aa.trim [3] [] 1 N3 yA ?_;simp[h1]
   ·have h1:¬ mY e.lI=5:=by simp at h;omega
    apply T.skip;simp;refine aa.trim [3] [] 1 N3 yA ?_;simp[h1]
  ·rintro s rfl;apply ai;simp[hC];apply T.ret;apply aa.here;simp[Tryz.results124]
def DG:Ex→Nat
 | .un k x=>Fe (.un k x) (fun _=>DG x) 0 [x] 0+1
 | .bin k a b=>max (max 0 (DG a+if pA (.bin k a b) a 0=true then 1 else 0)) (DG b+if pA (.bin k a b) b 1=true then 1 else 0)
 | _=>0
theorem oy {ns:List ByteArray}:∀ (d:Nat) (e:Ex),d≤5→fK ns d e→DG e≤2*d∧ae Tryz.prog 124 [.agg (bM e)] (I (DG e))
 | d,.num n,_,hw=>⟨by simp[DG],by
  have h:=ky DG (.num n) (fZ hw) RJ RJ;exact h⟩
 | d,.nm n,_,hw=>⟨by simp[DG],by
  have h:=ky DG (.nm n) (fZ hw) RJ RJ;exact h⟩
 | d+1,.un k x,hd,hw=>by
  have OU:=hw;simp only[fK] at OU;obtain⟨i1,i2⟩:=oy d x yA OU.2;have h:=ky DG (.un k x) (fZ hw) RJ (by
   intro y hy;simp only[Ex.args,List.mem_singleton] at hy;subst hy;exact⟨fZ OU.2,by omega,i2⟩)
  have h5:mY (Ex.un k x).lI=5:=by
   simp only[Ex.lI];have:=OU.1;have:∀ k,k<2→mY (3+k)=5:=by decide
   exact this k OU.1
  rw[if_pos h5] at h;refine⟨?_,h⟩;simp only[DG,Fe];split<;>omega
 | d+1,.bin k a b,hd,hw=>by
  have OU:=hw;simp only[fK] at OU;obtain⟨i1,i2⟩:=oy d a yA OU.2.1;obtain⟨j1,j2⟩:=oy d b yA OU.2.2;have h:=ky DG (.bin k a b) (fZ hw) RJ (by
   intro y hy;simp only[Ex.args,List.mem_cons,List.not_mem_nil,or_false] at hy;rcases hy with rfl | rfl
   ·exact⟨fZ OU.2.1,by omega,i2⟩
   ·exact⟨fZ OU.2.2,by omega,j2⟩)
  have h5:¬ mY (Ex.bin k a b).lI=5:=by
   simp only[Ex.lI];have:=OU.1;have:∀ k,k<13→¬ mY (5+k)=5:=by decide
   exact this k OU.1
  rw[if_neg h5] at h;refine⟨?_,h⟩;simp only[DG];split<;>split<;>omega
 | 0,.un _ _,_,h=>h.elim
 | 0,.bin _ _ _,_,h=>h.elim
 | 0,.zero,_,h=>h.elim
 | 0,.loc _,_,h=>h.elim
 | 0,.jX _,_,h=>h.elim
 | _+1,.zero,_,h=>h.elim
 | _+1,.loc _,_,h=>h.elim
 | _+1,.jX _,_,h=>h.elim
def mC (s:ByteArray):Prop:=dh s∧bs s∉rI
theorem EC (n:Nat)(hn:n<4611686018427387904):ae Tryz.prog 123 [.agg (bM (.num n))] (.bool true):=by
 have Ol:ae Tryz.prog 132 [I (1:Nat)] (I 6):=fx 1 yA;refine ae.aH af Tryz.func123 rfl N4 (by simp[Tryz.ntmps123]) rfl fun C hC N8=>?_;rw[Tryz.ntmps123] at hC;apply ai;simp[hC];apply ai;simp[hC];refine T.cut (fun s=>s=⟨[(3,.int .i64 0),(1,.aq 0 0)],[(0,⟨131,0,bM (.num n)⟩)],1⟩) ?_ ?_
 ·apply ai;simp[hC,bM,eS];refine dc Od (Ol) ?_;simp;apply T.block;apply ai;simp[hC];refine cB ?_;simp;apply ai;simp[hC];apply T.seq;have Rl:(0:Int)≤n:=by omega
  refine T.rx af follows [0,1,2,3,4,5,6,7,8,9,10,11,12,13,14,15,16,17,18,19,20,21,22,23,24,25,26,27] [(10,24)] N4 ?_;simp[hC,Rl,iv];apply ai;simp[hC];refine aX ?_;simp;apply T.skip;simp;refine aa.trim [3,1] [0] 1 N3 yA ?_;simp
 ·rintro s rfl;apply aL;simp[hC,bM,eS];refine aX ?_;simp;apply T.skip;simp;apply aL;simp[hC];apply T.block;refine T.aI (fun m s=>s=⟨[(6,.int .i64 0),(3,.int .i64 0),(1,.aq 0 0)],[(0,⟨131,0,bM (.num n)⟩)],1⟩) (n:=0) ?_ ?_
  ·refine aa.trim [6,3,1] [0] 1 N3 yA ?_;simp[bM,eS]
  ·rintro m s rfl;apply aL;simp[hC];refine aX ?_;simp;apply T.exit;simp;apply ai;simp[hC];apply T.ret;apply aa.here;simp[Tryz.results123]
theorem Gx (x:ByteArray)(hx:mC x):ae Tryz.prog 123 [.agg (bM (.nm x))] (.bool true):=by
 have Ol:ae Tryz.prog 132 [I (2:Nat)] (I 6):=fx 2 yA;have Pp:=js x hx.1 hx.2;refine ae.aH af Tryz.func123 rfl N4 (by simp[Tryz.ntmps123]) rfl fun C hC N8=>?_;rw[Tryz.ntmps123] at hC;apply ai;simp[hC];apply ai;simp[hC];refine T.cut (fun s=>s=⟨[(3,.int .i64 0),(1,.aq 0 0)],[(0,⟨131,0,bM (.nm x)⟩)],1⟩) ?_ ?_
 ·apply ai;simp[hC,bM];refine dc Od (Ol) ?_;simp;apply T.block;apply ai;simp[hC];refine cB ?_;simp;apply ai;simp[hC];apply T.seq;refine T.rx af follows [0,1,2,3,4,5,6,7,8,9,10,11,12,13,14,15,16,17,18,19,20,21,22,23,24,25,26,27] [(10,24)] N4 ?_;simp[hC];refine RX.call rfl N3 rfl rfl rfl Od (Pp) ?_;simp;apply ai;simp[hC];refine aX ?_;simp;apply T.skip;simp;refine aa.trim [3,1] [0] 1 N3 yA ?_;simp
 ·rintro s rfl;apply aL;simp[hC,bM];refine aX ?_;simp;apply T.skip;simp;apply aL;simp[hC];apply T.block;refine T.aI (fun m s=>s=⟨[(6,.int .i64 0),(3,.int .i64 0),(1,.aq 0 0)],[(0,⟨131,0,bM (.nm x)⟩)],1⟩) (n:=0) ?_ ?_
  ·refine aa.trim [6,3,1] [0] 1 N3 yA ?_;simp[bM]
  ·rintro m s rfl;apply aL;simp[hC];refine aX ?_;simp;apply T.exit;simp;apply ai;simp[hC];apply T.ret;apply aa.here;simp[Tryz.results123]
theorem uz (e:Ex)(st:Nat)(he:e.lI≤17)(OH:mY e.lI=st)(h6:st≤5)(hn:e.n=0)(Pp:e.name=eS)(hlen:e.args.length=if st=5 then 1 else 2)(ha:∀ x∈e.args,ae Tryz.prog 123 [.agg (bM x)] (.bool true)):ae Tryz.prog 123 [.agg (bM e)] (.bool true):=by
 have Ol:=fx _ he;rw[OH] at Ol;have PC:=fun (i:Nat) (x:Ex) (h:e.args[i]? = some x)=>aD (f:=bM) (n:=4) bK (m:=e.args) h;rw[bW,Ju,hn,Pp];obtain⟨al,Tg⟩:∃ al,e.args.length=al:=⟨_,rfl⟩;rw[Tg] at hlen;have h6':¬ (st:Int)=6:=by omega
 refine ae.aH af Tryz.func123 rfl N4 (by simp[Tryz.ntmps123]) rfl fun C hC N8=>?_;rw[Tryz.ntmps123] at hC;apply ai;simp[hC];apply ai;simp[hC];refine T.cut (fun s=>s=⟨[(3,I al),(1,.aq 0 0)],[(0,⟨131,0,[I e.lI,I 0,.str eS,.az (e.args.flatMap bM) al]⟩)],1⟩) ?_ ?_
 ·apply ai;simp[hC,Tg];refine dc Od (Ol) ?_;simp;apply T.block;apply ai;simp[hC];refine T.bg rfl (fun h=>?_) (fun h=>?_)
  ·simp at h;omega
  apply ai;simp[hC];refine T.bg rfl (fun h=>?_) (fun h=>?_)
  ·have h5:st=5:=by simp at h;omega
   rw[if_pos h5] at hlen;apply aY;simp[hC];refine aa.trim [3,1] [0] 1 N3 yA ?_;simp[hlen]
  ·have h5:¬ st=5:=by simp at h;omega
   rw[if_neg h5] at hlen;apply T.skip;simp;refine aa.trim [3,1] [0] 1 N3 yA ?_;simp[hlen]
 ·rintro s rfl;have RN:0<al:=by rw[hlen];split<;>omega
  have hal2:al≤2:=by rw[hlen];split<;>omega
  apply aL;simp[hC,RN,eS,jE];refine aX ?_;simp;apply T.skip;simp;apply aL;simp[hC];apply T.block;refine T.aI (fun m s=>∃ i:Nat,m=al-i∧i≤al∧s=⟨[(6,I i),(3,I al),(1,.aq 0 0)],[(0,⟨131,0,[I e.lI,I 0,.str ⟨#[]⟩,.az (e.args.flatMap bM) al]⟩)],1⟩) (n:=al) ?_ ?_
  ·refine aa.trim [6,3,1] [0] 1 N3 yA ⟨0,by omega,by omega,?_⟩;simp
  ·rintro m s ⟨i,rfl,hi,rfl⟩;by_cases N6:i<al
   ·obtain⟨x,hx⟩:∃ x,e.args[i]? = some x:=⟨e.args[i],List.getElem?_eq_getElem yA⟩;have N7:=PC i x hx;have hcx:=ha x (List.mem_of_getElem? hx);have wi:=cf ((i:Int)+1) yA yA;apply aL;simp[hC,N6];refine fh ?_;simp;apply eG;apply ai;simp[hC,N6,N7];refine dc Wc (hcx) ?_;simp[hC];refine aX ?_;simp;apply T.skip;simp;apply aY;simp[hC,wi];refine⟨al-(i+1),by omega,?_⟩;refine aa.trim [6,3,1] [0] 1 N3 yA ⟨i+1,rfl,by omega,?_⟩;simp
   ·apply aL;simp[hC,N6];refine aX ?_;simp;apply T.exit;simp;apply ai;simp[hC];apply T.ret;apply aa.here;simp[Tryz.results123]
theorem qh {ns:List ByteArray}(Q1:∀ s∈ns,mC s):∀ (d:Nat) (e:Ex),fK ns d e→ae Tryz.prog 123 [.agg (bM e)] (.bool true)
 | _,.num n,hw=>EC n (by simpa [fK] using hw)
 | _,.nm s,hw=>Gx s (Q1 s (by simpa [fK] using hw))
 | d+1,.un k x,hw=>by
  have OU:=hw;simp only[fK] at OU;have h5:mY (Ex.un k x).lI=5:=(by decide:∀ k,k<2→mY (3+k)=5) k OU.1;refine uz (.un k x) 5 (fZ hw) h5 yA rfl rfl rfl ?_;intro y hy;simp only[Ex.args,List.mem_singleton] at hy;subst hy;exact qh Q1 d _ OU.2
 | d+1,.bin k a b,hw=>by
  have OU:=hw;simp only[fK] at OU;have h5:mY (Ex.bin k a b).lI≤4:=(by decide:∀ k,k<13→mY (5+k)≤4) k OU.1;refine uz (.bin k a b) _ (fZ hw) rfl yA rfl rfl ?_ ?_
  ·rw[if_neg yA];rfl
  ·intro y hy;simp only[Ex.args,List.mem_cons,List.not_mem_nil,or_false] at hy;rcases hy with rfl | rfl
   ·exact qh Q1 d _ OU.2.1
   ·exact qh Q1 d _ OU.2.2
 | 0,.un _ _,h=>h.elim
 | 0,.bin _ _ _,h=>h.elim
 | 0,.zero,h=>h.elim
 | 0,.loc _,h=>h.elim
 | 0,.jX _,h=>h.elim
 | _+1,.zero,h=>h.elim
 | _+1,.loc _,h=>h.elim
 | _+1,.jX _,h=>h.elim
theorem fM {ns:List ByteArray}(Q1:∀ s∈ns,mC s)(d:Nat)(e:Ex)(hd:d≤5)(hw:fK ns d e):ae Tryz.prog 104 [.agg (bM e)] (.bool true):=by
 obtain⟨h1,h2⟩:=oy d e hd hw;have h3:=qh Q1 d e hw;have h4:(DG e:Int)≤24:=by omega
 refine ae.aH af Tryz.func104 rfl N4 (by simp[Tryz.ntmps104]) rfl fun C hC N8=>?_;rw[Tryz.ntmps104] at hC;apply ai;simp[hC];apply ai;simp[hC];refine dc Wc (h3) ?_;simp[hC];refine TL.bY Oc rfl rfl rfl rfl (bH.of rfl Wc (h2)) (TL.go' af ?_);simp[hC,h4];apply T.ret;apply aa.here;simp[Tryz.results104]
theorem oV (n:Int)(h:0≤n∧n<18446744073709551616):IntKind.u64.wrap n=n:=by
 exact IntWalk.u64_in n ⟨h.1,by omega⟩
def AQ (m:Nat)(s:ByteArray):ByteArray:=if m=0 then s else j4 m++s
theorem CA (n:Nat):j4 n=AQ (n / 10) (dY (48+n % 10)):=by
 unfold AQ;rw[j4];split
 ·rename_i h;rw[if_pos yA,Nat.mod_eq_of_lt h]
 ·rw[if_neg yA]
theorem Fj (m:Nat)(s:ByteArray)(h:0<m):AQ m s=AQ (m / 10) (dY (48+m % 10)++s):=by
 unfold AQ;rw[if_neg yA,j4];split
 ·rename_i h1;rw[if_pos yA,Nat.mod_eq_of_lt h1]
 ·rw[if_neg yA,ByteArray.append_assoc]
def J153 (T:ByteArray)(m:Nat)(s:St):Prop:=∃ x:ByteArray,x.size+m≤9223372036854775807∧AQ m x=T∧s=⟨[(3,.str x),(0,.int .u64 m)],[],0⟩
theorem xE (n:Nat)(hn:n<9223372036854775808):ae Tryz.prog 125 [.int .u64 n] (.str (j4 n)):=by
 rw[CA];obtain⟨X,hT⟩:∃ X,AQ (n / 10) (dY (48+n % 10))=X:=⟨_,rfl⟩;rw[hT];have m1:(n:Int).tmod 10=((n % 10:Nat):Int):=by rw[Int.tmod_eq_emod_of_nonneg yA];omega
 have d1:(n:Int).tdiv 10=((n / 10:Nat):Int):=by rw[Int.tdiv_eq_ediv_of_nonneg yA];omega
 refine ae.aH af Tryz.func125 rfl N4 (by simp[Tryz.ntmps125]) rfl fun C hC N8=>?_;rw[Tryz.ntmps125] at hC;apply ai;simp[hC];obtain⟨q,hq⟩:∃ q,n % 10=q:=⟨_,rfl⟩;have hq9:q<10:=by omega
 have m2:(n:Int) % 10=(q:Int):=by omega
 have w1:=oV (48+(q:Int)) yA;have w1b:=oV (q:Int) yA;have w2:IntKind.u8.wrap (48+(q:Int))=48+(q:Int):=IntWalk.u8_in _ yA;have w3:(0:Int)≤48+(q:Int)∧48+(q:Int)<256:=by omega
 have w4:(48+(q:Int)).toNat=48+q:=by omega
 refine T.seq (T.Bz af ?_);simp[hC,m1,hq,w1,w2,w3,w4];refine T.le (Le.trim [3,0] [] 0 N3 yA) ?_;simp;have Rp:(⟨#[48+UInt8.ofNat q]⟩:ByteArray)=dY (48+q):=by simp[dY]
 rw[Rp];have wd:=oV ((n / 10:Nat):Int) yA;have d2:(n:Int) / 10=((n / 10:Nat):Int):=by omega
 obtain⟨m0,Rx⟩:∃ m0,n / 10=m0:=⟨_,rfl⟩;rw[Rx] at d1 d2 wd hT;rw[hq] at hT;apply aL;simp[hC,d1,wd];apply T.block;refine T.aI (J153 X) (n:=m0) ?_ ?_
 ·refine aa.trim [3,0] [] 0 N3 yA ⟨dY (48+q),?_,hT,?_⟩
  ·have:(dY (48+q)).size=1:=rfl;omega
  ·simp
 ·rintro m s ⟨x,hx,hX,rfl⟩;by_cases hm:0<m
  ·have WH:(0:Int)<m:=by omega
   rw[Fj m x hm] at hX;obtain⟨r,hr⟩:∃ r,m % 10=r:=⟨_,rfl⟩;have hr9:r<10:=by omega
   have m1:(m:Int).tmod 10=(r:Int):=by rw[Int.tmod_eq_emod_of_nonneg yA];omega
   have m2:(m:Int) % 10=(r:Int):=by omega
   have v1:=oV (48+(r:Int)) yA;have v1b:=oV (r:Int) yA;have v2:IntKind.u8.wrap (48+(r:Int))=48+(r:Int):=IntWalk.u8_in _ yA;have v3:(0:Int)≤48+(r:Int)∧48+(r:Int)<256:=by omega
   have v4:(48+(r:Int)).toNat=48+r:=by omega
   have e1:(m:Int).tdiv 10=((m / 10:Nat):Int):=by rw[Int.tdiv_eq_ediv_of_nonneg yA];omega
   have e2:(m:Int) / 10=((m / 10:Nat):Int):=by omega
   have ve:=oV ((m / 10:Nat):Int) yA;rw[hr] at hX;have hch2:(⟨#[48+UInt8.ofNat r]⟩:ByteArray)=dY (48+r):=by simp[dY]
   have Oh:(dY (48+r)).size=1:=rfl;have so:=ax (dY (48+r)) x yA;obtain⟨m',WH⟩:∃ m',m / 10=m':=⟨_,rfl⟩;rw[WH] at e1 e2 ve hX;apply aL;simp[hC,hm];refine fh ?_;simp;apply eG;refine T.Bz af ?_;simp[hC,m1,v1,v2,v3,v4,hch2,so];apply aY;simp[hC,e1,ve];refine⟨m',by omega,?_⟩;refine aa.trim [3,0] [] 0 N3 yA ⟨dY (48+r)++x,?_,hX,?_⟩
   ·rw[ByteArray.size_append];omega
   ·simp
  ·have Rx:m=0:=by omega
   subst Rx;have hxT:x=X:=by simpa [AQ] using hX
   apply aL;simp[hC];refine aX ?_;simp;apply T.exit;simp;apply ai;simp[hC];apply T.ret;apply aa.here;simp[Tryz.results125,hxT]
theorem px (n:Int)(h1 : -1000≤n)(h2:n<9223372036854775808):ae Tryz.prog 108 [I n] (.str (kV n)):=by
 refine ae.aH af Tryz.func108 rfl N4 (by simp[Tryz.ntmps108]) rfl fun C hC N8=>?_;rw[Tryz.ntmps108] at hC;apply ai;simp[hC];apply aL;simp[hC];refine T.bg rfl (fun h=>?_) (fun h=>?_)
 ·have hn:n<0:=by simpa using h
  obtain⟨m,hm⟩:∃ m:Nat,n=-(m:Int):=⟨(-n).toNat,by omega⟩;subst hm;have TO:=xE m yA;have w1:=cf (-(m:Int)+1) yA yA;have w2:=cf (-(-(m:Int)+1)) yA yA;have w3:=oV (-(-(m:Int)+1)) yA;have w4:=oV (-(-(m:Int)+1)+1) yA;have e5 : -(-(m:Int)+1)+1=(m:Int):=by omega
  have w5:=oV (m:Int) yA;have Oh:(j4 m).size≤19:=by
   have:=(yU m).2.2.2 18 yA;rw[lp] at this;exact this
  have so:=ax ⟨#[45]⟩ (j4 m) (by have:(⟨#[45]⟩:ByteArray).size=1:=rfl;omega);refine T.seq (T.Bz af ?_);simp[hC,w1,w2,w3,e5,w5];refine dc Od (TO) ?_;simp[hC,so];apply T.ret;apply aa.here;have Y4:kV (-(m:Int))=⟨#[45]⟩++j4 m:=by
   unfold kV;rw[if_pos hn];simp
  rw[Y4];simp[Tryz.results108]
 ·have hn:¬ n<0:=by simpa using h
  obtain⟨m,hm⟩:∃ m:Nat,n=(m:Int):=⟨n.toNat,by omega⟩;subst hm;have TO:=xE m yA;have w5:=oV (m:Int) yA;apply T.skip;simp;refine T.seq (T.Bz af ?_);simp[hC,w5];refine dc Od (TO) ?_;simp[hC];apply T.ret;apply aa.here;have Y4:kV (m:Int)=j4 m:=by
   unfold kV;rw[if_neg hn];simp
  rw[Y4];simp[Tryz.results108]
def uu (e x:Ex)(i:Nat):ByteArray:=sY (pA e x i) (iK x)
theorem EV (b:Bool)(x:ByteArray):(sY b x).size≤x.size+2:=by
 unfold sY;split
 ·rw[ByteArray.size_append,ByteArray.size_append];have h1:(⟨#[40]⟩:ByteArray).size=1:=rfl;have h2:(⟨#[41]⟩:ByteArray).size=1:=rfl;omega
 ·omega
def J154 (e:Ex)(tl:List ByteArray)(n:Nat)(s:St):Prop:=∃ i:Nat,n=e.args.length-i∧i≤e.args.length∧s=⟨[(4,I i),(3,.bp 1 0 i),(1,.aq 0 0)],[(0,⟨131,0,[I e.lI,I e.n,.str e.name,.az (e.args.flatMap bM) e.args.length]⟩),(1,bf (tl.take i))],2⟩
theorem Ml:∀ k,k<13→mY (5+k)≤4∧∃ i,i<(uS (mY (5+k))).2.length∧(uS (mY (5+k))).1.length=(uS (mY (5+k))).2.length∧(uS (mY (5+k))).2[i]? = some ((5+k:Nat):Int)∧(uS (mY (5+k))).1[i]? = some (CN.getD k ⟨#[]⟩)∧(uS (mY (5+k))).2.length≤6∧∀ j,j<i→∀ o,(uS (mY (5+k))).2[j]? = some o→o≠((5+k:Nat):Int)
 | 0,_=>⟨by decide,0,by decide,rfl,rfl,rfl,by decide,by decide⟩
 | 1,_=>⟨by decide,1,by decide,rfl,rfl,rfl,by decide,by decide⟩
 | 2,_=>⟨by decide,2,by decide,rfl,rfl,rfl,by decide,by decide⟩
 | 3,_=>⟨by decide,0,by decide,rfl,rfl,rfl,by decide,by decide⟩
 | 4,_=>⟨by decide,1,by decide,rfl,rfl,rfl,by decide,by decide⟩
 | 5,_=>⟨by decide,2,by decide,rfl,rfl,rfl,by decide,by decide⟩
 | 6,_=>⟨by decide,3,by decide,rfl,rfl,rfl,by decide,by decide⟩
 | 7,_=>⟨by decide,4,by decide,rfl,rfl,rfl,by decide,by decide⟩
 | 8,_=>⟨by decide,5,by decide,rfl,rfl,rfl,by decide,by decide⟩
 | 9,_=>⟨by decide,0,by decide,rfl,rfl,rfl,by decide,by decide⟩
 | 10,_=>⟨by decide,1,by decide,rfl,rfl,rfl,by decide,by decide⟩
 | 11,_=>⟨by decide,0,by decide,rfl,rfl,rfl,by decide,by decide⟩
 | 12,_=>⟨by decide,0,by decide,rfl,rfl,rfl,by decide,by decide⟩
 | _+13,h=>absurd h yA
theorem nU (e:Ex)(tl:List ByteArray)(Qv:tl.length=e.args.length)(he:e.lI≤17)(Tg:e.args.length≤2)(R:ByteArray)
  (ha:∀ i x,e.args[i]? = some x→x.lI≤17∧ae Tryz.prog 126 [.agg (bM x)] (.str (iK x))∧(iK x).size≤100000∧tl[i]? = some (uu e x i))
  (hR:(∃ n:Nat,e=.num n∧n<4611686018427387904∧R=j4 n)∨(∃ x,e=.nm x∧R=x)∨(∃ k x,e=.un k x∧k<2∧R=(if k=0 then ⟨#[45]⟩ else ⟨#[33]⟩)++tl.getD 0 eS)∨(∃ k a b,e=.bin k a b∧k<13∧R=tl.getD 0 eS++⟨#[32]⟩++CN.getD k ⟨#[]⟩++⟨#[32]⟩++tl.getD 1 eS)):ae Tryz.prog 126 [.agg (bM e)] (.str R):=by
 have PC:=fun (i:Nat) (x:Ex) (h:e.args[i]? = some x)=>aD (f:=bM) (n:=4) bK (m:=e.args) h;have Oo:=fun (i:Nat) (x:Ex) (h:e.args[i]? = some x)=>Ay e i x h (ha i x h).1 he;have PJ:∀ x∈tl,x.size≤100002:=by
  intro x hx;obtain⟨i,hi⟩:=List.getElem?_of_mem hx;have N6:i<e.args.length:=by rw[← Qv];exact (List.getElem?_eq_some_iff.1 hi).1
  obtain⟨y,hy⟩:∃ y,e.args[i]? = some y:=⟨e.args[i],List.getElem?_eq_getElem N6⟩;obtain⟨_,_,h3,h4⟩:=ha i y hy;rw[hi] at h4;cases h4;have:=EV (pA e y i) (iK y);unfold uu;omega
 rw[bW,Ju] at Oo ⊢;refine ae.aH af Tryz.func126 rfl N4 (by simp[Tryz.ntmps126]) rfl fun C hC N8=>?_;rw[Tryz.ntmps126] at hC;apply ai;simp[hC];apply ai;simp[hC];refine T.cut (fun s=>s=⟨[(3,.bp 1 0 e.args.length),(1,.aq 0 0)],[(0,⟨131,0,[I e.lI,I e.n,.str e.name,.az (e.args.flatMap bM) e.args.length]⟩),(1,bf tl)],2⟩) ?_ ?_
 ·apply ai;simp[hC];apply T.block;refine T.aI (J154 e tl) (n:=e.args.length) ?_ ?_
  ·refine aa.le (Le.own 3 9 1 rfl) ?_;simp;refine aa.trim [4,3,1] [0,1] 2 N3 yA ⟨0,by omega,by omega,?_⟩;simp[bf]
  ·rintro n s ⟨i,rfl,N6,rfl⟩;by_cases hi:i<e.args.length
   ·obtain⟨x,hx⟩:∃ x,e.args[i]? = some x:=⟨e.args[i],List.getElem?_eq_getElem hi⟩;have N7:=PC i x hx;obtain⟨x1,x2,x3,x4⟩:=ha i x hx;have Sj:=Oo i x hx;rw[show (decide (x.st<e.st) || (decide (x.st=e.st) && decide (i=1)))=pA e x i from rfl] at Sj;have wi:=cf ((i:Int)+1) yA yA;apply aL;simp[hC,hi];refine fh ?_;simp;apply eG;apply ai;simp[hC,hi,N7];refine dc Wc (x2) ?_;simp[hC];refine T.cut (fun s=>s=⟨[(5,.str (uu e x i)),(4,I i),(3,.bp 1 0 i),(1,.aq 0 0)],[(0,⟨131,0,[I e.lI,I e.n,.str e.name,.az (e.args.flatMap bM) e.args.length]⟩),(1,bf (tl.take i))],2⟩) ?_ ?_
    ·apply ai;simp[hC];refine dc Od (Sj) ?_;simp;refine T.bg rfl (fun h=>?_) (fun h=>?_)
     ·have h1:pA e x i=true:=by simpa using h
      have s1:=ax ⟨#[40]⟩ (iK x) (by have:(⟨#[40]⟩:ByteArray).size=1:=rfl;omega);have s2:=ax (⟨#[40]⟩++iK x) ⟨#[41]⟩ (by rw[ByteArray.size_append];have:(⟨#[40]⟩:ByteArray).size=1:=rfl;have:(⟨#[41]⟩:ByteArray).size=1:=rfl;omega);apply aY;simp[hC,s1,s2];refine aa.trim [5,4,3,1] [0,1] 2 N3 yA ?_;simp[uu,sY,h1]
     ·have h1:pA e x i=false:=by simpa using h
      apply T.skip;simp;refine aa.trim [5,4,3,1] [0,1] 2 N3 yA ?_;simp[uu,sY,h1]
    rintro s rfl;have Pq:(i+1)*16≤140737488355328:=by omega
    have VJ:(bf (tl.take i)).cells.length=i:=by simp[bf];omega
    have hws:(bf (tl.take i)).sz=1:=rfl;have hwe:(bf (tl.take i)).elem=9:=rfl;apply aY;simp[hC,Pq,VJ,hws,hwe,aS];apply aY;simp[hC,wi];refine⟨e.args.length-(i+1),by omega,?_⟩;refine aa.le (Le.trim [4,3,1] [0,3] 4 QA yA) ?_;simp;refine aa.le (Le.oJ 3 1 rfl rfl yA N3 N3 QA) ?_;simp;refine aa.trim [4,3,1] [0,1] 2 QA yA ⟨i+1,rfl,by omega,?_⟩;have On:tl.take (i+1)=tl.take i++[uu e x i]:=by rw[List.take_add_one,x4];rfl
    rw[On];simp[bf]
   ·have Oe:i=e.args.length:=by omega
    apply aL;simp[hC,hi];refine aX ?_;simp;apply T.exit;simp;refine aa.trim [3,1] [0,1] 2 N3 yA ?_;rw[Oe,← Qv,List.take_length];simp
 ·rintro s rfl;rcases hR with ⟨n,rfl,hn,rfl⟩ | ⟨x,rfl,rfl⟩ | ⟨k,x,rfl,hk,rfl⟩ | ⟨k,a,b,rfl,hk,rfl⟩
  ·have Tc:=px n yA yA;have Y4:kV (n:Int)=j4 n:=by
    unfold kV;rw[if_neg yA];simp
   rw[Y4] at Tc;apply eG;apply ai;simp[hC,Ex.lI,Ex.n,Ex.name,Ex.args];refine cB ?_;simp;apply ai;simp[hC];refine dc Od (Tc) ?_;simp[hC];apply T.ret;apply aa.here;simp[Tryz.results126]
  ·apply eG;apply ai;simp[hC,Ex.lI,Ex.n,Ex.name,Ex.args];refine aX ?_;simp;apply ai;simp[hC];refine cB ?_;simp;apply ai;simp[hC];apply T.ret;apply aa.here;simp[Tryz.results126]
  ·have h1:tl.length=1:=Qv;have N7:=iT (ns:=tl) (i:=0) yA;rw[List.drop_zero] at N7;have Pp:(bf tl).cells=.str (tl.getD 0 eS)::(tl.map CV.str).drop 1:=N7;have Q1:(bf tl).sz=1:=rfl;have Oh:=PJ (tl.getD 0 eS) (iX yA eS);generalize tl.getD 0 eS=t0 at Pp Oh;have s45:(⟨#[45]⟩:ByteArray).size=1:=rfl;have s33:(⟨#[33]⟩:ByteArray).size=1:=rfl;apply eG
   match k,hk with
   | 0,_=>
    have so:=ax ⟨#[45]⟩ t0 yA;apply ai;simp[hC,Ex.lI,Ex.n,Ex.name,Ex.args];refine aX ?_;simp;apply ai;simp[hC];refine aX ?_;simp;apply ai;simp[hC];refine cB ?_;simp;apply ai;simp[hC,Pp,so];apply T.ret;apply aa.here;simp[Tryz.results126]
   | 1,_=>
    have so:=ax ⟨#[33]⟩ t0 yA;apply ai;simp[hC,Ex.lI,Ex.n,Ex.name,Ex.args];refine aX ?_;simp;apply ai;simp[hC];refine aX ?_;simp;apply ai;simp[hC];refine aX ?_;simp;apply ai;simp[hC];refine cB ?_;simp;apply ai;simp[hC,Pp,so];apply T.ret;apply aa.here;simp[Tryz.results126]
  ·have h1:tl.length=2:=Qv;have N7:=iT (ns:=tl) (i:=0) yA;have Pj:=iT (ns:=tl) (i:=1) yA;rw[List.drop_zero,Pj] at N7;have Pp:(bf tl).cells=[.str (tl.getD 0 eS),.str (tl.getD 1 eS)]:=by
    have e3:(tl.map CV.str).drop (1+1)=[]:=List.drop_eq_nil_of_le PX;rw[e3] at N7;exact N7
   have Q1:(bf tl).sz=1:=rfl;have hsz0:=PJ (tl.getD 0 eS) (iX yA eS);have Ub:=PJ (tl.getD 1 eS) (iX yA eS);generalize tl.getD 0 eS=t0 at Pp hsz0;generalize tl.getD 1 eS=t1 at Pp Ub;obtain⟨YA,ix,Sj,RK,S7,VN,h6,Up⟩:=Ml k hk;have hbz:(CN.getD k ⟨#[]⟩).size≤2:=(by decide:∀ k,k<13→(CN.getD k ⟨#[]⟩).size≤2) k hk;have OJ:=fx (5+k) yA;have XM:=Gv _ YA;generalize CN.getD k ⟨#[]⟩=bo at VN hbz;generalize mY (5+k)=sk at OJ XM Sj RK S7 VN h6 Up YA;generalize Tm:(uS sk).1=sl at *;generalize hog:(uS sk).2=ol at *;have n1:((5+k:Nat):Int)=5+(k:Int):=by omega
   rw[n1] at OJ S7 Up;have k1:((5:Int)+k == 1)=false:=by simp;omega
   have k2:((5:Int)+k == 2)=false:=by simp;omega
   have k3:((5:Int)+k == 3)=false:=by simp;omega
   have k4:((5:Int)+k == 4)=false:=by simp;omega
   apply eG;apply ai;simp[hC,Ex.lI,Ex.n,Ex.name,Ex.args,k1];refine aX ?_;simp;apply ai;simp[hC,k2];refine aX ?_;simp;apply ai;simp[hC,k3];refine aX ?_;simp;apply ai;simp[hC,k4];refine aX ?_;simp;apply T.skip;simp;refine T.le (Le.trim [3,1] [0,1] 2 N3 yA) ?_;simp;apply ai;simp[hC];refine dc Od (OJ) ?_;simp;refine dc Od (XM) ?_;simp[hC];have q1:(⟨#[32]⟩:ByteArray).size=1:=rfl;have s1:=ax t0 ⟨#[32]⟩ yA;have s2:=ax (t0++⟨#[32]⟩) bo (by rw[ByteArray.size_append];omega);have s3:=ax (t0++⟨#[32]⟩++bo) ⟨#[32]⟩ (by rw[ByteArray.size_append,ByteArray.size_append];omega);have s4:=ax (t0++⟨#[32]⟩++bo++⟨#[32]⟩) t1 (by rw[ByteArray.size_append,ByteArray.size_append,ByteArray.size_append];omega);obtain⟨X,hX⟩:∃ X,t0++⟨#[32]⟩++bo++⟨#[32]⟩++t1=X:=⟨_,rfl⟩;rw[hX] at s4 ⊢;refine T.le (Le.trim [7,6,3,1] [0,1] 2 (by simp[strs,ints]) yA) ?_;simp;apply aL;simp[hC];apply T.block;refine T.aI (fun n s=>∃ i:Nat,n=ix-i∧i≤ix∧s=⟨[(8,I i),(7,ints ol),(6,strs sl),(3,.bp 1 0 2),(1,.aq 0 0)],[(0,⟨131,0,[I (5+k),I 0,.str eS,.az (bM a++bM b) 2]⟩),(1,bf tl)],2⟩) (n:=ix) ?_ ?_
   ·refine aa.trim [8,7,6,3,1] [0,1] 2 (by simp[strs,ints]) yA ⟨0,by omega,by omega,?_⟩;simp
   ·rintro n s ⟨i,rfl,hi,rfl⟩;have N6:i<ol.length:=by omega
    obtain⟨o,ho⟩:∃ o,ol[i]? = some o:=⟨ol[i],List.getElem?_eq_getElem N6⟩;have Zx:(ol.map vL).drop i=I o::(ol.map vL).drop (i+1):=by
     rw[List.drop_eq_getElem_cons (by simpa using N6)];have:=(List.getElem?_eq_some_iff.1 ho).2;simp[vL,this]
    have wi:=cf ((i:Int)+1) yA yA;apply aL;simp[hC,ints,strs,N6];refine fh ?_;simp;apply eG;apply T.seq;refine T.rx af follows [0,1,2,3,4,5,6] [] N4 ?_;simp[hC,N6,Zx];by_cases Oe:i=ix
    ·subst Oe;rw[S7] at ho;have hoe:o=5+(k:Int):=by simpa using ho.symm
     have hsd:(sl.map CV.str).drop i=.str bo::(sl.map CV.str).drop (i+1):=by
      have:=iT (ns:=sl) (i:=i) yA;rw[this];simp[List.getD,VN]
     have hisl:i<sl.length:=by omega
     refine T.bg rfl (fun h=>?_) (fun h=>?_)
     ·apply T.seq;refine T.rx af follows [0,1,2,3,4,5,6,7,8,9,10,11,12,13,14] [] N4 ?_;simp[hC,Pp,hisl,hsd,s1,s2,s3,s4];apply T.ret;apply aa.here;simp[Tryz.results126]
     ·simp[hoe] at h
    ·have Ok:=Up i yA o ho;refine T.bg rfl (fun h=>?_) (fun h=>?_)
     ·simp at h;exact absurd h Ok
     apply T.skip;simp;apply aY;simp[hC,wi];refine⟨ix-(i+1),by omega,?_⟩;refine aa.trim [8,7,6,3,1] [0,1] 2 N3 yA ⟨i+1,rfl,by omega,?_⟩;simp
end Go.Proofs.YtlkmbdfhdknlgaaGreatDoor
