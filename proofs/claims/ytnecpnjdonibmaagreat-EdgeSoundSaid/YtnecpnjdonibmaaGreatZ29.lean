/- inner, Height, shape, ValidExpr. -/
import Derived.Test.YtnecpnjdonibmaaGreatZ24
import Derived.Test.YtnecpnjdonibmaaGreatZ28
namespace Go.Proofs.YtnecpnjdonibmaaGreat
open Go.Can Go.aP
theorem JE (e:Ex):e.op=(e.kQ:Int):=by cases e<;>simp[Ex.op,Ex.kQ]
theorem fE {ns:List ByteArray}:∀ {d:Nat} {e:Ex},fc ns d e→e.kQ≤17
 | _,.num _,_=>by simp[Ex.kQ]
 | _,.nm _,_=>by simp[Ex.kQ]
 | d+1,.un k e,h=>by simp only[fc] at h;simp only[Ex.kQ];omega
 | d+1,.bin k a b,h=>by simp only[fc] at h;simp only[Ex.kQ];omega
 | 0,.un _ _,h=>h.elim
 | 0,.bin _ _ _,h=>h.elim
 | 0,.zero,h=>h.elim
 | 0,.loc _,h=>h.elim
 | 0,.jE _,h=>h.elim
 | _+1,.zero,h=>h.elim
 | _+1,.loc _,h=>h.elim
 | _+1,.jE _,h=>h.elim
theorem zU (e:Ex)(i:Nat)(x:Ex)(h:e.args[i]? = some x)(hx:x.kQ≤17)(he:e.kQ≤17):ae Tryz.prog 329 [.agg (bK e),I i] (.bool (decide (x.st<e.st) || (decide (x.st=e.st) && decide (i=1)))):=by
 have PQ:i<e.args.length:=(List.getElem?_eq_some_iff.1 h).1;have PL:(e.args.flatMap bK).drop (i*4)=bK x++(e.args.drop (i+1)).flatMap bK:=aO (f:=bK) (n:=4) bJ h;have hcx:=eU _ hx;have Ub:=eU _ he;have e1:=bU e;have e2:=bU x;rw[JE] at e1 e2;rw[e2] at PL;rw[e1];clear e1 e2;unfold Ex.st;generalize mf x.kQ=sx at *;generalize mf e.kQ=se at *;refine ae.aM ah Tryz.func329 rfl PH (by simp[Tryz.ntmps329]) rfl fun C hC PN=>?_;rw[Tryz.ntmps329] at hC;apply aj;simp[hC];apply T.seq;refine T.rx ah follows [0,1,2,3,4,5,7,8,6,9,10,11] [(8,6)] PH ?_;simp[hC,PQ,PL];refine RX.call rfl zX rfl rfl rfl P2 (hcx) ?_;simp;refine RX.call rfl zX rfl rfl rfl P2 (Ub) ?_;simp;apply T.seq;by_cases h1:sx<se
 ·apply aW;simp[hC,h1];apply T.ret;apply aa.here;simp[Tryz.results329]
 ·by_cases h2:sx=se
  ·subst h2;apply aW;simp[hC];apply T.ret;apply aa.here;simp[Tryz.results329]
  ·have Te:((sx:Int) == se)=false:=by simp;omega
   apply aW;simp[hC,h1,Te];apply T.ret;apply aa.here;simp[Tryz.results329,h2]
def ov (e x:Ex)(i:Nat):Bool:=decide (x.st<e.st) || (decide (x.st=e.st) && decide (i=1))
def IV (e:Ex)(ht:Ex→Nat):Nat→List Ex→Nat→Nat
 | _,[],h=>h
 | i,x::r,h=>IV e ht (i+1) r (max h (ht x+if ov e x i=true then 1 else 0))
theorem HC (e:Ex)(ht:Ex→Nat)(B:Nat):∀ (l:List Ex) (i h:Nat),(∀ x∈l,ht x+1≤B)→h≤B→IV e ht i l h≤B
 | [],_,_,_,h=>h
 | x::r,i,h,hx,hh=>by
  rw[IV];have:=hx x List.mem_cons_self;refine HC e ht B r _ _ (fun y hy=>hx y (List.mem_cons_of_mem _ hy)) ?_;split<;>omega
def J152 (ht:Ex→Nat)(e:Ex)(H:Nat)(m:Nat)(s:St):Prop:=∃ i h:Nat,m=e.args.length-i∧i≤e.args.length∧h≤101∧IV e ht i (e.args.drop i) h=H∧s=⟨[(4,I i),(3,I h),(1,.av 0 0)],[(0,⟨80,0,[I e.kQ,I e.n,.str e.name,.az (e.args.flatMap bK) e.args.length]⟩)],1⟩
theorem jU (ht:Ex→Nat)(e:Ex)(he:e.kQ≤17)(hlen:e.args.length≤2)(ha:∀ x∈e.args,x.kQ≤17∧ht x≤100∧ae Tryz.prog 307 [.agg (bK x)] (I (ht x))) :
  ae Tryz.prog 307 [.agg (bK e)] (I ((IV e ht 0 e.args 0+if mf e.kQ=5 then 1 else 0:Nat))):=by
 have P0:=eU _ he;have P4:=fun (i:Nat) (x:Ex) (h:e.args[i]? = some x)=>zU e i x h (ha x (List.mem_of_getElem? h)).1 he;have Q7:=fun (i:Nat) (x:Ex) (h:e.args[i]? = some x)=>aO (f:=bK) (n:=4) bJ (m:=e.args) h;have hB:=HC e ht 101 e.args 0 0 (fun x hx=>by have:=(ha x hx).2.1;omega) yA;obtain⟨H,hH⟩:∃ H,IV e ht 0 e.args 0=H:=⟨_,rfl⟩;rw[hH] at hB ⊢;rw[bU,JE] at P4 ⊢;refine ae.aM ah Tryz.func307 rfl PH (by simp[Tryz.ntmps307]) rfl fun C hC PN=>?_;rw[Tryz.ntmps307] at hC;apply aj;simp[hC];apply aj;simp[hC];refine T.cut (fun s=>s=⟨[(3,I H),(1,.av 0 0)],[(0,⟨80,0,[I e.kQ,I e.n,.str e.name,.az (e.args.flatMap bK) e.args.length]⟩)],1⟩) ?_ ?_
 ·apply aj;simp[hC];apply T.block;refine T.aJ (J152 ht e H) (n:=e.args.length) ?_ ?_
  ·refine aa.le (Le.env [4,3,1]) (aa.here ⟨0,0,by omega,by omega,by omega,hH,?_⟩);simp
  ·rintro n s ⟨i,h,rfl,PJ,hh,Z3,rfl⟩;by_cases hi:i<e.args.length
   ·obtain⟨x,hx⟩:∃ x,e.args[i]? = some x:=⟨e.args[i],List.getElem?_eq_getElem hi⟩;have PL:=Q7 i x hx;have hd:e.args.drop i=x::e.args.drop (i+1):=by
     rw[List.drop_eq_getElem_cons hi,(List.getElem?_eq_some_iff.1 hx).2]
    rw[hd,IV] at Z3;obtain⟨x1,x2,x3⟩:=ha x (List.mem_of_getElem? hx);have TM:=P4 i x hx;rw[show (decide (x.st<e.st) || (decide (x.st=e.st) && decide (i=1)))=ov e x i from rfl] at TM;have wi:=cE ((i:Int)+1) yA yA;have wh:=cE ((ht x:Int)+1) yA yA;apply aU;simp[hC,hi];refine gQ ?_;simp;apply dZ;apply aj;simp[hC,hi,PL];refine dQ Xo (x3) ?_;simp[hC];refine T.cut (fun s=>s=⟨[(5,I ((ht x+if ov e x i=true then 1 else 0:Nat))),(4,I i),(3,I h),(1,.av 0 0)],[(0,⟨80,0,[I e.kQ,I e.n,.str e.name,.az (e.args.flatMap bK) e.args.length]⟩)],1⟩) ?_ ?_
    ·apply aj;simp[hC];refine dQ P2 (TM) ?_;simp;refine T.bb rfl (fun h=>?_) (fun h=>?_)
     ·have h1:ov e x i=true:=by simpa using h
      apply aW;simp[hC,wh];refine aa.le (Le.env [5,4,3,1]) (aa.here ?_);simp[h1]
     ·have h1:ov e x i=false:=by simpa using h
      apply T.skip;simp;refine aa.le (Le.env [5,4,3,1]) (aa.here ?_);simp[h1]
    rintro s rfl;obtain⟨g,hg⟩:∃ g,(ht x+if ov e x i=true then 1 else 0)=g:=⟨_,rfl⟩;rw[hg] at Z3 ⊢;have hg2:g≤101:=by rw[← hg];split<;>omega
    have QY:(if h<g then (g:Int) else h)=((max h g:Nat):Int):=by
     split<;>omega
    apply aW;simp[hC,QY];apply aW;simp[hC,wi];refine⟨e.args.length-(i+1),by omega,?_⟩;refine aa.le (Le.env [4,3,1]) (aa.here ⟨i+1,max h g,rfl,by omega,by omega,Z3,?_⟩);simp
   ·have PS:i=e.args.length:=by omega
    rw[PS,List.drop_length,IV] at Z3;apply aU;simp[hC,hi];refine bh ?_;simp;apply T.exit;simp;refine aa.le (Le.env [3,1]) (aa.here ?_);simp[Z3]
 ·rintro s rfl;have wH:=cE ((H:Int)+1) yA yA;refine T.cut (fun s=>s=⟨[(3,I ((H+if mf e.kQ=5 then 1 else 0:Nat)))],[],1⟩) ?_ ?_
  ·apply aj;simp[hC];refine dQ P2 (P0) ?_;simp[hC];refine T.bb rfl (fun h=>?_) (fun h=>?_)
   ·have h1:mf e.kQ=5:=by simp at h;omega
    apply aW;simp[hC,wH];refine aa.trim [3] [] 1 zX yA ?_;simp[h1]
   ·have h1:¬ mf e.kQ=5:=by simp at h;omega
    apply T.skip;simp;refine aa.trim [3] [] 1 zX yA ?_;simp[h1]
  ·rintro s rfl;apply aj;simp[hC];apply T.ret;apply aa.here;simp[Tryz.results307]
def Df:Ex→Nat
 | .un k x=>IV (.un k x) (fun _=>Df x) 0 [x] 0+1
 | .bin k a b=>max (max 0 (Df a+if ov (.bin k a b) a 0=true then 1 else 0)) (Df b+if ov (.bin k a b) b 1=true then 1 else 0)
 | _=>0
theorem ni {ns:List ByteArray}:∀ (d:Nat) (e:Ex),d≤5→fc ns d e→Df e≤2*d∧ae Tryz.prog 307 [.agg (bK e)] (I (Df e))
 | d,.num n,_,hw=>⟨by simp[Df],by
  have h:=jU Df (.num n) (fE hw) S9 S9;exact h⟩
 | d,.nm n,_,hw=>⟨by simp[Df],by
  have h:=jU Df (.nm n) (fE hw) S9 S9;exact h⟩
 | d+1,.un k x,hd,hw=>by
  have Qr:=hw;simp only[fc] at Qr;obtain⟨i1,i2⟩:=ni d x yA Qr.2;have h:=jU Df (.un k x) (fE hw) S9 (by
   intro y hy;simp only[Ex.args,List.mem_singleton] at hy;subst hy;exact⟨fE Qr.2,by omega,i2⟩)
  have h5:mf (Ex.un k x).kQ=5:=by
   simp only[Ex.kQ];have:=Qr.1;have:∀ k,k<2→mf (3+k)=5:=by decide
   exact this k Qr.1
  rw[if_pos h5] at h;refine⟨?_,h⟩;simp only[Df,IV];split<;>omega
 | d+1,.bin k a b,hd,hw=>by
  have Qr:=hw;simp only[fc] at Qr;obtain⟨i1,i2⟩:=ni d a yA Qr.2.1;obtain⟨j1,j2⟩:=ni d b yA Qr.2.2;have h:=jU Df (.bin k a b) (fE hw) S9 (by
   intro y hy;simp only[Ex.args,List.mem_cons,List.not_mem_nil,or_false] at hy;rcases hy with rfl | rfl
   ·exact⟨fE Qr.2.1,by omega,i2⟩
   ·exact⟨fE Qr.2.2,by omega,j2⟩)
  have h5:¬ mf (Ex.bin k a b).kQ=5:=by
   simp only[Ex.kQ];have:=Qr.1;have:∀ k,k<13→¬ mf (5+k)=5:=by decide
   exact this k Qr.1
  rw[if_neg h5] at h;refine⟨?_,h⟩;simp only[Df];split<;>split<;>omega
 | 0,.un _ _,_,h=>h.elim
 | 0,.bin _ _ _,_,h=>h.elim
 | 0,.zero,_,h=>h.elim
 | 0,.loc _,_,h=>h.elim
 | 0,.jE _,_,h=>h.elim
 | _+1,.zero,_,h=>h.elim
 | _+1,.loc _,_,h=>h.elim
 | _+1,.jE _,_,h=>h.elim
def lP (s:ByteArray):Prop:=db s∧bs s∉qe
theorem DZ (n:Nat)(hn:n<4611686018427387904):ae Tryz.prog 306 [.agg (bK (.num n))] (.bool true):=by
 have P0:ae Tryz.prog 328 [I (1:Nat)] (I 6):=eU 1 yA;refine ae.aM ah Tryz.func306 rfl PH (by simp[Tryz.ntmps306]) rfl fun C hC PN=>?_;rw[Tryz.ntmps306] at hC;apply aj;simp[hC];apply aj;simp[hC];refine T.cut (fun s=>s=⟨[(3,.int .i64 0),(1,.av 0 0)],[(0,⟨80,0,bK (.num n)⟩)],1⟩) ?_ ?_
 ·apply aj;simp[hC,bK,eS];refine dQ P2 (P0) ?_;simp;apply T.block;apply aj;simp[hC];refine fx ?_;simp;apply aj;simp[hC];apply T.seq;have Ta:(0:Int)≤n:=by omega
  refine T.rx ah follows [0,1,2,3,4,5,6,7,8,9,10,11,12,13,14,15,16,17,18,19,20,21,22,23,24,25,26,27] [(10,24)] PH ?_;simp[hC,Ta,gY];apply aj;simp[hC];refine bh ?_;simp;apply T.skip;simp;refine aa.trim [3,1] [0] 1 zX yA ?_;simp
 ·rintro s rfl;apply aU;simp[hC,bK,eS];refine bh ?_;simp;apply T.skip;simp;apply aU;simp[hC];apply T.block;refine T.aJ (fun m s=>s=⟨[(6,.int .i64 0),(3,.int .i64 0),(1,.av 0 0)],[(0,⟨80,0,bK (.num n)⟩)],1⟩) (n:=0) ?_ ?_
  ·refine aa.trim [6,3,1] [0] 1 zX yA ?_;simp[bK,eS]
  ·rintro m s rfl;apply aU;simp[hC];refine bh ?_;simp;apply T.exit;simp;apply aj;simp[hC];apply T.ret;apply aa.here;simp[Tryz.results306]
theorem Gr (x:ByteArray)(hx:lP x):ae Tryz.prog 306 [.agg (bK (.nm x))] (.bool true):=by
 have P0:ae Tryz.prog 328 [I (2:Nat)] (I 6):=eU 2 yA;have QH:=jh x hx.1 hx.2;refine ae.aM ah Tryz.func306 rfl PH (by simp[Tryz.ntmps306]) rfl fun C hC PN=>?_;rw[Tryz.ntmps306] at hC;apply aj;simp[hC];apply aj;simp[hC];refine T.cut (fun s=>s=⟨[(3,.int .i64 0),(1,.av 0 0)],[(0,⟨80,0,bK (.nm x)⟩)],1⟩) ?_ ?_
 ·apply aj;simp[hC,bK];refine dQ P2 (P0) ?_;simp;apply T.block;apply aj;simp[hC];refine fx ?_;simp;apply aj;simp[hC];apply T.seq;refine T.rx ah follows [0,1,2,3,4,5,6,7,8,9,10,11,12,13,14,15,16,17,18,19,20,21,22,23,24,25,26,27] [(10,24)] PH ?_;simp[hC];refine RX.call rfl zX rfl rfl rfl P2 (QH) ?_;simp;apply aj;simp[hC];refine bh ?_;simp;apply T.skip;simp;refine aa.trim [3,1] [0] 1 zX yA ?_;simp
 ·rintro s rfl;apply aU;simp[hC,bK];refine bh ?_;simp;apply T.skip;simp;apply aU;simp[hC];apply T.block;refine T.aJ (fun m s=>s=⟨[(6,.int .i64 0),(3,.int .i64 0),(1,.av 0 0)],[(0,⟨80,0,bK (.nm x)⟩)],1⟩) (n:=0) ?_ ?_
  ·refine aa.trim [6,3,1] [0] 1 zX yA ?_;simp[bK]
  ·rintro m s rfl;apply aU;simp[hC];refine bh ?_;simp;apply T.exit;simp;apply aj;simp[hC];apply T.ret;apply aa.here;simp[Tryz.results306]
theorem sX (e:Ex)(st:Nat)(he:e.kQ≤17)(Qa:mf e.kQ=st)(h6:st≤5)(hn:e.n=0)(QH:e.name=eS)(hlen:e.args.length=if st=5 then 1 else 2)(ha:∀ x∈e.args,ae Tryz.prog 306 [.agg (bK x)] (.bool true)):ae Tryz.prog 306 [.agg (bK e)] (.bool true):=by
 have P0:=eU _ he;rw[Qa] at P0;have Q7:=fun (i:Nat) (x:Ex) (h:e.args[i]? = some x)=>aO (f:=bK) (n:=4) bJ (m:=e.args) h;rw[bU,JE,hn,QH];obtain⟨al,RC⟩:∃ al,e.args.length=al:=⟨_,rfl⟩;rw[RC] at hlen;have h6':¬ (st:Int)=6:=by omega
 refine ae.aM ah Tryz.func306 rfl PH (by simp[Tryz.ntmps306]) rfl fun C hC PN=>?_;rw[Tryz.ntmps306] at hC;apply aj;simp[hC];apply aj;simp[hC];refine T.cut (fun s=>s=⟨[(3,I al),(1,.av 0 0)],[(0,⟨80,0,[I e.kQ,I 0,.str eS,.az (e.args.flatMap bK) al]⟩)],1⟩) ?_ ?_
 ·apply aj;simp[hC,RC];refine dQ P2 (P0) ?_;simp;apply T.block;apply aj;simp[hC];refine T.bb rfl (fun h=>?_) (fun h=>?_)
  ·simp at h;omega
  apply aj;simp[hC];refine T.bb rfl (fun h=>?_) (fun h=>?_)
  ·have h5:st=5:=by simp at h;omega
   rw[if_pos h5] at hlen;apply aW;simp[hC];refine aa.trim [3,1] [0] 1 zX yA ?_;simp[hlen]
  ·have h5:¬ st=5:=by simp at h;omega
   rw[if_neg h5] at hlen;apply T.skip;simp;refine aa.trim [3,1] [0] 1 zX yA ?_;simp[hlen]
 ·rintro s rfl;have RA:0<al:=by rw[hlen];split<;>omega
  have hal2:al≤2:=by rw[hlen];split<;>omega
  apply aU;simp[hC,RA,eS,jt];refine bh ?_;simp;apply T.skip;simp;apply aU;simp[hC];apply T.block;refine T.aJ (fun m s=>∃ i:Nat,m=al-i∧i≤al∧s=⟨[(6,I i),(3,I al),(1,.av 0 0)],[(0,⟨80,0,[I e.kQ,I 0,.str ⟨#[]⟩,.az (e.args.flatMap bK) al]⟩)],1⟩) (n:=al) ?_ ?_
  ·refine aa.trim [6,3,1] [0] 1 zX yA ⟨0,by omega,by omega,?_⟩;simp
  ·rintro m s ⟨i,rfl,hi,rfl⟩;by_cases PJ:i<al
   ·obtain⟨x,hx⟩:∃ x,e.args[i]? = some x:=⟨e.args[i],List.getElem?_eq_getElem yA⟩;have PL:=Q7 i x hx;have hcx:=ha x (List.mem_of_getElem? hx);have wi:=cE ((i:Int)+1) yA yA;apply aU;simp[hC,PJ];refine gQ ?_;simp;apply dZ;apply aj;simp[hC,PJ,PL];refine dQ Xo (hcx) ?_;simp[hC];refine bh ?_;simp;apply T.skip;simp;apply aW;simp[hC,wi];refine⟨al-(i+1),by omega,?_⟩;refine aa.trim [6,3,1] [0] 1 zX yA ⟨i+1,rfl,by omega,?_⟩;simp
   ·apply aU;simp[hC,PJ];refine bh ?_;simp;apply T.exit;simp;apply aj;simp[hC];apply T.ret;apply aa.here;simp[Tryz.results306]
theorem oW {ns:List ByteArray}(Sz:∀ s∈ns,lP s):∀ (d:Nat) (e:Ex),fc ns d e→ae Tryz.prog 306 [.agg (bK e)] (.bool true)
 | _,.num n,hw=>DZ n (by simpa [fc] using hw)
 | _,.nm s,hw=>Gr s (Sz s (by simpa [fc] using hw))
 | d+1,.un k x,hw=>by
  have Qr:=hw;simp only[fc] at Qr;have h5:mf (Ex.un k x).kQ=5:=(by decide:∀ k,k<2→mf (3+k)=5) k Qr.1;refine sX (.un k x) 5 (fE hw) h5 yA rfl rfl rfl ?_;intro y hy;simp only[Ex.args,List.mem_singleton] at hy;subst hy;exact oW Sz d _ Qr.2
 | d+1,.bin k a b,hw=>by
  have Qr:=hw;simp only[fc] at Qr;have h5:mf (Ex.bin k a b).kQ≤4:=(by decide:∀ k,k<13→mf (5+k)≤4) k Qr.1;refine sX (.bin k a b) _ (fE hw) rfl yA rfl rfl ?_ ?_
  ·rw[if_neg yA];rfl
  ·intro y hy;simp only[Ex.args,List.mem_cons,List.not_mem_nil,or_false] at hy;rcases hy with rfl | rfl
   ·exact oW Sz d _ Qr.2.1
   ·exact oW Sz d _ Qr.2.2
 | 0,.un _ _,h=>h.elim
 | 0,.bin _ _ _,h=>h.elim
 | 0,.zero,h=>h.elim
 | 0,.loc _,h=>h.elim
 | 0,.jE _,h=>h.elim
 | _+1,.zero,h=>h.elim
 | _+1,.loc _,h=>h.elim
 | _+1,.jE _,h=>h.elim
theorem fh {ns:List ByteArray}(Sz:∀ s∈ns,lP s)(d:Nat)(e:Ex)(hd:d≤5)(hw:fc ns d e):ae Tryz.prog 257 [.agg (bK e)] (.bool true):=by
 obtain⟨h1,h2⟩:=ni d e hd hw;have h3:=oW Sz d e hw;have h4:(Df e:Int)≤24:=by omega
 refine ae.aM ah Tryz.func257 rfl PH (by simp[Tryz.ntmps257]) rfl fun C hC PN=>?_;rw[Tryz.ntmps257] at hC;apply aj;simp[hC];apply aj;simp[hC];refine dQ Xo (h3) ?_;simp[hC];refine TL.cw PV rfl rfl rfl rfl (bT.of rfl Xo (h2)) (TL.go' ah ?_);simp[hC,h4];apply T.ret;apply aa.here;simp[Tryz.results257]
theorem nS (n:Int)(h:0≤n∧n<18446744073709551616):IntKind.u64.wrap n=n:=by
 exact IntWalk.u64_in n ⟨h.1,by omega⟩
def Ad (m:Nat)(s:ByteArray):ByteArray:=if m=0 then s else jG m++s
theorem BP (n:Nat):jG n=Ad (n / 10) (dK (48+n % 10)):=by
 unfold Ad;rw[jG];split
 ·rename_i h;rw[if_pos yA,Nat.mod_eq_of_lt h]
 ·rw[if_neg yA]
theorem ET (m:Nat)(s:ByteArray)(h:0<m):Ad m s=Ad (m / 10) (dK (48+m % 10)++s):=by
 unfold Ad;rw[if_neg yA,jG];split
 ·rename_i h1;rw[if_pos yA,Nat.mod_eq_of_lt h1]
 ·rw[if_neg yA,ByteArray.append_assoc]
def J153 (T:ByteArray)(m:Nat)(s:St):Prop:=∃ x:ByteArray,x.size+m≤9223372036854775807∧Ad m x=T∧s=⟨[(3,.str x),(0,.int .u64 m)],[],0⟩
theorem wG (n:Nat)(hn:n<9223372036854775808):ae Tryz.prog 308 [.int .u64 n] (.str (jG n)):=by
 rw[BP];obtain⟨X,hT⟩:∃ X,Ad (n / 10) (dK (48+n % 10))=X:=⟨_,rfl⟩;rw[hT];have m1:(n:Int).tmod 10=((n % 10:Nat):Int):=by rw[Int.tmod_eq_emod_of_nonneg yA];omega
 have d1:(n:Int).tdiv 10=((n / 10:Nat):Int):=by rw[Int.tdiv_eq_ediv_of_nonneg yA];omega
 refine ae.aM ah Tryz.func308 rfl PH (by simp[Tryz.ntmps308]) rfl fun C hC PN=>?_;rw[Tryz.ntmps308] at hC;apply aj;simp[hC];obtain⟨q,hq⟩:∃ q,n % 10=q:=⟨_,rfl⟩;have hq9:q<10:=by omega
 have m2:(n:Int) % 10=(q:Int):=by omega
 have w1:=nS (48+(q:Int)) yA;have w1b:=nS (q:Int) yA;have w2:IntKind.u8.wrap (48+(q:Int))=48+(q:Int):=IntWalk.u8_in _ yA;have w3:(0:Int)≤48+(q:Int)∧48+(q:Int)<256:=by omega
 have w4:(48+(q:Int)).toNat=48+q:=by omega
 refine T.seq (T.AR ah ?_);simp[hC,m1,hq,w1,w2,w3,w4];refine T.le (Le.trim [3,0] [] 0 zX yA) ?_;simp;have SJ:(⟨#[48+UInt8.ofNat q]⟩:ByteArray)=dK (48+q):=by simp[dK]
 rw[SJ];have wd:=nS ((n / 10:Nat):Int) yA;have d2:(n:Int) / 10=((n / 10:Nat):Int):=by omega
 obtain⟨m0,SQ⟩:∃ m0,n / 10=m0:=⟨_,rfl⟩;rw[SQ] at d1 d2 wd hT;rw[hq] at hT;apply aU;simp[hC,d1,wd];apply T.block;refine T.aJ (J153 X) (n:=m0) ?_ ?_
 ·refine aa.trim [3,0] [] 0 zX yA ⟨dK (48+q),?_,hT,?_⟩
  ·have:(dK (48+q)).size=1:=rfl;omega
  ·simp
 ·rintro m s ⟨x,hx,hX,rfl⟩;by_cases hm:0<m
  ·have XU:(0:Int)<m:=by omega
   rw[ET m x hm] at hX;obtain⟨r,hr⟩:∃ r,m % 10=r:=⟨_,rfl⟩;have hr9:r<10:=by omega
   have m1:(m:Int).tmod 10=(r:Int):=by rw[Int.tmod_eq_emod_of_nonneg yA];omega
   have m2:(m:Int) % 10=(r:Int):=by omega
   have v1:=nS (48+(r:Int)) yA;have v1b:=nS (r:Int) yA;have v2:IntKind.u8.wrap (48+(r:Int))=48+(r:Int):=IntWalk.u8_in _ yA;have v3:(0:Int)≤48+(r:Int)∧48+(r:Int)<256:=by omega
   have v4:(48+(r:Int)).toNat=48+r:=by omega
   have e1:(m:Int).tdiv 10=((m / 10:Nat):Int):=by rw[Int.tdiv_eq_ediv_of_nonneg yA];omega
   have e2:(m:Int) / 10=((m / 10:Nat):Int):=by omega
   have ve:=nS ((m / 10:Nat):Int) yA;rw[hr] at hX;have hch2:(⟨#[48+UInt8.ofNat r]⟩:ByteArray)=dK (48+r):=by simp[dK]
   have PZ:(dK (48+r)).size=1:=rfl;have so:=ax (dK (48+r)) x yA;obtain⟨m',XU⟩:∃ m',m / 10=m':=⟨_,rfl⟩;rw[XU] at e1 e2 ve hX;apply aU;simp[hC,hm];refine gQ ?_;simp;apply dZ;refine T.AR ah ?_;simp[hC,m1,v1,v2,v3,v4,hch2,so];apply aW;simp[hC,e1,ve];refine⟨m',by omega,?_⟩;refine aa.trim [3,0] [] 0 zX yA ⟨dK (48+r)++x,?_,hX,?_⟩
   ·rw[ByteArray.size_append];omega
   ·simp
  ·have SQ:m=0:=by omega
   subst SQ;have hxT:x=X:=by simpa [Ad] using hX
   apply aU;simp[hC];refine bh ?_;simp;apply T.exit;simp;apply aj;simp[hC];apply T.ret;apply aa.here;simp[Tryz.results308,hxT]
theorem oq (n:Int)(h1 : -1000≤n)(h2:n<9223372036854775808):ae Tryz.prog 261 [I n] (.str (kk n)):=by
 refine ae.aM ah Tryz.func261 rfl PH (by simp[Tryz.ntmps261]) rfl fun C hC PN=>?_;rw[Tryz.ntmps261] at hC;apply aj;simp[hC];apply aU;simp[hC];refine T.bb rfl (fun h=>?_) (fun h=>?_)
 ·have hn:n<0:=by simpa using h
  obtain⟨m,hm⟩:∃ m:Nat,n=-(m:Int):=⟨(-n).toNat,by omega⟩;subst hm;have WO:=wG m yA;have w1:=cE (-(m:Int)+1) yA yA;have w2:=cE (-(-(m:Int)+1)) yA yA;have w3:=nS (-(-(m:Int)+1)) yA;have w4:=nS (-(-(m:Int)+1)+1) yA;have e5 : -(-(m:Int)+1)+1=(m:Int):=by omega
  have w5:=nS (m:Int) yA;have PZ:(jG m).size≤19:=by
   have:=(yk m).2.2.2 18 yA;rw[kE] at this;exact this
  have so:=ax ⟨#[45]⟩ (jG m) (by have:(⟨#[45]⟩:ByteArray).size=1:=rfl;omega);refine T.seq (T.AR ah ?_);simp[hC,w1,w2,w3,e5,w5];refine dQ P2 (WO) ?_;simp[hC,so];apply T.ret;apply aa.here;have ZN:kk (-(m:Int))=⟨#[45]⟩++jG m:=by
   unfold kk;rw[if_pos hn];simp
  rw[ZN];simp[Tryz.results261]
 ·have hn:¬ n<0:=by simpa using h
  obtain⟨m,hm⟩:∃ m:Nat,n=(m:Int):=⟨n.toNat,by omega⟩;subst hm;have WO:=wG m yA;have w5:=nS (m:Int) yA;apply T.skip;simp;refine T.seq (T.AR ah ?_);simp[hC,w5];refine dQ P2 (WO) ?_;simp[hC];apply T.ret;apply aa.here;have ZN:kk (m:Int)=jG m:=by
   unfold kk;rw[if_neg hn];simp
  rw[ZN];simp[Tryz.results261]
def sS (e x:Ex)(i:Nat):ByteArray:=rz (ov e x i) (iv x)
theorem Em (b:Bool)(x:ByteArray):(rz b x).size≤x.size+2:=by
 unfold rz;split
 ·rw[ByteArray.size_append,ByteArray.size_append];have h1:(⟨#[40]⟩:ByteArray).size=1:=rfl;have h2:(⟨#[41]⟩:ByteArray).size=1:=rfl;omega
 ·omega
def J154 (e:Ex)(tl:List ByteArray)(n:Nat)(s:St):Prop:=∃ i:Nat,n=e.args.length-i∧i≤e.args.length∧s=⟨[(4,I i),(3,.bj 1 0 i),(1,.av 0 0)],[(0,⟨80,0,[I e.kQ,I e.n,.str e.name,.az (e.args.flatMap bK) e.args.length]⟩),(1,ba (tl.take i))],2⟩
theorem MM:∀ k,k<13→mf (5+k)≤4∧∃ i,i<(opsL (mf (5+k))).2.length∧(opsL (mf (5+k))).1.length=(opsL (mf (5+k))).2.length∧(opsL (mf (5+k))).2[i]? = some ((5+k:Nat):Int)∧(opsL (mf (5+k))).1[i]? = some (B1.getD k ⟨#[]⟩)∧(opsL (mf (5+k))).2.length≤6∧∀ j,j<i→∀ o,(opsL (mf (5+k))).2[j]? = some o→o≠((5+k:Nat):Int)
 | 0,_=>⟨by decide,0,by decide,rfl,rfl,rfl,by decide,by decide⟩
 | 1,_=>⟨by decide,1,by decide,rfl,rfl,rfl,by decide,by decide⟩
 | 2,_=>⟨by decide,2,by decide,rfl,rfl,rfl,by decide,by decide⟩
 | 3,_=>⟨by decide,0,by decide,rfl,rfl,rfl,by decide,by decide⟩
 | 4,_=>⟨by decide,1,by decide,rfl,rfl,rfl,by decide,by decide⟩
 | 5,_=>⟨by decide,2,by decide,rfl,rfl,rfl,by decide,by decide⟩
 | 6,_=>⟨by decide,3,by decide,rfl,rfl,rfl,by decide,by decide⟩
 | 7,_=>⟨by decide,4,by decide,rfl,rfl,rfl,by decide,by decide⟩
 | 8,_=>⟨by decide,5,by decide,rfl,rfl,rfl,by decide,by decide⟩
 | 9,_=>⟨by decide,0,by decide,rfl,rfl,rfl,by decide,by decide⟩
 | 10,_=>⟨by decide,1,by decide,rfl,rfl,rfl,by decide,by decide⟩
 | 11,_=>⟨by decide,0,by decide,rfl,rfl,rfl,by decide,by decide⟩
 | 12,_=>⟨by decide,0,by decide,rfl,rfl,rfl,by decide,by decide⟩
 | _+13,h=>absurd h yA
theorem mO (e:Ex)(tl:List ByteArray)(QA:tl.length=e.args.length)(he:e.kQ≤17)(RC:e.args.length≤2)(R:ByteArray)
  (ha:∀ i x,e.args[i]? = some x→x.kQ≤17∧ae Tryz.prog 309 [.agg (bK x)] (.str (iv x))∧(iv x).size≤100000∧tl[i]? = some (sS e x i))
  (hR:(∃ n:Nat,e=.num n∧n<4611686018427387904∧R=jG n)∨(∃ x,e=.nm x∧R=x)∨(∃ k x,e=.un k x∧k<2∧R=(if k=0 then ⟨#[45]⟩ else ⟨#[33]⟩)++tl.getD 0 eS)∨(∃ k a b,e=.bin k a b∧k<13∧R=tl.getD 0 eS++⟨#[32]⟩++B1.getD k ⟨#[]⟩++⟨#[32]⟩++tl.getD 1 eS)):ae Tryz.prog 309 [.agg (bK e)] (.str R):=by
 have Q7:=fun (i:Nat) (x:Ex) (h:e.args[i]? = some x)=>aO (f:=bK) (n:=4) bJ (m:=e.args) h;have P4:=fun (i:Nat) (x:Ex) (h:e.args[i]? = some x)=>zU e i x h (ha i x h).1 he;have Rg:∀ x∈tl,x.size≤100002:=by
  intro x hx;obtain⟨i,hi⟩:=List.getElem?_of_mem hx;have PJ:i<e.args.length:=by rw[← QA];exact (List.getElem?_eq_some_iff.1 hi).1
  obtain⟨y,hy⟩:∃ y,e.args[i]? = some y:=⟨e.args[i],List.getElem?_eq_getElem PJ⟩;obtain⟨_,_,h3,h4⟩:=ha i y hy;rw[hi] at h4;cases h4;have:=Em (ov e y i) (iv y);unfold sS;omega
 rw[bU,JE] at P4 ⊢;refine ae.aM ah Tryz.func309 rfl PH (by simp[Tryz.ntmps309]) rfl fun C hC PN=>?_;rw[Tryz.ntmps309] at hC;apply aj;simp[hC];apply aj;simp[hC];refine T.cut (fun s=>s=⟨[(3,.bj 1 0 e.args.length),(1,.av 0 0)],[(0,⟨80,0,[I e.kQ,I e.n,.str e.name,.az (e.args.flatMap bK) e.args.length]⟩),(1,ba tl)],2⟩) ?_ ?_
 ·apply aj;simp[hC];apply T.block;refine T.aJ (J154 e tl) (n:=e.args.length) ?_ ?_
  ·refine aa.le (Le.own 3 9 1 rfl) ?_;simp;refine aa.trim [4,3,1] [0,1] 2 zX yA ⟨0,by omega,by omega,?_⟩;simp[ba]
  ·rintro n s ⟨i,rfl,PJ,rfl⟩;by_cases hi:i<e.args.length
   ·obtain⟨x,hx⟩:∃ x,e.args[i]? = some x:=⟨e.args[i],List.getElem?_eq_getElem hi⟩;have PL:=Q7 i x hx;obtain⟨x1,x2,x3,x4⟩:=ha i x hx;have TM:=P4 i x hx;rw[show (decide (x.st<e.st) || (decide (x.st=e.st) && decide (i=1)))=ov e x i from rfl] at TM;have wi:=cE ((i:Int)+1) yA yA;apply aU;simp[hC,hi];refine gQ ?_;simp;apply dZ;apply aj;simp[hC,hi,PL];refine dQ Xo (x2) ?_;simp[hC];refine T.cut (fun s=>s=⟨[(5,.str (sS e x i)),(4,I i),(3,.bj 1 0 i),(1,.av 0 0)],[(0,⟨80,0,[I e.kQ,I e.n,.str e.name,.az (e.args.flatMap bK) e.args.length]⟩),(1,ba (tl.take i))],2⟩) ?_ ?_
    ·apply aj;simp[hC];refine dQ P2 (TM) ?_;simp;refine T.bb rfl (fun h=>?_) (fun h=>?_)
     ·have h1:ov e x i=true:=by simpa using h
      have s1:=ax ⟨#[40]⟩ (iv x) (by have:(⟨#[40]⟩:ByteArray).size=1:=rfl;omega);have s2:=ax (⟨#[40]⟩++iv x) ⟨#[41]⟩ (by rw[ByteArray.size_append];have:(⟨#[40]⟩:ByteArray).size=1:=rfl;have:(⟨#[41]⟩:ByteArray).size=1:=rfl;omega);apply aW;simp[hC,s1,s2];refine aa.trim [5,4,3,1] [0,1] 2 zX yA ?_;simp[sS,rz,h1]
     ·have h1:ov e x i=false:=by simpa using h
      apply T.skip;simp;refine aa.trim [5,4,3,1] [0,1] 2 zX yA ?_;simp[sS,rz,h1]
    rintro s rfl;have S8:(i+1)*16≤140737488355328:=by omega
    have V1:(ba (tl.take i)).cells.length=i:=by simp[ba];omega
    have hws:(ba (tl.take i)).sz=1:=rfl;have hwe:(ba (tl.take i)).elem=9:=rfl;apply aW;simp[hC,S8,V1,hws,hwe,aX];apply aW;simp[hC,wi];refine⟨e.args.length-(i+1),by omega,?_⟩;refine aa.le (Le.trim [4,3,1] [0,3] 4 Rt yA) ?_;simp;refine aa.le (Le.nB 3 1 rfl rfl yA zX zX Rt) ?_;simp;refine aa.trim [4,3,1] [0,1] 2 Rt yA ⟨i+1,rfl,by omega,?_⟩;have PY:tl.take (i+1)=tl.take i++[sS e x i]:=by rw[List.take_add_one,x4];rfl
    rw[PY];simp[ba]
   ·have PS:i=e.args.length:=by omega
    apply aU;simp[hC,hi];refine bh ?_;simp;apply T.exit;simp;refine aa.trim [3,1] [0,1] 2 zX yA ?_;rw[PS,← QA,List.take_length];simp
 ·rintro s rfl;rcases hR with ⟨n,rfl,hn,rfl⟩ | ⟨x,rfl,rfl⟩ | ⟨k,x,rfl,hk,rfl⟩ | ⟨k,a,b,rfl,hk,rfl⟩
  ·have hcn:=oq n yA yA;have ZN:kk (n:Int)=jG n:=by
    unfold kk;rw[if_neg yA];simp
   rw[ZN] at hcn;apply dZ;apply aj;simp[hC,Ex.kQ,Ex.n,Ex.name,Ex.args];refine fx ?_;simp;apply aj;simp[hC];refine dQ P2 (hcn) ?_;simp[hC];apply T.ret;apply aa.here;simp[Tryz.results309]
  ·apply dZ;apply aj;simp[hC,Ex.kQ,Ex.n,Ex.name,Ex.args];refine bh ?_;simp;apply aj;simp[hC];refine fx ?_;simp;apply aj;simp[hC];apply T.ret;apply aa.here;simp[Tryz.results309]
  ·have h1:tl.length=1:=QA;have PL:=iG (ns:=tl) (i:=0) yA;rw[List.drop_zero] at PL;have QH:(ba tl).cells=.str (tl.getD 0 eS)::(tl.map CV.str).drop 1:=PL;have Sz:(ba tl).sz=1:=rfl;have PZ:=Rg (tl.getD 0 eS) (iK yA eS);generalize tl.getD 0 eS=t0 at QH PZ;have s45:(⟨#[45]⟩:ByteArray).size=1:=rfl;have s33:(⟨#[33]⟩:ByteArray).size=1:=rfl;apply dZ
   match k,hk with
   | 0,_=>
    have so:=ax ⟨#[45]⟩ t0 yA;apply aj;simp[hC,Ex.kQ,Ex.n,Ex.name,Ex.args];refine bh ?_;simp;apply aj;simp[hC];refine bh ?_;simp;apply aj;simp[hC];refine fx ?_;simp;apply aj;simp[hC,QH,so];apply T.ret;apply aa.here;simp[Tryz.results309]
   | 1,_=>
    have so:=ax ⟨#[33]⟩ t0 yA;apply aj;simp[hC,Ex.kQ,Ex.n,Ex.name,Ex.args];refine bh ?_;simp;apply aj;simp[hC];refine bh ?_;simp;apply aj;simp[hC];refine bh ?_;simp;apply aj;simp[hC];refine fx ?_;simp;apply aj;simp[hC,QH,so];apply T.ret;apply aa.here;simp[Tryz.results309]
  ·have h1:tl.length=2:=QA;have PL:=iG (ns:=tl) (i:=0) yA;have Rz:=iG (ns:=tl) (i:=1) yA;rw[List.drop_zero,Rz] at PL;have QH:(ba tl).cells=[.str (tl.getD 0 eS),.str (tl.getD 1 eS)]:=by
    have e3:(tl.map CV.str).drop (1+1)=[]:=List.drop_eq_nil_of_le Ru;rw[e3] at PL;exact PL
   have Sz:(ba tl).sz=1:=rfl;have hsz0:=Rg (tl.getD 0 eS) (iK yA eS);have Vo:=Rg (tl.getD 1 eS) (iK yA eS);generalize tl.getD 0 eS=t0 at QH hsz0;generalize tl.getD 1 eS=t1 at QH Vo;obtain⟨R2,ix,TM,Tq,UI,Rb,h6,Vz⟩:=MM k hk;have hbz:(B1.getD k ⟨#[]⟩).size≤2:=(by decide:∀ k,k<13→(B1.getD k ⟨#[]⟩).size≤2) k hk;have Ql:=eU (5+k) yA;have YK:=Gn _ R2;generalize B1.getD k ⟨#[]⟩=bo at Rb hbz;generalize mf (5+k)=sk at Ql YK TM Tq UI Rb h6 Vz R2;generalize UA:(opsL sk).1=sl at *;generalize hog:(opsL sk).2=ol at *;have n1:((5+k:Nat):Int)=5+(k:Int):=by omega
   rw[n1] at Ql UI Vz;have k1:((5:Int)+k == 1)=false:=by simp;omega
   have k2:((5:Int)+k == 2)=false:=by simp;omega
   have k3:((5:Int)+k == 3)=false:=by simp;omega
   have k4:((5:Int)+k == 4)=false:=by simp;omega
   apply dZ;apply aj;simp[hC,Ex.kQ,Ex.n,Ex.name,Ex.args,k1];refine bh ?_;simp;apply aj;simp[hC,k2];refine bh ?_;simp;apply aj;simp[hC,k3];refine bh ?_;simp;apply aj;simp[hC,k4];refine bh ?_;simp;apply T.skip;simp;refine T.le (Le.trim [3,1] [0,1] 2 zX yA) ?_;simp;apply aj;simp[hC];refine dQ P2 (Ql) ?_;simp;refine dQ P2 (YK) ?_;simp[hC];have q1:(⟨#[32]⟩:ByteArray).size=1:=rfl;have s1:=ax t0 ⟨#[32]⟩ yA;have s2:=ax (t0++⟨#[32]⟩) bo (by rw[ByteArray.size_append];omega);have s3:=ax (t0++⟨#[32]⟩++bo) ⟨#[32]⟩ (by rw[ByteArray.size_append,ByteArray.size_append];omega);have s4:=ax (t0++⟨#[32]⟩++bo++⟨#[32]⟩) t1 (by rw[ByteArray.size_append,ByteArray.size_append,ByteArray.size_append];omega);obtain⟨X,hX⟩:∃ X,t0++⟨#[32]⟩++bo++⟨#[32]⟩++t1=X:=⟨_,rfl⟩;rw[hX] at s4 ⊢;refine T.le (Le.trim [7,6,3,1] [0,1] 2 (by simp[strs,ints]) yA) ?_;simp;apply aU;simp[hC];apply T.block;refine T.aJ (fun n s=>∃ i:Nat,n=ix-i∧i≤ix∧s=⟨[(8,I i),(7,ints ol),(6,strs sl),(3,.bj 1 0 2),(1,.av 0 0)],[(0,⟨80,0,[I (5+k),I 0,.str eS,.az (bK a++bK b) 2]⟩),(1,ba tl)],2⟩) (n:=ix) ?_ ?_
   ·refine aa.trim [8,7,6,3,1] [0,1] 2 (by simp[strs,ints]) yA ⟨0,by omega,by omega,?_⟩;simp
   ·rintro n s ⟨i,rfl,hi,rfl⟩;have PJ:i<ol.length:=by omega
    obtain⟨o,ho⟩:∃ o,ol[i]? = some o:=⟨ol[i],List.getElem?_eq_getElem PJ⟩;have hdo:(ol.map vq).drop i=I o::(ol.map vq).drop (i+1):=by
     rw[List.drop_eq_getElem_cons (by simpa using PJ)];have:=(List.getElem?_eq_some_iff.1 ho).2;simp[vq,this]
    have wi:=cE ((i:Int)+1) yA yA;apply aU;simp[hC,ints,strs,PJ];refine gQ ?_;simp;apply dZ;apply T.seq;refine T.rx ah follows [0,1,2,3,4,5,6] [] PH ?_;simp[hC,PJ,hdo];by_cases PS:i=ix
    ·subst PS;rw[UI] at ho;have hoe:o=5+(k:Int):=by simpa using ho.symm
     have hsd:(sl.map CV.str).drop i=.str bo::(sl.map CV.str).drop (i+1):=by
      have:=iG (ns:=sl) (i:=i) yA;rw[this];simp[List.getD,Rb]
     have hisl:i<sl.length:=by omega
     refine T.bb rfl (fun h=>?_) (fun h=>?_)
     ·apply T.seq;refine T.rx ah follows [0,1,2,3,4,5,6,7,8,9,10,11,12,13,14] [] PH ?_;simp[hC,QH,hisl,hsd,s1,s2,s3,s4];apply T.ret;apply aa.here;simp[Tryz.results309]
     ·simp[hoe] at h
    ·have P3:=Vz i yA o ho;refine T.bb rfl (fun h=>?_) (fun h=>?_)
     ·simp at h;exact absurd h P3
     apply T.skip;simp;apply aW;simp[hC,wi];refine⟨ix-(i+1),by omega,?_⟩;refine aa.trim [8,7,6,3,1] [0,1] 2 zX yA ⟨i+1,rfl,by omega,?_⟩;simp
end Go.Proofs.YtnecpnjdonibmaaGreat
