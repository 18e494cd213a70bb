/- inner, Height, shape, ValidExpr. | shape, ValidExpr, noExpr, noRef, okRef. -/
import Derived.Test.YtmnglemlimfpbaaGreatZ26
import Derived.Test.YtmnglemlimfpbaaGreatZ29
namespace Go.Proofs.YtmnglemlimfpbaaGreat
open Go.Can Go.bg
theorem F5 (e:Ex):e.op=(e.kF:Int):=by cases e<;>simp[Ex.op,Ex.kF]
theorem fD {ns:List ByteArray}:∀ {d:Nat} {e:Ex},fp ns d e→e.kF≤17
 | _,.num _,_=>by simp[Ex.kF]
 | _,.nm _,_=>by simp[Ex.kF]
 | d+1,.un k e,h=>by simp only[fp] at h;simp only[Ex.kF];omega
 | d+1,.bin k a b,h=>by simp only[fp] at h;simp only[Ex.kF];omega
 | 0,.un _ _,h=>h.elim
 | 0,.bin _ _ _,h=>h.elim
 | 0,.zero,h=>h.elim
 | 0,.loc _,h=>h.elim
 | 0,.jv _,h=>h.elim
 | _+1,.zero,h=>h.elim
 | _+1,.loc _,h=>h.elim
 | _+1,.jv _,h=>h.elim
theorem yb (e:Ex)(i:Nat)(x:Ex)(h:e.args[i]? = some x)(hx:x.kF≤17)(he:e.kF≤17):ah Tryz.prog 161 [.agg (bB e),I i] (.bool (decide (x.st<e.st) || (decide (x.st=e.st) && decide (i=1)))):=by
 have hlt:i<e.args.length:=(List.getElem?_eq_some_iff.1 h).1
 have hdr:(e.args.flatMap bB).drop (i*4)=bB x++(e.args.drop (i+1)).flatMap bB:=aV (f:=bB) (n:=4) bA h
 have hcx:=e8 _ hx
 have hce:=e8 _ he
 have e1:=bP e
 have e2:=bP x
 rw[F5] at e1 e2
 rw[e2] at hdr
 rw[e1]
 clear e1 e2
 unfold Ex.st
 generalize lZ x.kF=sx at *
 generalize lZ e.kF=se at *
 refine ah.bl aa Tryz.func161 rfl (by kernel_rfl) (by simp[Tryz.ntmps161]) rfl fun C hC hC0=>?_
 rw[Tryz.ntmps161] at hC
 refine T.seq (T.go' aa ?_)
 simp[hC]
 refine T.seq ?_
 refine T.rx aa follows [0,1,2,3,4,5,7,8,6,9,10,11] [(8,6)] (by kernel_rfl) ?_
 simp[hC,hlt,hdr]
 refine RX.call rfl (by simp) rfl rfl rfl (by first | rfl | simp only[List.cons_append,List.nil_append,List.append_nil,trees,tree,ag,ak,Bool.and_self,Bool.and_true,Bool.true_and]) (hcx) ?_
 simp
 refine RX.call rfl (by simp) rfl rfl rfl (by first | rfl | simp only[List.cons_append,List.nil_append,List.append_nil,trees,tree,ag,ak,Bool.and_self,Bool.and_true,Bool.true_and]) (hce) ?_
 simp
 refine T.seq ?_
 by_cases h1:sx<se
 ·refine T.go' aa ?_
  simp[hC,h1]
  refine T.ret ?_
  refine ae.here ?_
  simp[Tryz.results161]
 ·by_cases h2:sx=se
  ·subst h2
   refine T.go' aa ?_
   simp[hC]
   refine T.ret ?_
   refine ae.here ?_
   simp[Tryz.results161]
  ·have h2':((sx:Int) == se)=false:=by simp;omega
   refine T.go' aa ?_
   simp[hC,h1,h2']
   refine T.ret ?_
   refine ae.here ?_
   simp[Tryz.results161,h2]
def nW (e x:Ex)(i:Nat):Bool:=decide (x.st<e.st) || (decide (x.st=e.st) && decide (i=1))
def Fz (e:Ex)(ht:Ex→Nat):Nat→List Ex→Nat→Nat
 | _,[],h=>h
 | i,x::r,h=>Fz e ht (i+1) r (max h (ht x+if nW e x i=true then 1 else 0))
theorem Em (e:Ex)(ht:Ex→Nat)(B:Nat):∀ (l:List Ex) (i h:Nat),(∀ x∈l,ht x+1≤B)→h≤B→Fz e ht i l h≤B
 | [],_,_,_,h=>h
 | x::r,i,h,hx,hh=>by
  rw[Fz]
  have:=hx x List.mem_cons_self
  refine Em e ht B r _ _ (fun y hy=>hx y (List.mem_cons_of_mem _ hy)) ?_
  split<;>omega
def J152 (ht:Ex→Nat)(e:Ex)(H:Nat)(m:Nat)(s:St):Prop:=∃ i h:Nat,m=e.args.length-i∧i≤e.args.length∧h≤101∧Fz e ht i (e.args.drop i) h=H∧s=⟨[(4,I i),(3,I h),(1,.aq 0 0)],[(0,⟨64,0,[I e.kF,I e.n,.str e.name,.ax (e.args.flatMap bB) e.args.length]⟩)],1⟩
theorem jQ (ht:Ex→Nat)(e:Ex)(he:e.kF≤17)(hlen:e.args.length≤2)(ha:∀ x∈e.args,x.kF≤17∧ht x≤100∧ah Tryz.prog 152 [.agg (bB x)] (I (ht x))) :
  ah Tryz.prog 152 [.agg (bB e)] (I ((Fz e ht 0 e.args 0+if lZ e.kF=5 then 1 else 0:Nat))):=by
 have hop:=e8 _ he
 have hin:=fun (i:Nat) (x:Ex) (h:e.args[i]? = some x)=>yb e i x h (ha x (List.mem_of_getElem? h)).1 he
 have hflat:=fun (i:Nat) (x:Ex) (h:e.args[i]? = some x)=>aV (f:=bB) (n:=4) bA (m:=e.args) h
 have hB:=Em e ht 101 e.args 0 0 (fun x hx=>by have:=(ha x hx).2.1;omega) (by omega)
 obtain⟨H,hH⟩:∃ H,Fz e ht 0 e.args 0=H:=⟨_,rfl⟩
 rw[hH] at hB ⊢
 rw[bP,F5] at hin ⊢
 refine ah.bl aa Tryz.func152 rfl (by kernel_rfl) (by simp[Tryz.ntmps152]) rfl fun C hC hC0=>?_
 rw[Tryz.ntmps152] at hC
 refine T.seq (T.go' aa ?_)
 simp[hC]
 refine T.seq (T.go' aa ?_)
 simp[hC]
 refine T.cut (fun s=>s=⟨[(3,I H),(1,.aq 0 0)],[(0,⟨64,0,[I e.kF,I e.n,.str e.name,.ax (e.args.flatMap bB) e.args.length]⟩)],1⟩) ?_ ?_
 ·refine T.seq (T.go' aa ?_)
  simp[hC]
  refine T.block ?_
  refine T.aS (J152 ht e H) (n:=e.args.length) ?_ ?_
  ·refine ae.le (Le.env [4,3,1]) (ae.here ⟨0,0,by omega,by omega,by omega,hH,?_⟩)
   simp
  ·rintro n s ⟨i,h,rfl,hil,hh,hhA,rfl⟩
   by_cases hi:i<e.args.length
   ·obtain⟨x,hx⟩:∃ x,e.args[i]? = some x:=⟨e.args[i],List.getElem?_eq_getElem hi⟩
    have hdr:=hflat i x hx
    have hd:e.args.drop i=x::e.args.drop (i+1):=by
     rw[List.drop_eq_getElem_cons hi,(List.getElem?_eq_some_iff.1 hx).2]
    rw[hd,Fz] at hhA
    obtain⟨x1,x2,x3⟩:=ha x (List.mem_of_getElem? hx)
    have hix:=hin i x hx
    rw[show (decide (x.st<e.st) || (decide (x.st=e.st) && decide (i=1)))=nW e x i from rfl] at hix
    have wi:=db ((i:Int)+1) (by omega) (by omega)
    have wh:=db ((ht x:Int)+1) (by omega) (by omega)
    refine T.seq (T.seq (T.go' aa ?_))
    simp[hC,hi]
    refine T.cond (b:=true) rfl (T.skip ?_)
    simp
    refine T.seq (T.block ?_)
    refine T.seq (T.go' aa ?_)
    simp[hC,hi,hdr]
    refine TL.call (by simp[hC]) rfl rfl (aI.of rfl (by first | rfl | simp only[List.append_nil,trees,tree,ag,Bool.and_self]) (x3)) (TL.go' aa ?_)
    simp[hC]
    refine T.cut (fun s=>s=⟨[(5,I ((ht x+if nW e x i=true then 1 else 0:Nat))),(4,I i),(3,I h),(1,.aq 0 0)],[(0,⟨64,0,[I e.kF,I e.n,.str e.name,.ax (e.args.flatMap bB) e.args.length]⟩)],1⟩) ?_ ?_
    ·refine T.seq (T.go' aa ?_)
     simp[hC]
     refine TL.call (by simp[hC]) rfl rfl (aI.of rfl (by first | rfl | simp only[List.cons_append,List.nil_append,List.append_nil,trees,tree,ag,ak,Bool.and_self,Bool.and_true,Bool.true_and]) (hix)) (TL.go' aa ?_)
     simp
     refine T.bf rfl (fun h=>?_) (fun h=>?_)
     ·have h1:nW e x i=true:=by simpa using h
      refine T.go' aa ?_
      simp[hC,wh]
      refine ae.le (Le.env [5,4,3,1]) (ae.here ?_)
      simp[h1]
     ·have h1:nW e x i=false:=by simpa using h
      refine T.skip ?_
      simp
      refine ae.le (Le.env [5,4,3,1]) (ae.here ?_)
      simp[h1]
    rintro s rfl
    obtain⟨g,hg⟩:∃ g,(ht x+if nW e x i=true then 1 else 0)=g:=⟨_,rfl⟩
    rw[hg] at hhA ⊢
    have hg2:g≤101:=by rw[← hg];split<;>omega
    have hmx:(if h<g then (g:Int) else h)=((max h g:Nat):Int):=by
     split<;>omega
    refine T.go' aa ?_
    simp[hC,hmx]
    refine T.go' aa ?_
    simp[hC,wi]
    refine⟨e.args.length-(i+1),by omega,?_⟩
    refine ae.le (Le.env [4,3,1]) (ae.here ⟨i+1,max h g,rfl,by omega,by omega,hhA,?_⟩)
    simp
   ·have hie:i=e.args.length:=by omega
    rw[hie,List.drop_length,Fz] at hhA
    refine T.seq (T.seq (T.go' aa ?_))
    simp[hC,hi]
    refine T.cond (b:=false) rfl ?_
    simp
    refine T.exit ?_
    simp
    refine ae.le (Le.env [3,1]) (ae.here ?_)
    simp[hhA]
 ·rintro s rfl
  have wH:=db ((H:Int)+1) (by omega) (by omega)
  refine T.cut (fun s=>s=⟨[(3,I ((H+if lZ e.kF=5 then 1 else 0:Nat)))],[],1⟩) ?_ ?_
  ·refine T.seq (T.go' aa ?_)
   simp[hC]
   refine TL.call (by simp[hC]) rfl rfl (aI.of rfl (by first | rfl | simp only[List.cons_append,List.nil_append,List.append_nil,trees,tree,ag,ak,Bool.and_self,Bool.and_true,Bool.true_and]) (hop)) (TL.go' aa ?_)
   simp[hC]
   refine T.bf rfl (fun h=>?_) (fun h=>?_)
   ·have h1:lZ e.kF=5:=by simp at h;omega
    refine T.go' aa ?_
    simp[hC,wH]
    refine ae.trim [3] [] 1 (by simp) (by omega) ?_
    simp[h1]
   ·have h1:¬ lZ e.kF=5:=by simp at h;omega
    refine T.skip ?_
    simp
    refine ae.trim [3] [] 1 (by simp) (by omega) ?_
    simp[h1]
  ·rintro s rfl
   refine T.seq (T.go' aa ?_)
   simp[hC]
   refine T.ret ?_
   refine ae.here ?_
   simp[Tryz.results152]
def AL:Ex→Nat
 | .un k x=>Fz (.un k x) (fun _=>AL x) 0 [x] 0+1
 | .bin k a b=>max (max 0 (AL a+if nW (.bin k a b) a 0=true then 1 else 0)) (AL b+if nW (.bin k a b) b 1=true then 1 else 0)
 | _=>0
theorem mU {ns:List ByteArray}:∀ (d:Nat) (e:Ex),d≤5→fp ns d e→AL e≤2*d∧ah Tryz.prog 152 [.agg (bB e)] (I (AL e))
 | d,.num n,_,hw=>⟨by simp[AL],by
  have h:=jQ AL (.num n) (fD hw) (by simp[Ex.args]) (by simp[Ex.args])
  exact h⟩
 | d,.nm n,_,hw=>⟨by simp[AL],by
  have h:=jQ AL (.nm n) (fD hw) (by simp[Ex.args]) (by simp[Ex.args])
  exact h⟩
 | d+1,.un k x,hd,hw=>by
  have hw':=hw
  simp only[fp] at hw'
  obtain⟨i1,i2⟩:=mU d x (by omega) hw'.2
  have h:=jQ AL (.un k x) (fD hw) (by simp[Ex.args]) (by
   intro y hy
   simp only[Ex.args,List.mem_singleton] at hy
   subst hy
   exact⟨fD hw'.2,by omega,i2⟩)
  have h5:lZ (Ex.un k x).kF=5:=by
   simp only[Ex.kF]
   have:=hw'.1
   have:∀ k,k<2→lZ (3+k)=5:=by decide
   exact this k hw'.1
  rw[if_pos h5] at h
  refine⟨?_,h⟩
  simp only[AL,Fz]
  split<;>omega
 | d+1,.bin k a b,hd,hw=>by
  have hw':=hw
  simp only[fp] at hw'
  obtain⟨i1,i2⟩:=mU d a (by omega) hw'.2.1
  obtain⟨j1,j2⟩:=mU d b (by omega) hw'.2.2
  have h:=jQ AL (.bin k a b) (fD hw) (by simp[Ex.args]) (by
   intro y hy
   simp only[Ex.args,List.mem_cons,List.not_mem_nil,or_false] at hy
   rcases hy with rfl | rfl
   ·exact⟨fD hw'.2.1,by omega,i2⟩
   ·exact⟨fD hw'.2.2,by omega,j2⟩)
  have h5:¬ lZ (Ex.bin k a b).kF=5:=by
   simp only[Ex.kF]
   have:=hw'.1
   have:∀ k,k<13→¬ lZ (5+k)=5:=by decide
   exact this k hw'.1
  rw[if_neg h5] at h
  refine⟨?_,h⟩
  simp only[AL]
  split<;>split<;>omega
 | 0,.un _ _,_,h=>h.elim
 | 0,.bin _ _ _,_,h=>h.elim
 | 0,.zero,_,h=>h.elim
 | 0,.loc _,_,h=>h.elim
 | 0,.jv _,_,h=>h.elim
 | _+1,.zero,_,h=>h.elim
 | _+1,.loc _,_,h=>h.elim
 | _+1,.jv _,_,h=>h.elim
end Go.Proofs.YtmnglemlimfpbaaGreat
namespace Go.Proofs.YtmnglemlimfpbaaGreat
open Go.Can Go.bg
def lD (s:ByteArray):Prop:=cY s∧bs s∉pP
theorem BG (n:Nat)(hn:n<4611686018427387904):ah Tryz.prog 151 [.agg (bB (.num n))] (.bool true):=by
 have hop:ah Tryz.prog 160 [I (1:Nat)] (I 6):=e8 1 (by omega)
 refine ah.bl aa Tryz.func151 rfl (by kernel_rfl) (by simp[Tryz.ntmps151]) rfl fun C hC hC0=>?_
 rw[Tryz.ntmps151] at hC
 refine T.seq (T.go' aa ?_)
 simp[hC]
 refine T.seq (T.go' aa ?_)
 simp[hC]
 refine T.cut (fun s=>s=⟨[(3,.int .i64 0),(1,.aq 0 0)],[(0,⟨64,0,bB (.num n)⟩)],1⟩) ?_ ?_
 ·refine T.seq (T.go' aa ?_)
  simp[hC,bB,eS]
  refine TL.call (by simp[hC]) rfl rfl (aI.of rfl (by first | rfl | simp only[List.cons_append,List.nil_append,List.append_nil,trees,tree,ag,ak,Bool.and_self,Bool.and_true,Bool.true_and]) (hop)) (TL.go' aa ?_)
  simp
  refine T.block ?_
  refine T.seq (T.go' aa ?_)
  simp[hC]
  refine T.cond (b:=true) rfl ?_
  simp
  refine T.seq (T.go' aa ?_)
  simp[hC]
  refine T.seq ?_
  have hn0:(0:Int)≤n:=by omega
  refine T.rx aa follows [0,1,2,3,4,5,6,7,8,9,10,11,12,13,14,15,16,17,18,19,20,21,22,23,24,25,26,27] [(10,24)] (by kernel_rfl) ?_
  simp[hC,hn0,gT]
  refine T.seq (T.go' aa ?_)
  simp[hC]
  refine T.cond (b:=false) rfl ?_
  simp
  refine T.skip ?_
  simp
  refine ae.trim [3,1] [0] 1 (by simp) (by omega) ?_
  simp
 ·rintro s rfl
  refine T.seq (T.seq (T.go' aa ?_))
  simp[hC,bB,eS]
  refine T.cond (b:=false) rfl ?_
  simp
  refine T.skip ?_
  simp
  refine T.seq (T.seq (T.go' aa ?_))
  simp[hC]
  refine T.block ?_
  refine T.aS (fun m s=>s=⟨[(6,.int .i64 0),(3,.int .i64 0),(1,.aq 0 0)],[(0,⟨64,0,bB (.num n)⟩)],1⟩) (n:=0) ?_ ?_
  ·refine ae.trim [6,3,1] [0] 1 (by simp) (by omega) ?_
   simp[bB,eS]
  ·rintro m s rfl
   refine T.seq (T.seq (T.go' aa ?_))
   simp[hC]
   refine T.cond (b:=false) rfl ?_
   simp
   refine T.exit ?_
   simp
   refine T.seq (T.go' aa ?_)
   simp[hC]
   refine T.ret ?_
   refine ae.here ?_
   simp[Tryz.results151]
theorem Dp (x:ByteArray)(hx:lD x):ah Tryz.prog 151 [.agg (bB (.nm x))] (.bool true):=by
 have hop:ah Tryz.prog 160 [I (2:Nat)] (I 6):=e8 2 (by omega)
 have hnm:=iZ x hx.1 hx.2
 refine ah.bl aa Tryz.func151 rfl (by kernel_rfl) (by simp[Tryz.ntmps151]) rfl fun C hC hC0=>?_
 rw[Tryz.ntmps151] at hC
 refine T.seq (T.go' aa ?_)
 simp[hC]
 refine T.seq (T.go' aa ?_)
 simp[hC]
 refine T.cut (fun s=>s=⟨[(3,.int .i64 0),(1,.aq 0 0)],[(0,⟨64,0,bB (.nm x)⟩)],1⟩) ?_ ?_
 ·refine T.seq (T.go' aa ?_)
  simp[hC,bB]
  refine TL.call (by simp[hC]) rfl rfl (aI.of rfl (by first | rfl | simp only[List.cons_append,List.nil_append,List.append_nil,trees,tree,ag,ak,Bool.and_self,Bool.and_true,Bool.true_and]) (hop)) (TL.go' aa ?_)
  simp
  refine T.block ?_
  refine T.seq (T.go' aa ?_)
  simp[hC]
  refine T.cond (b:=true) rfl ?_
  simp
  refine T.seq (T.go' aa ?_)
  simp[hC]
  refine T.seq ?_
  refine T.rx aa follows [0,1,2,3,4,5,6,7,8,9,10,11,12,13,14,15,16,17,18,19,20,21,22,23,24,25,26,27] [(10,24)] (by kernel_rfl) ?_
  simp[hC]
  refine RX.call rfl (by simp) rfl rfl rfl (by first | rfl | simp only[List.cons_append,List.nil_append,List.append_nil,trees,tree,ag,ak,Bool.and_self,Bool.and_true,Bool.true_and]) (hnm) ?_
  simp
  refine T.seq (T.go' aa ?_)
  simp[hC]
  refine T.cond (b:=false) rfl ?_
  simp
  refine T.skip ?_
  simp
  refine ae.trim [3,1] [0] 1 (by simp) (by omega) ?_
  simp
 ·rintro s rfl
  refine T.seq (T.seq (T.go' aa ?_))
  simp[hC,bB]
  refine T.cond (b:=false) rfl ?_
  simp
  refine T.skip ?_
  simp
  refine T.seq (T.seq (T.go' aa ?_))
  simp[hC]
  refine T.block ?_
  refine T.aS (fun m s=>s=⟨[(6,.int .i64 0),(3,.int .i64 0),(1,.aq 0 0)],[(0,⟨64,0,bB (.nm x)⟩)],1⟩) (n:=0) ?_ ?_
  ·refine ae.trim [6,3,1] [0] 1 (by simp) (by omega) ?_
   simp[bB]
  ·rintro m s rfl
   refine T.seq (T.seq (T.go' aa ?_))
   simp[hC]
   refine T.cond (b:=false) rfl ?_
   simp
   refine T.exit ?_
   simp
   refine T.seq (T.go' aa ?_)
   simp[hC]
   refine T.ret ?_
   refine ae.here ?_
   simp[Tryz.results151]
theorem rO (e:Ex)(st:Nat)(he:e.kF≤17)(hst:lZ e.kF=st)(h6:st≤5)(hn:e.n=0)(hnm:e.name=eS)(hlen:e.args.length=if st=5 then 1 else 2)(ha:∀ x∈e.args,ah Tryz.prog 151 [.agg (bB x)] (.bool true)):ah Tryz.prog 151 [.agg (bB e)] (.bool true):=by
 have hop:=e8 _ he
 rw[hst] at hop
 have hflat:=fun (i:Nat) (x:Ex) (h:e.args[i]? = some x)=>aV (f:=bB) (n:=4) bA (m:=e.args) h
 rw[bP,F5,hn,hnm]
 obtain⟨al,hal⟩:∃ al,e.args.length=al:=⟨_,rfl⟩
 rw[hal] at hlen
 have h6':¬ (st:Int)=6:=by omega
 refine ah.bl aa Tryz.func151 rfl (by kernel_rfl) (by simp[Tryz.ntmps151]) rfl fun C hC hC0=>?_
 rw[Tryz.ntmps151] at hC
 refine T.seq (T.go' aa ?_)
 simp[hC]
 refine T.seq (T.go' aa ?_)
 simp[hC]
 refine T.cut (fun s=>s=⟨[(3,I al),(1,.aq 0 0)],[(0,⟨64,0,[I e.kF,I 0,.str eS,.ax (e.args.flatMap bB) al]⟩)],1⟩) ?_ ?_
 ·refine T.seq (T.go' aa ?_)
  simp[hC,hal]
  refine TL.call (by simp[hC]) rfl rfl (aI.of rfl (by first | rfl | simp only[List.cons_append,List.nil_append,List.append_nil,trees,tree,ag,ak,Bool.and_self,Bool.and_true,Bool.true_and]) (hop)) (TL.go' aa ?_)
  simp
  refine T.block ?_
  refine T.seq (T.go' aa ?_)
  simp[hC]
  refine T.bf rfl (fun h=>?_) (fun h=>?_)
  ·simp at h;omega
  refine T.seq (T.go' aa ?_)
  simp[hC]
  refine T.bf rfl (fun h=>?_) (fun h=>?_)
  ·have h5:st=5:=by simp at h;omega
   rw[if_pos h5] at hlen
   refine T.go' aa ?_
   simp[hC]
   refine ae.trim [3,1] [0] 1 (by simp) (by omega) ?_
   simp[hlen]
  ·have h5:¬ st=5:=by simp at h;omega
   rw[if_neg h5] at hlen
   refine T.skip ?_
   simp
   refine ae.trim [3,1] [0] 1 (by simp) (by omega) ?_
   simp[hlen]
 ·rintro s rfl
  have hap:0<al:=by rw[hlen];split<;>omega
  have hal2:al≤2:=by rw[hlen];split<;>omega
  refine T.seq (T.seq (T.go' aa ?_))
  simp[hC,hap,eS,ji]
  refine T.cond (b:=false) rfl ?_
  simp
  refine T.skip ?_
  simp
  refine T.seq (T.seq (T.go' aa ?_))
  simp[hC]
  refine T.block ?_
  refine T.aS (fun m s=>∃ i:Nat,m=al-i∧i≤al∧s=⟨[(6,I i),(3,I al),(1,.aq 0 0)],[(0,⟨64,0,[I e.kF,I 0,.str ⟨#[]⟩,.ax (e.args.flatMap bB) al]⟩)],1⟩) (n:=al) ?_ ?_
  ·refine ae.trim [6,3,1] [0] 1 (by simp) (by omega) ⟨0,by omega,by omega,?_⟩
   simp
  ·rintro m s ⟨i,rfl,hi,rfl⟩
   by_cases hil:i<al
   ·obtain⟨x,hx⟩:∃ x,e.args[i]? = some x:=⟨e.args[i],List.getElem?_eq_getElem (by omega)⟩
    have hdr:=hflat i x hx
    have hcx:=ha x (List.mem_of_getElem? hx)
    have wi:=db ((i:Int)+1) (by omega) (by omega)
    refine T.seq (T.seq (T.go' aa ?_))
    simp[hC,hil]
    refine T.cond (b:=true) rfl (T.skip ?_)
    simp
    refine T.seq (T.block ?_)
    refine T.seq (T.go' aa ?_)
    simp[hC,hil,hdr]
    refine TL.call (by simp[hC]) rfl rfl (aI.of rfl (by first | rfl | simp only[List.append_nil,trees,tree,ag,Bool.and_self]) (hcx)) (TL.go' aa ?_)
    simp[hC]
    refine T.cond (b:=false) rfl ?_
    simp
    refine T.skip ?_
    simp
    refine T.go' aa ?_
    simp[hC,wi]
    refine⟨al-(i+1),by omega,?_⟩
    refine ae.trim [6,3,1] [0] 1 (by simp) (by omega) ⟨i+1,rfl,by omega,?_⟩
    simp
   ·refine T.seq (T.seq (T.go' aa ?_))
    simp[hC,hil]
    refine T.cond (b:=false) rfl ?_
    simp
    refine T.exit ?_
    simp
    refine T.seq (T.go' aa ?_)
    simp[hC]
    refine T.ret ?_
    refine ae.here ?_
    simp[Tryz.results151]
theorem oJ {ns:List ByteArray}(hns:∀ s∈ns,lD s):∀ (d:Nat) (e:Ex),fp ns d e→ah Tryz.prog 151 [.agg (bB e)] (.bool true)
 | _,.num n,hw=>BG n (by simpa [fp] using hw)
 | _,.nm s,hw=>Dp s (hns s (by simpa [fp] using hw))
 | d+1,.un k x,hw=>by
  have hw':=hw
  simp only[fp] at hw'
  have h5:lZ (Ex.un k x).kF=5:=(by decide:∀ k,k<2→lZ (3+k)=5) k hw'.1
  refine rO (.un k x) 5 (fD hw) h5 (by omega) rfl rfl rfl ?_
  intro y hy
  simp only[Ex.args,List.mem_singleton] at hy
  subst hy
  exact oJ hns d _ hw'.2
 | d+1,.bin k a b,hw=>by
  have hw':=hw
  simp only[fp] at hw'
  have h5:lZ (Ex.bin k a b).kF≤4:=(by decide:∀ k,k<13→lZ (5+k)≤4) k hw'.1
  refine rO (.bin k a b) _ (fD hw) rfl (by omega) rfl rfl ?_ ?_
  ·rw[if_neg (by omega)];rfl
  ·intro y hy
   simp only[Ex.args,List.mem_cons,List.not_mem_nil,or_false] at hy
   rcases hy with rfl | rfl
   ·exact oJ hns d _ hw'.2.1
   ·exact oJ hns d _ hw'.2.2
 | 0,.un _ _,h=>h.elim
 | 0,.bin _ _ _,h=>h.elim
 | 0,.zero,h=>h.elim
 | 0,.loc _,h=>h.elim
 | 0,.jv _,h=>h.elim
 | _+1,.zero,h=>h.elim
 | _+1,.loc _,h=>h.elim
 | _+1,.jv _,h=>h.elim
theorem fq {ns:List ByteArray}(hns:∀ s∈ns,lD s)(d:Nat)(e:Ex)(hd:d≤5)(hw:fp ns d e):ah Tryz.prog 124 [.agg (bB e)] (.bool true):=by
 obtain⟨h1,h2⟩:=mU d e hd hw
 have h3:=oJ hns d e hw
 have h4:(AL e:Int)≤24:=by omega
 refine ah.bl aa Tryz.func124 rfl (by kernel_rfl) (by simp[Tryz.ntmps124]) rfl fun C hC hC0=>?_
 rw[Tryz.ntmps124] at hC
 refine T.seq (T.go' aa ?_)
 simp[hC]
 refine T.seq (T.go' aa ?_)
 simp[hC]
 refine TL.call (by simp[hC]) rfl rfl (aI.of rfl (by first | rfl | simp only[List.append_nil,trees,tree,ag,Bool.and_self]) (h3)) (TL.go' aa ?_)
 simp[hC]
 refine TL.bT (by simp[hC]) rfl rfl rfl rfl (aI.of rfl (by first | rfl | simp only[List.append_nil,trees,tree,ag,Bool.and_self]) (h2)) (TL.go' aa ?_)
 simp[hC,h4]
 refine T.ret ?_
 refine ae.here ?_
 simp[Tryz.results124]
end Go.Proofs.YtmnglemlimfpbaaGreat
