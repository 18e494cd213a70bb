/- text of expressions of the right form; refText, argsText. -/
import Derived.Test.YtmnglemlimfpbaaGreatZ31
import Derived.Test.YtmnglemlimfpbaaGreatZ32
namespace Go.Proofs.YtmnglemlimfpbaaGreat
open Go.Can Go.bg
theorem kL {ns:List ByteArray}(hns:∀ s∈ns,cY s){d:Nat}{e:Ex}(hd:d≤5)(hw:fp ns d e):(ij e).size≤100000:=by
 have h:=(bR.ex hns d e hw).1
 rw[kq] at h
 have:qw d≤187:=by
  match d,hd with
  | 0,_=>decide
  | 1,_=>decide
  | 2,_=>decide
  | 3,_=>decide
  | 4,_=>decide
  | 5,_=>decide
 omega
theorem mM {ns:List ByteArray}(hns:∀ s∈ns,cY s):∀ (d:Nat) (e:Ex),d≤5→fp ns d e→ah Tryz.prog 154 [.agg (bB e)] (.str (ij e))
 | _,.num n,_,hw=>mL (.num n) [] rfl (fD hw) (by simp[Ex.args]) _ (by simp[Ex.args]) (.inl ⟨n,rfl,by simpa [fp] using hw,rfl⟩)
 | _,.nm s,_,hw=>mL (.nm s) [] rfl (fD hw) (by simp[Ex.args]) _ (by simp[Ex.args]) (.inr (.inl ⟨s,rfl,rfl⟩))
 | d+1,.un k x,hd,hw=>by
  have hw':=hw
  simp only[fp] at hw'
  refine mL (.un k x) [rH (.un k x) x 0] rfl (fD hw) (by simp[Ex.args]) _ ?_ (.inr (.inr (.inl ⟨k,x,rfl,hw'.1,?_⟩)))
  ·intro i y hy
   match i with
   | 0=>
    simp only[Ex.args,List.getElem?_cons_zero,Option.some.injEq] at hy
    subst hy
    exact⟨fD hw'.2,mM hns d _ (by omega) hw'.2,kL hns (by omega) hw'.2,rfl⟩
   | i+1=>simp[Ex.args] at hy
  ·have h5:(Ex.un k x).st=5:=(by decide:∀ k,k<2→lZ (3+k)=5) k hw'.1
   simp only[ij,List.getD_cons_zero,rH,nW,h5]
   simp
 | d+1,.bin k a b,hd,hw=>by
  have hw':=hw
  simp only[fp] at hw'
  refine mL (.bin k a b) [rH (.bin k a b) a 0,rH (.bin k a b) b 1] rfl (fD hw) (by simp[Ex.args]) _ ?_ (.inr (.inr (.inr ⟨k,a,b,rfl,hw'.1,?_⟩)))
  ·intro i y hy
   match i with
   | 0=>
    simp only[Ex.args,List.getElem?_cons_zero,Option.some.injEq] at hy
    subst hy
    exact⟨fD hw'.2.1,mM hns d _ (by omega) hw'.2.1,kL hns (by omega) hw'.2.1,rfl⟩
   | 1=>
    simp only[Ex.args,List.getElem?_cons_succ,List.getElem?_cons_zero,Option.some.injEq] at hy
    subst hy
    exact⟨fD hw'.2.2,mM hns d _ (by omega) hw'.2.2,kL hns (by omega) hw'.2.2,rfl⟩
   | i+2=>simp[Ex.args] at hy
  ·have hle:(decide (b.st<lZ (5+k)) || (decide (b.st=lZ (5+k)) && true))=decide (b.st≤lZ (5+k)):=by
    rw[Bool.eq_iff_iff]
    simp
    omega
   have hst:(Ex.bin k a b).st=lZ (5+k):=rfl
   simp only[ij,List.getD_cons_zero,List.getD_cons_succ,rH,nW,hst,decide_true,hle]
   simp
 | 0,.un _ _,_,h=>h.elim
 | 0,.bin _ _ _,_,h=>h.elim
 | 0,.zero,_,h=>h.elim
 | 0,.loc _,_,h=>h.elim
 | 0,.jv _,_,h=>h.elim
 | _+1,.zero,_,h=>h.elim
 | _+1,.loc _,_,h=>h.elim
 | _+1,.jv _,_,h=>h.elim
def I7 (e:Ex):Prop:=ah Tryz.prog 154 [.agg (bB e)] (.str (ij e))∧(ij e).size≤100000
def I6 (r:Rf):Prop:=r.name.size≤100∧∀ e,r.index=some e→I7 e
theorem xD {r:Rf}(h:I6 r):(zq r).size≤100200:=by
 obtain⟨nm,ix⟩:=r
 cases ix with
 | none=>exact Nat.le_trans h.1 (by omega)
 | some e=>
  have h1:=h.1
  have h2:=(h.2 e rfl).2
  have q1:(⟨#[91]⟩:ByteArray).size=1:=rfl
  have q2:(⟨#[93]⟩:ByteArray).size=1:=rfl
  simp only[zq,ByteArray.size_append]
  simp only at h1
  omega
theorem nK (r:Rf)(h:I6 r):ah Tryz.prog 156 [.agg (j3 r)] (.str (zq r)):=by
 obtain⟨nm,ix⟩:=r
 have hnm:=h.1
 simp only at hnm
 refine ah.bl aa Tryz.func156 rfl (by kernel_rfl) (by simp[Tryz.ntmps156]) rfl fun C hC hC0=>?_
 rw[Tryz.ntmps156] at hC
 cases ix with
 | none=>
  refine T.seq (T.go' aa ?_)
  simp[hC,j3,nu]
  refine T.seq (T.seq (T.go' aa ?_))
  simp[hC]
  refine T.cond (b:=true) rfl ?_
  simp
  refine T.seq (T.go' aa ?_)
  simp[hC]
  refine T.ret ?_
  refine ae.here ?_
  simp[Tryz.results156,zq]
 | some e=>
  obtain⟨h1,h2⟩:=h.2 e rfl
  have q1:(⟨#[91]⟩:ByteArray).size=1:=rfl
  have q2:(⟨#[93]⟩:ByteArray).size=1:=rfl
  have s1:=av nm ⟨#[91]⟩ (by omega)
  have s2:=av (nm++⟨#[91]⟩) (ij e) (by rw[ByteArray.size_append];omega)
  have s3:=av (nm++⟨#[91]⟩++ij e) ⟨#[93]⟩ (by rw[ByteArray.size_append,ByteArray.size_append];omega)
  refine T.seq (T.go' aa ?_)
  simp[hC,j3,nu]
  refine T.seq (T.seq (T.go' aa ?_))
  simp[hC]
  refine T.cond (b:=false) rfl ?_
  simp
  refine T.skip ?_
  simp
  refine T.seq ?_
  refine T.rx aa follows [0,1,2,3,4,5,6,7,8,9,10] [(1,7)] (by kernel_rfl) ?_
  simp[hC,s1,bA]
  refine RX.call rfl (by simp) rfl rfl rfl (by first | rfl | simp only[List.append_nil,trees,tree,ag,Bool.and_self]) (h1) ?_
  simp[s2,s3]
  refine T.ret ?_
  refine ae.here ?_
  simp[Tryz.results156,zq]
def TxA (a:Ar):Prop:=match a with
 | .sr r=>I6 r
 | .exp e=>I7 e
theorem Fj {a:Ar}(h:TxA a):(J4 a).size≤100300:=by
 cases a with
 | sr r=>
  have:=xD h
  have q:(⟨#[109,117,116,101,120,32]⟩:ByteArray).size=6:=rfl
  simp only[J4,ByteArray.size_append]
  omega
 | exp e=>exact Nat.le_trans h.2 (by omega)
def J155 (al:List Ar)(X:ByteArray)(n:Nat)(s:St):Prop:=∃ (i:Nat) (x:ByteArray),n=al.length-i∧i≤al.length∧x++tj (decide (i=0)) (al.drop i)=X∧x.size≤1+100400*i∧s=⟨[(4,I i),(3,.str x),(0,.ax (al.flatMap ni) al.length)],[],0⟩
theorem qC (al:List Ar)(hl:al.length≤1000)(h:∀ a∈al,TxA a):ah Tryz.prog 155 [.ax (al.flatMap ni) al.length] (.str (qO al)):=by
 have hafl:=fun (k:Nat) (a:Ar) (h:al[k]? = some a)=>aV (f:=ni) (n:=7) rA (m:=al) h
 obtain⟨X,hX⟩:∃ X,(⟨#[40]⟩:ByteArray)++tj true al=X:=⟨_,rfl⟩
 unfold qO
 rw[hX]
 have q40:(⟨#[40]⟩:ByteArray).size=1:=rfl
 have q41:(⟨#[41]⟩:ByteArray).size=1:=rfl
 have q44:(⟨#[44,32]⟩:ByteArray).size=2:=rfl
 have qm:(⟨#[109,117,116,101,120,32]⟩:ByteArray).size=6:=rfl
 refine ah.bl aa Tryz.func155 rfl (by kernel_rfl) (by simp[Tryz.ntmps155]) rfl fun C hC hC0=>?_
 rw[Tryz.ntmps155] at hC
 refine T.seq (T.go' aa ?_)
 simp[hC]
 refine T.seq (T.go' aa ?_)
 simp[hC]
 refine T.seq (T.seq (T.go' aa ?_))
 simp[hC]
 refine T.block ?_
 refine T.aS (J155 al X) (n:=al.length) ?_ ?_
 ·refine ae.le (Le.env [4,3,0]) (ae.here ⟨0,⟨#[40]⟩,by omega,by omega,by simpa using hX,by omega,?_⟩)
  simp
 ·rintro n s ⟨i,x,rfl,hil,hx,hxs,rfl⟩
  by_cases hi:i<al.length
  ·obtain⟨a,hia⟩:∃ a,al[i]? = some a:=⟨al[i],List.getElem?_eq_getElem hi⟩
   have hadr:=hafl i a hia
   have hao:=h a (List.mem_of_getElem? hia)
   have hasz:=Fj hao
   have wi:=db ((i:Int)+1) (by omega) (by omega)
   have hd:al.drop i=a::al.drop (i+1):=by
    rw[List.drop_eq_getElem_cons hi,(List.getElem?_eq_some_iff.1 hia).2]
   rw[hd,tj] at hx
   refine T.seq (T.seq (T.go' aa ?_))
   simp[hC,hi]
   refine T.cond (b:=true) rfl (T.skip ?_)
   simp
   refine T.seq (T.block ?_)
   obtain⟨y,hy⟩:∃ y,x++(if decide (i=0)=true then (⟨#[]⟩:ByteArray) else ⟨#[44,32]⟩)=y:=⟨_,rfl⟩
   have hys:y.size≤x.size+2:=by
    rw[← hy,ByteArray.size_append]
    split
    ·show x.size+0≤_
     omega
    ·omega
   rw[ByteArray.append_assoc,← ByteArray.append_assoc,hy] at hx
   refine T.cut (fun s=>s=⟨[(4,I i),(3,.str y),(0,.ax (al.flatMap ni) al.length)],[],0⟩) ?_ ?_
   ·refine T.seq (T.go' aa ?_)
    simp[hC]
    refine T.bf rfl (fun h=>?_) (fun h=>?_)
    ·have h0:¬ i=0:=by simp at h;omega
     have so:=av x ⟨#[44,32]⟩ (by omega)
     simp only[h0,decide_false,Bool.false_eq_true,if_false] at hy
     refine T.go' aa ?_
     simp[hC,so]
     refine ae.trim [4,3,0] [] 0 (by simp) (by omega) ?_
     simp[hy]
    ·have h0:i=0:=by simp at h;omega
     simp only[h0,decide_true,if_true] at hy
     have hxy:x=y:=by rw[← hy];exact (ByteArray.append_empty (b:=x)).symm
     refine T.skip ?_
     simp
     refine ae.trim [4,3,0] [] 0 (by simp) (by omega) ?_
     simp[hxy]
   rintro s rfl
   cases a with
   | sr r=>
    have hcr:=nK r hao
    have hrs:=xD hao
    obtain⟨rn,ri⟩:=r
    obtain⟨q1,q2,hq⟩:∃ cs n,nu ri=.ax cs n:=by cases ri<;>exact⟨_,_,rfl⟩
    simp only[j3,hq] at hcr
    simp only[ni,bB,j3,hq,List.cons_append,List.nil_append] at hadr
    have s1:=av y ⟨#[109,117,116,101,120,32]⟩ (by omega)
    have s2:=av (y++⟨#[109,117,116,101,120,32]⟩) (zq ⟨rn,ri⟩) (by rw[ByteArray.size_append];omega)
    refine T.seq (T.go' aa ?_)
    simp[hC,hi,hadr]
    refine T.cond (b:=true) rfl ?_
    simp
    refine T.go' aa ?_
    simp[hC,hi,hadr,s1]
    refine TL.call (by simp[hC]) rfl rfl (aI.of rfl (by first | rfl | simp only[List.cons_append,List.nil_append,List.append_nil,trees,tree,ag,ak,Bool.and_self,Bool.and_true,Bool.true_and]) (hcr)) (TL.go' aa ?_)
    simp[hC,s2]
    refine T.go' aa ?_
    simp[hC,wi]
    refine⟨al.length-(i+1),by omega,?_⟩
    refine ae.trim [4,3,0] [] 0 (by simp) (by omega) ⟨i+1,y++⟨#[109,117,116,101,120,32]⟩++zq ⟨rn,ri⟩,rfl,by omega,?_,?_,?_⟩
    ·rw[← hx]
     simp[J4,ByteArray.append_assoc]
    ·rw[ByteArray.size_append,ByteArray.size_append];omega
    ·simp
   | exp e=>
    have hcr:=hao.1
    have hrs:=hao.2
    rw[bP e] at hcr
    simp only[ni,bP e,j5,List.cons_append,List.nil_append] at hadr
    have s1:=av y (ij e) (by omega)
    refine T.seq (T.go' aa ?_)
    simp[hC,hi,hadr]
    refine T.cond (b:=false) rfl ?_
    simp
    refine T.go' aa ?_
    simp[hC,hi,hadr]
    refine TL.call (by simp[hC]) rfl rfl (aI.of rfl (by first | rfl | simp only[List.cons_append,List.nil_append,List.append_nil,trees,tree,ag,ak,Bool.and_self,Bool.and_true,Bool.true_and]) (hcr)) (TL.go' aa ?_)
    simp[hC,s1]
    refine T.go' aa ?_
    simp[hC,wi]
    refine⟨al.length-(i+1),by omega,?_⟩
    refine ae.trim [4,3,0] [] 0 (by simp) (by omega) ⟨i+1,y++ij e,rfl,by omega,?_,?_,?_⟩
    ·rw[← hx]
     simp[J4,ByteArray.append_assoc]
    ·rw[ByteArray.size_append];omega
    ·simp
  ·have hie:i=al.length:=by omega
   rw[hie,List.drop_length,tj] at hx
   have hxX:x=X:=by rw[← hx];exact (ByteArray.append_empty (b:=x)).symm
   subst hxX
   have so:=av x ⟨#[41]⟩ (by omega)
   refine T.seq (T.seq (T.go' aa ?_))
   simp[hC,hi]
   refine T.cond (b:=false) rfl ?_
   simp
   refine T.exit ?_
   simp
   refine T.seq (T.go' aa ?_)
   simp[hC,so]
   refine T.ret ?_
   refine ae.here ?_
   simp[Tryz.results155]
end Go.Proofs.YtmnglemlimfpbaaGreat
