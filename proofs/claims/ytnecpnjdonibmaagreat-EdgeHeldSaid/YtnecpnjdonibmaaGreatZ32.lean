/- text of expressions of the right form; refText, argsText. -/
import Derived.Test.YtnecpnjdonibmaaGreatZ31
namespace Go.Proofs.YtnecpnjdonibmaaGreat
open Go.Can Go.aP
theorem lX {ns:List ByteArray}(RL:∀ s∈ns,dn s){d:Nat}{e:Ex}(hd:d≤5)(hw:fS ns d e):(iY e).size≤100000:=by
 have h:=(cb.ex RL d e hw).1;rw[lC] at h;have:B1 d≤187:=by
  match d,hd with
  | 0,_=>decide
  | 1,_=>decide
  | 2,_=>decide
  | 3,_=>decide
  | 4,_=>decide
  | 5,_=>decide
 omega
theorem oC {ns:List ByteArray}(RL:∀ s∈ns,dn s):∀ (d:Nat) (e:Ex),d≤5→fS ns d e→af Tryz.prog 309 [.agg (bR e)] (.str (iY e))
 | _,.num n,_,hw=>oB (.num n) [] rfl (gr hw) Sj _ Sj (.inl ⟨n,rfl,by simpa [fS] using hw,rfl⟩)
 | _,.nm s,_,hw=>oB (.nm s) [] rfl (gr hw) Sj _ Sj (.inr (.inl ⟨s,rfl,rfl⟩))
 | d+1,.un k x,hd,hw=>by
  have PN:=hw;simp only[fS] at PN;refine oB (.un k x) [uO (.un k x) x 0] rfl (gr hw) Sj _ ?_ (.inr (.inr (.inl ⟨k,x,rfl,PN.1,?_⟩)))
  ·intro i y hy
   match i with
   | 0=>
    simp only[Ex.args,List.getElem?_cons_zero,Option.some.injEq] at hy;subst hy;exact⟨gr PN.2,oC RL d _ yA PN.2,lX RL yA PN.2,rfl⟩
   | i+1=>simp[Ex.args] at hy
  ·have h5:(Ex.un k x).st=5:=(by decide:∀ k,k<2→nC (3+k)=5) k PN.1;simp only[iY,List.getD_cons_zero,uO,pT,h5];simp
 | d+1,.bin k a b,hd,hw=>by
  have PN:=hw;simp only[fS] at PN;refine oB (.bin k a b) [uO (.bin k a b) a 0,uO (.bin k a b) b 1] rfl (gr hw) Sj _ ?_ (.inr (.inr (.inr ⟨k,a,b,rfl,PN.1,?_⟩)))
  ·intro i y hy
   match i with
   | 0=>
    simp only[Ex.args,List.getElem?_cons_zero,Option.some.injEq] at hy;subst hy;exact⟨gr PN.2.1,oC RL d _ yA PN.2.1,lX RL yA PN.2.1,rfl⟩
   | 1=>
    simp only[Ex.args,List.getElem?_cons_succ,List.getElem?_cons_zero,Option.some.injEq] at hy;subst hy;exact⟨gr PN.2.2,oC RL d _ yA PN.2.2,lX RL yA PN.2.2,rfl⟩
   | i+2=>simp[Ex.args] at hy
  ·have hle:(decide (b.st<nC (5+k)) || (decide (b.st=nC (5+k)) && true))=decide (b.st≤nC (5+k)):=by
    rw[Bool.eq_iff_iff];simp;omega
   have Pw:(Ex.bin k a b).st=nC (5+k):=rfl;simp only[iY,List.getD_cons_zero,List.getD_cons_succ,uO,pT,Pw,decide_true,hle];simp
 | 0,.un _ _,_,h=>h.elim
 | 0,.bin _ _ _,_,h=>h.elim
 | 0,.zero,_,h=>h.elim
 | 0,.loc _,_,h=>h.elim
 | 0,.ke _,_,h=>h.elim
 | _+1,.zero,_,h=>h.elim
 | _+1,.loc _,_,h=>h.elim
 | _+1,.ke _,_,h=>h.elim
def NQ (e:Ex):Prop:=af Tryz.prog 309 [.agg (bR e)] (.str (iY e))∧(iY e).size≤100000
def NO (r:Rf):Prop:=r.name.size≤100∧∀ e,r.index=some e→NQ e
theorem AB {r:Rf}(h:NO r):(Cq r).size≤100200:=by
 obtain⟨nm,ix⟩:=r
 cases ix with
 | none=>exact Nat.le_trans h.1 yA
 | some e=>
  have h1:=h.1;have h2:=(h.2 e rfl).2;have q1:(⟨#[91]⟩:ByteArray).size=1:=rfl;have q2:(⟨#[93]⟩:ByteArray).size=1:=rfl;simp only[Cq,ByteArray.size_append];simp only at h1;omega
theorem pK (r:Rf)(h:NO r):af Tryz.prog 311 [.agg (kY r)] (.str (Cq r)):=by
 obtain⟨nm,ix⟩:=r;have P2:=h.1;simp only at P2;refine af.aK ai Tryz.func311 rfl OV (by simp[Tryz.ntmps311]) rfl fun C hC O0=>?_;rw[Tryz.ntmps311] at hC
 cases ix with
 | none=>
  apply aq;simp[hC,kY,pv];apply aO;simp[hC];refine fE ?_;simp;apply aq;simp[hC];apply T.ret;apply ae.here;simp[Tryz.results311,Cq]
 | some e=>
  obtain⟨h1,h2⟩:=h.2 e rfl;have q1:(⟨#[91]⟩:ByteArray).size=1:=rfl;have q2:(⟨#[93]⟩:ByteArray).size=1:=rfl;have s1:=aB nm ⟨#[91]⟩ yA;have s2:=aB (nm++⟨#[91]⟩) (iY e) (by rw[ByteArray.size_append];omega);have s3:=aB (nm++⟨#[91]⟩++iY e) ⟨#[93]⟩ (by rw[ByteArray.size_append,ByteArray.size_append];omega);apply aq;simp[hC,kY,pv];apply aO;simp[hC];refine a7 ?_;simp;apply T.skip;simp;apply T.seq;refine T.rx ai follows [0,1,2,3,4,5,6,7,8,9,10] [(1,7)] OV ?_;simp[hC,s1,bP];refine RX.call rfl OU rfl rfl rfl WC (h1) ?_;simp[s2,s3];apply T.ret;apply ae.here;simp[Tryz.results311,Cq]
def TxA (a:Ar):Prop:=match a with
 | .vm r=>NO r
 | .exp e=>NQ e
theorem Jw {a:Ar}(h:TxA a):(OS a).size≤100300:=by
 cases a with
 | vm r=>
  have:=AB h;have q:(⟨#[109,117,116,101,120,32]⟩:ByteArray).size=6:=rfl;simp only[OS,ByteArray.size_append];omega
 | exp e=>exact Nat.le_trans h.2 yA
def J155 (al:List Ar)(X:ByteArray)(n:Nat)(s:St):Prop:=∃ (i:Nat) (x:ByteArray),n=al.length-i∧i≤al.length∧x++wv (decide (i=0)) (al.drop i)=X∧x.size≤1+100400*i∧s=⟨[(4,I i),(3,.str x),(0,.aA (al.flatMap pe) al.length)],[],0⟩
theorem tf (al:List Ar)(hl:al.length≤1000)(h:∀ a∈al,TxA a):af Tryz.prog 310 [.aA (al.flatMap pe) al.length] (.str (tM al)):=by
 have V5:=fun (k:Nat) (a:Ar) (h:al[k]? = some a)=>aN (f:=pe) (n:=7) uE (m:=al) h;obtain⟨X,hX⟩:∃ X,(⟨#[40]⟩:ByteArray)++wv true al=X:=⟨_,rfl⟩;unfold tM;rw[hX];have q40:(⟨#[40]⟩:ByteArray).size=1:=rfl;have q41:(⟨#[41]⟩:ByteArray).size=1:=rfl;have q44:(⟨#[44,32]⟩:ByteArray).size=2:=rfl;have qm:(⟨#[109,117,116,101,120,32]⟩:ByteArray).size=6:=rfl;refine af.aK ai Tryz.func310 rfl OV (by simp[Tryz.ntmps310]) rfl fun C hC O0=>?_;rw[Tryz.ntmps310] at hC;apply aq;simp[hC];apply aq;simp[hC];apply aO;simp[hC];apply T.block;refine T.aH (J155 al X) (n:=al.length) ?_ ?_
 ·refine ae.le (Le.env [4,3,0]) (ae.here ⟨0,⟨#[40]⟩,by omega,by omega,by simpa using hX,by omega,?_⟩);simp
 ·rintro n s ⟨i,x,rfl,OX,hx,hxs,rfl⟩;by_cases hi:i<al.length
  ·obtain⟨a,PS⟩:∃ a,al[i]? = some a:=⟨al[i],List.getElem?_eq_getElem hi⟩;have QE:=V5 i a PS;have QI:=h a (List.mem_of_getElem? PS);have hasz:=Jw QI;have wi:=cC ((i:Int)+1) yA yA;have hd:al.drop i=a::al.drop (i+1):=by
    rw[List.drop_eq_getElem_cons hi,(List.getElem?_eq_some_iff.1 PS).2]
   rw[hd,wv] at hx;apply aO;simp[hC,hi];refine fB ?_;simp;apply ed;obtain⟨y,hy⟩:∃ y,x++(if decide (i=0)=true then (⟨#[]⟩:ByteArray) else ⟨#[44,32]⟩)=y:=⟨_,rfl⟩;have Ys:y.size≤x.size+2:=by
    rw[← hy,ByteArray.size_append];split
    ·show x.size+0≤_;omega
    ·omega
   rw[ByteArray.append_assoc,← ByteArray.append_assoc,hy] at hx;refine T.cut (fun s=>s=⟨[(4,I i),(3,.str y),(0,.aA (al.flatMap pe) al.length)],[],0⟩) ?_ ?_
   ·apply aq;simp[hC];refine T.bh rfl (fun h=>?_) (fun h=>?_)
    ·have h0:¬ i=0:=by simp at h;omega
     have so:=aB x ⟨#[44,32]⟩ yA;simp only[h0,decide_false,Bool.false_eq_true,if_false] at hy;apply aV;simp[hC,so];refine ae.trim [4,3,0] [] 0 OU yA ?_;simp[hy]
    ·have h0:i=0:=by simp at h;omega
     simp only[h0,decide_true,if_true] at hy;have QL:x=y:=by rw[← hy];exact (ByteArray.append_empty (b:=x)).symm
     apply T.skip;simp;refine ae.trim [4,3,0] [] 0 OU yA ?_;simp[QL]
   rintro s rfl
   cases a with
   | vm r=>
    have Ra:=pK r QI;have hrs:=AB QI;obtain⟨rn,ri⟩:=r;obtain⟨q1,q2,hq⟩:∃ cs n,pv ri=.aA cs n:=by cases ri<;>exact⟨_,_,rfl⟩
    simp only[kY,hq] at Ra;simp only[pe,bR,kY,hq,List.cons_append,List.nil_append] at QE;have s1:=aB y ⟨#[109,117,116,101,120,32]⟩ yA;have s2:=aB (y++⟨#[109,117,116,101,120,32]⟩) (Cq ⟨rn,ri⟩) (by rw[ByteArray.size_append];omega);apply aq;simp[hC,hi,QE];refine fE ?_;simp;apply aV;simp[hC,hi,QE,s1];refine dz Pc (Ra) ?_;simp[hC,s2];apply aV;simp[hC,wi];refine⟨al.length-(i+1),by omega,?_⟩;refine ae.trim [4,3,0] [] 0 OU yA ⟨i+1,y++⟨#[109,117,116,101,120,32]⟩++Cq ⟨rn,ri⟩,rfl,by omega,?_,?_,?_⟩
    ·rw[← hx];simp[OS,ByteArray.append_assoc]
    ·rw[ByteArray.size_append,ByteArray.size_append];omega
    ·simp
   | exp e=>
    have Ra:=QI.1;have hrs:=QI.2;rw[b9 e] at Ra;simp only[pe,b9 e,k8,List.cons_append,List.nil_append] at QE;have s1:=aB y (iY e) yA;apply aq;simp[hC,hi,QE];refine a7 ?_;simp;apply aV;simp[hC,hi,QE];refine dz Pc (Ra) ?_;simp[hC,s1];apply aV;simp[hC,wi];refine⟨al.length-(i+1),by omega,?_⟩;refine ae.trim [4,3,0] [] 0 OU yA ⟨i+1,y++iY e,rfl,by omega,?_,?_,?_⟩
    ·rw[← hx];simp[OS,ByteArray.append_assoc]
    ·rw[ByteArray.size_append];omega
    ·simp
  ·have O6:i=al.length:=by omega
   rw[O6,List.drop_length,wv] at hx;have hxX:x=X:=by rw[← hx];exact (ByteArray.append_empty (b:=x)).symm
   subst hxX;have so:=aB x ⟨#[41]⟩ yA;apply aO;simp[hC,hi];refine a7 ?_;simp;apply T.exit;simp;apply aq;simp[hC,so];apply T.ret;apply ae.here;simp[Tryz.results310]
end Go.Proofs.YtnecpnjdonibmaaGreat
