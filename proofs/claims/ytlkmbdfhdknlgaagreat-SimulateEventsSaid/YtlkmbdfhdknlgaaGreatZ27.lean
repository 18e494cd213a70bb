/- text of expressions of the -/
import Derived.Test.YtlkmbdfhdknlgaaGreatZ26
namespace Go.Proofs.YtlkmbdfhdknlgaaGreat
open Go.Can Go.aJ List Tryz
theorem mL {ns:List ByteArray}(UI:∀ s∈ns,dF s){d:Nat}{e:Ex}(hd:d<=5)(hw:gu ns d e):(jn e).size<=100000:=by
 have h:=(ck.ex UI d e hw).1;rw[me] at h;have:DP d<=187:=by
  match d,hd with
  | 0,_=>decide
  | 1,_=>decide
  | 2,_=>decide
  | 3,_=>decide
  | 4,_=>decide
  | 5,_=>decide
 omega
theorem pz {ns:List ByteArray}(UI:∀ s∈ns,dF s):∀ (d:Nat) (e:Ex),d<=5->gu ns d e->ae prog 193 [.agg (bf e)] (.str (jn e))
 | _,.num n,_,hw=>py (.num n) [] rfl (gK hw) Vm _ Vm (.inl ⟨n,rfl,by simpa [gu] using hw,rfl⟩)
 | _,.nm s,_,hw=>py (.nm s) [] rfl (gK hw) Vm _ Vm (.inr (.inl ⟨s,rfl,rfl⟩))
 | d+1,.un k x,hd,hw=>by
  have SC:=hw;simp only[gu] at SC;refine py (.un k x) [wv (.un k x) x 0] rfl (gK hw) Vm _ ?_ (.inr (.inr (.inl ⟨k,x,rfl,SC.1,?_⟩)))
  ·intro i y hy
   match i with
   | 0=>
    simp only[Ex.args,getElem?_cons_zero,Option.some.injEq] at hy;subst hy;exact⟨gK SC.2,pz UI d _ yA SC.2,mL UI yA SC.2,rfl⟩
   | i+1=>simp[Ex.args] at hy
  ·have h5:(Ex.un k x).st=5:=(by decide:∀ k,k<2->oC (3+k)=5) k SC.1;simp only[jn,getD_cons_zero,wv,qD,h5];simp
 | d+1,.bin k a b,hd,hw=>by
  have SC:=hw;simp only[gu] at SC;refine py (.bin k a b) [wv (.bin k a b) a 0,wv (.bin k a b) b 1] rfl (gK hw) Vm _ ?_ (.inr (.inr (.inr ⟨k,a,b,rfl,SC.1,?_⟩)))
  ·intro i y hy
   match i with
   | 0=>
    simp only[Ex.args,getElem?_cons_zero,Option.some.injEq] at hy;subst hy;exact⟨gK SC.2.1,pz UI d _ yA SC.2.1,mL UI yA SC.2.1,rfl⟩
   | 1=>
    simp only[Ex.args,getElem?_cons_succ,getElem?_cons_zero,Option.some.injEq] at hy;subst hy;exact⟨gK SC.2.2,pz UI d _ yA SC.2.2,mL UI yA SC.2.2,rfl⟩
   | i+2=>simp[Ex.args] at hy
  ·have hle:(decide (b.st<oC (5+k)) || (decide (b.st=oC (5+k)) && true))=decide (b.st<=oC (5+k)):=by
    rw[Bool.eq_iff_iff];simp;omega
   have RW:(Ex.bin k a b).st=oC (5+k):=rfl;simp only[jn,getD_cons_zero,getD_cons_succ,wv,qD,RW,decide_true,hle];simp
 | 0,.un _ _,_,h=>h.elim
 | 0,.bin _ _ _,_,h=>h.elim
 | 0,.zero,_,h=>h.elim
 | 0,.loc _,_,h=>h.elim
 | 0,.jk _,_,h=>h.elim
 | _+1,.zero,_,h=>h.elim
 | _+1,.loc _,_,h=>h.elim
 | _+1,.jk _,_,h=>h.elim
def QI (e:Ex):Prop:=ae prog 193 [.agg (bf e)] (.str (jn e))/\(jn e).size<=100000
def QH (r:Rf):Prop:=r.name.size<=100/\∀ e,r.index=some e->QI e
theorem B5 {r:Rf}(h:QH r):(Eg r).size<=100200:=by
 obtain⟨nm,ix⟩:=r
 cases ix with
 | none=>exact Nat.le_trans h.1 yA
 | some e=>
  have h1:=h.1;have h2:=(h.2 e rfl).2;have q1:(⟨#[91]⟩:ByteArray).size=1:=rfl;have q2:(⟨#[93]⟩:ByteArray).size=1:=rfl;simp only[Eg,ByteArray.size_append];simp only at h1;omega
theorem qw (r:Rf)(h:QH r):ae prog 195 [.agg (lN r)] (.str (Eg r)):=by
 obtain⟨nm,ix⟩:=r;have SW:=h.1;simp only at SW;refine ae.aE ah Tryz.func195 rfl Ix (by simp[Tryz.ntmps195]) rfl λ C hC RR=>?_;rw[Tryz.ntmps195] at hC
 cases ix with
 | none=>
  apply aq;simp[hC,lN,oc];apply aW;simp[hC];refine dy ?_;simp;apply aq;simp[hC];apply T.ret;apply aa.here;simp[Tryz.results195,Eg]
 | some e=>
  obtain⟨h1,h2⟩:=h.2 e rfl;have q1:(⟨#[91]⟩:ByteArray).size=1:=rfl;have q2:(⟨#[93]⟩:ByteArray).size=1:=rfl;have s1:=aA nm ⟨#[91]⟩ yA;have s2:=aA (nm++⟨#[91]⟩) (jn e) (by rw[ByteArray.size_append];omega);have s3:=aA (nm++⟨#[91]⟩++jn e) ⟨#[93]⟩ (by rw[ByteArray.size_append,ByteArray.size_append];omega);apply aq;simp[hC,lN,oc];apply aW;simp[hC];refine a9 ?_;simp;apply T.skip;simp;apply T.seq;refine T.rx ah follows [0,1,2,3,4,5,6,7,8,9,10] [(1,7)] Ix ?_;simp[hC,s1,bA];refine RX.call rfl xr rfl rfl rfl ZH (h1) ?_;simp[s2,s3];apply T.ret;apply aa.here;simp[Tryz.results195,Eg]
def TxA (a:Ar):Prop:=match a with
 | .xf r=>QH r
 | .exp e=>QI e
theorem Lt {a:Ar}(h:TxA a):(RM a).size<=100300:=by
 cases a with
 | xf r=>
  have:=B5 h;have q:(⟨#[109,117,116,101,120,32]⟩:ByteArray).size=6:=rfl;simp only[RM,ByteArray.size_append];omega
 | exp e=>exact Nat.le_trans h.2 yA
def J155 (al:List Ar)(X:ByteArray)(n:Nat)(s:St):Prop:=∃ (i:Nat) (x:ByteArray),n=al.length-i/\i<=al.length/\x++yb (decide (i=0)) (al.drop i)=X/\x.size<=1+100400*i/\s=⟨[(4,I i),(3,.str x),(0,.ax (al.flatMap qc) al.length)],[],0⟩
theorem u9 (al:List Ar)(hl:al.length<=1000)(h:∀ a∈al,TxA a):ae prog 194 [.ax (al.flatMap qc) al.length] (.str (vw al)):=by
 have Y0:=λ (k:Nat) (a:Ar) (h:al[k]? = some a)=>aI (f:=qc) (n:=7) vV (m:=al) h;obtain⟨X,hX⟩:∃ X,(⟨#[40]⟩:ByteArray)++yb true al=X:=⟨_,rfl⟩;unfold vw;rw[hX];have q40:(⟨#[40]⟩:ByteArray).size=1:=rfl;have q41:(⟨#[41]⟩:ByteArray).size=1:=rfl;have q44:(⟨#[44,32]⟩:ByteArray).size=2:=rfl;have qm:(⟨#[109,117,116,101,120,32]⟩:ByteArray).size=6:=rfl;refine ae.aE ah Tryz.func194 rfl Ix (by simp[Tryz.ntmps194]) rfl λ C hC RR=>?_;rw[Tryz.ntmps194] at hC;apply aq;simp[hC];apply aq;simp[hC];apply aW;simp[hC];apply T.block;refine T.aH (J155 al X) (n:=al.length) ?_ ?_
 ·refine aa.le (Le.env [4,3,0]) (aa.here ⟨0,⟨#[40]⟩,by omega,by omega,by simpa using hX,by omega,?_⟩);simp
 ·rintro n s ⟨i,x,rfl,Og,hx,hxs,rfl⟩;by_cases hi:i<al.length
  ·obtain⟨a,SH⟩:∃ a,al[i]? = some a:=⟨al[i],getElem?_eq_getElem hi⟩;have Tu:=Y0 i a SH;have Ty:=h a (mem_of_getElem? SH);have hasz:=Lt Ty;have wi:=cF ((i:Int)+1) yA yA;have hd:al.drop i=a::al.drop (i+1):=by
    rw[drop_eq_getElem_cons hi,(List.getElem?_eq_some_iff.1 SH).2]
   rw[hd,yb] at hx;apply aW;simp[hC,hi];refine gw ?_;simp;apply eN;obtain⟨y,hy⟩:∃ y,x++(if decide (i=0)=true then (⟨#[]⟩:ByteArray) else ⟨#[44,32]⟩)=y:=⟨_,rfl⟩;have hys:y.size<=x.size+2:=by
    rw[<- hy,ByteArray.size_append];split
    ·show x.size+0<=_;omega
    ·omega
   rw[ByteArray.append_assoc,<- ByteArray.append_assoc,hy] at hx;refine T.cut (λ s=>s=⟨[(4,I i),(3,.str y),(0,.ax (al.flatMap qc) al.length)],[],0⟩) ?_ ?_
   ·apply aq;simp[hC];refine T.bu rfl (λ h=>?_) (λ h=>?_)
    ·have h0:¬ i=0:=by simp at h;omega
     have so:=aA x ⟨#[44,32]⟩ yA;simp only[h0,decide_false,Bool.false_eq_true,if_false] at hy;apply aN;simp[hC,so];refine aa.trim [4,3,0] [] 0 xr yA ?_;simp[hy]
    ·have h0:i=0:=by simp at h;omega
     simp only[h0,decide_true,if_true] at hy;have UN:x=y:=by rw[<- hy];exact (ByteArray.append_empty (b:=x)).symm
     apply T.skip;simp;refine aa.trim [4,3,0] [] 0 xr yA ?_;simp[UN]
   rintro s rfl
   cases a with
   | xf r=>
    have Uq:=qw r Ty;have hrs:=B5 Ty;obtain⟨rn,ri⟩:=r;obtain⟨q1,q2,hq⟩:∃ cs n,oc ri=.ax cs n:=by cases ri<;>exact⟨_,_,rfl⟩
    simp only[lN,hq] at Uq;simp only[qc,bf,lN,hq,cons_append,nil_append] at Tu;have s1:=aA y ⟨#[109,117,116,101,120,32]⟩ yA;have s2:=aA (y++⟨#[109,117,116,101,120,32]⟩) (Eg ⟨rn,ri⟩) (by rw[ByteArray.size_append];omega);apply aq;simp[hC,hi,Tu];refine dy ?_;simp;apply aN;simp[hC,hi,Tu,s1];refine cX R2 (Uq) ?_;simp[hC,s2];apply aN;simp[hC,wi];refine⟨al.length-(i+1),by omega,?_⟩;refine aa.trim [4,3,0] [] 0 xr yA ⟨i+1,y++⟨#[109,117,116,101,120,32]⟩++Eg ⟨rn,ri⟩,rfl,by omega,?_,?_,?_⟩
    ·rw[<- hx];simp[RM,ByteArray.append_assoc]
    ·rw[ByteArray.size_append,ByteArray.size_append];omega
    ·simp
   | exp e=>
    have Uq:=Ty.1;have hrs:=Ty.2;rw[bW e] at Uq;simp only[qc,bW e,lP,cons_append,nil_append] at Tu;have s1:=aA y (jn e) yA;apply aq;simp[hC,hi,Tu];refine a9 ?_;simp;apply aN;simp[hC,hi,Tu];refine cX R2 (Uq) ?_;simp[hC,s1];apply aN;simp[hC,wi];refine⟨al.length-(i+1),by omega,?_⟩;refine aa.trim [4,3,0] [] 0 xr yA ⟨i+1,y++jn e,rfl,by omega,?_,?_,?_⟩
    ·rw[<- hx];simp[RM,ByteArray.append_assoc]
    ·rw[ByteArray.size_append];omega
    ·simp
  ·have RU:i=al.length:=by omega
   rw[RU,drop_length,yb] at hx;have hxX:x=X:=by rw[<- hx];exact (ByteArray.append_empty (b:=x)).symm
   subst hxX;have so:=aA x ⟨#[41]⟩ yA;apply aW;simp[hC,hi];refine a9 ?_;simp;apply T.exit;simp;apply aq;simp[hC,so];apply T.ret;apply aa.here;simp[Tryz.results194]
end Go.Proofs.YtlkmbdfhdknlgaaGreat
