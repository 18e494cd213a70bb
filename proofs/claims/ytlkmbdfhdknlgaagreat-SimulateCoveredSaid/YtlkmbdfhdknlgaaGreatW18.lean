/- Lemmas. -/
import Derived.Test.YtlkmbdfhdknlgaaGreatW17
namespace Go.Proofs.YtlkmbdfhdknlgaaGreat
open Go.Can Go.aK List Tryz
theorem nh {ns:List ByteArray}(Vr:∀ s∈ns,dI s){d:Nat}{e:Ex}(hd:d<=5)(hw:gC ns d e):(jK e).size<=100000:=by
 have h:=(cu.ex Vr d e hw).1;rw[mK] at h;have:D4 d<=187:=by
  match d,hd with
  | 0,_=>decide
  | 1,_=>decide
  | 2,_=>decide
  | 3,_=>decide
  | 4,_=>decide
  | 5,_=>decide
 omega
theorem pS {ns:List ByteArray}(Vr:∀ s∈ns,dI s):∀ (d:Nat) (e:Ex),d<=5->gC ns d e->ae prog 193 [.agg (bf e)] (.str (jK e))
 | _,.num n,_,hw=>pQ (.num n) [] rfl (gO hw) V2 _ V2 (.inl ⟨n,rfl,by simpa [gC] using hw,rfl⟩)
 | _,.nm s,_,hw=>pQ (.nm s) [] rfl (gO hw) V2 _ V2 (.inr (.inl ⟨s,rfl,rfl⟩))
 | d+1,.un k x,hd,hw=>by
  have Tj:=hw;simp only[gC] at Tj;refine pQ (.un k x) [wV (.un k x) x 0] rfl (gO hw) V2 _ ?_ (.inr (.inr (.inl ⟨k,x,rfl,Tj.1,?_⟩)))
  .intro i y hy
   match i with
   | 0=>
    simp only[Ex.args,getElem?_cons_zero,Option.some.injEq] at hy;subst hy;exact⟨gO Tj.2,pS Vr d _ yA Tj.2,nh Vr yA Tj.2,rfl⟩
   | i+1=>simp[Ex.args] at hy
  .have h5:(Ex.un k x).st=5:=(by decide:∀ k,k<2->oW (3+k)=5) k Tj.1;simp only[jK,getD_cons_zero,wV,qZ,h5];simp
 | d+1,.bin k a b,hd,hw=>by
  have Tj:=hw;simp only[gC] at Tj;refine pQ (.bin k a b) [wV (.bin k a b) a 0,wV (.bin k a b) b 1] rfl (gO hw) V2 _ ?_ (.inr (.inr (.inr ⟨k,a,b,rfl,Tj.1,?_⟩)))
  .intro i y hy
   match i with
   | 0=>
    simp only[Ex.args,getElem?_cons_zero,Option.some.injEq] at hy;subst hy;exact⟨gO Tj.2.1,pS Vr d _ yA Tj.2.1,nh Vr yA Tj.2.1,rfl⟩
   | 1=>
    simp only[Ex.args,getElem?_cons_succ,getElem?_cons_zero,Option.some.injEq] at hy;subst hy;exact⟨gO Tj.2.2,pS Vr d _ yA Tj.2.2,nh Vr yA Tj.2.2,rfl⟩
   | i+2=>simp[Ex.args] at hy
  .have hle:(decide (b.st<oW (5+k)) || (decide (b.st=oW (5+k)) && true))=decide (b.st<=oW (5+k)):=by
    rw[Bool.eq_iff_iff];simp;omega
   have Sz:(Ex.bin k a b).st=oW (5+k):=rfl;simp only[jK,getD_cons_zero,getD_cons_succ,wV,qZ,Sz,decide_true,hle];simp
 | 0,.un _ _,_,h=>h.elim
 | 0,.bin _ _ _,_,h=>h.elim
 | 0,.zero,_,h=>h.elim
 | 0,.loc _,_,h=>h.elim
 | 0,.jE _,_,h=>h.elim
 | _+1,.zero,_,h=>h.elim
 | _+1,.loc _,_,h=>h.elim
 | _+1,.jE _,_,h=>h.elim
def Rk (e:Ex):Prop:=ae prog 193 [.agg (bf e)] (.str (jK e))/\(jK e).size<=100000
def Rj (r:Rf):Prop:=r.name.size<=100/\∀ e,r.index=some e->Rk e
theorem Ce {r:Rf}(h:Rj r):(EC r).size<=100200:=by
 obtain⟨nm,ix⟩:=r
 cases ix with
 | none=>exact Nat.le_trans h.1 yA
 | some e=>
  have h1:=h.1;have h2:=(h.2 e rfl).2;have q1:(⟨#[91]⟩:ByteArray).size=1:=rfl;have q2:(⟨#[93]⟩:ByteArray).size=1:=rfl;simp only[EC,ByteArray.size_append];simp only at h1;omega
theorem qQ (r:Rf)(h:Rj r):ae prog 195 [.agg (mh r)] (.str (EC r)):=by
 obtain⟨nm,ix⟩:=r;have Tu:=h.1;simp only at Tu;refine ae.aD af Tryz.func195 rfl Bw (by simp[Tryz.ntmps195]) rfl λ C hC M0=>?_;rw[Tryz.ntmps195] at hC
 cases ix with
 | none=>
  apply aq;simp[hC,mh,oL];apply aW;simp[hC];refine du ?_;simp;apply aq;simp[hC];apply T.ret;apply aa.here;simp[Tryz.results195,EC]
 | some e=>
  obtain⟨h1,h2⟩:=h.2 e rfl;have q1:(⟨#[91]⟩:ByteArray).size=1:=rfl;have q2:(⟨#[93]⟩:ByteArray).size=1:=rfl;have s1:=aB nm ⟨#[91]⟩ yA;have s2:=aB (nm++⟨#[91]⟩) (jK e) (by rw[ByteArray.size_append];omega);have s3:=aB (nm++⟨#[91]⟩++jK e) ⟨#[93]⟩ (by rw[ByteArray.size_append,ByteArray.size_append];omega);apply aq;simp[hC,mh,oL];apply aW;simp[hC];refine bg ?_;simp;apply T.skip;simp;apply T.seq;refine T.rx af follows [0,1,2,3,4,5,6,7,8,9,10] [(1,7)] Bw ?_;simp[hC,s1,bC];refine RX.call rfl xr rfl rfl rfl yBu (h1) ?_;simp[s2,s3];apply T.ret;apply aa.here;simp[Tryz.results195,EC]
def TxA (a:Ar):Prop:=match a with
 | .xF r=>Rj r
 | .exp e=>Rk e
theorem L5 {a:Ar}(h:TxA a):(Sq a).size<=100300:=by
 cases a with
 | xF r=>
  have:=Ce h;have q:(⟨#[109,117,116,101,120,32]⟩:ByteArray).size=6:=rfl;simp only[Sq,ByteArray.size_append];omega
 | exp e=>exact Nat.le_trans h.2 yA
def J155 (al:List Ar)(X:ByteArray)(n:Nat)(s:St):Prop:=∃ (i:Nat) (x:ByteArray),n=al.length-i/\i<=al.length/\x++yw (decide (i=0)) (al.drop i)=X/\x.size<=1+100400*i/\s=⟨[(4,I i),(3,.str x),(0,.az (al.flatMap qA) al.length)],[],0⟩
theorem vC (al:List Ar)(hl:al.length<=1000)(h:∀ a∈al,TxA a):ae prog 194 [.az (al.flatMap qA) al.length] (.str (vS al)):=by
 have ZG:=λ (k:Nat) (a:Ar) (h:al[k]? = some a)=>aL (f:=qA) (n:=7) wJ (m:=al) h;obtain⟨X,hX⟩:∃ X,(⟨#[40]⟩:ByteArray)++yw true al=X:=⟨_,rfl⟩;unfold vS;rw[hX];have q40:(⟨#[40]⟩:ByteArray).size=1:=rfl;have q41:(⟨#[41]⟩:ByteArray).size=1:=rfl;have q44:(⟨#[44,32]⟩:ByteArray).size=2:=rfl;have qm:(⟨#[109,117,116,101,120,32]⟩:ByteArray).size=6:=rfl;refine ae.aD af Tryz.func194 rfl Bw (by simp[Tryz.ntmps194]) rfl λ C hC M0=>?_;rw[Tryz.ntmps194] at hC;apply aq;simp[hC];apply aq;simp[hC];apply aW;simp[hC];apply T.block;refine T.aI (J155 al X) (n:=al.length) ?_ ?_
 .refine aa.le (Le.env [4,3,0]) (aa.here ⟨0,⟨#[40]⟩,by omega,by omega,by simpa using hX,by omega,?_⟩);simp
 .rintro n s ⟨i,x,rfl,Jz,hx,hxs,rfl⟩;by_cases hi:i<al.length
  .obtain⟨a,Tn⟩:∃ a,al[i]? = some a:=⟨al[i],getElem?_eq_getElem hi⟩;have Ud:=ZG i a Tn;have Ug:=h a (mem_of_getElem? Tn);have hasz:=L5 Ug;have wi:=cr ((i:Int)+1) yA yA;have hd:al.drop i=a::al.drop (i+1):=by
    rw[drop_eq_getElem_cons hi,(List.getElem?_eq_some_iff.1 Tn).2]
   rw[hd,yw] at hx;apply aW;simp[hC,hi];refine jk ?_;simp;apply eE;obtain⟨y,hy⟩:∃ y,x++(if decide (i=0)=true then (⟨#[]⟩:ByteArray) else ⟨#[44,32]⟩)=y:=⟨_,rfl⟩;have hys:y.size<=x.size+2:=by
    rw[<- hy,ByteArray.size_append];split
    .show x.size+0<=_;omega
    .omega
   rw[ByteArray.append_assoc,<- ByteArray.append_assoc,hy] at hx;refine T.cut (λ s=>s=⟨[(4,I i),(3,.str y),(0,.az (al.flatMap qA) al.length)],[],0⟩) ?_ ?_
   .apply aq;simp[hC];refine T.bw rfl (λ h=>?_) (λ h=>?_)
    .have h0:¬ i=0:=by simp at h;omega
     have so:=aB x ⟨#[44,32]⟩ yA;simp only[h0,decide_false,Bool.false_eq_true,if_false] at hy;apply aM;simp[hC,so];refine aa.trim [4,3,0] [] 0 xr yA ?_;simp[hy]
    .have h0:i=0:=by simp at h;omega
     simp only[h0,decide_true,if_true] at hy;have U3:x=y:=by rw[<- hy];exact (ByteArray.append_empty (b:=x)).symm
     apply T.skip;simp;refine aa.trim [4,3,0] [] 0 xr yA ?_;simp[U3]
   rintro s rfl
   cases a with
   | xF r=>
    have U6:=qQ r Ug;have hrs:=Ce Ug;obtain⟨rn,ri⟩:=r;obtain⟨q1,q2,hq⟩:∃ cs n,oL ri=.az cs n:=by cases ri<;>exact⟨_,_,rfl⟩
    simp only[mh,hq] at U6;simp only[qA,bf,mh,hq,cons_append,nil_append] at Ud;have s1:=aB y ⟨#[109,117,116,101,120,32]⟩ yA;have s2:=aB (y++⟨#[109,117,116,101,120,32]⟩) (EC ⟨rn,ri⟩) (by rw[ByteArray.size_append];omega);apply aq;simp[hC,hi,Ud];refine du ?_;simp;apply aM;simp[hC,hi,Ud,s1];refine cS SD (U6) ?_;simp[hC,s2];apply aM;simp[hC,wi];refine⟨al.length-(i+1),by omega,?_⟩;refine aa.trim [4,3,0] [] 0 xr yA ⟨i+1,y++⟨#[109,117,116,101,120,32]⟩++EC ⟨rn,ri⟩,rfl,by omega,?_,?_,?_⟩
    .rw[<- hx];simp[Sq,ByteArray.append_assoc]
    .rw[ByteArray.size_append,ByteArray.size_append];omega
    .simp
   | exp e=>
    have U6:=Ug.1;have hrs:=Ug.2;rw[bZ e] at U6;simp only[qA,bZ e,ml,cons_append,nil_append] at Ud;have s1:=aB y (jK e) yA;apply aq;simp[hC,hi,Ud];refine bg ?_;simp;apply aM;simp[hC,hi,Ud];refine cS SD (U6) ?_;simp[hC,s1];apply aM;simp[hC,wi];refine⟨al.length-(i+1),by omega,?_⟩;refine aa.trim [4,3,0] [] 0 xr yA ⟨i+1,y++jK e,rfl,by omega,?_,?_,?_⟩
    .rw[<- hx];simp[Sq,ByteArray.append_assoc]
    .rw[ByteArray.size_append];omega
    .simp
  .have Rz:i=al.length:=by omega
   rw[Rz,drop_length,yw] at hx;have hxX:x=X:=by rw[<- hx];exact (ByteArray.append_empty (b:=x)).symm
   subst hxX;have so:=aB x ⟨#[41]⟩ yA;apply aW;simp[hC,hi];refine bg ?_;simp;apply T.exit;simp;apply aq;simp[hC,so];apply T.ret;apply aa.here;simp[Tryz.results194]
end Go.Proofs.YtlkmbdfhdknlgaaGreat
