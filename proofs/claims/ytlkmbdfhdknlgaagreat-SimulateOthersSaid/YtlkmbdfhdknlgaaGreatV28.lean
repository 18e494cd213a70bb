/- text of expressions of the -/
import Derived.Test.YtlkmbdfhdknlgaaGreatV27
namespace Go.Proofs.YtlkmbdfhdknlgaaGreat
open Go.Can Go.aV List Tryz
theorem ma {ns:List ByteArray}(RN:∀ s∈ns,dG s){d:Nat}{e:Ex}(hd:d<=5)(hw:fV ns d e):(ji e).size<=100000:=by
 have h:=(cu.ex RN d e hw).1;rw[lM] at h;have:B3 d<=187:=by
  match d,hd with
  | 0,_=>decide
  | 1,_=>decide
  | 2,_=>decide
  | 3,_=>decide
  | 4,_=>decide
  | 5,_=>decide
 omega
theorem oL {ns:List ByteArray}(RN:∀ s∈ns,dG s):∀ (d:Nat) (e:Ex),d<=5->fV ns d e->af prog 193 [.agg (a8 e)] (.str (ji e))
 | _,.num n,_,hw=>oK (.num n) [] rfl (gu hw) Sz _ Sz (.inl ⟨n,rfl,by simpa [fV] using hw,rfl⟩)
 | _,.nm s,_,hw=>oK (.nm s) [] rfl (gu hw) Sz _ Sz (.inr (.inl ⟨s,rfl,rfl⟩))
 | d+1,.un k x,hd,hw=>by
  have PT:=hw;simp only[fV] at PT;refine oK (.un k x) [uR (.un k x) x 0] rfl (gu hw) Sz _ ?_ (.inr (.inr (.inl ⟨k,x,rfl,PT.1,?_⟩)))
  ·intro i y hy
   match i with
   | 0=>
    simp only[Ex.args,getElem?_cons_zero,Option.some.injEq] at hy;subst hy;exact⟨gu PT.2,oL RN d _ yA PT.2,ma RN yA PT.2,rfl⟩
   | i+1=>simp[Ex.args] at hy
  ·have h5:(Ex.un k x).st=5:=(by decide:∀ k,k<2->nS (3+k)=5) k PT.1;simp only[ji,getD_cons_zero,uR,pY,h5];simp
 | d+1,.bin k a b,hd,hw=>by
  have PT:=hw;simp only[fV] at PT;refine oK (.bin k a b) [uR (.bin k a b) a 0,uR (.bin k a b) b 1] rfl (gu hw) Sz _ ?_ (.inr (.inr (.inr ⟨k,a,b,rfl,PT.1,?_⟩)))
  ·intro i y hy
   match i with
   | 0=>
    simp only[Ex.args,getElem?_cons_zero,Option.some.injEq] at hy;subst hy;exact⟨gu PT.2.1,oL RN d _ yA PT.2.1,ma RN yA PT.2.1,rfl⟩
   | 1=>
    simp only[Ex.args,getElem?_cons_succ,getElem?_cons_zero,Option.some.injEq] at hy;subst hy;exact⟨gu PT.2.2,oL RN d _ yA PT.2.2,ma RN yA PT.2.2,rfl⟩
   | i+2=>simp[Ex.args] at hy
  ·have hle:(decide (b.st<nS (5+k)) || (decide (b.st=nS (5+k)) && true))=decide (b.st<=nS (5+k)):=by
    rw[Bool.eq_iff_iff];simp;omega
   have Pk:(Ex.bin k a b).st=nS (5+k):=rfl;simp only[ji,getD_cons_zero,getD_cons_succ,uR,pY,Pk,decide_true,hle];simp
 | 0,.un _ _,_,h=>h.elim
 | 0,.bin _ _ _,_,h=>h.elim
 | 0,.zero,_,h=>h.elim
 | 0,.loc _,_,h=>h.elim
 | 0,.iK _,_,h=>h.elim
 | _+1,.zero,_,h=>h.elim
 | _+1,.loc _,_,h=>h.elim
 | _+1,.iK _,_,h=>h.elim
def NB (e:Ex):Prop:=af prog 193 [.agg (a8 e)] (.str (ji e))/\(ji e).size<=100000
def NA (r:Rf):Prop:=r.name.size<=100/\∀ e,r.index=some e->NB e
theorem Ae {r:Rf}(h:NA r):(Cw r).size<=100200:=by
 obtain⟨nm,ix⟩:=r
 cases ix with
 | none=>exact Nat.le_trans h.1 yA
 | some e=>
  have h1:=h.1;have h2:=(h.2 e rfl).2;have q1:(⟨#[91]⟩:ByteArray).size=1:=rfl;have q2:(⟨#[93]⟩:ByteArray).size=1:=rfl;simp only[Cw,ByteArray.size_append];simp only at h1;omega
theorem pS (r:Rf)(h:NA r):af prog 195 [.agg (ld r)] (.str (Cw r)):=by
 obtain⟨nm,ix⟩:=r;have P5:=h.1;simp only at P5;refine af.aC ag Tryz.func195 rfl GK (by simp[Tryz.ntmps195]) rfl λ C hC OR=>?_;rw[Tryz.ntmps195] at hC
 cases ix with
 | none=>
  apply aq;simp[hC,ld,mA];apply aT;simp[hC];refine cX ?_;simp;apply aq;simp[hC];apply T.ret;apply aa.here;simp[Tryz.results195,Cw]
 | some e=>
  obtain⟨h1,h2⟩:=h.2 e rfl;have q1:(⟨#[91]⟩:ByteArray).size=1:=rfl;have q2:(⟨#[93]⟩:ByteArray).size=1:=rfl;have s1:=az nm ⟨#[91]⟩ yA;have s2:=az (nm++⟨#[91]⟩) (ji e) (by rw[ByteArray.size_append];omega);have s3:=az (nm++⟨#[91]⟩++ji e) ⟨#[93]⟩ (by rw[ByteArray.size_append,ByteArray.size_append];omega);apply aq;simp[hC,ld,mA];apply aT;simp[hC];refine bh ?_;simp;apply T.skip;simp;apply T.seq;refine T.rx ag follows [0,1,2,3,4,5,6,7,8,9,10] [(1,7)] GK ?_;simp[hC,s1,bA];refine RX.call rfl xr rfl rfl rfl WJ (h1) ?_;simp[s2,s3];apply T.ret;apply aa.here;simp[Tryz.results195,Cw]
def TxA (a:Ar):Prop:=match a with
 | .vw r=>NA r
 | .exp e=>NB e
theorem IK {a:Ar}(h:TxA a):(OL a).size<=100300:=by
 cases a with
 | vw r=>
  have:=Ae h;have q:(⟨#[109,117,116,101,120,32]⟩:ByteArray).size=6:=rfl;simp only[OL,ByteArray.size_append];omega
 | exp e=>exact Nat.le_trans h.2 yA
def J155 (al:List Ar)(X:ByteArray)(n:Nat)(s:St):Prop:=∃ (i:Nat) (x:ByteArray),n=al.length-i/\i<=al.length/\x++wz (decide (i=0)) (al.drop i)=X/\x.size<=1+100400*i/\s=⟨[(4,I i),(3,.str x),(0,.au (al.flatMap pw) al.length)],[],0⟩
theorem tJ (al:List Ar)(hl:al.length<=1000)(h:∀ a∈al,TxA a):af prog 194 [.au (al.flatMap pw) al.length] (.str (uq al)):=by
 have V9:=λ (k:Nat) (a:Ar) (h:al[k]? = some a)=>aH (f:=pw) (n:=7) uL (m:=al) h;obtain⟨X,hX⟩:∃ X,(⟨#[40]⟩:ByteArray)++wz true al=X:=⟨_,rfl⟩;unfold uq;rw[hX];have q40:(⟨#[40]⟩:ByteArray).size=1:=rfl;have q41:(⟨#[41]⟩:ByteArray).size=1:=rfl;have q44:(⟨#[44,32]⟩:ByteArray).size=2:=rfl;have qm:(⟨#[109,117,116,101,120,32]⟩:ByteArray).size=6:=rfl;refine af.aC ag Tryz.func194 rfl GK (by simp[Tryz.ntmps194]) rfl λ C hC OR=>?_;rw[Tryz.ntmps194] at hC;apply aq;simp[hC];apply aq;simp[hC];apply aT;simp[hC];apply T.block;refine T.aQ (J155 al X) (n:=al.length) ?_ ?_
 ·refine aa.le (Le.env [4,3,0]) (aa.here ⟨0,⟨#[40]⟩,by omega,by omega,by simpa using hX,by omega,?_⟩);simp
 ·rintro n s ⟨i,x,rfl,OP,hx,hxs,rfl⟩;by_cases hi:i<al.length
  ·obtain⟨a,PX⟩:∃ a,al[i]? = some a:=⟨al[i],getElem?_eq_getElem hi⟩;have QB:=V9 i a PX;have QG:=h a (mem_of_getElem? PX);have hasz:=IK QG;have wi:=cw ((i:Int)+1) yA yA;have hd:al.drop i=a::al.drop (i+1):=by
    rw[drop_eq_getElem_cons hi,(List.getElem?_eq_some_iff.1 PX).2]
   rw[hd,wz] at hx;apply aT;simp[hC,hi];refine iI ?_;simp;apply eZ;obtain⟨y,hy⟩:∃ y,x++(if decide (i=0)=true then (⟨#[]⟩:ByteArray) else ⟨#[44,32]⟩)=y:=⟨_,rfl⟩;have YJ:y.size<=x.size+2:=by
    rw[<- hy,ByteArray.size_append];split
    ·show x.size+0<=_;omega
    ·omega
   rw[ByteArray.append_assoc,<- ByteArray.append_assoc,hy] at hx;refine T.cut (λ s=>s=⟨[(4,I i),(3,.str y),(0,.au (al.flatMap pw) al.length)],[],0⟩) ?_ ?_
   ·apply aq;simp[hC];refine T.bB rfl (λ h=>?_) (λ h=>?_)
    ·have h0:¬ i=0:=by simp at h;omega
     have so:=az x ⟨#[44,32]⟩ yA;simp only[h0,decide_false,Bool.false_eq_true,if_false] at hy;apply aG;simp[hC,so];refine aa.trim [4,3,0] [] 0 xr yA ?_;simp[hy]
    ·have h0:i=0:=by simp at h;omega
     simp only[h0,decide_true,if_true] at hy;have SB:x=y:=by rw[<- hy];exact (ByteArray.append_empty (b:=x)).symm
     apply T.skip;simp;refine aa.trim [4,3,0] [] 0 xr yA ?_;simp[SB]
   rintro s rfl
   cases a with
   | vw r=>
    have Rw:=pS r QG;have hrs:=Ae QG;obtain⟨rn,ri⟩:=r;obtain⟨q1,q2,hq⟩:∃ cs n,mA ri=.au cs n:=by cases ri<;>exact⟨_,_,rfl⟩
    simp only[ld,hq] at Rw;simp only[pw,a8,ld,hq,cons_append,nil_append] at QB;have s1:=az y ⟨#[109,117,116,101,120,32]⟩ yA;have s2:=az (y++⟨#[109,117,116,101,120,32]⟩) (Cw ⟨rn,ri⟩) (by rw[ByteArray.size_append];omega);apply aq;simp[hC,hi,QB];refine cX ?_;simp;apply aG;simp[hC,hi,QB,s1];refine ct O4 (Rw) ?_;simp[hC,s2];apply aG;simp[hC,wi];refine⟨al.length-(i+1),by omega,?_⟩;refine aa.trim [4,3,0] [] 0 xr yA ⟨i+1,y++⟨#[109,117,116,101,120,32]⟩++Cw ⟨rn,ri⟩,rfl,by omega,?_,?_,?_⟩
    ·rw[<- hx];simp[OL,ByteArray.append_assoc]
    ·rw[ByteArray.size_append,ByteArray.size_append];omega
    ·simp
   | exp e=>
    have Rw:=QG.1;have hrs:=QG.2;rw[bV e] at Rw;simp only[pw,bV e,lh,cons_append,nil_append] at QB;have s1:=az y (ji e) yA;apply aq;simp[hC,hi,QB];refine bh ?_;simp;apply aG;simp[hC,hi,QB];refine ct O4 (Rw) ?_;simp[hC,s1];apply aG;simp[hC,wi];refine⟨al.length-(i+1),by omega,?_⟩;refine aa.trim [4,3,0] [] 0 xr yA ⟨i+1,y++ji e,rfl,by omega,?_,?_,?_⟩
    ·rw[<- hx];simp[OL,ByteArray.append_assoc]
    ·rw[ByteArray.size_append];omega
    ·simp
  ·have OV:i=al.length:=by omega
   rw[OV,drop_length,wz] at hx;have hxX:x=X:=by rw[<- hx];exact (ByteArray.append_empty (b:=x)).symm
   subst hxX;have so:=az x ⟨#[41]⟩ yA;apply aT;simp[hC,hi];refine bh ?_;simp;apply T.exit;simp;apply aq;simp[hC,so];apply T.ret;apply aa.here;simp[Tryz.results194]
end Go.Proofs.YtlkmbdfhdknlgaaGreat
