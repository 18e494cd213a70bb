/- text of expressions of the right form; refText, argsText. -/
import Derived.Test.YtlkmbdfhdknlgaaGreatDoorZ25
namespace Go.Proofs.YtlkmbdfhdknlgaaGreatDoor
open Go.Can Go.aN
theorem lR {ns:List ByteArray}(Q1:∀ s∈ns,dh s){d:Nat}{e:Ex}(hd:d≤5)(hw:fK ns d e):(iK e).size≤100000:=by
 have h:=(ca.ex Q1 d e hw).1;rw[lp] at h;have:BB d≤187:=by
  match d,hd with
  | 0,_=>decide
  | 1,_=>decide
  | 2,_=>decide
  | 3,_=>decide
  | 4,_=>decide
  | 5,_=>decide
 omega
theorem nV {ns:List ByteArray}(Q1:∀ s∈ns,dh s):∀ (d:Nat) (e:Ex),d≤5→fK ns d e→ae Tryz.prog 126 [.agg (bM e)] (.str (iK e))
 | _,.num n,_,hw=>nU (.num n) [] rfl (fZ hw) RJ _ RJ (.inl ⟨n,rfl,by simpa [fK] using hw,rfl⟩)
 | _,.nm s,_,hw=>nU (.nm s) [] rfl (fZ hw) RJ _ RJ (.inr (.inl ⟨s,rfl,rfl⟩))
 | d+1,.un k x,hd,hw=>by
  have OU:=hw;simp only[fK] at OU;refine nU (.un k x) [uu (.un k x) x 0] rfl (fZ hw) RJ _ ?_ (.inr (.inr (.inl ⟨k,x,rfl,OU.1,?_⟩)))
  ·intro i y hy
   match i with
   | 0=>
    simp only[Ex.args,List.getElem?_cons_zero,Option.some.injEq] at hy;subst hy;exact⟨fZ OU.2,nV Q1 d _ yA OU.2,lR Q1 yA OU.2,rfl⟩
   | i+1=>simp[Ex.args] at hy
  ·have h5:(Ex.un k x).st=5:=(by decide:∀ k,k<2→mY (3+k)=5) k OU.1;simp only[iK,List.getD_cons_zero,uu,pA,h5];simp
 | d+1,.bin k a b,hd,hw=>by
  have OU:=hw;simp only[fK] at OU;refine nU (.bin k a b) [uu (.bin k a b) a 0,uu (.bin k a b) b 1] rfl (fZ hw) RJ _ ?_ (.inr (.inr (.inr ⟨k,a,b,rfl,OU.1,?_⟩)))
  ·intro i y hy
   match i with
   | 0=>
    simp only[Ex.args,List.getElem?_cons_zero,Option.some.injEq] at hy;subst hy;exact⟨fZ OU.2.1,nV Q1 d _ yA OU.2.1,lR Q1 yA OU.2.1,rfl⟩
   | 1=>
    simp only[Ex.args,List.getElem?_cons_succ,List.getElem?_cons_zero,Option.some.injEq] at hy;subst hy;exact⟨fZ OU.2.2,nV Q1 d _ yA OU.2.2,lR Q1 yA OU.2.2,rfl⟩
   | i+2=>simp[Ex.args] at hy
  ·have hle:(decide (b.st<mY (5+k)) || (decide (b.st=mY (5+k)) && true))=decide (b.st≤mY (5+k)):=by
    rw[Bool.eq_iff_iff];simp;omega
   have OH:(Ex.bin k a b).st=mY (5+k):=rfl;simp only[iK,List.getD_cons_zero,List.getD_cons_succ,uu,pA,OH,decide_true,hle];simp
 | 0,.un _ _,_,h=>h.elim
 | 0,.bin _ _ _,_,h=>h.elim
 | 0,.zero,_,h=>h.elim
 | 0,.loc _,_,h=>h.elim
 | 0,.jX _,_,h=>h.elim
 | _+1,.zero,_,h=>h.elim
 | _+1,.loc _,_,h=>h.elim
 | _+1,.jX _,_,h=>h.elim
def MR (e:Ex):Prop:=ae Tryz.prog 126 [.agg (bM e)] (.str (iK e))∧(iK e).size≤100000
def MQ (r:Rf):Prop:=r.name.size≤100∧∀ e,r.index=some e→MR e
theorem zQ {r:Rf}(h:MQ r):(B8 r).size≤100200:=by
 obtain⟨nm,ix⟩:=r
 cases ix with
 | none=>exact Nat.le_trans h.1 yA
 | some e=>
  have h1:=h.1;have h2:=(h.2 e rfl).2;have q1:(⟨#[91]⟩:ByteArray).size=1:=rfl;have q2:(⟨#[93]⟩:ByteArray).size=1:=rfl;simp only[B8,ByteArray.size_append];simp only at h1;omega
theorem ph (r:Rf)(h:MQ r):ae Tryz.prog 128 [.agg (kO r)] (.str (B8 r)):=by
 obtain⟨nm,ix⟩:=r;have Pp:=h.1;simp only at Pp;refine ae.aH af Tryz.func128 rfl N4 (by simp[Tryz.ntmps128]) rfl fun C hC N8=>?_;rw[Tryz.ntmps128] at hC
 cases ix with
 | none=>
  apply ai;simp[hC,kO,oZ];apply aL;simp[hC];refine cB ?_;simp;apply ai;simp[hC];apply T.ret;apply aa.here;simp[Tryz.results128,B8]
 | some e=>
  obtain⟨h1,h2⟩:=h.2 e rfl;have q1:(⟨#[91]⟩:ByteArray).size=1:=rfl;have q2:(⟨#[93]⟩:ByteArray).size=1:=rfl;have s1:=ax nm ⟨#[91]⟩ yA;have s2:=ax (nm++⟨#[91]⟩) (iK e) (by rw[ByteArray.size_append];omega);have s3:=ax (nm++⟨#[91]⟩++iK e) ⟨#[93]⟩ (by rw[ByteArray.size_append,ByteArray.size_append];omega);apply ai;simp[hC,kO,oZ];apply aL;simp[hC];refine aX ?_;simp;apply T.skip;simp;apply T.seq;refine T.rx af follows [0,1,2,3,4,5,6,7,8,9,10] [(1,7)] N4 ?_;simp[hC,s1,bK];refine RX.call rfl N3 rfl rfl rfl Wc (h1) ?_;simp[s2,s3];apply T.ret;apply aa.here;simp[Tryz.results128,B8]
def TxA (a:Ar):Prop:=match a with
 | .uX r=>MQ r
 | .exp e=>MR e
theorem IC {a:Ar}(h:TxA a):(NZ a).size≤100300:=by
 cases a with
 | uX r=>
  have:=zQ h;have q:(⟨#[109,117,116,101,120,32]⟩:ByteArray).size=6:=rfl;simp only[NZ,ByteArray.size_append];omega
 | exp e=>exact Nat.le_trans h.2 yA
def J155 (al:List Ar)(X:ByteArray)(n:Nat)(s:St):Prop:=∃ (i:Nat) (x:ByteArray),n=al.length-i∧i≤al.length∧x++vG (decide (i=0)) (al.drop i)=X∧x.size≤1+100400*i∧s=⟨[(4,I i),(3,.str x),(0,.az (al.flatMap oR) al.length)],[],0⟩
theorem sO (al:List Ar)(hl:al.length≤1000)(h:∀ a∈al,TxA a):ae Tryz.prog 127 [.az (al.flatMap oR) al.length] (.str (tf al)):=by
 have Vx:=fun (k:Nat) (a:Ar) (h:al[k]? = some a)=>aD (f:=oR) (n:=7) ui (m:=al) h;obtain⟨X,hX⟩:∃ X,(⟨#[40]⟩:ByteArray)++vG true al=X:=⟨_,rfl⟩;unfold tf;rw[hX];have q40:(⟨#[40]⟩:ByteArray).size=1:=rfl;have q41:(⟨#[41]⟩:ByteArray).size=1:=rfl;have q44:(⟨#[44,32]⟩:ByteArray).size=2:=rfl;have qm:(⟨#[109,117,116,101,120,32]⟩:ByteArray).size=6:=rfl;refine ae.aH af Tryz.func127 rfl N4 (by simp[Tryz.ntmps127]) rfl fun C hC N8=>?_;rw[Tryz.ntmps127] at hC;apply ai;simp[hC];apply ai;simp[hC];apply aL;simp[hC];apply T.block;refine T.aI (J155 al X) (n:=al.length) ?_ ?_
 ·refine aa.le (Le.env [4,3,0]) (aa.here ⟨0,⟨#[40]⟩,by omega,by omega,by simpa using hX,by omega,?_⟩);simp
 ·rintro n s ⟨i,x,rfl,N6,hx,hxs,rfl⟩;by_cases hi:i<al.length
  ·obtain⟨a,OZ⟩:∃ a,al[i]? = some a:=⟨al[i],List.getElem?_eq_getElem hi⟩;have PN:=Vx i a OZ;have PS:=h a (List.mem_of_getElem? OZ);have hasz:=IC PS;have wi:=cf ((i:Int)+1) yA yA;have hd:al.drop i=a::al.drop (i+1):=by
    rw[List.drop_eq_getElem_cons hi,(List.getElem?_eq_some_iff.1 OZ).2]
   rw[hd,vG] at hx;apply aL;simp[hC,hi];refine fh ?_;simp;apply eG;obtain⟨y,hy⟩:∃ y,x++(if decide (i=0)=true then (⟨#[]⟩:ByteArray) else ⟨#[44,32]⟩)=y:=⟨_,rfl⟩;have Yk:y.size≤x.size+2:=by
    rw[← hy,ByteArray.size_append];split
    ·show x.size+0≤_;omega
    ·omega
   rw[ByteArray.append_assoc,← ByteArray.append_assoc,hy] at hx;refine T.cut (fun s=>s=⟨[(4,I i),(3,.str y),(0,.az (al.flatMap oR) al.length)],[],0⟩) ?_ ?_
   ·apply ai;simp[hC];refine T.bg rfl (fun h=>?_) (fun h=>?_)
    ·have h0:¬ i=0:=by simp at h;omega
     have so:=ax x ⟨#[44,32]⟩ yA;simp only[h0,decide_false,Bool.false_eq_true,if_false] at hy;apply aY;simp[hC,so];refine aa.trim [4,3,0] [] 0 N3 yA ?_;simp[hy]
    ·have h0:i=0:=by simp at h;omega
     simp only[h0,decide_true,if_true] at hy;have Q0:x=y:=by rw[← hy];exact (ByteArray.append_empty (b:=x)).symm
     apply T.skip;simp;refine aa.trim [4,3,0] [] 0 N3 yA ?_;simp[Q0]
   rintro s rfl
   cases a with
   | uX r=>
    have Qk:=ph r PS;have hrs:=zQ PS;obtain⟨rn,ri⟩:=r;obtain⟨q1,q2,hq⟩:∃ cs n,oZ ri=.az cs n:=by cases ri<;>exact⟨_,_,rfl⟩
    simp only[kO,hq] at Qk;simp only[oR,bM,kO,hq,List.cons_append,List.nil_append] at PN;have s1:=ax y ⟨#[109,117,116,101,120,32]⟩ yA;have s2:=ax (y++⟨#[109,117,116,101,120,32]⟩) (B8 ⟨rn,ri⟩) (by rw[ByteArray.size_append];omega);apply ai;simp[hC,hi,PN];refine cB ?_;simp;apply aY;simp[hC,hi,PN,s1];refine dc Od (Qk) ?_;simp[hC,s2];apply aY;simp[hC,wi];refine⟨al.length-(i+1),by omega,?_⟩;refine aa.trim [4,3,0] [] 0 N3 yA ⟨i+1,y++⟨#[109,117,116,101,120,32]⟩++B8 ⟨rn,ri⟩,rfl,by omega,?_,?_,?_⟩
    ·rw[← hx];simp[NZ,ByteArray.append_assoc]
    ·rw[ByteArray.size_append,ByteArray.size_append];omega
    ·simp
   | exp e=>
    have Qk:=PS.1;have hrs:=PS.2;rw[bW e] at Qk;simp only[oR,bW e,kQ,List.cons_append,List.nil_append] at PN;have s1:=ax y (iK e) yA;apply ai;simp[hC,hi,PN];refine aX ?_;simp;apply aY;simp[hC,hi,PN];refine dc Od (Qk) ?_;simp[hC,s1];apply aY;simp[hC,wi];refine⟨al.length-(i+1),by omega,?_⟩;refine aa.trim [4,3,0] [] 0 N3 yA ⟨i+1,y++iK e,rfl,by omega,?_,?_,?_⟩
    ·rw[← hx];simp[NZ,ByteArray.append_assoc]
    ·rw[ByteArray.size_append];omega
    ·simp
  ·have Oe:i=al.length:=by omega
   rw[Oe,List.drop_length,vG] at hx;have hxX:x=X:=by rw[← hx];exact (ByteArray.append_empty (b:=x)).symm
   subst hxX;have so:=ax x ⟨#[41]⟩ yA;apply aL;simp[hC,hi];refine aX ?_;simp;apply T.exit;simp;apply ai;simp[hC,so];apply T.ret;apply aa.here;simp[Tryz.results127]
end Go.Proofs.YtlkmbdfhdknlgaaGreatDoor
