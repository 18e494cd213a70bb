/- text of expressions of the right form; refText, argsText. -/
import Derived.Test.YtlkmbdfhdknlgaaGreatDoorZ28
namespace Go.Proofs.YtlkmbdfhdknlgaaGreatDoor
open Go.Can Go.aT
theorem ka {ns:List ByteArray}(Mo:∀ s∈ns,cJ s){d:Nat}{e:Ex}(hd:d≤5)(hw:eO ns d e):(gJ e).size≤100000:=by
 have h:=(bN.ex Mo d e hw).1;rw[jO] at h;have:yi d≤187:=by
  match d,hd with
  | 0,_=>decide
  | 1,_=>decide
  | 2,_=>decide
  | 3,_=>decide
  | 4,_=>decide
  | 5,_=>decide
 omega
theorem lQ {ns:List ByteArray}(Mo:∀ s∈ns,cJ s):∀ (d:Nat) (e:Ex),d≤5→eO ns d e→ae Tryz.prog 126 [.agg (bC e)] (.str (gJ e))
 | _,.num n,_,hw=>lP (.num n) [] rfl (fb hw) M9 _ M9 (.inl ⟨n,rfl,by simpa [eO] using hw,rfl⟩)
 | _,.nm s,_,hw=>lP (.nm s) [] rfl (fb hw) M9 _ M9 (.inr (.inl ⟨s,rfl,rfl⟩))
 | d+1,.un k x,hd,hw=>by
  have KA:=hw;simp only[eO] at KA;refine lP (.un k x) [qH (.un k x) x 0] rfl (fb hw) M9 _ ?_ (.inr (.inr (.inl ⟨k,x,rfl,KA.1,?_⟩)))
  ·intro i y hy
   match i with
   | 0=>
    simp only[Ex.args,List.getElem?_cons_zero,Option.some.injEq] at hy;subst hy;exact⟨fb KA.2,lQ Mo d _ yA KA.2,ka Mo yA KA.2,rfl⟩
   | i+1=>simp[Ex.args] at hy
  ·have h5:(Ex.un k x).st=5:=(by decide:∀ k,k<2→lk (3+k)=5) k KA.1;simp only[gJ,List.getD_cons_zero,qH,na,h5];simp
 | d+1,.bin k a b,hd,hw=>by
  have KA:=hw;simp only[eO] at KA;refine lP (.bin k a b) [qH (.bin k a b) a 0,qH (.bin k a b) b 1] rfl (fb hw) M9 _ ?_ (.inr (.inr (.inr ⟨k,a,b,rfl,KA.1,?_⟩)))
  ·intro i y hy
   match i with
   | 0=>
    simp only[Ex.args,List.getElem?_cons_zero,Option.some.injEq] at hy;subst hy;exact⟨fb KA.2.1,lQ Mo d _ yA KA.2.1,ka Mo yA KA.2.1,rfl⟩
   | 1=>
    simp only[Ex.args,List.getElem?_cons_succ,List.getElem?_cons_zero,Option.some.injEq] at hy;subst hy;exact⟨fb KA.2.2,lQ Mo d _ yA KA.2.2,ka Mo yA KA.2.2,rfl⟩
   | i+2=>simp[Ex.args] at hy
  ·have hle:(decide (b.st<lk (5+k)) || (decide (b.st=lk (5+k)) && true))=decide (b.st≤lk (5+k)):=by
    rw[Bool.eq_iff_iff];simp;omega
   have Km:(Ex.bin k a b).st=lk (5+k):=rfl;simp only[gJ,List.getD_cons_zero,List.getD_cons_succ,qH,na,Km,decide_true,hle];simp
 | 0,.un _ _,_,h=>h.elim
 | 0,.bin _ _ _,_,h=>h.elim
 | 0,.zero,_,h=>h.elim
 | 0,.loc _,_,h=>h.elim
 | 0,.iV _,_,h=>h.elim
 | _+1,.zero,_,h=>h.elim
 | _+1,.loc _,_,h=>h.elim
 | _+1,.iV _,_,h=>h.elim
def IH (e:Ex):Prop:=ae Tryz.prog 126 [.agg (bC e)] (.str (gJ e))∧(gJ e).size≤100000
def IG (r:Rf):Prop:=r.name.size≤100∧∀ e,r.index=some e→IH e
theorem wv {r:Rf}(h:IG r):(yL r).size≤100200:=by
 obtain⟨nm,ix⟩:=r
 cases ix with
 | none=>exact Nat.le_trans h.1 yA
 | some e=>
  have h1:=h.1;have h2:=(h.2 e rfl).2;have q1:(⟨#[91]⟩:ByteArray).size=1:=rfl;have q2:(⟨#[93]⟩:ByteArray).size=1:=rfl;simp only[yL,ByteArray.size_append];simp only at h1;omega
theorem mS (r:Rf)(h:IG r):ae Tryz.prog 128 [.agg (jw r)] (.str (yL r)):=by
 obtain⟨nm,ix⟩:=r;have KV:=h.1;simp only at KV;refine ae.aD af Tryz.func128 rfl lz (by simp[Tryz.ntmps128]) rfl fun C hC xJ=>?_;rw[Tryz.ntmps128] at hC
 cases ix with
 | none=>
  apply ah;simp[hC,jw,mK];apply aL;simp[hC];refine cz ?_;simp;apply ah;simp[hC];apply T.ret;apply aa.here;simp[Tryz.results128,yL]
 | some e=>
  obtain⟨h1,h2⟩:=h.2 e rfl;have q1:(⟨#[91]⟩:ByteArray).size=1:=rfl;have q2:(⟨#[93]⟩:ByteArray).size=1:=rfl;have s1:=aq nm ⟨#[91]⟩ yA;have s2:=aq (nm++⟨#[91]⟩) (gJ e) (by rw[ByteArray.size_append];omega);have s3:=aq (nm++⟨#[91]⟩++gJ e) ⟨#[93]⟩ (by rw[ByteArray.size_append,ByteArray.size_append];omega);apply ah;simp[hC,jw,mK];apply aL;simp[hC];refine aU ?_;simp;apply T.skip;simp;apply T.seq;refine T.rx af follows [0,1,2,3,4,5,6,7,8,9,10] [(1,7)] lz ?_;simp[hC,s1,bA];refine RX.call rfl j5 rfl rfl rfl QR (h1) ?_;simp[s2,s3];apply T.ret;apply aa.here;simp[Tryz.results128,yL]
def TxA (a:Ar):Prop:=match a with
 | .ru r=>IG r
 | .exp e=>IH e
theorem Ez {a:Ar}(h:TxA a):(JJ a).size≤100300:=by
 cases a with
 | ru r=>
  have:=wv h;have q:(⟨#[109,117,116,101,120,32]⟩:ByteArray).size=6:=rfl;simp only[JJ,ByteArray.size_append];omega
 | exp e=>exact Nat.le_trans h.2 yA
def J155 (al:List Ar)(X:ByteArray)(n:Nat)(s:St):Prop:=∃ (i:Nat) (x:ByteArray),n=al.length-i∧i≤al.length∧x++sd (decide (i=0)) (al.drop i)=X∧x.size≤1+100400*i∧s=⟨[(4,I i),(3,.str x),(0,.au (al.flatMap mC) al.length)],[],0⟩
theorem pY (al:List Ar)(hl:al.length≤1000)(h:∀ a∈al,TxA a):ae Tryz.prog 127 [.au (al.flatMap mC) al.length] (.str (qe al)):=by
 have Qt:=fun (k:Nat) (a:Ar) (h:al[k]? = some a)=>az (f:=mC) (n:=7) qC (m:=al) h;obtain⟨X,hX⟩:∃ X,(⟨#[40]⟩:ByteArray)++sd true al=X:=⟨_,rfl⟩;unfold qe;rw[hX];have q40:(⟨#[40]⟩:ByteArray).size=1:=rfl;have q41:(⟨#[41]⟩:ByteArray).size=1:=rfl;have q44:(⟨#[44,32]⟩:ByteArray).size=2:=rfl;have qm:(⟨#[109,117,116,101,120,32]⟩:ByteArray).size=6:=rfl;refine ae.aD af Tryz.func127 rfl lz (by simp[Tryz.ntmps127]) rfl fun C hC xJ=>?_;rw[Tryz.ntmps127] at hC;apply ah;simp[hC];apply ah;simp[hC];apply aL;simp[hC];apply T.block;refine T.aI (J155 al X) (n:=al.length) ?_ ?_
 ·refine aa.le (Le.env [4,3,0]) (aa.here ⟨0,⟨#[40]⟩,by omega,by omega,by simpa using hX,by omega,?_⟩);simp
 ·rintro n s ⟨i,x,rfl,nr,hx,hxs,rfl⟩;by_cases hi:i<al.length
  ·obtain⟨a,KH⟩:∃ a,al[i]? = some a:=⟨al[i],List.getElem?_eq_getElem hi⟩;have Lj:=Qt i a KH;have Ln:=h a (List.mem_of_getElem? KH);have hasz:=Ez Ln;have wi:=cm ((i:Int)+1) yA yA;have hd:al.drop i=a::al.drop (i+1):=by
    rw[List.drop_eq_getElem_cons hi,(List.getElem?_eq_some_iff.1 KH).2]
   rw[hd,sd] at hx;apply aL;simp[hC,hi];refine gF ?_;simp;apply fw;obtain⟨y,hy⟩:∃ y,x++(if decide (i=0)=true then (⟨#[]⟩:ByteArray) else ⟨#[44,32]⟩)=y:=⟨_,rfl⟩;have SF:y.size≤x.size+2:=by
    rw[← hy,ByteArray.size_append];split
    ·show x.size+0≤_;omega
    ·omega
   rw[ByteArray.append_assoc,← ByteArray.append_assoc,hy] at hx;refine T.cut (fun s=>s=⟨[(4,I i),(3,.str y),(0,.au (al.flatMap mC) al.length)],[],0⟩) ?_ ?_
   ·apply ah;simp[hC];refine T.aX rfl (fun h=>?_) (fun h=>?_)
    ·have h0:¬ i=0:=by simp at h;omega
     have so:=aq x ⟨#[44,32]⟩ yA;simp only[h0,decide_false,Bool.false_eq_true,if_false] at hy;apply a8;simp[hC,so];refine aa.trim [4,3,0] [] 0 j5 yA ?_;simp[hy]
    ·have h0:i=0:=by simp at h;omega
     simp only[h0,decide_true,if_true] at hy;have Oj:x=y:=by rw[← hy];exact (ByteArray.append_empty (b:=x)).symm
     apply T.skip;simp;refine aa.trim [4,3,0] [] 0 j5 yA ?_;simp[Oj]
   rintro s rfl
   cases a with
   | ru r=>
    have LQ:=mS r Ln;have Zl:=wv Ln;obtain⟨rn,ri⟩:=r;obtain⟨q1,q2,hq⟩:∃ cs n,mK ri=.au cs n:=by cases ri<;>exact⟨_,_,rfl⟩
    simp only[jw,hq] at LQ;simp only[mC,bC,jw,hq,List.cons_append,List.nil_append] at Lj;have s1:=aq y ⟨#[109,117,116,101,120,32]⟩ yA;have s2:=aq (y++⟨#[109,117,116,101,120,32]⟩) (yL ⟨rn,ri⟩) (by rw[ByteArray.size_append];omega);apply ah;simp[hC,hi,Lj];refine cz ?_;simp;apply a8;simp[hC,hi,Lj,s1];refine dk zK (LQ) ?_;simp[hC,s2];apply a8;simp[hC,wi];refine⟨al.length-(i+1),by omega,?_⟩;refine aa.trim [4,3,0] [] 0 j5 yA ⟨i+1,y++⟨#[109,117,116,101,120,32]⟩++yL ⟨rn,ri⟩,rfl,by omega,?_,?_,?_⟩
    ·rw[← hx];simp[JJ,ByteArray.append_assoc]
    ·rw[ByteArray.size_append,ByteArray.size_append];omega
    ·simp
   | exp e=>
    have LQ:=Ln.1;have Zl:=Ln.2;rw[bJ e] at LQ;simp only[mC,bJ e,jy,List.cons_append,List.nil_append] at Lj;have s1:=aq y (gJ e) yA;apply ah;simp[hC,hi,Lj];refine aU ?_;simp;apply a8;simp[hC,hi,Lj];refine dk zK (LQ) ?_;simp[hC,s1];apply a8;simp[hC,wi];refine⟨al.length-(i+1),by omega,?_⟩;refine aa.trim [4,3,0] [] 0 j5 yA ⟨i+1,y++gJ e,rfl,by omega,?_,?_,?_⟩
    ·rw[← hx];simp[JJ,ByteArray.append_assoc]
    ·rw[ByteArray.size_append];omega
    ·simp
  ·have CW:i=al.length:=by omega
   rw[CW,List.drop_length,sd] at hx;have Vo:x=X:=by rw[← hx];exact (ByteArray.append_empty (b:=x)).symm
   subst Vo;have so:=aq x ⟨#[41]⟩ yA;apply aL;simp[hC,hi];refine aU ?_;simp;apply T.exit;simp;apply ah;simp[hC,so];apply T.ret;apply aa.here;simp[Tryz.results127]
end Go.Proofs.YtlkmbdfhdknlgaaGreatDoor
