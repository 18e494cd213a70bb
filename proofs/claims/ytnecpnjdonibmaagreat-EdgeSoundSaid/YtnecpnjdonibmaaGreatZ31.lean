/- text of expressions of the right form; refText, argsText. -/
import Derived.Test.YtnecpnjdonibmaaGreatZ30
namespace Go.Proofs.YtnecpnjdonibmaaGreat
open Go.Can Go.aP
theorem kY {ns:List ByteArray}(Sz:∀ s∈ns,db s){d:Nat}{e:Ex}(hd:d≤5)(hw:fc ns d e):(iv e).size≤100000:=by
 have h:=(bY.ex Sz d e hw).1;rw[kE] at h;have:AT d≤187:=by
  match d,hd with
  | 0,_=>decide
  | 1,_=>decide
  | 2,_=>decide
  | 3,_=>decide
  | 4,_=>decide
  | 5,_=>decide
 omega
theorem mP {ns:List ByteArray}(Sz:∀ s∈ns,db s):∀ (d:Nat) (e:Ex),d≤5→fc ns d e→ae Tryz.prog 309 [.agg (bK e)] (.str (iv e))
 | _,.num n,_,hw=>mO (.num n) [] rfl (fE hw) S9 _ S9 (.inl ⟨n,rfl,by simpa [fc] using hw,rfl⟩)
 | _,.nm s,_,hw=>mO (.nm s) [] rfl (fE hw) S9 _ S9 (.inr (.inl ⟨s,rfl,rfl⟩))
 | d+1,.un k x,hd,hw=>by
  have Qr:=hw;simp only[fc] at Qr;refine mO (.un k x) [sS (.un k x) x 0] rfl (fE hw) S9 _ ?_ (.inr (.inr (.inl ⟨k,x,rfl,Qr.1,?_⟩)))
  ·intro i y hy
   match i with
   | 0=>
    simp only[Ex.args,List.getElem?_cons_zero,Option.some.injEq] at hy;subst hy;exact⟨fE Qr.2,mP Sz d _ yA Qr.2,kY Sz yA Qr.2,rfl⟩
   | i+1=>simp[Ex.args] at hy
  ·have h5:(Ex.un k x).st=5:=(by decide:∀ k,k<2→mf (3+k)=5) k Qr.1;simp only[iv,List.getD_cons_zero,sS,ov,h5];simp
 | d+1,.bin k a b,hd,hw=>by
  have Qr:=hw;simp only[fc] at Qr;refine mO (.bin k a b) [sS (.bin k a b) a 0,sS (.bin k a b) b 1] rfl (fE hw) S9 _ ?_ (.inr (.inr (.inr ⟨k,a,b,rfl,Qr.1,?_⟩)))
  ·intro i y hy
   match i with
   | 0=>
    simp only[Ex.args,List.getElem?_cons_zero,Option.some.injEq] at hy;subst hy;exact⟨fE Qr.2.1,mP Sz d _ yA Qr.2.1,kY Sz yA Qr.2.1,rfl⟩
   | 1=>
    simp only[Ex.args,List.getElem?_cons_succ,List.getElem?_cons_zero,Option.some.injEq] at hy;subst hy;exact⟨fE Qr.2.2,mP Sz d _ yA Qr.2.2,kY Sz yA Qr.2.2,rfl⟩
   | i+2=>simp[Ex.args] at hy
  ·have hle:(decide (b.st<mf (5+k)) || (decide (b.st=mf (5+k)) && true))=decide (b.st≤mf (5+k)):=by
    rw[Bool.eq_iff_iff];simp;omega
   have Qa:(Ex.bin k a b).st=mf (5+k):=rfl;simp only[iv,List.getD_cons_zero,List.getD_cons_succ,sS,ov,Qa,decide_true,hle];simp
 | 0,.un _ _,_,h=>h.elim
 | 0,.bin _ _ _,_,h=>h.elim
 | 0,.zero,_,h=>h.elim
 | 0,.loc _,_,h=>h.elim
 | 0,.jE _,_,h=>h.elim
 | _+1,.zero,_,h=>h.elim
 | _+1,.loc _,_,h=>h.elim
 | _+1,.jE _,_,h=>h.elim
def Np (e:Ex):Prop:=ae Tryz.prog 309 [.agg (bK e)] (.str (iv e))∧(iv e).size≤100000
def No (r:Rf):Prop:=r.name.size≤100∧∀ e,r.index=some e→Np e
theorem zg {r:Rf}(h:No r):(Bo r).size≤100200:=by
 obtain⟨nm,ix⟩:=r
 cases ix with
 | none=>exact Nat.le_trans h.1 yA
 | some e=>
  have h1:=h.1;have h2:=(h.2 e rfl).2;have q1:(⟨#[91]⟩:ByteArray).size=1:=rfl;have q2:(⟨#[93]⟩:ByteArray).size=1:=rfl;simp only[Bo,ByteArray.size_append];simp only at h1;omega
theorem og (r:Rf)(h:No r):ae Tryz.prog 311 [.agg (j9 r)] (.str (Bo r)):=by
 obtain⟨nm,ix⟩:=r;have QH:=h.1;simp only at QH;refine ae.aM ah Tryz.func311 rfl PH (by simp[Tryz.ntmps311]) rfl fun C hC PN=>?_;rw[Tryz.ntmps311] at hC
 cases ix with
 | none=>
  apply aj;simp[hC,j9,nV];apply aU;simp[hC];refine fx ?_;simp;apply aj;simp[hC];apply T.ret;apply aa.here;simp[Tryz.results311,Bo]
 | some e=>
  obtain⟨h1,h2⟩:=h.2 e rfl;have q1:(⟨#[91]⟩:ByteArray).size=1:=rfl;have q2:(⟨#[93]⟩:ByteArray).size=1:=rfl;have s1:=ax nm ⟨#[91]⟩ yA;have s2:=ax (nm++⟨#[91]⟩) (iv e) (by rw[ByteArray.size_append];omega);have s3:=ax (nm++⟨#[91]⟩++iv e) ⟨#[93]⟩ (by rw[ByteArray.size_append,ByteArray.size_append];omega);apply aj;simp[hC,j9,nV];apply aU;simp[hC];refine bh ?_;simp;apply T.skip;simp;apply T.seq;refine T.rx ah follows [0,1,2,3,4,5,6,7,8,9,10] [(1,7)] PH ?_;simp[hC,s1,bJ];refine RX.call rfl zX rfl rfl rfl Xo (h1) ?_;simp[s2,s3];apply T.ret;apply aa.here;simp[Tryz.results311,Bo]
def TxA (a:Ar):Prop:=match a with
 | .ua r=>No r
 | .exp e=>Np e
theorem ID {a:Ar}(h:TxA a):(Ow a).size≤100300:=by
 cases a with
 | ua r=>
  have:=zg h;have q:(⟨#[109,117,116,101,120,32]⟩:ByteArray).size=6:=rfl;simp only[Ow,ByteArray.size_append];omega
 | exp e=>exact Nat.le_trans h.2 yA
def J155 (al:List Ar)(X:ByteArray)(n:Nat)(s:St):Prop:=∃ (i:Nat) (x:ByteArray),n=al.length-i∧i≤al.length∧x++uP (decide (i=0)) (al.drop i)=X∧x.size≤1+100400*i∧s=⟨[(4,I i),(3,.str x),(0,.az (al.flatMap nN) al.length)],[],0⟩
theorem qX (al:List Ar)(hl:al.length≤1000)(h:∀ a∈al,TxA a):ae Tryz.prog 310 [.az (al.flatMap nN) al.length] (.str (rJ al)):=by
 have WS:=fun (k:Nat) (a:Ar) (h:al[k]? = some a)=>aO (f:=nN) (n:=7) sH (m:=al) h;obtain⟨X,hX⟩:∃ X,(⟨#[40]⟩:ByteArray)++uP true al=X:=⟨_,rfl⟩;unfold rJ;rw[hX];have q40:(⟨#[40]⟩:ByteArray).size=1:=rfl;have q41:(⟨#[41]⟩:ByteArray).size=1:=rfl;have q44:(⟨#[44,32]⟩:ByteArray).size=2:=rfl;have qm:(⟨#[109,117,116,101,120,32]⟩:ByteArray).size=6:=rfl;refine ae.aM ah Tryz.func310 rfl PH (by simp[Tryz.ntmps310]) rfl fun C hC PN=>?_;rw[Tryz.ntmps310] at hC;apply aj;simp[hC];apply aj;simp[hC];apply aU;simp[hC];apply T.block;refine T.aJ (J155 al X) (n:=al.length) ?_ ?_
 ·refine aa.le (Le.env [4,3,0]) (aa.here ⟨0,⟨#[40]⟩,by omega,by omega,by simpa using hX,by omega,?_⟩);simp
 ·rintro n s ⟨i,x,rfl,PJ,hx,hxs,rfl⟩;by_cases hi:i<al.length
  ·obtain⟨a,Qz⟩:∃ a,al[i]? = some a:=⟨al[i],List.getElem?_eq_getElem hi⟩;have Rj:=WS i a Qz;have Rp:=h a (List.mem_of_getElem? Qz);have hasz:=ID Rp;have wi:=cE ((i:Int)+1) yA yA;have hd:al.drop i=a::al.drop (i+1):=by
    rw[List.drop_eq_getElem_cons hi,(List.getElem?_eq_some_iff.1 Qz).2]
   rw[hd,uP] at hx;apply aU;simp[hC,hi];refine gQ ?_;simp;apply dZ;obtain⟨y,hy⟩:∃ y,x++(if decide (i=0)=true then (⟨#[]⟩:ByteArray) else ⟨#[44,32]⟩)=y:=⟨_,rfl⟩;have Y6:y.size≤x.size+2:=by
    rw[← hy,ByteArray.size_append];split
    ·show x.size+0≤_;omega
    ·omega
   rw[ByteArray.append_assoc,← ByteArray.append_assoc,hy] at hx;refine T.cut (fun s=>s=⟨[(4,I i),(3,.str y),(0,.az (al.flatMap nN) al.length)],[],0⟩) ?_ ?_
   ·apply aj;simp[hC];refine T.bb rfl (fun h=>?_) (fun h=>?_)
    ·have h0:¬ i=0:=by simp at h;omega
     have so:=ax x ⟨#[44,32]⟩ yA;simp only[h0,decide_false,Bool.false_eq_true,if_false] at hy;apply aW;simp[hC,so];refine aa.trim [4,3,0] [] 0 zX yA ?_;simp[hy]
    ·have h0:i=0:=by simp at h;omega
     simp only[h0,decide_true,if_true] at hy;have Rn:x=y:=by rw[← hy];exact (ByteArray.append_empty (b:=x)).symm
     apply T.skip;simp;refine aa.trim [4,3,0] [] 0 zX yA ?_;simp[Rn]
   rintro s rfl
   cases a with
   | ua r=>
    have RT:=og r Rp;have hrs:=zg Rp;obtain⟨rn,ri⟩:=r;obtain⟨q1,q2,hq⟩:∃ cs n,nV ri=.az cs n:=by cases ri<;>exact⟨_,_,rfl⟩
    simp only[j9,hq] at RT;simp only[nN,bK,j9,hq,List.cons_append,List.nil_append] at Rj;have s1:=ax y ⟨#[109,117,116,101,120,32]⟩ yA;have s2:=ax (y++⟨#[109,117,116,101,120,32]⟩) (Bo ⟨rn,ri⟩) (by rw[ByteArray.size_append];omega);apply aj;simp[hC,hi,Rj];refine fx ?_;simp;apply aW;simp[hC,hi,Rj,s1];refine dQ P2 (RT) ?_;simp[hC,s2];apply aW;simp[hC,wi];refine⟨al.length-(i+1),by omega,?_⟩;refine aa.trim [4,3,0] [] 0 zX yA ⟨i+1,y++⟨#[109,117,116,101,120,32]⟩++Bo ⟨rn,ri⟩,rfl,by omega,?_,?_,?_⟩
    ·rw[← hx];simp[Ow,ByteArray.append_assoc]
    ·rw[ByteArray.size_append,ByteArray.size_append];omega
    ·simp
   | exp e=>
    have RT:=Rp.1;have hrs:=Rp.2;rw[bU e] at RT;simp only[nN,bU e,ke,List.cons_append,List.nil_append] at Rj;have s1:=ax y (iv e) yA;apply aj;simp[hC,hi,Rj];refine bh ?_;simp;apply aW;simp[hC,hi,Rj];refine dQ P2 (RT) ?_;simp[hC,s1];apply aW;simp[hC,wi];refine⟨al.length-(i+1),by omega,?_⟩;refine aa.trim [4,3,0] [] 0 zX yA ⟨i+1,y++iv e,rfl,by omega,?_,?_,?_⟩
    ·rw[← hx];simp[Ow,ByteArray.append_assoc]
    ·rw[ByteArray.size_append];omega
    ·simp
  ·have PS:i=al.length:=by omega
   rw[PS,List.drop_length,uP] at hx;have hxX:x=X:=by rw[← hx];exact (ByteArray.append_empty (b:=x)).symm
   subst hxX;have so:=ax x ⟨#[41]⟩ yA;apply aU;simp[hC,hi];refine bh ?_;simp;apply T.exit;simp;apply aj;simp[hC,so];apply T.ret;apply aa.here;simp[Tryz.results310]
end Go.Proofs.YtnecpnjdonibmaaGreat
