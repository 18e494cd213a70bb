/- text of expressions of the right form; refText, argsText. -/
import Derived.Test.YtmnglemlimfpbaaGreatZ30
namespace Go.Proofs.YtmnglemlimfpbaaGreat
open Go.Can Go.aX
theorem lV {ns:List ByteArray}(hns:∀ s∈ns,dm s){d:Nat}{e:Ex}(hd:d≤5)(hw:fM ns d e):(ja e).size≤100000:=by
 have h:=(bZ.ex hns d e hw).1
 rw[lE] at h
 have:Bm d≤187:=by
  match d,hd with
  | 0,_=>decide
  | 1,_=>decide
  | 2,_=>decide
  | 3,_=>decide
  | 4,_=>decide
  | 5,_=>decide
 omega
theorem oq {ns:List ByteArray}(hns:∀ s∈ns,dm s):∀ (d:Nat) (e:Ex),d≤5→fM ns d e→ae Tryz.prog 154 [.agg (aZ e)] (.str (ja e))
 | _,.num n,_,hw=>oo (.num n) [] rfl (fZ hw) yAv _ yAv (.inl ⟨n,rfl,by simpa [fM] using hw,rfl⟩)
 | _,.nm s,_,hw=>oo (.nm s) [] rfl (fZ hw) yAv _ yAv (.inr (.inl ⟨s,rfl,rfl⟩))
 | d+1,.un k x,hd,hw=>by
  have hw':=hw
  simp only[fM] at hw'
  refine oo (.un k x) [tY (.un k x) x 0] rfl (fZ hw) yAv _ ?_ (.inr (.inr (.inl ⟨k,x,rfl,hw'.1,?_⟩)))
  ·intro i y hy
   match i with
   | 0=>
    simp only[Ex.args,List.getElem?_cons_zero,Option.some.injEq] at hy
    subst hy
    exact⟨fZ hw'.2,oq hns d _ yA hw'.2,lV hns yA hw'.2,rfl⟩
   | i+1=>simp[Ex.args] at hy
  ·have h5:(Ex.un k x).st=5:=(by decide:∀ k,k<2→ny (3+k)=5) k hw'.1
   simp only[ja,List.getD_cons_zero,tY,pF,h5]
   simp
 | d+1,.bin k a b,hd,hw=>by
  have hw':=hw
  simp only[fM] at hw'
  refine oo (.bin k a b) [tY (.bin k a b) a 0,tY (.bin k a b) b 1] rfl (fZ hw) yAv _ ?_ (.inr (.inr (.inr ⟨k,a,b,rfl,hw'.1,?_⟩)))
  ·intro i y hy
   match i with
   | 0=>
    simp only[Ex.args,List.getElem?_cons_zero,Option.some.injEq] at hy
    subst hy
    exact⟨fZ hw'.2.1,oq hns d _ yA hw'.2.1,lV hns yA hw'.2.1,rfl⟩
   | 1=>
    simp only[Ex.args,List.getElem?_cons_succ,List.getElem?_cons_zero,Option.some.injEq] at hy
    subst hy
    exact⟨fZ hw'.2.2,oq hns d _ yA hw'.2.2,lV hns yA hw'.2.2,rfl⟩
   | i+2=>simp[Ex.args] at hy
  ·have hle:(decide (b.st<ny (5+k)) || (decide (b.st=ny (5+k)) && true))=decide (b.st≤ny (5+k)):=by
    rw[Bool.eq_iff_iff]
    simp
    omega
   have hst:(Ex.bin k a b).st=ny (5+k):=rfl
   simp only[ja,List.getD_cons_zero,List.getD_cons_succ,tY,pF,hst,decide_true,hle]
   simp
 | 0,.un _ _,_,h=>h.elim
 | 0,.bin _ _ _,_,h=>h.elim
 | 0,.zero,_,h=>h.elim
 | 0,.loc _,_,h=>h.elim
 | 0,.ji _,_,h=>h.elim
 | _+1,.zero,_,h=>h.elim
 | _+1,.loc _,_,h=>h.elim
 | _+1,.ji _,_,h=>h.elim
def Lw (e:Ex):Prop:=ae Tryz.prog 154 [.agg (aZ e)] (.str (ja e))∧(ja e).size≤100000
def Lv (r:Rf):Prop:=r.name.size≤100∧∀ e,r.index=some e→Lw e
theorem zG {r:Rf}(h:Lv r):(BK r).size≤100200:=by
 obtain⟨nm,ix⟩:=r
 cases ix with
 | none=>exact Nat.le_trans h.1 yA
 | some e=>
  have h1:=h.1
  have h2:=(h.2 e rfl).2
  have q1:(⟨#[91]⟩:ByteArray).size=1:=rfl
  have q2:(⟨#[93]⟩:ByteArray).size=1:=rfl
  simp only[BK,ByteArray.size_append]
  simp only at h1
  omega
theorem py (r:Rf)(h:Lv r):ae Tryz.prog 156 [.agg (kZ r)] (.str (BK r)):=by
 obtain⟨nm,ix⟩:=r
 have hnm:=h.1
 simp only at hnm
 refine ae.aB ag Tryz.func156 rfl yAb (by simp[Tryz.ntmps156]) rfl fun C hC hC0=>?_
 rw[Tryz.ntmps156] at hC
 cases ix with
 | none=>
  apply au
  simp[hC,kZ,mZ]
  apply aJ
  simp[hC]
  refine dN ?_
  simp
  apply au
  simp[hC]
  apply T.ret
  apply aa.here
  simp[Tryz.results156,BK]
 | some e=>
  obtain⟨h1,h2⟩:=h.2 e rfl
  have q1:(⟨#[91]⟩:ByteArray).size=1:=rfl
  have q2:(⟨#[93]⟩:ByteArray).size=1:=rfl
  have s1:=ax nm ⟨#[91]⟩ yA
  have s2:=ax (nm++⟨#[91]⟩) (ja e) (by rw[ByteArray.size_append];omega)
  have s3:=ax (nm++⟨#[91]⟩++ja e) ⟨#[93]⟩ (by rw[ByteArray.size_append,ByteArray.size_append];omega)
  apply au
  simp[hC,kZ,mZ]
  apply aJ
  simp[hC]
  refine bj ?_
  simp
  apply T.skip
  simp
  apply T.seq
  refine T.rx ag follows [0,1,2,3,4,5,6,7,8,9,10] [(1,7)] yAb ?_
  simp[hC,s1,bk]
  refine RX.call rfl yAa rfl rfl rfl yBp (h1) ?_
  simp[s2,s3]
  apply T.ret
  apply aa.here
  simp[Tryz.results156,BK]
def TxA (a:Ar):Prop:=match a with
 | .uJ r=>Lv r
 | .exp e=>Lw e
theorem HB {a:Ar}(h:TxA a):(My a).size≤100300:=by
 cases a with
 | uJ r=>
  have:=zG h
  have q:(⟨#[109,117,116,101,120,32]⟩:ByteArray).size=6:=rfl
  simp only[My,ByteArray.size_append]
  omega
 | exp e=>exact Nat.le_trans h.2 yA
def J155 (al:List Ar)(X:ByteArray)(n:Nat)(s:St):Prop:=∃ (i:Nat) (x:ByteArray),n=al.length-i∧i≤al.length∧x++vA (decide (i=0)) (al.drop i)=X∧x.size≤1+100400*i∧s=⟨[(4,I i),(3,.str x),(0,.av (al.flatMap oX) al.length)],[],0⟩
theorem sv (al:List Ar)(hl:al.length≤1000)(h:∀ a∈al,TxA a):ae Tryz.prog 155 [.av (al.flatMap oX) al.length] (.str (sM al)):=by
 have hafl:=fun (k:Nat) (a:Ar) (h:al[k]? = some a)=>aE (f:=oX) (n:=7) tu (m:=al) h
 obtain⟨X,hX⟩:∃ X,(⟨#[40]⟩:ByteArray)++vA true al=X:=⟨_,rfl⟩
 unfold sM
 rw[hX]
 have q40:(⟨#[40]⟩:ByteArray).size=1:=rfl
 have q41:(⟨#[41]⟩:ByteArray).size=1:=rfl
 have q44:(⟨#[44,32]⟩:ByteArray).size=2:=rfl
 have qm:(⟨#[109,117,116,101,120,32]⟩:ByteArray).size=6:=rfl
 refine ae.aB ag Tryz.func155 rfl yAb (by simp[Tryz.ntmps155]) rfl fun C hC hC0=>?_
 rw[Tryz.ntmps155] at hC
 apply au
 simp[hC]
 apply au
 simp[hC]
 apply aJ
 simp[hC]
 apply T.block
 refine T.aL (J155 al X) (n:=al.length) ?_ ?_
 ·refine aa.le (Le.env [4,3,0]) (aa.here ⟨0,⟨#[40]⟩,by omega,by omega,by simpa using hX,by omega,?_⟩)
  simp
 ·rintro n s ⟨i,x,rfl,hil,hx,hxs,rfl⟩
  by_cases hi:i<al.length
  ·obtain⟨a,hia⟩:∃ a,al[i]? = some a:=⟨al[i],List.getElem?_eq_getElem hi⟩
   have hadr:=hafl i a hia
   have hao:=h a (List.mem_of_getElem? hia)
   have hasz:=HB hao
   have wi:=ct ((i:Int)+1) yA yA
   have hd:al.drop i=a::al.drop (i+1):=by
    rw[List.drop_eq_getElem_cons hi,(List.getElem?_eq_some_iff.1 hia).2]
   rw[hd,vA] at hx
   apply aJ
   simp[hC,hi]
   refine iv ?_
   simp
   apply fq
   obtain⟨y,hy⟩:∃ y,x++(if decide (i=0)=true then (⟨#[]⟩:ByteArray) else ⟨#[44,32]⟩)=y:=⟨_,rfl⟩
   have hys:y.size≤x.size+2:=by
    rw[← hy,ByteArray.size_append]
    split
    ·show x.size+0≤_
     omega
    ·omega
   rw[ByteArray.append_assoc,← ByteArray.append_assoc,hy] at hx
   refine T.cut (fun s=>s=⟨[(4,I i),(3,.str y),(0,.av (al.flatMap oX) al.length)],[],0⟩) ?_ ?_
   ·apply au
    simp[hC]
    refine T.bg rfl (fun h=>?_) (fun h=>?_)
    ·have h0:¬ i=0:=by simp at h;omega
     have so:=ax x ⟨#[44,32]⟩ yA
     simp only[h0,decide_false,Bool.false_eq_true,if_false] at hy
     apply aO
     simp[hC,so]
     refine aa.trim [4,3,0] [] 0 yAa yA ?_
     simp[hy]
    ·have h0:i=0:=by simp at h;omega
     simp only[h0,decide_true,if_true] at hy
     have hxy:x=y:=by rw[← hy];exact (ByteArray.append_empty (b:=x)).symm
     apply T.skip
     simp
     refine aa.trim [4,3,0] [] 0 yAa yA ?_
     simp[hxy]
   rintro s rfl
   cases a with
   | uJ r=>
    have hcr:=py r hao
    have hrs:=zG hao
    obtain⟨rn,ri⟩:=r
    obtain⟨q1,q2,hq⟩:∃ cs n,mZ ri=.av cs n:=by cases ri<;>exact⟨_,_,rfl⟩
    simp only[kZ,hq] at hcr
    simp only[oX,aZ,kZ,hq,List.cons_append,List.nil_append] at hadr
    have s1:=ax y ⟨#[109,117,116,101,120,32]⟩ yA
    have s2:=ax (y++⟨#[109,117,116,101,120,32]⟩) (BK ⟨rn,ri⟩) (by rw[ByteArray.size_append];omega)
    apply au
    simp[hC,hi,hadr]
    refine dN ?_
    simp
    apply aO
    simp[hC,hi,hadr,s1]
    refine cH yAd (hcr) ?_
    simp[hC,s2]
    apply aO
    simp[hC,wi]
    refine⟨al.length-(i+1),by omega,?_⟩
    refine aa.trim [4,3,0] [] 0 yAa yA ⟨i+1,y++⟨#[109,117,116,101,120,32]⟩++BK ⟨rn,ri⟩,rfl,by omega,?_,?_,?_⟩
    ·rw[← hx]
     simp[My,ByteArray.append_assoc]
    ·rw[ByteArray.size_append,ByteArray.size_append];omega
    ·simp
   | exp e=>
    have hcr:=hao.1
    have hrs:=hao.2
    rw[bL e] at hcr
    simp only[oX,bL e,k8,List.cons_append,List.nil_append] at hadr
    have s1:=ax y (ja e) yA
    apply au
    simp[hC,hi,hadr]
    refine bj ?_
    simp
    apply aO
    simp[hC,hi,hadr]
    refine cH yAd (hcr) ?_
    simp[hC,s1]
    apply aO
    simp[hC,wi]
    refine⟨al.length-(i+1),by omega,?_⟩
    refine aa.trim [4,3,0] [] 0 yAa yA ⟨i+1,y++ja e,rfl,by omega,?_,?_,?_⟩
    ·rw[← hx]
     simp[My,ByteArray.append_assoc]
    ·rw[ByteArray.size_append];omega
    ·simp
  ·have hie:i=al.length:=by omega
   rw[hie,List.drop_length,vA] at hx
   have hxX:x=X:=by rw[← hx];exact (ByteArray.append_empty (b:=x)).symm
   subst hxX
   have so:=ax x ⟨#[41]⟩ yA
   apply aJ
   simp[hC,hi]
   refine bj ?_
   simp
   apply T.exit
   simp
   apply au
   simp[hC,so]
   apply T.ret
   apply aa.here
   simp[Tryz.results155]
end Go.Proofs.YtmnglemlimfpbaaGreat
