/- Depths of a mutex: sets and relations as numbers, what may b -/
import Derived.Test.YtlkmbdfhdknlgaaGreatDoorZ15
import Derived.Test.YtlkmbdfhdknlgaaGreatDoorProg
import Derived.KernelRfl
namespace Go.aN
open Go.Can
theorem kz (p:Nat→Prop):∀ n:Nat,∃ x,x<2 ^ n∧∀ e,e<n→(x.testBit e=true↔p e)
 | 0=>⟨0,by simp,fun e h=>by omega⟩
 | n+1=>by
  obtain⟨x,hx,hb⟩:=kz p n;by_cases h:p n
  ·refine⟨2 ^ n+x,by rw[Nat.pow_succ];omega,fun e he=>?_⟩;by_cases h2:e=n
   ·subst h2;rw[Nat.testBit_two_pow_add_eq,Nat.testBit_lt_two_pow hx];simp[h]
   ·rw[Nat.testBit_two_pow_add_gt yA];exact hb e yA
  ·refine⟨x,by rw[Nat.pow_succ];omega,fun e he=>?_⟩;by_cases h2:e=n
   ·subst h2;rw[Nat.testBit_lt_two_pow hx];simp[h]
   ·exact hb e yA
noncomputable def lJ (L:Nat) (p:Nat→Prop):Nat:=Classical.choose (kz p (L+1))
theorem nu (L:Nat)(p:Nat→Prop):lJ L p<2 ^ (L+1):=(Classical.choose_spec (kz p (L+1))).1
theorem ot {L:Nat}{p:Nat→Prop}{e:Nat}(h:e≤L):((lJ L p).testBit e=true↔p e):=(Classical.choose_spec (kz p (L+1))).2 e yA
theorem CM {L x e:Nat}(hx:x<2 ^ (L+1))(h:x.testBit e=true):e≤L:=by
 by_cases h2:e≤L
 ·exact h2
 ·have h3:x<2 ^ e:=Nat.lt_of_lt_of_le hx (Nat.pow_le_pow_right yA yA);rw[Nat.testBit_lt_two_pow h3] at h;cases h
theorem Dw {L x:Nat}{p:Nat→Prop}(hx:x<2 ^ (L+1))(h:∀ e,e≤L→(x.testBit e=true↔p e)):x=lJ L p:=by
 refine Nat.eq_of_testBit_eq fun i=>?_;by_cases hi:i≤L
 ·have h1:=h i hi;have h2:=ot (p:=p) hi;cases hb:x.testBit i<;>cases hc:(lJ L p).testBit i<;>simp_all
 ·have h3:∀ y,y<2 ^ (L+1)→y.testBit i=false:=fun y hy=>Nat.testBit_lt_two_pow (Nat.lt_of_lt_of_le hy (Nat.pow_le_pow_right yA yA));rw[h3 x hx,h3 _ (nu L p)]
def bb (r:List Nat)(d e:Nat):Bool:=(r.getD d 0).testBit e
def eL (t:List (List Nat))(p d e:Nat):Bool:=bb (t.getD p []) d e
structure qW (L:Nat)(r:List Nat):Prop where
 len:r.length=L+1
 lt:∀ s∈r,s<2 ^ (L+1)
theorem kJ {L:Nat}{r:List Nat}(h:qW L r){d e:Nat}(hb:bb r d e=true):d≤L∧e≤L:=by
 unfold bb at hb;rw[List.getD_eq_getElem?_getD] at hb
 cases hx:r[d]? with
 | none=>rw[hx] at hb;simp at hb
 | some s=>
  rw[hx] at hb;have h1:=(List.getElem?_eq_some_iff.1 hx).1;have h2:=h.len;exact⟨by omega,CM (h.lt s (List.mem_of_getElem? hx)) hb⟩
theorem xT {L:Nat}{a b:List Nat}(ha:qW L a)(hb:qW L b)(h:∀ d e,d≤L→e≤L→bb a d e=bb b d e):a=b:=by
 refine List.ext_getElem? fun d=>?_;by_cases hd:d≤L
 ·obtain⟨x,hx⟩:∃ x,a[d]? = some x:=⟨_,List.getElem?_eq_getElem (by have:=ha.len;omega)⟩;obtain⟨y,hy⟩:∃ y,b[d]? = some y:=⟨_,List.getElem?_eq_getElem (by have:=hb.len;omega)⟩;rw[hx,hy];congr 1;refine Nat.eq_of_testBit_eq fun e=>?_;by_cases he:e≤L
  ·have:=h d e hd he
   simpa [bb,List.getD_eq_getElem?_getD,hx,hy] using this
  ·have h3:∀ z,z<2 ^ (L+1)→z.testBit e=false:=fun z hz=>Nat.testBit_lt_two_pow (Nat.lt_of_lt_of_le hz (Nat.pow_le_pow_right yA yA));rw[h3 x (ha.lt x (List.mem_of_getElem? hx)),h3 y (hb.lt y (List.mem_of_getElem? hy))]
 ·rw[List.getElem?_eq_none (by have:=ha.len;omega),List.getElem?_eq_none (by have:=hb.len;omega)]
def FE:List Nat→Nat→Nat→Nat
 | [],_,_=>0
 | s::r,x,d=>(if x.testBit d=true then s else 0) ||| FE r x (d+1)
def BD (r:List Nat)(x:Nat):Nat:=FE r x 0
theorem Ec:∀ (r:List Nat) (x d e:Nat),(FE r x d).testBit e=true↔∃ k,x.testBit (d+k)=true∧bb r k e=true
 | [],x,d,e=>by simp[FE,bb]
 | s::r,x,d,e=>by
  rw[FE,Nat.testBit_or,Bool.or_eq_true,Ec r x (d+1) e];constructor
  ·rintro (h | ⟨k,h1,h2⟩)
   ·split at h
    ·rename_i hx;exact⟨0,hx,by simpa [bb] using h⟩
    ·simp at h
   ·exact⟨k+1,by rw[show d+(k+1)=d+1+k by omega];exact h1,by simpa [bb] using h2⟩
  ·rintro⟨k,h1,h2⟩
   cases k with
   | zero=>
    left;rw[Nat.add_zero] at h1;rw[if_pos h1]
    simpa [bb] using h2
   | succ k=>exact .inr ⟨k,by rw[show d+1+k=d+(k+1) by omega];exact h1,by simpa [bb] using h2⟩
theorem Eb (r:List Nat)(x e:Nat):(BD r x).testBit e=true↔∃ k,x.testBit k=true∧bb r k e=true:=by
 rw[BD,Ec];simp
theorem ze {L:Nat}:∀ (r:List Nat) (x d:Nat),(∀ s∈r,s<2 ^ (L+1))→FE r x d<2 ^ (L+1)
 | [],_,_,_=>by simp[FE];exact Nat.two_pow_pos _
 | s::r,x,d,h=>by
  rw[FE];refine Nat.or_lt_two_pow ?_ (ze r x (d+1) fun y hy=>h y (List.mem_cons_of_mem _ hy));split
  ·exact h s List.mem_cons_self
  ·exact Nat.two_pow_pos _
def q9 (a b:List Nat):List Nat:=a.map (BD b)
def mJ (a b:List Nat):List Nat:=List.zipWith (· ||| ·) a b
def vZ (a b:List Nat):Bool:=(List.zipWith (fun x y=>decide (x ||| y=y)) a b).all id
def sV (L:Nat)(c:Int):List Nat:=(List.range (L+1)).map fun d:Nat=>if 0≤(d:Int)+c∧(d:Int)+c≤L then 2 ^ ((d:Int)+c).toNat else 0
theorem vr {L:Nat}{a b:List Nat}(ha:qW L a)(hb:qW L b):qW L (q9 a b):=by
 refine⟨by simp[q9,ha.len],fun s hs=>?_⟩;simp only[q9,List.mem_map] at hs;obtain⟨x,_,rfl⟩:=hs;exact ze b x 0 hb.lt
theorem uc (a b:List Nat)(d e:Nat):bb (q9 a b) d e=true↔∃ k,bb a d k=true∧bb b k e=true:=by
 unfold bb q9;rw[List.getD_eq_getElem?_getD,List.getElem?_map]
 cases hx:a[d]? with
 | none=>simp[List.getD_eq_getElem?_getD,hx]
 | some x=>
  simp only[Option.map_some,Option.getD_some];rw[Eb];simp[List.getD_eq_getElem?_getD,hx,bb]
theorem BR {L:Nat}{a b:List Nat}(ha:qW L a)(hb:qW L b):qW L (mJ a b):=by
 refine⟨by simp[mJ,ha.len,hb.len],fun s hs=>?_⟩;simp only[mJ] at hs;obtain⟨i,hi⟩:=List.mem_iff_getElem?.1 hs;rw[List.getElem?_zipWith] at hi
 cases hx:a[i]? with
 | none=>rw[hx] at hi;simp at hi
 | some x=>
  cases hy:b[i]? with
  | none=>rw[hx,hy] at hi;simp at hi
  | some y=>
   rw[hx,hy] at hi;simp at hi;subst hi;exact Nat.or_lt_two_pow (ha.lt x (List.mem_of_getElem? hx)) (hb.lt y (List.mem_of_getElem? hy))
theorem xV {a b:List Nat}(h:a.length=b.length)(d e:Nat):bb (mJ a b) d e=(bb a d e || bb b d e):=by
 unfold bb mJ;rw[List.getD_eq_getElem?_getD,List.getElem?_zipWith,List.getD_eq_getElem?_getD,List.getD_eq_getElem?_getD];by_cases hd:d<a.length
 ·rw[List.getElem?_eq_getElem hd,List.getElem?_eq_getElem yA];simp[Nat.testBit_or]
 ·rw[List.getElem?_eq_none yA,List.getElem?_eq_none yA];simp
theorem or_self_iff (x y:Nat):x ||| y=y↔∀ e,x.testBit e=true→y.testBit e=true:=by
 constructor
 ·intro h e he;rw[← h,Nat.testBit_or,he];rfl
 ·intro h;refine Nat.eq_of_testBit_eq fun e=>?_;rw[Nat.testBit_or];have:=h e;cases hx:x.testBit e<;>cases hy:y.testBit e<;>simp_all
theorem ov {a b:List Nat}(h:a.length=b.length):vZ a b=true↔∀ d e,bb a d e=true→bb b d e=true:=by
 unfold vZ;rw[List.all_eq_true];constructor
 ·intro h1 d e hb;unfold bb at hb ⊢;rw[List.getD_eq_getElem?_getD] at hb ⊢;by_cases hd:d<a.length
  ·rw[List.getElem?_eq_getElem hd] at hb;rw[List.getElem?_eq_getElem yA];simp only[Option.getD_some] at hb ⊢;have h2:=h1 (decide (a[d] ||| b[d]'yA=b[d]'yA)) (List.mem_iff_getElem?.2 ⟨d,by rw[List.getElem?_zipWith,List.getElem?_eq_getElem hd,List.getElem?_eq_getElem yA]⟩);simp only[id,decide_eq_true_eq] at h2;exact (or_self_iff _ _).1 h2 e hb
  ·rw[List.getElem?_eq_none yA] at hb;simp at hb
 ·intro h1 z hz;obtain⟨d,hd⟩:=List.mem_iff_getElem?.1 hz;rw[List.getElem?_zipWith] at hd
  cases hx:a[d]? with
  | none=>rw[hx] at hd;simp at hd
  | some x=>
   cases hy:b[d]? with
   | none=>rw[hx,hy] at hd;simp at hd
   | some y=>
    rw[hx,hy] at hd;simp at hd;subst hd;simp only[id,decide_eq_true_eq];refine (or_self_iff x y).2 fun e he=>?_;have h2:=h1 d e;simp only[bb,List.getD_eq_getElem?_getD,hx,hy,Option.getD_some] at h2;exact h2 he
theorem Gy (L:Nat)(c:Int):qW L (sV L c):=by
 refine⟨by simp[sV],fun s hs=>?_⟩;simp only[sV,List.mem_map] at hs;obtain⟨d,_,rfl⟩:=hs;split
 ·exact Nat.pow_lt_pow_right yA yA
 ·exact Nat.two_pow_pos _
theorem tC (L:Nat)(c:Int)(d e:Nat):bb (sV L c) d e=true↔d≤L∧e≤L∧(e:Int)=d+c:=by
 unfold bb sV;rw[List.getD_eq_getElem?_getD,List.getElem?_map];by_cases hd:d<L+1
 ·rw[List.getElem?_eq_getElem (by simpa using hd)];simp only[List.getElem_range,Option.map_some,Option.getD_some];split
  ·rename_i h;rw[Nat.testBit_two_pow,decide_eq_true_eq];omega
  ·rename_i h;simp;omega
 ·rw[List.getElem?_eq_none (by simpa using hd)];simp;omega
def sS (L:Nat):List Nat:=List.replicate (L+1) 0
theorem BH (L:Nat):qW L (sS L):=⟨by simp[sS],fun s hs=>by rw[List.eq_of_mem_replicate hs];exact Nat.two_pow_pos _⟩
theorem xQ (L d e:Nat):bb (sS L) d e=false:=by
 unfold bb sS;rw[List.getD_eq_getElem?_getD,List.getElem?_replicate];split<;>simp
def bits (x:Nat):Nat:=(List.range 9).countP fun e=>x.testBit e
def cO (r:List Nat):Nat:=(r.map bits).sum
theorem Kj (x:Nat):bits x≤9:=by
 have:=List.countP_le_length (p:=fun e=>x.testBit e) (l:=List.range 9)
 simpa [bits] using this
theorem ml {α:Type}{p q:α→Bool}:∀ l:List α,(∀ x∈l,p x=true→q x=true)→l.countP p≤l.countP q
 | [],_=>by simp
 | a::l,h=>by
  have h1:=ml l fun x hx=>h x (List.mem_cons_of_mem _ hx);have h2:=h a List.mem_cons_self;rw[List.countP_cons,List.countP_cons];cases ha:p a<;>cases hb:q a<;>simp_all<;>omega
theorem vq {α:Type}{p q:α→Bool}:∀ l:List α,(∀ x∈l,p x=true→q x=true)→(∃ x∈l,p x=false∧q x=true)→l.countP p<l.countP q
 | [],_,h=>by obtain⟨x,hx,_⟩:=h;cases hx
 | a::l,h,h'=>by
  have h0:=ml l fun x hx=>h x (List.mem_cons_of_mem _ hx);have h2:=h a List.mem_cons_self;rw[List.countP_cons,List.countP_cons];obtain⟨x,hx,hp,hq⟩:=h';rcases List.mem_cons.1 hx with rfl | hx
  ·simp[hp,hq];omega
  ·have h1:=vq l (fun x hx=>h x (List.mem_cons_of_mem _ hx)) ⟨x,hx,hp,hq⟩;cases ha:p a<;>cases hb:q a<;>simp_all<;>omega
theorem xK {x y:Nat}(h:∀ e,x.testBit e=true→y.testBit e=true):bits x≤bits y:=ml _ fun e _=>h e
theorem D6 {x y:Nat}(h:∀ e,x.testBit e=true→y.testBit e=true){e:Nat}(he:e≤8)(h1:x.testBit e=false)(h2:y.testBit e=true):bits x<bits y:=
 vq _ (fun e _=>h e) ⟨e,List.mem_range.2 yA,h1,h2⟩
theorem qP:∀ r:List Nat,cO r≤9*r.length
 | []=>by simp[cO]
 | x::r=>by
  have h1:=Kj x;have h2:=qP r;simp only[cO,List.map_cons,List.sum_cons,List.length_cons] at h2 ⊢;omega
theorem pS:∀ (a b:List Nat),a.length=b.length→(∀ d e,bb a d e=true→bb b d e=true)→cO a≤cO b
 | [],b,_,_=>by simp[cO]
 | x::a,[],h,_=>by simp at h
 | x::a,y::b,h,hb=>by
  have h1:=pS a b QW fun d e hd=>by simpa [bb] using hb (d+1) e (by simpa [bb] using hd)
  have h2:=xK (x:=x) (y:=y) fun e he=>by simpa [bb] using hb 0 e (by simpa [bb] using he)
  simp only[cO,List.map_cons,List.sum_cons] at h1 ⊢;omega
theorem qO:∀ (a b:List Nat),a.length=b.length→(∀ d e,bb a d e=true→bb b d e=true)→(∃ d e,e≤8∧bb a d e=false∧bb b d e=true)→cO a<cO b
 | [],b,h,_,h'=>by
  obtain⟨d,e,_,_,h2⟩:=h';have:b=[]:=List.length_eq_zero_iff.1 h.symm;subst this;simp[bb] at h2
 | x::a,[],h,_,_=>by simp at h
 | x::a,y::b,h,hb,h'=>by
  have h1:=pS a b QW fun d e hd=>by simpa [bb] using hb (d+1) e (by simpa [bb] using hd)
  have h2:=xK (x:=x) (y:=y) fun e he=>by simpa [bb] using hb 0 e (by simpa [bb] using he)
  simp only[cO,List.map_cons,List.sum_cons] at h1 ⊢;obtain⟨d,e,he,h3,h4⟩:=h'
  cases d with
  | zero=>
   have:=D6 (x:=x) (y:=y) (fun e he=>by simpa [bb] using hb 0 e (by simpa [bb] using he)) he (by simpa [bb] using h3) (by simpa [bb] using h4);omega
  | succ d=>
   have:=qO a b QW (fun d e hd=>by simpa [bb] using hb (d+1) e (by simpa [bb] using hd)) ⟨d,e,he,by simpa [bb] using h3,by simpa [bb] using h4⟩;simp only[cO] at this;omega
def dz (t:List (List Nat)):Nat:=(t.map cO).sum
theorem sj:∀ (t:List (List Nat)) (i:Nat) (a b:List Nat),t[i]? = some a→dz (t.set i b)+cO a=dz t+cO b
 | [],i,a,b,h=>by simp at h
 | x::t,0,a,b,h=>by
  simp at h;subst h;simp[dz];omega
 | x::t,i+1,a,b,h=>by
  have:=sj t i a b QW;simp only[dz,List.set_cons_succ,List.map_cons,List.sum_cons] at this ⊢;omega
theorem qN {L:Nat}:∀ t:List (List Nat),(∀ r∈t,qW L r)→dz t≤(9*(L+1))*t.length
 | [],_=>by simp[dz]
 | r::t,h=>by
  have h1:=qP r;rw[(h r List.mem_cons_self).len] at h1;have h2:=qN t fun x hx=>h x (List.mem_cons_of_mem _ hx);simp only[dz,List.map_cons,List.sum_cons,List.length_cons,Nat.mul_add] at h2 ⊢;omega
def dw (x:Is)(m:Nat):In→Int
 | .lock un p=>if oq x p=m then (if un=true then -1 else 1) else 0
 | _=>0
def dJ (z:In)(pc:Nat):List Nat:=match z with
 | .ret=>[]
 | .jump g=>[g]
 | .branch g _=>if g=pc+1 then [g] else [min g (pc+1),max g (pc+1)]
 | _=>[pc+1]
def cN:In→Bool
 | .call g _ _ _=>!g
 | _=>false
def gM:In→Bool
 | .ret=>true
 | _=>false
def dn (c:Cl)(i pc:Nat):Nat:=((c.calls.getD i []).getD pc (-1)).toNat
section
variable (u:Un)(c:Cl)(m L:Nat)
inductive Ri (S:Nat→Nat→Nat→Prop)(i:Nat):Nat→Nat→Nat→Prop
 | base {d:Nat} (h:d≤L):Ri S i 0 d d
 | step {pc d e e' q:Nat} {x:Is} {z:In} (h:Ri S i pc d e) (hx:c.is[i]? = some x) (hz:(au u x)[pc]? = some z) (hc:cN z=false) (he:(e':Int)=e+dw x m z) (hl:e'≤L) (hq:q∈dJ z pc):Ri S i q d e'
 | call {pc d e e':Nat} {x:Is} {z:In} (h:Ri S i pc d e) (hx:c.is[i]? = some x) (hz:(au u x)[pc]? = some z) (hc:cN z=true) (hs:S (dn c i pc) e e') (hl:e'≤L):Ri S i (pc+1) d e'
def FK (S:Nat→Nat→Nat→Prop)(i d e:Nat):Prop:=∃ (pc:Nat) (x:Is),c.is[i]? = some x∧(au u x)[pc]? = some .ret∧Ri u c m L S i pc d e
inductive Rr:Nat→Nat→Nat→Nat→Prop
 | base {i d:Nat} (h:d≤L):Rr i 0 d d
 | step {i pc d e e' q:Nat} {x:Is} {z:In} (h:Rr i pc d e) (hx:c.is[i]? = some x) (hz:(au u x)[pc]? = some z) (hc:cN z=false) (he:(e':Int)=e+dw x m z) (hl:e'≤L) (hq:q∈dJ z pc):Rr i q d e'
 | call {i pc d e e' pk:Nat} {x y:Is} {z:In} (h:Rr i pc d e) (hx:c.is[i]? = some x) (hz:(au u x)[pc]? = some z) (hc:cN z=true) (hk:Rr (dn c i pc) pk e e') (hy:c.is[dn c i pc]? = some y) (hr:(au u y)[pk]? = some .ret) (hl:e'≤L):Rr i (pc+1) d e'
def lX (i d e:Nat):Prop:=∃ (pc:Nat) (x:Is),c.is[i]? = some x∧(au u x)[pc]? = some .ret∧Rr u c m L i pc d e
inductive pf:Nat→Nat→Prop
 | root {r:Nat} (h:r∈c.roots):pf r 0
 | call {i d e pc:Nat} {x:Is} {z:In} (h:pf i d) (hr:Rr u c m L i pc d e) (hx:c.is[i]? = some x) (hz:(au u x)[pc]? = some z) (hc:cN z=true):pf (dn c i pc) e
def Be (i pc e:Nat):Prop:=∃ d,pf u c m L i d∧Rr u c m L i pc d e
end
section
variable {u:Un}{c:Cl}{m L:Nat}
theorem Ri.mono {S S':Nat→Nat→Nat→Prop}(hS:∀ i d e,S i d e→S' i d e){i pc d e:Nat}(h:Ri u c m L S i pc d e):Ri u c m L S' i pc d e:=by
 induction h with
 | base h=>exact .base h
 | step _ hx hz hc he hl hq ih=>exact .step ih hx hz hc he hl hq
 | call _ hx hz hc hs hl ih=>exact .call ih hx hz hc (hS _ _ _ hs) hl
theorem Ri.le {S:Nat→Nat→Nat→Prop}{i pc d e:Nat}(h:Ri u c m L S i pc d e):d≤L∧e≤L:=by
 induction h with
 | base h=>exact⟨h,h⟩
 | step _ _ _ _ _ hl _ ih=>exact⟨ih.1,hl⟩
 | call _ _ _ _ _ hl ih=>exact⟨ih.1,hl⟩
theorem Rr.ri {i pc d e:Nat}(h:Rr u c m L i pc d e):Ri u c m L (lX u c m L) i pc d e:=by
 induction h with
 | base h=>exact .base h
 | step _ hx hz hc he hl hq ih=>exact .step ih hx hz hc he hl hq
 | call _ hx hz hc hk hy hr hl ih _=>exact .call ih hx hz hc ⟨_,_,hy,hr,hk⟩ hl
theorem Ri.rr {i pc d e:Nat}(h:Ri u c m L (lX u c m L) i pc d e):Rr u c m L i pc d e:=by
 induction h with
 | base h=>exact .base h
 | step _ hx hz hc he hl hq ih=>exact .step ih hx hz hc he hl hq
 | call _ hx hz hc hs hl ih=>
  obtain⟨pk,y,hy,hr,hk⟩:=hs;exact .call ih hx hz hc hk hy hr hl
theorem LC {i pc d e:Nat}:Ri u c m L (lX u c m L) i pc d e↔Rr u c m L i pc d e:=⟨Ri.rr,Rr.ri⟩
theorem FK.mono {S S':Nat→Nat→Nat→Prop}(hS:∀ i d e,S i d e→S' i d e){i d e:Nat}:FK u c m L S i d e→FK u c m L S' i d e:=fun⟨pc,x,h1,h2,h3⟩=>⟨pc,x,h1,h2,h3.mono hS⟩
theorem yO {i d e:Nat}:FK u c m L (lX u c m L) i d e↔lX u c m L i d e:=⟨fun⟨pc,x,h1,h2,h3⟩=>⟨pc,x,h1,h2,h3.rr⟩,fun⟨pc,x,h1,h2,h3⟩=>⟨pc,x,h1,h2,h3.ri⟩⟩
theorem Rr.least {S:Nat→Nat→Nat→Prop}(hS:∀ i d e,FK u c m L S i d e→S i d e){i pc d e:Nat}(h:Rr u c m L i pc d e):Ri u c m L S i pc d e:=by
 induction h with
 | base h=>exact .base h
 | step _ hx hz hc he hl hq ih=>exact .step ih hx hz hc he hl hq
 | call _ hx hz hc _ hy hr hl ih ih2=>exact .call ih hx hz hc (hS _ _ _ ⟨_,_,hy,hr,ih2⟩) hl
theorem lX.least {S:Nat→Nat→Nat→Prop}(hS:∀ i d e,FK u c m L S i d e→S i d e){i d e:Nat}(h:lX u c m L i d e):S i d e:=by
 obtain⟨pc,x,h1,h2,h3⟩:=h;exact hS _ _ _ ⟨pc,x,h1,h2,h3.least hS⟩
end
noncomputable def ql (L:Nat) (p:Nat→Nat→Prop):List Nat:=(List.range (L+1)).map fun d=>lJ L (p d)
theorem kq (L:Nat)(p:Nat→Nat→Prop):qW L (ql L p):=⟨by simp[ql],fun s hs=>by
 simp only[ql,List.mem_map] at hs;obtain⟨d,_,rfl⟩:=hs;exact nu L _⟩
theorem gr {L:Nat}{p:Nat→Nat→Prop}{d e:Nat}(hd:d≤L)(he:e≤L):(bb (ql L p) d e=true↔p d e):=by
 unfold bb ql;rw[List.getD_eq_getElem?_getD,List.getElem?_map,List.getElem?_eq_getElem PX];simp only[List.getElem_range,Option.map_some,Option.getD_some];exact ot he
theorem Dc {L:Nat}{p:Nat→Nat→Prop}{r:List Nat}(hr:qW L r)(h:∀ d e,d≤L→e≤L→(bb r d e=true↔p d e)):r=ql L p:=
 xT hr (kq L p) fun d e hd he=>by
  have h1:=h d e hd he;have h2:=gr (p:=p) hd he;cases hb:bb r d e<;>cases hc:bb (ql L p) d e<;>simp_all
structure tg (L n:Nat)(t:List (List Nat)):Prop where
 len:t.length=n
 row:∀ r∈t,qW L r
theorem jJ {t:List (List Nat)}{p:Nat}{r:List Nat}(h:t[p]? = some r)(d e:Nat):eL t p d e=bb r d e:=by
 simp[eL,List.getD_eq_getElem?_getD,h]
theorem xM {t:List (List Nat)}{p:Nat}(h:t.length≤p)(d e:Nat):eL t p d e=false:=by
 simp[eL,List.getD_eq_getElem?_getD,List.getElem?_eq_none h,bb]
theorem tg.get {L n:Nat}{t:List (List Nat)}(h:tg L n t){p:Nat}(hp:p<n):∃ r,t[p]? = some r∧qW L r:=by
 have:=h.len;refine⟨_,List.getElem?_eq_getElem yA,h.row _ (List.getElem_mem _)⟩
theorem tg.lt {L n:Nat}{t:List (List Nat)}(h:tg L n t){p d e:Nat}(hb:eL t p d e=true):p<n∧d≤L∧e≤L:=by
 by_cases hp:p<n
 ·obtain⟨r,hr,hw⟩:=h.get hp;rw[jJ hr] at hb;exact⟨hp,kJ hw hb⟩
 ·rw[xM (by have:=h.len;omega)] at hb;cases hb
theorem tg.set {L n:Nat}{t:List (List Nat)}(h:tg L n t){p:Nat}{r:List Nat}(hr:qW L r):tg L n (t.set p r):=⟨by rw[List.length_set];exact h.len,fun x hx=>by
 rcases List.mem_or_eq_of_mem_set hx with hx | rfl
 ·exact h.row x hx
 ·exact hr⟩
theorem j8 {t:List (List Nat)}{p q d e:Nat}{r:List Nat}(hp:p<t.length):eL (t.set p r) q d e=if q=p then bb r d e else eL t q d e:=by
 unfold eL;rw[List.getD_eq_getElem?_getD,List.getD_eq_getElem?_getD,List.getElem?_set];by_cases h:p=q
 ·subst h;simp[hp]
 ·rw[if_neg h,if_neg (fun e=>h e.symm)]
noncomputable def qc (L n:Nat) (p:Nat→Nat→Nat→Prop):List (List Nat):=(List.range n).map fun i=>ql L (p i)
theorem iG (L n:Nat)(p:Nat→Nat→Nat→Prop):tg L n (qc L n p):=⟨by simp[qc],fun r hr=>by
 simp only[qc,List.mem_map] at hr;obtain⟨i,_,rfl⟩:=hr;exact kq L _⟩
theorem tv {L n:Nat}(p:Nat→Nat→Nat→Prop){i:Nat}(h:i<n):(qc L n p)[i]? = some (ql L (p i)):=by
 rw[qc,List.getElem?_map,List.getElem?_eq_getElem QW];simp
theorem qb {L n:Nat}{p:Nat→Nat→Nat→Prop}{i d e:Nat}(hi:i<n)(hd:d≤L)(he:e≤L):(eL (qc L n p) i d e=true↔p i d e):=by
 rw[jJ (tv p hi)];exact gr hd he
theorem C1 {L n:Nat}{p:Nat→Nat→Nat→Prop}{t:List (List Nat)}(ht:tg L n t)(h:∀ i d e,i<n→d≤L→e≤L→(eL t i d e=true↔p i d e)):t=qc L n p:=by
 refine List.ext_getElem? fun i=>?_;by_cases hi:i<n
 ·obtain⟨r,hr,hw⟩:=ht.get hi;rw[hr,tv p hi];congr 1;refine Dc hw fun d e hd he=>?_;have:=h i d e hi hd he;rwa [jJ hr] at this
 ·rw[List.getElem?_eq_none (by have:=ht.len;omega),List.getElem?_eq_none (by have:=(iG L n p).len;omega)]
structure It where
 pc:Int
 l8:Int
def eX (x:It):List CV:=[I x.pc,I x.l8]
structure Ru where
 inst:Int
 ct:Bool
 items:List It
def di (l:List It):CV:=.az (l.flatMap eX) l.length
def cj (r:Ru):List CV:=[I r.inst,.bool r.ct,di r.items]
structure Ce where
 lock:Int
 inst:Int
 pc:Int
 depth:Int
 rules:List Ru
def df (l:List Ru):CV:=.az (l.flatMap cj) l.length
def qL (x:Ce):List CV:=[I x.lock,I x.inst,I x.pc,I x.depth,df x.rules]
def pX (x:Ce):CV:=.agg (qL x)
theorem dq (x:It):(eX x).length=2:=rfl
theorem cI (x:Ru):(cj x).length=3:=rfl
structure Et where
 lo:Int
 hi:Int
 fo:Int
 deriving DecidableEq
def eE (e:Et):List CV:=[I e.lo,I e.hi,I e.fo]
theorem gX (x:Et):(eE x).length=3:=rfl
def lS (l:List Et):CV:=.az (l.flatMap eE) l.length
def Et.ok (e:Et):Bool:=decide (-8≤e.lo) && decide (e.lo≤0) && decide (0≤e.hi) && decide (e.hi≤8) && decide (e.lo≤e.fo) && decide (e.fo≤e.hi)
def za:Et:=⟨-9,9,0⟩
def xg (n:Int):Et:=if n < -1∨1<n then za else ⟨min n 0,max n 0,n⟩
def gk (a b:Et):Et:=if a.ok=true∧b.ok=true then
  (if (⟨min a.lo (a.fo+b.lo),max a.hi (a.fo+b.hi),a.fo+b.fo⟩:Et).ok=true then ⟨min a.lo (a.fo+b.lo),max a.hi (a.fo+b.hi),a.fo+b.fo⟩ else za) else za
def qC (e:Et)(fr lim:Int):Bool:=e.ok && decide (0≤fr) && decide (fr≤8) && decide (lim≤8) && decide (0≤fr+e.lo) && decide (fr+e.hi≤lim)
theorem iB (e:Et):e.ok=true↔-8≤e.lo∧e.lo≤0∧0≤e.hi∧e.hi≤8∧e.lo≤e.fo∧e.fo≤e.hi:=by
 simp only[Et.ok,Bool.and_eq_true,decide_eq_true_eq,and_assoc]
def fV (u:Un)(x:Is)(pc:Int):Option In:=if pc<0 then none else (au u x)[pc.toNat]?
def dH (c:Cl)(l:List Ru)(k i:Nat)(z:In)(pc:Nat)(rl:Int)(lr:Bool):Bool:=
 if cN z=true then (if rl<0∨(k:Int)≤rl then false else match l[rl.toNat]? with
  | some q=>decide (q.inst=(c.calls.getD i []).getD pc (-1)) && (!q.ct || lr)
  | none=>false) else decide (rl=-1)
def lL (u:Un)(c:Cl)(l:List Ru)(k i:Nat)(ct:Bool)(x:Is):List It→List Nat→Bool
 | [],_=>true
 | it::t,ws=>match fV u x it.pc with
  | none=>false
  | some z=>decide (it.pc.toNat∈ws) && (gM z == (t.isEmpty && !ct)) && dH c l k i z it.pc.toNat it.l8 (t.isEmpty && ct) && lL u c l k i ct x t (dJ z it.pc.toNat)
def dm (u:Un)(c:Cl)(l:List Ru)(k:Nat)(r:Ru):Bool:=if r.inst<0 then false else match c.is[r.inst.toNat]? with
 | none=>false
 | some x=>(r.ct || !r.items.isEmpty) && lL u c l k r.inst.toNat r.ct x r.items [0]
def je (u:Un)(x:Is)(m:Nat)(P2:List Et)(it:It):Et:=if it.l8=-1 then xg (match fV u x it.pc with
  | some z=>dw x m z
  | none=>0) else P2.getD it.l8.toNat za
def lg (u:Un)(x:Is)(m:Nat)(P2:List Et)(l:List It)(e:Et):Et:=l.foldl (fun e it=>gk e (je u x m P2 it)) e
def Fc (c:Cl)(i:Int):Is:=c.is.getD i.toNat ⟨0,[]⟩
def te (u:Un)(c:Cl)(m:Nat)(P2:List Et)(r:Ru):Et:=lg u (Fc c r.inst) m P2 r.items ⟨0,0,0⟩
def eA (u:Un)(c:Cl)(l:List Ru)(m:Nat):List Ru→List Et→List Et×Nat×Int
 | [],out=>(out,out.length,0)
 | r::t,out=>if dm u c l out.length r=true then eA u c l m t (out++[te u c m out r]) else ([],out.length,12)
def pK (u:Un)(c:Cl)(l:List Ru)(inst pc:Int):Nat→Nat→Bool
 | 0,_=>false
 | f+1,k=>match l[k]? with
  | none=>false
  | some r=>match r.items.getLast? with
   | none=>r.ct && decide (r.inst=inst) && decide (pc=0)
   | some x=>if 0≤x.l8∧(l[x.l8.toNat]?).any (·.ct)=true then pK u c l inst pc f x.l8.toNat
    else r.ct && decide (r.inst=inst) && (match fV u (Fc c r.inst) x.pc with
     | some z=>decide (0≤pc) && decide (pc.toNat∈dJ z x.pc.toNat)
     | none=>false)
end Go.aN
namespace Go.Proofs.YtlkmbdfhdknlgaaGreatDoor
open Go.Can
def av:List (Nat×TI):=[
 (3,⟨.int .i64,1,8,[.int .i64 0]⟩),
 (4,⟨.bool,1,1,[.bool false]⟩),
 (5,⟨.int .u8,1,1,[.int .u8 0]⟩),
 (9,⟨.str,1,16,[.str ⟨#[]⟩]⟩),
 (22,⟨.sl 3,1,24,[.aj]⟩),
 (23,⟨.sl 105,1,24,[.aj]⟩),
 (24,⟨.sl 89,1,24,[.aj]⟩),
 (25,⟨.sl 109,1,24,[.aj]⟩),
 (27,⟨.bk [(0,23),(1,24),(2,25)],3,72,[.aj,.aj,.aj]⟩),
 (28,⟨.sl 123,1,24,[.aj]⟩),
 (30,⟨.bk [(0,22),(1,24),(2,28),(3,3)],4,80,[.aj,.aj,.aj,.int .i64 0]⟩),
 (31,⟨.sl 75,1,24,[.aj]⟩),
 (32,⟨.sl 22,1,24,[.aj]⟩),
 (34,⟨.bk [(0,31),(1,32),(2,22)],3,72,[.aj,.aj,.aj]⟩),
 (37,⟨.sl 55,1,24,[.aj]⟩),
 (39,⟨.bk [(0,3),(1,3),(2,3),(3,3),(4,37)],5,56,[.int .i64 0,.int .i64 0,.int .i64 0,.int .i64 0,.aj]⟩),
 (42,⟨.sl 47,1,24,[.aj]⟩),
 (43,⟨.int .i64,1,8,[.int .i64 0]⟩),
 (47,⟨.bk [(0,3),(1,3),(2,3)],3,24,[.int .i64 0,.int .i64 0,.int .i64 0]⟩),
 (53,⟨.sl 77,1,24,[.aj]⟩),
 (55,⟨.bk [(0,3),(1,4),(2,53)],3,40,[.int .i64 0,.bool false,.aj]⟩),
 (66,⟨.ptr 69,1,8,[.bw]⟩),
 (69,⟨.bk [(0,22),(1,3)],2,32,[.aj,.int .i64 0]⟩),
 (75,⟨.bk [(0,3),(1,22)],2,32,[.int .i64 0,.aj]⟩),
 (77,⟨.bk [(0,3),(1,3)],2,16,[.int .i64 0,.int .i64 0]⟩),
 (85,⟨.bk [(0,3),(1,3)],2,16,[.int .i64 0,.int .i64 0]⟩),
 (89,⟨.bk [(0,9),(1,4),(2,3)],3,32,[.str ⟨#[]⟩,.bool false,.int .i64 0]⟩),
 (94,⟨.sl 5,1,24,[.aj]⟩),
 (102,⟨.bk [(0,66),(1,27),(4,3),(5,4)],6,96,[.bw,.aj,.aj,.aj,.int .i64 0,.bool false]⟩),
 (103,⟨.sl 9,1,24,[.aj]⟩),
 (105,⟨.bk [(0,9),(1,3)],2,24,[.str ⟨#[]⟩,.int .i64 0]⟩),
 (106,⟨.sl 111,1,24,[.aj]⟩),
 (107,⟨.sl 170,1,24,[.aj]⟩),
 (109,⟨.bk [(0,9),(1,106),(2,107)],3,64,[.str ⟨#[]⟩,.aj,.aj]⟩),
 (111,⟨.bk [(0,9),(1,4)],2,24,[.str ⟨#[]⟩,.bool false]⟩),
 (114,⟨.sl 118,1,24,[.aj]⟩),
 (118,⟨.bk [(0,9),(1,3),(2,3)],3,32,[.str ⟨#[]⟩,.int .i64 0,.int .i64 0]⟩),
 (121,⟨.sl 136,1,24,[.aj]⟩),
 (123,⟨.bk [(0,9),(1,3),(2,3),(3,3),(4,121)],5,64,[.str ⟨#[]⟩,.int .i64 0,.int .i64 0,.int .i64 0,.aj]⟩),
 (129,⟨.sl 131,1,24,[.aj]⟩),
 (131,⟨.bk [(0,3),(1,3),(2,9),(3,129)],4,56,[.int .i64 0,.int .i64 0,.str ⟨#[]⟩,.aj]⟩),
 (133,⟨.bk [(0,4),(1,3),(2,129)],3,40,[.bool false,.int .i64 0,.aj]⟩),
 (134,⟨.sl 133,1,24,[.aj]⟩),
 (136,⟨.bk [(0,3),(1,3),(2,4),(3,131),(7,133),(10,129),(11,134)],12,168,[.int .i64 0,.int .i64 0,.bool false,.int .i64 0,.int .i64 0,.str ⟨#[]⟩,.aj,.bool false,.int .i64 0,.aj,.aj,.aj]⟩),
 (142,⟨.bk [(0,30),(4,34),(7,37)],8,176,[.aj,.aj,.aj,.int .i64 0,.aj,.aj,.aj,.aj]⟩),
 (145,⟨.sl 159,1,24,[.aj]⟩),
 (150,⟨.bk [(0,145),(1,3),(2,3),(3,43),(4,3),(5,3)],6,64,[.aj,.int .i64 0,.int .i64 0,.int .i64 0,.int .i64 0,.int .i64 0]⟩),
 (159,⟨.bk [(0,3),(1,9),(2,3),(3,3)],4,40,[.int .i64 0,.str ⟨#[]⟩,.int .i64 0,.int .i64 0]⟩),
 (162,⟨.sl 32,1,24,[.aj]⟩),
 (167,⟨.bk [(0,9),(1,129)],2,40,[.str ⟨#[]⟩,.aj]⟩),
 (168,⟨.sl 195,1,24,[.aj]⟩),
 (170,⟨.bk [(0,3),(1,9),(2,131),(6,167),(8,168),(9,107),(10,107)],11,192,[.int .i64 0,.str ⟨#[]⟩,.int .i64 0,.int .i64 0,.str ⟨#[]⟩,.aj,.str ⟨#[]⟩,.aj,.aj,.aj,.aj]⟩),
 (178,⟨.bk [(0,27),(3,114),(4,3),(5,3),(6,3),(7,43),(8,121),(9,22)],10,176,[.aj,.aj,.aj,.aj,.int .i64 0,.int .i64 0,.int .i64 0,.int .i64 0,.aj,.aj]⟩),
 (195,⟨.bk [(0,4),(1,167),(3,131)],7,104,[.bool false,.str ⟨#[]⟩,.aj,.int .i64 0,.int .i64 0,.str ⟨#[]⟩,.aj]⟩),
 (205,⟨.arr 9 4,9,9,[.bool false,.bool false,.bool false,.bool false,.bool false,.bool false,.bool false,.bool false,.bool false]⟩),
 (207,⟨.arr 3 3,3,24,[.int .i64 0,.int .i64 0,.int .i64 0]⟩),
 (209,⟨.bk [],0,0,[]⟩),
 (211,⟨.bk [(0,3)],1,8,[.int .i64 0]⟩),
 (212,⟨.bk [(0,3)],1,8,[.int .i64 0]⟩),
 (213,⟨.bk [],0,0,[]⟩),
 (221,⟨.int .u64,1,8,[.int .u64 0]⟩)]
theorem af:aF Tryz.prog av:=
 aF.cons (cm.mk' N4 N4 rfl) <|
 aF.cons (cm.mk' N4 N4 rfl) <|
 aF.cons (cm.mk' N4 N4 rfl) <|
 aF.cons (cm.mk' N4 N4 rfl) <|
 aF.cons (cm.mk' N4 N4 rfl) <|
 aF.cons (cm.mk' N4 N4 rfl) <|
 aF.cons (cm.mk' N4 N4 rfl) <|
 aF.cons (cm.mk' N4 N4 rfl) <|
 aF.cons (cm.mk' N4 N4 rfl) <|
 aF.cons (cm.mk' N4 N4 rfl) <|
 aF.cons (cm.mk' N4 N4 rfl) <|
 aF.cons (cm.mk' N4 N4 rfl) <|
 aF.cons (cm.mk' N4 N4 rfl) <|
 aF.cons (cm.mk' N4 N4 rfl) <|
 aF.cons (cm.mk' N4 N4 rfl) <|
 aF.cons (cm.mk' N4 N4 rfl) <|
 aF.cons (cm.mk' N4 N4 rfl) <|
 aF.cons (cm.mk' N4 N4 rfl) <|
 aF.cons (cm.mk' N4 N4 rfl) <|
 aF.cons (cm.mk' N4 N4 rfl) <|
 aF.cons (cm.mk' N4 N4 rfl) <|
 aF.cons (cm.mk' N4 N4 rfl) <|
 aF.cons (cm.mk' N4 N4 rfl) <|
 aF.cons (cm.mk' N4 N4 rfl) <|
 aF.cons (cm.mk' N4 N4 rfl) <|
 aF.cons (cm.mk' N4 N4 rfl) <|
 aF.cons (cm.mk' N4 N4 rfl) <|
 aF.cons (cm.mk' N4 N4 rfl) <|
 aF.cons (cm.mk' N4 N4 rfl) <|
 aF.cons (cm.mk' N4 N4 rfl) <|
 aF.cons (cm.mk' N4 N4 rfl) <|
 aF.cons (cm.mk' N4 N4 rfl) <|
 aF.cons (cm.mk' N4 N4 rfl) <|
 aF.cons (cm.mk' N4 N4 rfl) <|
 aF.cons (cm.mk' N4 N4 rfl) <|
 aF.cons (cm.mk' N4 N4 rfl) <|
 aF.cons (cm.mk' N4 N4 rfl) <|
 aF.cons (cm.mk' N4 N4 rfl) <|
 aF.cons (cm.mk' N4 N4 rfl) <|
 aF.cons (cm.mk' N4 N4 rfl) <|
 aF.cons (cm.mk' N4 N4 rfl) <|
 aF.cons (cm.mk' N4 N4 rfl) <|
 aF.cons (cm.mk' N4 N4 rfl) <|
 aF.cons (cm.mk' N4 N4 rfl) <|
 aF.cons (cm.mk' N4 N4 rfl) <|
 aF.cons (cm.mk' N4 N4 rfl) <|
 aF.cons (cm.mk' N4 N4 rfl) <|
 aF.cons (cm.mk' N4 N4 rfl) <|
 aF.cons (cm.mk' N4 N4 rfl) <|
 aF.cons (cm.mk' N4 N4 rfl) <|
 aF.cons (cm.mk' N4 N4 rfl) <|
 aF.cons (cm.mk' N4 N4 rfl) <|
 aF.cons (cm.mk' N4 N4 rfl) <|
 aF.cons (cm.mk' N4 N4 rfl) <|
 aF.cons (cm.mk' N4 N4 rfl) <|
 aF.cons (cm.mk' N4 N4 rfl) <|
 aF.cons (cm.mk' N4 N4 rfl) <|
 aF.cons (cm.mk' N4 N4 rfl) <|
 aF.cons (cm.mk' N4 N4 rfl) <|
 aF.cons (cm.mk' N4 N4 rfl) <|
 aF.cons (cm.mk' N4 N4 rfl) <| aF.nil
@[simp] theorem tab3:assoc av 3=some ⟨.int .i64,1,8,[.int .i64 0]⟩:=rfl
@[simp] theorem tab4:assoc av 4=some ⟨.bool,1,1,[.bool false]⟩:=rfl
@[simp] theorem tab5:assoc av 5=some ⟨.int .u8,1,1,[.int .u8 0]⟩:=rfl
@[simp] theorem tab9:assoc av 9=some ⟨.str,1,16,[.str ⟨#[]⟩]⟩:=rfl
@[simp] theorem tab22:assoc av 22=some ⟨.sl 3,1,24,[.aj]⟩:=rfl
@[simp] theorem tab23:assoc av 23=some ⟨.sl 105,1,24,[.aj]⟩:=rfl
@[simp] theorem tab24:assoc av 24=some ⟨.sl 89,1,24,[.aj]⟩:=rfl
@[simp] theorem tab25:assoc av 25=some ⟨.sl 109,1,24,[.aj]⟩:=rfl
@[simp] theorem tab27:assoc av 27=some ⟨.bk [(0,23),(1,24),(2,25)],3,72,[.aj,.aj,.aj]⟩:=rfl
@[simp] theorem tab28:assoc av 28=some ⟨.sl 123,1,24,[.aj]⟩:=rfl
@[simp] theorem tab30:assoc av 30=some ⟨.bk [(0,22),(1,24),(2,28),(3,3)],4,80,[.aj,.aj,.aj,.int .i64 0]⟩:=rfl
@[simp] theorem tab31:assoc av 31=some ⟨.sl 75,1,24,[.aj]⟩:=rfl
@[simp] theorem tab32:assoc av 32=some ⟨.sl 22,1,24,[.aj]⟩:=rfl
@[simp] theorem tab34:assoc av 34=some ⟨.bk [(0,31),(1,32),(2,22)],3,72,[.aj,.aj,.aj]⟩:=rfl
@[simp] theorem tab37:assoc av 37=some ⟨.sl 55,1,24,[.aj]⟩:=rfl
@[simp] theorem tab39:assoc av 39=some ⟨.bk [(0,3),(1,3),(2,3),(3,3),(4,37)],5,56,[.int .i64 0,.int .i64 0,.int .i64 0,.int .i64 0,.aj]⟩:=rfl
@[simp] theorem tab42:assoc av 42=some ⟨.sl 47,1,24,[.aj]⟩:=rfl
@[simp] theorem tab43:assoc av 43=some ⟨.int .i64,1,8,[.int .i64 0]⟩:=rfl
@[simp] theorem tab47:assoc av 47=some ⟨.bk [(0,3),(1,3),(2,3)],3,24,[.int .i64 0,.int .i64 0,.int .i64 0]⟩:=rfl
@[simp] theorem tab53:assoc av 53=some ⟨.sl 77,1,24,[.aj]⟩:=rfl
@[simp] theorem tab55:assoc av 55=some ⟨.bk [(0,3),(1,4),(2,53)],3,40,[.int .i64 0,.bool false,.aj]⟩:=rfl
@[simp] theorem tab66:assoc av 66=some ⟨.ptr 69,1,8,[.bw]⟩:=rfl
@[simp] theorem tab69:assoc av 69=some ⟨.bk [(0,22),(1,3)],2,32,[.aj,.int .i64 0]⟩:=rfl
@[simp] theorem tab75:assoc av 75=some ⟨.bk [(0,3),(1,22)],2,32,[.int .i64 0,.aj]⟩:=rfl
@[simp] theorem tab77:assoc av 77=some ⟨.bk [(0,3),(1,3)],2,16,[.int .i64 0,.int .i64 0]⟩:=rfl
@[simp] theorem tab85:assoc av 85=some ⟨.bk [(0,3),(1,3)],2,16,[.int .i64 0,.int .i64 0]⟩:=rfl
@[simp] theorem tab89:assoc av 89=some ⟨.bk [(0,9),(1,4),(2,3)],3,32,[.str ⟨#[]⟩,.bool false,.int .i64 0]⟩:=rfl
@[simp] theorem tab94:assoc av 94=some ⟨.sl 5,1,24,[.aj]⟩:=rfl
@[simp] theorem tab102:assoc av 102=some ⟨.bk [(0,66),(1,27),(4,3),(5,4)],6,96,[.bw,.aj,.aj,.aj,.int .i64 0,.bool false]⟩:=rfl
@[simp] theorem tab103:assoc av 103=some ⟨.sl 9,1,24,[.aj]⟩:=rfl
@[simp] theorem tab105:assoc av 105=some ⟨.bk [(0,9),(1,3)],2,24,[.str ⟨#[]⟩,.int .i64 0]⟩:=rfl
@[simp] theorem tab106:assoc av 106=some ⟨.sl 111,1,24,[.aj]⟩:=rfl
@[simp] theorem tab107:assoc av 107=some ⟨.sl 170,1,24,[.aj]⟩:=rfl
@[simp] theorem tab109:assoc av 109=some ⟨.bk [(0,9),(1,106),(2,107)],3,64,[.str ⟨#[]⟩,.aj,.aj]⟩:=rfl
@[simp] theorem tab111:assoc av 111=some ⟨.bk [(0,9),(1,4)],2,24,[.str ⟨#[]⟩,.bool false]⟩:=rfl
@[simp] theorem tab114:assoc av 114=some ⟨.sl 118,1,24,[.aj]⟩:=rfl
@[simp] theorem tab118:assoc av 118=some ⟨.bk [(0,9),(1,3),(2,3)],3,32,[.str ⟨#[]⟩,.int .i64 0,.int .i64 0]⟩:=rfl
@[simp] theorem tab121:assoc av 121=some ⟨.sl 136,1,24,[.aj]⟩:=rfl
@[simp] theorem tab123:assoc av 123=some ⟨.bk [(0,9),(1,3),(2,3),(3,3),(4,121)],5,64,[.str ⟨#[]⟩,.int .i64 0,.int .i64 0,.int .i64 0,.aj]⟩:=rfl
@[simp] theorem tab129:assoc av 129=some ⟨.sl 131,1,24,[.aj]⟩:=rfl
@[simp] theorem tab131:assoc av 131=some ⟨.bk [(0,3),(1,3),(2,9),(3,129)],4,56,[.int .i64 0,.int .i64 0,.str ⟨#[]⟩,.aj]⟩:=rfl
@[simp] theorem tab133:assoc av 133=some ⟨.bk [(0,4),(1,3),(2,129)],3,40,[.bool false,.int .i64 0,.aj]⟩:=rfl
@[simp] theorem tab134:assoc av 134=some ⟨.sl 133,1,24,[.aj]⟩:=rfl
@[simp] theorem tab136:assoc av 136=some ⟨.bk [(0,3),(1,3),(2,4),(3,131),(7,133),(10,129),(11,134)],12,168,[.int .i64 0,.int .i64 0,.bool false,.int .i64 0,.int .i64 0,.str ⟨#[]⟩,.aj,.bool false,.int .i64 0,.aj,.aj,.aj]⟩:=rfl
@[simp] theorem tab142:assoc av 142=some ⟨.bk [(0,30),(4,34),(7,37)],8,176,[.aj,.aj,.aj,.int .i64 0,.aj,.aj,.aj,.aj]⟩:=rfl
@[simp] theorem tab145:assoc av 145=some ⟨.sl 159,1,24,[.aj]⟩:=rfl
@[simp] theorem tab150:assoc av 150=some ⟨.bk [(0,145),(1,3),(2,3),(3,43),(4,3),(5,3)],6,64,[.aj,.int .i64 0,.int .i64 0,.int .i64 0,.int .i64 0,.int .i64 0]⟩:=rfl
@[simp] theorem tab159:assoc av 159=some ⟨.bk [(0,3),(1,9),(2,3),(3,3)],4,40,[.int .i64 0,.str ⟨#[]⟩,.int .i64 0,.int .i64 0]⟩:=rfl
@[simp] theorem tab162:assoc av 162=some ⟨.sl 32,1,24,[.aj]⟩:=rfl
@[simp] theorem tab167:assoc av 167=some ⟨.bk [(0,9),(1,129)],2,40,[.str ⟨#[]⟩,.aj]⟩:=rfl
@[simp] theorem tab168:assoc av 168=some ⟨.sl 195,1,24,[.aj]⟩:=rfl
@[simp] theorem tab170:assoc av 170=some ⟨.bk [(0,3),(1,9),(2,131),(6,167),(8,168),(9,107),(10,107)],11,192,[.int .i64 0,.str ⟨#[]⟩,.int .i64 0,.int .i64 0,.str ⟨#[]⟩,.aj,.str ⟨#[]⟩,.aj,.aj,.aj,.aj]⟩:=rfl
@[simp] theorem tab178:assoc av 178=some ⟨.bk [(0,27),(3,114),(4,3),(5,3),(6,3),(7,43),(8,121),(9,22)],10,176,[.aj,.aj,.aj,.aj,.int .i64 0,.int .i64 0,.int .i64 0,.int .i64 0,.aj,.aj]⟩:=rfl
@[simp] theorem tab195:assoc av 195=some ⟨.bk [(0,4),(1,167),(3,131)],7,104,[.bool false,.str ⟨#[]⟩,.aj,.int .i64 0,.int .i64 0,.str ⟨#[]⟩,.aj]⟩:=rfl
@[simp] theorem tab205:assoc av 205=some ⟨.arr 9 4,9,9,[.bool false,.bool false,.bool false,.bool false,.bool false,.bool false,.bool false,.bool false,.bool false]⟩:=rfl
@[simp] theorem tab207:assoc av 207=some ⟨.arr 3 3,3,24,[.int .i64 0,.int .i64 0,.int .i64 0]⟩:=rfl
@[simp] theorem tab209:assoc av 209=some ⟨.bk [],0,0,[]⟩:=rfl
@[simp] theorem tab211:assoc av 211=some ⟨.bk [(0,3)],1,8,[.int .i64 0]⟩:=rfl
@[simp] theorem tab212:assoc av 212=some ⟨.bk [(0,3)],1,8,[.int .i64 0]⟩:=rfl
@[simp] theorem tab213:assoc av 213=some ⟨.bk [],0,0,[]⟩:=rfl
@[simp] theorem tab221:assoc av 221=some ⟨.int .u64,1,8,[.int .u64 0]⟩:=rfl
theorem follows:Tryz.prog.follows .mixedOrders=true:=by kernel_rfl
theorem cf (n:Int)(h : -9223372036854775808≤n)(h':n≤9223372036854775807):IntKind.i64.wrap n=n:=IntWalk.i64_in n ⟨h,h'⟩
section
variable {C:Cx}{s:St}{Q:Exit→St→Prop}{x y:Code}{id:Nat}{l:List Oper}{ops:Array Oper}{K:St→Prop}
theorem ai (h:zj av C.nt l.toArray (Bx Tryz.prog C l.toArray (fw (fun s'=>T Tryz.prog C y s' Q) Q .normal)) l s):T Tryz.prog C (.seq (.region id l.toArray false) y) s Q:=T.seq (T.go' af h)
theorem aL (h:zj av C.nt l.toArray (Bx Tryz.prog C l.toArray (fw (fun s'=>T Tryz.prog C x s' (fw (fun s'=>T Tryz.prog C y s' Q) Q)) (fw (fun s'=>T Tryz.prog C y s' Q) Q) .normal)) l s):T Tryz.prog C (.seq (.seq (.region id l.toArray false) x) y) s Q:=T.seq (T.seq (T.go' af h))
theorem dc {o:Oper}{c:Call}{g:FuncId}{cs:List CV}{r:CV}(ht:trees cs=true)(hp:ae Tryz.prog g cs r)(h:zj av C.nt ops (Bx Tryz.prog C ops K) l (s.put o.dst r))(hd:bt C.nt o.dst=true:=by simp[hC])(hg:o.guard=none:=by rfl)(ho:o.op=.call c:=by rfl)(OG:bB s c=some (g,cs):=by rfl):TL Tryz.prog C ops (o::l) s K:=TL.call hd hg ho (bH.of OG ht hp) (TL.go' af h)
end
section
variable {C:Cx}{s:St}{Q:Exit→St→Prop}{x y:Code}{c:Operand}{id:Nat}{l:List Oper}
theorem dv (h:Q .normal s)(hc:ev s c=some (.bool false):=by rfl):T Tryz.prog C (.cond c x .skip) s Q:=T.cond (b:=false) hc (T.skip h)
theorem fh (h:Q .normal s)(hc:ev s c=some (.bool true):=by rfl):T Tryz.prog C (.cond c .skip y) s Q:=T.cond (b:=true) hc (T.skip h)
theorem aX (h:T Tryz.prog C (if false then x else y) s Q)(hc:ev s c=some (.bool false):=by rfl):T Tryz.prog C (.cond c x y) s Q:=T.cond (b:=false) hc h
theorem cgX (h:T Tryz.prog C (if false then x else y) s Q)(hc:ev s c=some (.bool false):=by first | rfl | (simp[ev,assoc];done)):T Tryz.prog C (.cond c x y) s Q:=T.cond (b:=false) hc h
theorem cB (h:T Tryz.prog C (if true then x else y) s Q)(hc:ev s c=some (.bool true):=by rfl):T Tryz.prog C (.cond c x y) s Q:=T.cond (b:=true) hc h
theorem aY (h:zj av C.nt l.toArray (Bx Tryz.prog C l.toArray (Q .normal)) l s):T Tryz.prog C (.region id l.toArray false) s Q:=T.go' af h
theorem eG {i:Nat}(h:T Tryz.prog C x s (pQ i (fw (fun s'=>T Tryz.prog C y s' Q) Q))):T Tryz.prog C (.seq (.block i x) y) s Q:=T.seq (T.block h)
end
end Go.Proofs.YtlkmbdfhdknlgaaGreatDoor
