/- Operations in any order: where those that are not ordered ke -/
import Derived.Test.YtlkmbdfhdknlgaaGreatDoorZ08
namespace Go.Can
open Go.RowKit
structure FS where
 e:Nat→Option CV
 h:Nat→Option Ob
 n:Nat
structure Ef where
 r:Option CV
 w:List (Nat×Option Ob)
 k:Nat
structure Vw where
 t:List Nat
 o:List Nat
 n:Bool
 a:Option (Nat×Nat)
def jc (h:Nat→Option Ob)(w:List (Nat×Option Ob)):Nat→Option Ob:=fun p=>match assoc w p with
 | some y=>y
 | none=>h p
def ap (d:Option Tmp)(E:Ef)(x:FS):FS:=⟨uw x.e d E.r,jc x.h E.w,x.n+E.k⟩
def dp (V:Vw)(x y:FS):Prop:=(∀ t∈V.t,x.e t=y.e t)∧(∀ o∈V.o,x.h o=y.h o)∧(V.n=true→x.n=y.n)∧(∀ r,V.a=some r→∀ o,o<r.1∨r.2≤o→x.h o=y.h o)
structure BQ (d d':Option Tmp)(E E':Ef)(V V':Vw):Prop where
 s1:∀ t,d=some t→t∉V'.t
 s2:∀ t,d'=some t→t∉V.t
 s3:∀ t,d=some t→d'≠some t
 h1:∀ o y,assoc E.w o=some y→o∉V'.o
 h2:∀ o y,assoc E'.w o=some y→o∉V.o
 h3:∀ o y,assoc E.w o=some y→assoc E'.w o=none
 n1:V'.n=true→E.k=0
 n2:V.n=true→E'.k=0
 a1:∀ r,V'.a=some r→∀ o y,assoc E.w o=some y→r.1≤o∧o<r.2
 a2:∀ r,V.a=some r→∀ o y,assoc E'.w o=some y→r.1≤o∧o<r.2
theorem dp.refl (V:Vw)(x:FS):dp V x x:=⟨fun _ _=>rfl,fun _ _=>rfl,fun _=>rfl,fun _ _ _ _=>rfl⟩
theorem dp.symm {V:Vw}{x y:FS}(h:dp V x y):dp V y x:=⟨fun t ht=>(h.1 t ht).symm,fun o ho=>(h.2.1 o ho).symm,fun hn=>(h.2.2.1 hn).symm,fun r ha o ho=>(h.2.2.2 r ha o ho).symm⟩
theorem dp.trans {V:Vw}{x y z:FS}(h:dp V x y)(k:dp V y z):dp V x z:=⟨fun t ht=>(h.1 t ht).trans (k.1 t ht),fun o ho=>(h.2.1 o ho).trans (k.2.1 o ho),fun hn=>(h.2.2.1 hn).trans (k.2.2.1 hn),fun r ha o ho=>(h.2.2.2 r ha o ho).trans (k.2.2.2 r ha o ho)⟩
theorem Ax {d d':Option Tmp}{E E':Ef}{V V':Vw}(h:BQ d d' E E' V V')(x:FS):ap d E (ap d' E' x)=ap d' E' (ap d E x):=by
 unfold ap;congr 1
 ·funext t;simp only[uw];by_cases h1:d=some t
  ·rw[if_pos h1,if_neg (h.s3 t h1),if_pos h1]
  ·rw[if_neg h1,if_neg h1]
 ·funext p;simp only[jc]
  cases h1:assoc E.w p with
  | none=>rfl
  | some y=>rw[h.h3 p y h1]
 ·simp only;omega
theorem lL {V:Vw}{d:Option Tmp}{E:Ef}(h1:∀ t,d=some t→t∉V.t)(h2:∀ o y,assoc E.w o=some y→o∉V.o)(h3:V.n=true→E.k=0)(h4:∀ r,V.a=some r→∀ o y,assoc E.w o=some y→r.1≤o∧o<r.2)(x:FS):dp V (ap d E x) x:=by
 refine⟨fun t ht=>?_,fun o ho=>?_,fun hn=>?_,fun r ha o ho=>?_⟩
 ·simp only[ap,uw];rw[if_neg (fun e=>h1 t e ht)]
 ·simp only[ap,jc]
  cases h5:assoc E.w o with
  | none=>rfl
  | some y=>exact absurd ho (h2 o y h5)
 ·simp only[ap,h3 hn];rfl
 ·simp only[ap,jc]
  cases h5:assoc E.w o with
  | none=>rfl
  | some y=>have:=h4 r ha o y h5;omega
theorem EA {V:Vw}{d:Option Tmp}{E:Ef}{x y:FS}(h:dp V x y):dp V (ap d E x) (ap d E y):=by
 refine⟨fun t ht=>?_,fun o ho=>?_,fun hn=>?_,fun r ha o ho=>?_⟩
 ·simp only[ap,uw];rw[h.1 t ht]
 ·simp only[ap,jc];rw[h.2.1 o ho]
 ·simp only[ap];rw[h.2.2.1 hn]
 ·simp only[ap,jc];rw[h.2.2.2 r ha o ho]
def bI (dst:Nat→Option Tmp)(E:Nat→Ef)(L:Nat→Bool):List Nat→FS→FS
 | [],x=>x
 | i::r,x=>bI dst E L r (if L i then ap (dst i) (E i) x else x)
section
variable {dst:Nat→Option Tmp}{E:Nat→Ef}
theorem dd {L:Nat→Bool}:∀ (l m:List Nat) (x:FS),bI dst E L (l++m) x=bI dst E L m (bI dst E L l x)
 | [],_,_=>rfl
 | i::r,m,x=>by simp only[List.cons_append,bI];exact dd r m _
theorem eG {L L':Nat→Bool}:∀ (l:List Nat) (x:FS),(∀ i∈l,L i=L' i)→bI dst E L l x=bI dst E L' l x
 | [],_,_=>rfl
 | i::r,x,h=>by
  simp only[bI];rw[h i j5];exact eG r _ fun j hj=>h j (by simp[hj])
theorem nj:∀ (l:List Nat) (x:FS),bI dst E (fun _=>false) l x=x
 | [],_=>rfl
 | _::r,x=>by simp only[bI,Bool.false_eq_true,if_false];exact nj r x
theorem fG {V:Vw}{L L':Nat→Bool}:∀ (l:List Nat) (x y:FS),(∀ i∈l,L i≠L' i→∀ z,dp V (ap (dst i) (E i) z) z)→dp V x y→dp V (bI dst E L l x) (bI dst E L' l y)
 | [],_,_,_,h=>h
 | i::r,x,y,hd,h=>by
  simp only[bI];refine fG r _ _ (fun j hj=>hd j (by simp[hj])) ?_;cases h1:L i<;>cases h2:L' i<;>simp only[Bool.false_eq_true,if_false,if_true]
  ·exact h
  ·exact h.trans (hd i j5 (by rw[h1,h2];simp) y).symm
  ·exact (hd i j5 (by rw[h1,h2];simp) x).trans h
  ·exact EA h
theorem kC {L:Nat→Bool}{d:Option Tmp}{G:Ef}:∀ (l:List Nat) (x:FS),(∀ j∈l,L j=true→∀ z,ap d G (ap (dst j) (E j) z)=ap (dst j) (E j) (ap d G z))→bI dst E L l (ap d G x)=ap d G (bI dst E L l x)
 | [],_,_=>rfl
 | j::r,x,h=>by
  simp only[bI];cases h1:L j<;>simp only[Bool.false_eq_true,if_false,if_true]
  ·exact kC r x fun k hk=>h k (by simp[hk])
  ·rw[← h j j5 h1 x];exact kC r _ fun k hk=>h k (by simp[hk])
end
def pE (ops:Array Oper)(listed:Array Bool):Prop:=∀ j oj,ops[j]? = some oj→listed.getD j false=true→∀ e∈oj.after,Region.binds .any e=true→listed.getD e.on false=true
def yk (ops:Array Oper)(j i:Nat):Prop:=∀ listed:Array Bool,pE ops listed→(∀ oj,ops[j]? = some oj→∀ e∈oj.after,Region.binds .any e=true→listed.getD e.on false=true)→listed.getD i false=true
theorem AI {P:Program}{ops:Array Oper}{ord:List Nat}{dst:Nat→Option Tmp}{E:Nat→Ef}{V:Nat→Vw}{x0:FS}{R:Array Bool→FS→Act→World→Prop}{Q':Exit→Act→World→Prop}
  (hn:ord.Nodup) (M4:∀ j,j<ops.size→j∈ord) (yN:∀ i∈ord,i<ops.size)
  (R6:∀ pre i post,ord=pre++i::post→∀ oi,ops[i]? = some oi→∀ e∈oi.after,Region.binds .any e=true→e.on∈pre)
  (Pz:∀ pre i post,ord=pre++i::post→∀ j∈post,yk ops j i∨BQ (dst i) (dst j) (E i) (E j) (V i) (V j))
  (oe:∀ pre i post,ord=pre++i::post→∀ (listed:Array Bool) (x:FS) (a:Act) (w:World) (K:Act→World→Prop),listed.size=ops.size→listed.getD i false=false→R listed x a w→dp (V i) x (bI dst E (fun _=>true) pre x0) →
   (∀ a' w',R (listed.setIfInBounds i true) (ap (dst i) (E i) x) a' w'→K a' w')→wpOp P ops Q' i K a w)
  (Ql:∀ (listed:Array Bool) (a:Act) (w:World),R listed (bI dst E (fun _=>true) ord x0) a w→Q' .normal a w) :
  ∀ (m:Nat) (listed:Array Bool) (a:Act) (w:World),listed.size=ops.size→pE ops listed→(ord.countP fun j=>!listed.getD j false)=m→R listed (bI dst E (fun j=>listed.getD j false) ord x0) a w→wpAny P .any ops Q' m listed a w:=by
 intro m
 induction m with
 | zero=>
  intro listed a w CX De hc hR;have Kq:∀ j∈ord,listed.getD j false=true:=fun j hj=>by
   have:=List.countP_eq_zero.1 hc j hj
   simpa using this
  refine⟨?_,Ql listed a w ?_⟩
  ·rw[List.eq_nil_iff_forall_not_mem];intro j hj;have h1:=getD_both (mem_ready.1 hj).1;obtain⟨_,o,ho,_⟩:=mem_ready.1 hj;rw[Kq j (M4 j (Array.getElem?_eq_some_iff.1 ho).1)] at h1;cases h1
  ·rwa [eG ord x0 (L':=fun _=>true) fun i hi=>Kq i hi] at hR
 | succ m ih=>
  intro listed a w CX De hc hR;have hex:∃ i∈ord,listed.getD i false=false:=by
   have:0<ord.countP fun j=>!listed.getD j false:=by omega
   obtain⟨i,hi,h⟩:=List.countP_pos_iff.1 this;exact⟨i,hi,by simpa using h⟩
  refine⟨fun h0=>?_,fun i hi=>?_⟩
  ·exfalso;have:∀ (l pre:List Nat),ord=pre++l→(∀ j∈pre,listed.getD j false=true)→(∃ i∈l,listed.getD i false=false)→False:=by
    intro l
    induction l with
    | nil=>rintro pre _ _ ⟨i,hi,_⟩;cases hi
    | cons k r Vh=>
     intro pre ho hp hx
     cases hk:listed.getD k false with
     | true=>
      refine Vh (pre++[k]) (by simp[ho]) ?_ ?_
      ·intro j hj;rcases List.mem_append.1 hj with hj | hj
       ·exact hp j hj
       ·have:j=k:=by simpa using hj
        subst this;exact hk
      ·obtain⟨i,hi,hu⟩:=hx;rcases List.mem_cons.1 hi with e | hi
       ·subst e;rw[hk] at hu;cases hu
       ·exact⟨i,hi,hu⟩
     | false=>
      have Ke:=yN k (by rw[ho];simp);have Kb:ops[k]? = some ops[k]:=by simp[Ke]
      have:k∈Region.ready .any ops listed:=by
       refine mem_ready.2 ⟨mF (by rw[CX];exact Ke) hk,_,Kb,fun e he hb=>?_⟩;exact hp _ (R6 pre k r ho _ Kb e he hb)
      rw[h0] at this;cases this
   exact this ord [] rfl j5 hex
  ·have Mb:listed.getD i false=false:=getD_both (mem_ready.1 hi).1;obtain⟨_,oi,Ol,Ls⟩:=mem_ready.1 hi;have On:i∈ord:=M4 i (Array.getElem?_eq_some_iff.1 Ol).1;obtain⟨pre,post,OE⟩:=List.append_of_mem On;have LC:=hn;rw[OE,List.nodup_append,List.nodup_cons] at LC;have Nu:∀ k∈post,listed.getD k false=true→BQ (dst i) (dst k) (E i) (E k) (V i) (V k):=fun k hk hl=>by
    rcases Pz pre i post OE k hk with h | h
    ·have:=h listed De fun ok Kb e he hb=>De k ok Kb hl e he hb;rw[Mb] at this;cases this
    ·exact h
   have Q5:∀ k∈pre,listed.getD k false=false→BQ (dst k) (dst i) (E k) (E i) (V k) (V i):=fun k hk hl=>by
    obtain⟨p1,p2,hp⟩:=List.append_of_mem hk;have Ra:ord=p1++k::(p2++i::post):=by rw[OE,hp];simp
    rcases Pz p1 k _ Ra i j5 with h | h
    ·have:=h listed De fun ok Kb e he hb=>by
      rw[Ol] at Kb;cases Kb;exact Ls e he hb
     rw[hl] at this;cases this
    ·exact h
   have Mc:bI dst E (fun j=>listed.getD j false) ord x0=bI dst E (fun j=>listed.getD j false) post (bI dst E (fun j=>listed.getD j false) pre x0):=by
    rw[OE,dd];simp only[bI,Mb,Bool.false_eq_true,if_false]
   refine oe pre i post OE listed _ a w _ CX Mb hR ?_ fun a' w' Ua=>?_
   ·rw[Mc];have e1:dp (V i) (bI dst E (fun j=>listed.getD j false) post (bI dst E (fun j=>listed.getD j false) pre x0)) (bI dst E (fun j=>listed.getD j false) pre x0):=by
     have:=fG (V:=V i) (dst:=dst) (E:=E) (L:=fun j=>listed.getD j false) (L':=fun _=>false) post _ _ (fun k hk F0 z=>by
      have hl:listed.getD k false=true:=by cases h:listed.getD k false<;>simp_all
      have h:=Nu k hk hl;exact lL h.s2 h.h2 h.n2 h.a2 z) (dp.refl (V i) (bI dst E (fun j=>listed.getD j false) pre x0))
     rwa [nj] at this
    refine e1.trans (fG pre _ _ (fun k hk F0 z=>?_) (dp.refl _ _));have hl:listed.getD k false=false:=by cases h:listed.getD k false<;>simp_all
    have h:=Q5 k hk hl;exact lL h.s1 h.h1 h.n1 h.a1 z
   ·have nr:i<listed.size:=by rw[CX];exact yN i On
    refine ih _ a' w' (by simpa using CX) ?_ ?_ ?_
    ·intro j oj hj hl e he hb;by_cases OH:i=j
     ·subst OH;have:oj=oi:=Option.some.inj (hj.symm.trans Ol);subst this;exact getD_set_true (Ls e he hb)
     ·rw[getD_set_ne false OH] at hl;exact getD_set_true (De j oj hj hl e he hb)
    ·have:=count_set ord i listed hn On nr Mb;omega
    ·have LA:(listed.setIfInBounds i true).getD i false=true:=by simp[nr]
     have key:bI dst E (fun j=>(listed.setIfInBounds i true).getD j false) ord x0=ap (dst i) (E i) (bI dst E (fun j=>listed.getD j false) ord x0):=by
      rw[Mc,OE,dd];simp only[bI,LA,if_true];rw[eG pre x0 (L':=fun j=>listed.getD j false) fun k hk=>getD_set_ne false (fun e=>by subst e;exact LC.2.2 i hk i j5 rfl)];rw[eG post _ (L':=fun j=>listed.getD j false) fun k hk=>getD_set_ne false (fun e=>by subst e;exact LC.2.1.1 hk)];exact kC post _ fun k hk hl z=>Ax (Nu k hk hl) z
     rw[key];exact Ua
def fs (s:St):FS:=⟨assoc s.env,assoc s.heap,s.nx⟩
def nC:List (Nat×Option Ob)→List (Nat×Ob)→List (Nat×Ob)
 | [],H=>H
 | (o,some x)::r,H=>(o,x)::iY (nC r H) o
 | (o,none)::r,H=>iY (nC r H) o
theorem kK (H:List (Nat×Ob)):∀ (w:List (Nat×Option Ob)) (p:Nat),assoc (nC w H) p=jc (assoc H) w p
 | [],p=>rfl
 | (o,some x)::r,p=>by
  simp only[nC,assoc,jc];by_cases e:o=p
  ·rw[if_pos e,if_pos e]
  ·rw[if_neg e,if_neg e,dW,if_neg e,kK H r p,jc]
 | (o,none)::r,p=>by
  simp only[nC,assoc,jc];rw[dW];by_cases e:o=p
  ·rw[if_pos e,if_pos e]
  ·rw[if_neg e,if_neg e,kK H r p,jc]
def JK (d:Option Tmp)(E:Ef)(s:St):St:=nX ⟨s.env,nC E.w s.heap,s.nx+E.k⟩ d E.r
theorem DK (d:Option Tmp)(E:Ef)(s:St):fs (JK d E s)=ap d E (fs s):=by
 unfold fs JK ap;congr 1
 ·funext t;exact r7 t
 ·funext p;rw[l6.1];exact kK s.heap E.w p
 ·rw[l6.2]
theorem lH (s:St)(d:Option Tmp)(c:CV):fs (s.put d c)=ap d ⟨some c,[],0⟩ (fs s):=DK d ⟨some c,[],0⟩ s
def jE:CV→List Nat
 | .bw o _ _=>[o]
 | .ai o _=>[o]
 | _=>[]
theorem qq {o:Nat}{c:CV}(h:names o c=true):o∈jE c:=by
 cases c<;>simp_all [names,jE]
def Fe (s:St)(op:Op):List Nat:=op.operands.toList.flatMap fun x=>match ev s x with
 | some v=>jE v
 | none=>[]
theorem zX {s:St}{op:Op}{x:Operand}{v:CV}{o:Nat}(hx:x∈op.operands)(hv:ev s x=some v)(hn:names o v=true):o∈Fe s op:=by
 unfold Fe;refine List.mem_flatMap.2 ⟨x,by simpa using hx,?_⟩;rw[hv];exact qq hn
def CM (s:St)(op:Op):List Nat:=match op with
 | .load _ _=>Fe s op
 | .slice _ _ _ _ _=>Fe s op
 | _=>[]
def oG (ak:List (Nat×TI))(s:St):Op→Option (Ob×(Nat→CV))
 | .alloc e=>match assoc ak e with
  | some ie=>some (⟨e,0,ie.zero⟩,fun m=>.ai m 0)
  | none=>none
 | .makeSlice t l c=>match cY ak t,ev s l,ev s c with
  | some (.sl e),some (.int _ n),some (.int _ m)=>match assoc ak e with
   | some ie=>if n=m∧0≤n∧(ie.bytes:Int)*n≤281474976710656∧n≤9223372036854775807 then some (⟨e,ie.size,aS ie.zero n.toNat⟩,fun m=>.bw m 0 n.toNat) else none
   | none=>none
  | _,_,_=>none
 | op=>xY ak s op
def Im (ak:List (Nat×TI))(s:St)(t:TypeId)(x v:Operand):Option (Nat×Ob):=
 match ev s x,ev s v,assoc ak t with
 | some (.ai p off),some c,some i=>match assoc s.heap p with
  | none=>none
  | some ob=>if dn c then none else if c.cells.length=i.size∧off+c.cells.length≤ob.cells.length then some (p,{ ob with cells:=fL ob.cells off c.cells }) else none
 | _,_,_=>none
def wR (s:St):CV→Option Ob
 | .bw o _ _=>assoc s.heap o
 | _=>none
def oJ (ak:List (Nat×TI))(t:TypeId)(p:CV)(YX:Option Ob)(src:Option (List CV×Nat)):Option (Ob×Nat×Option Nat):=
 match cY ak t with
 | some (.sl e)=>match assoc ak e,src with
  | some ie,some (news,m)=>if 0<ie.size∧0<ie.bytes∧news.length=m*ie.size then
    match p with
    | .ag=>if m*ie.bytes≤140737488355328 then some (⟨e,ie.size,news⟩,m,none) else none
    | .bw o off n=>match YX with
     | none=>none
     | some ob=>if off=0∧ob.elem=e∧ob.sz=ie.size∧n*ie.size=ob.cells.length∧(n+m)*ie.bytes≤140737488355328 then some ({ ob with cells:=ob.cells++news },n+m,some o) else none
    | _=>none
   else none
  | _,_=>none
 | _=>none
def rmL:Option Nat→List (Nat×Option Ob)
 | some o=>[(o,none)]
 | none=>[]
def FY (H:List (Nat×Ob)):Option Nat→List (Nat×Ob)
 | some o=>iY H o
 | none=>H
theorem zo {ak:List (Nat×TI)}{s:St}{d:Option Tmp}{t:TypeId}{x y:Operand}{p q:CV}{ob:Ob}{k:Nat}{rm:Option Nat}(hx:ev s x=some p)(hy:ev s y=some q)(h:oJ ak t p (wR s p) (cells? s q)=some (ob,k,rm)) :
  mh ak s d t x y=some (St.put { env:=s.env,heap:=(s.nx,ob)::FY s.heap rm,nx:=s.nx+1 } d (.bw s.nx 0 k)):=by
 unfold oJ at h;unfold mh;split at h
 ·rename_i e ht;split at h
  ·rename_i ie news m h1 h2;split at h
   ·rename_i hc;split at h
    ·split at h
     ·rename_i hb;cases h;simp only[ht,hx,hy,h1,h2];rw[if_pos hc,if_pos hb];rfl
     ·cases h
    ·rename_i o off n;split at h
     ·cases h
     ·rename_i Ka LB;split at h
      ·rename_i hb;cases h;simp only[wR] at LB;simp only[ht,hx,hy,h1,h2];rw[if_pos hc];simp only[LB];rw[if_pos hb];rfl
      ·cases h
    ·cases h
   ·cases h
  ·cases h
 ·cases h
mutual
def vr:CV→CV→Bool
 | .int k n,.int k' n'=>decide (k=k') && n == n'
 | .bool a,.bool b=>a == b
 | .str a,.str b=>a.data.toList == b.data.toList
 | .agg a,.agg b=>pz a b
 | .au a n,.au b m=>n == m && pz a b
 | .ag,.ag=>true
 | .cc a,.cc b=>pz a b
 | .bg,.bg=>true
 | .fn f a,.fn g b=>f == g && pz a b
 | .bT,.bT=>true
 | .iface f a,.iface g b=>f == g && pz a b
 | .db a,.db b=>pz a b
 | .bw o f n,.bw p g m=>o == p && f == g && n == m
 | .ai o f,.ai p g=>o == p && f == g
 | .any,.any=>true
 | _,_=>false
def pz:List CV→List CV→Bool
 | [],[]=>true
 | a::r,b::q=>vr a b && pz r q
 | _,_=>false
end
mutual
theorem Iw:∀ (a b:CV),vr a b=true→a=b
 | .int k n,b,h=>by cases b<;>simp_all [vr]
 | .bool a,b,h=>by cases b<;>simp_all [vr]
 | .str a,b,h=>by
  cases b<;>simp only[vr,Bool.false_eq_true] at h;rename_i b;have:a.data.toList=b.data.toList:=by simpa using h
  have h2:a.data=b.data:=Array.toList_inj.1 this;have:a=b:=ByteArray.ext h2;rw[this]
 | .agg a,b,h=>by
  cases b<;>simp only[vr,Bool.false_eq_true] at h;rw[iu _ _ h]
 | .au a n,b,h=>by
  cases b<;>simp only[vr,Bool.false_eq_true,Bool.and_eq_true,beq_iff_eq] at h;rw[iu _ _ h.2,h.1]
 | .ag,b,h=>by cases b<;>simp_all [vr]
 | .cc a,b,h=>by
  cases b<;>simp only[vr,Bool.false_eq_true] at h;rw[iu _ _ h]
 | .bg,b,h=>by cases b<;>simp_all [vr]
 | .fn f a,b,h=>by
  cases b<;>simp only[vr,Bool.false_eq_true,Bool.and_eq_true,beq_iff_eq] at h;rw[iu _ _ h.2,h.1]
 | .bT,b,h=>by cases b<;>simp_all [vr]
 | .iface f a,b,h=>by
  cases b<;>simp only[vr,Bool.false_eq_true,Bool.and_eq_true,beq_iff_eq] at h;rw[iu _ _ h.2,h.1]
 | .iter _ _ _,b,h=>by cases b<;>simp_all [vr]
 | .mp _ _,b,h=>by cases b<;>simp_all [vr]
 | .db a,b,h=>by
  cases b<;>simp only[vr,Bool.false_eq_true] at h;rw[iu _ _ h]
 | .bw o f n,b,h=>by cases b<;>simp_all [vr]
 | .ai o f,b,h=>by cases b<;>simp_all [vr]
 | .any,b,h=>by cases b<;>simp_all [vr]
theorem iu:∀ (a b:List CV),pz a b=true→a=b
 | [],b,h=>by cases b<;>simp_all [pz]
 | x::r,b,h=>by
  cases b with
  | nil=>simp[pz] at h
  | cons y q=>
   simp only[pz,Bool.and_eq_true] at h;rw[Iw x y h.1,iu r q h.2]
end
def oeq:Option Ob→Option Ob→Bool
 | some a,some b=>a.elem == b.elem && a.sz == b.sz && pz a.cells b.cells
 | none,none=>true
 | _,_=>false
theorem HP {a b:Option Ob}(h:oeq a b=true):a=b:=by
 cases a<;>cases b<;>simp only[oeq,Bool.false_eq_true,Bool.and_eq_true,beq_iff_eq] at h
 ·rfl
 ·rename_i x y;obtain⟨⟨h1,h2⟩,h3⟩:=h;have h4:=iu _ _ h3;cases x;cases y;simp only at h1 h2 h4;subst h1;subst h2;subst h4;rfl
def jn (H H':List (Nat×Ob)):List (Nat×Ob)→List (Nat×Option Ob)→List (Nat×Option Ob)
 | [],l=>l
 | (o,_)::r,l=>if oeq (assoc H o) (assoc H' o) then jn H H' r l else (o,assoc H' o)::jn H H' r l
def pV (H H':List (Nat×Ob)):List (Nat×Option Ob):=jn H H' H' (jn H H' H [])
theorem js (H H':List (Nat×Ob)):∀ (l:List (Nat×Ob)) (m:List (Nat×Option Ob)) (p:Nat) (y:Option Ob),(∀ p y,assoc m p=some y→y=assoc H' p)→assoc (jn H H' l m) p=some y→y=assoc H' p
 | [],m,p,y,hm,h=>hm p y h
 | (o,_)::r,m,p,y,hm,h=>by
  simp only[jn] at h;split at h
  ·exact js H H' r m p y hm h
  ·simp only[assoc] at h;split at h
   ·rename_i e;cases h;rw[e]
   ·exact js H H' r m p y hm h
theorem kE (H H':List (Nat×Ob)):∀ (l:List (Nat×Ob)) (m:List (Nat×Option Ob)) (p:Nat),assoc (jn H H' l m) p=none→assoc m p=none∧(assoc l p=none∨assoc H p=assoc H' p)
 | [],m,p,h=>⟨h,.inl rfl⟩
 | (o,_)::r,m,p,h=>by
  simp only[jn] at h;split at h
  ·rename_i he;obtain⟨h1,h2⟩:=kE H H' r m p h;refine⟨h1,?_⟩;simp only[assoc];by_cases e:o=p
   ·subst e;exact .inr (HP he)
   ·rw[if_neg e];exact h2
  ·simp only[assoc] at h;split at h
   ·cases h
   ·rename_i e;obtain⟨h1,h2⟩:=kE H H' r m p h;refine⟨h1,?_⟩;simp only[assoc];rw[if_neg e];exact h2
theorem DZ (H H':List (Nat×Ob))(p:Nat):jc (assoc H) (pV H H') p=assoc H' p:=by
 unfold jc pV
 cases h:assoc (jn H H' H' (jn H H' H [])) p with
 | some y=>
  simp only;exact js H H' H' _ p y (fun q z hz=>js H H' H [] q z (fun _ _ h=>by cases h) hz) h
 | none=>
  simp only;obtain⟨h1,h2⟩:=kE H H' H' _ p h;obtain⟨_,h3⟩:=kE H H' H [] p h1;rcases h2 with h2 | h2
  ·rcases h3 with h3 | h3
   ·rw[h2,h3]
   ·exact h3
  ·exact h2
theorem kF (H H':List (Nat×Ob)){p:Nat}{y:Option Ob}:∀ (l:List (Nat×Ob)) (m:List (Nat×Option Ob)),assoc l p=none→assoc m p=none→assoc (jn H H' l m) p=some y→False
 | [],m,_,hm,h=>by simp only[jn] at h;rw[hm] at h;cases h
 | (o,x)::r,m,hl,hm,h=>by
  simp only[assoc] at hl;split at hl
  ·cases hl
  ·rename_i e;simp only[jn] at h;split at h
   ·exact kF H H' r m hl hm h
   ·simp only[assoc] at h;rw[if_neg e] at h;exact kF H H' r m hl hm h
theorem zc {H H':List (Nat×Ob)}{p:Nat}{y:Option Ob}(h1:assoc H p=none)(h2:assoc H' p=none)(h:assoc (pV H H') p=some y):False:=by
 unfold pV at h;refine kF H H' H' _ h2 ?_ h
 cases hc:assoc (jn H H' H []) p with
 | none=>rfl
 | some z=>exact (kF H H' H [] h1 rfl hc).elim
def dI (cs:List CV):List Nat:=cs.flatMap fun c=>match c with
 | .agg ds=>ds.flatMap jE
 | c=>jE c
def BU (lo hi:Nat)(a7:List Nat)(o:Nat):Bool:=decide (o<lo) || decide (hi≤o) || a7.contains o
def oX (lo hi:Nat)(a7:List Nat):List (Nat×Ob)→List (Nat×Ob)
 | []=>[]
 | (o,x)::r=>if BU lo hi a7 o then (o,x)::oX lo hi a7 r else oX lo hi a7 r
def yY (lo hi:Nat)(a7:List Nat):List (Nat×Ob)→List (Nat×Ob)
 | []=>[]
 | (o,x)::r=>if BU lo hi a7 o then yY lo hi a7 r else (o,x)::yY lo hi a7 r
theorem kJ (lo hi:Nat)(a7:List Nat):∀ (H:List (Nat×Ob)) (p:Nat),assoc (oX lo hi a7 H) p=if BU lo hi a7 p then assoc H p else none
 | [],p=>by simp[oX,assoc]
 | (o,x)::r,p=>by
  simp only[oX];by_cases e:o=p
  ·subst e;by_cases h:BU lo hi a7 o=true
   ·simp[h,assoc]
   ·rw[if_neg h,kJ lo hi a7 r o];simp[h]
  ·split
   ·simp only[assoc];rw[if_neg e,if_neg e];exact kJ lo hi a7 r p
   ·simp only[assoc];rw[if_neg e];exact kJ lo hi a7 r p
theorem eM (lo hi:Nat)(a7:List Nat):∀ (H:List (Nat×Ob)) (p:Nat),assoc (yY lo hi a7 H) p=if BU lo hi a7 p then none else assoc H p
 | [],p=>by simp[yY,assoc]
 | (o,x)::r,p=>by
  simp only[yY];by_cases e:o=p
  ·subst e;by_cases h:BU lo hi a7 o=true
   ·rw[if_pos h,eM lo hi a7 r o];simp[h]
   ·simp[h,assoc]
  ·split
   ·simp only[assoc];rw[if_neg e];exact eM lo hi a7 r p
   ·simp only[assoc];rw[if_neg e,if_neg e];exact eM lo hi a7 r p
theorem fI {α:Type}:∀ (l m:List (Nat×α)) (p:Nat),assoc (l++m) p=match assoc l p with
  | some y=>some y
  | none=>assoc m p
 | [],_,_=>rfl
 | (o,x)::r,m,p=>by
  simp only[List.cons_append,assoc];by_cases e:o=p
  ·rw[if_pos e,if_pos e]
  ·rw[if_neg e,if_neg e];exact fI r m p
def Ai (ak:List (Nat×TI))(s:St):Op→Option (CV×List Nat)
 | .convert t u x=>match oE ak s t u x with
  | some c=>some (c,match ev s x with | some v=>jE v | none=>[])
  | none=>none
 | _=>none
def rO (ak:List (Nat×TI))(mt:gh)(ops:Array Oper)(call:eP)(pc:FuncId→List CV→Option CV)(lo hi m:Nat)(s:St)(o:Oper):Option (Ef×List Nat×Bool×Option (Nat×Nat)):=
 match bM ops s o with
 | none=>none
 | some false=>some (⟨some (.db []),[],0⟩,[],false,none)
 | some true=>match bR o with
  | some c=>match gG mt s c with
   | some (g,cs)=>match (if trees cs then pc g cs else none) with
    | some r=>some (⟨some r,[],0⟩,[],false,none)
    | none=>match call g cs (oX lo hi (dI cs) s.heap) s.nx with
     | some (x,H,n)=>if s.nx≤n∧(H.all fun y=>BU lo hi (dI cs) y.1)=true then some (⟨some x,pV (oX lo hi (dI cs) s.heap) H,n-s.nx⟩,dI cs,true,some (lo,hi)) else none
     | none=>none
   | none=>none
  | none=>match eE ak s o.op with
   | some c=>some (⟨some c,[],0⟩,CM s o.op,false,none)
   | none=>match Ai ak s o.op with
    | some (c,rs)=>some (⟨some c,[],0⟩,rs,false,none)
    | none=>match oG ak s o.op with
    | some (ob,f)=>some (⟨some (f m),[(m,some ob)],0⟩,[],false,none)
    | none=>match o.op with
     | .store t x v=>match Im ak s t x v with
      | some (p,ob)=>some (⟨none,[(p,some ob)],0⟩,[p],false,none)
      | none=>none
     | .call cl=>match cl.callee,cl.args.toList,cl.argTypes.toList with
      | .builtin .append,[x,y],[t,t']=>if t=t' then match ev s x,ev s y with
        | some p,some q=>match oJ ak t p (wR s p) (cells? s q) with
         | some (ob,k,rm)=>some (⟨some (.bw s.nx 0 k),(s.nx,some ob)::rmL rm,1⟩,jE p++jE q,true,none)
         | none=>none
        | _,_=>none
       else none
      | _,_,_=>none
     | _=>none
section
variable {P:Program}{C:Cx}{σ:Nat→Option OB}{s:St}{a:Act}{w:World}{ops:Array Oper}{ak:List (Nat×TI)}{mt:gh}{pc:FuncId→List CV→Option CV}
theorem aB.Iu (h:aB C σ s a w){s':St}(he:fs s'=fs s):aB C σ s' a w:=by
 unfold fs at he;simp only[FS.mk.injEq] at he;obtain⟨h1,h2,h3⟩:=he;have O0:FB C σ s'.heap=FB C σ s.heap:=by
  unfold FB;rw[h2]
 refine⟨h.me,h.tm,h.os,h.tape,h.output,h.size,h.frame,?_,?_,?_,?_,h.fM,by rw[h3];exact h.low,h.new⟩
 ·intro t c hc;rw[h1] at hc;rw[O0];exact h.env t c hc
 ·intro o ob ho;rw[h2] at ho;have:=h.obj o ob ho;unfold ObR at this ⊢;rw[O0];exact this
 ·intro o o' ob Ka b ho Kv;rw[h2] at ho Kv;exact h.inj o o' ob Ka b ho Kv
 ·intro o ho;rw[h3] at ho;exact h.nx o ho
theorem kM (h:aB C σ s a w){m:Nat}(hm:σ m=none)(MW:C.n0≤m)(L5:m<s.nx){e:TypeId}{sz:Nat}{cs:List CV}{us:Array Value}(hr:aG w (FB C σ s.heap) σ cs us.toList)(h1:cs.all one=true) :
  aB C (sig σ m ⟨some w.heap.size,us.size,sz⟩) { s with heap:=(m,⟨e,sz,cs⟩)::s.heap } a (w.alloc (.cells us e)):=by
 have hl:=aG.length _ _ hr;refine (h.z9 hm MW L5 (Nat.le_refl _) (lG _) (ob:=⟨e,sz,cs⟩) (B:=⟨some w.heap.size,us.size,sz⟩) rfl h1 j5 fun b hb=>?_).1;simp only[Option.some.injEq] at hb;subst hb;exact⟨Nat.le_refl _,us,heap_alloc_new w _,rfl,by simp only;simp at hl;omega,by simp only;rw[← hl,List.take_of_length_le (Nat.le_refl _)];exact hr⟩
theorem Bk (ht:ay P ak)(h:aB C σ s a w){m:Nat}(hm:σ m=none)(MW:C.n0≤m)(L5:m<s.nx){o:Oper}(hd:∀ t,o.dst=some t→t<a.tmps.size){ob:Ob}{f:Nat→CV}(hv:oG ak s o.op=some (ob,f)) :
  ∃ z w' B,(execOp a.eval o).run P w=.ok (.value z) w'∧aB C (sig σ m B) (St.put { s with heap:=(m,ob)::s.heap } o.dst (f m)) (a.put o.dst z) w':=by
 cases ho:o.op<;>rw[ho] at hv<;>simp only[oG,xY] at hv<;>first | cases hv | skip
 case alloc e=>
  split at hv
  ·rename_i ie CW;cases hv;obtain⟨fi,z,g1,_,_,g4,g5⟩:=(ht e ie CW).info;obtain⟨k1,k2⟩:=cw (w:=w) (F:=FB C σ s.heap) _ _ g5;have KM:=kM h hm MW L5 (e:=e) (sz:=0) (aG.ca _ _ k1) k2;refine⟨.pointer (some ⟨w.heap.size,0,none⟩),_,_,?_,KM.put hd ?_⟩
   ·simp[execOp,ho,Instr.alloc,gT g1 g4,newVar,newRow]
   ·simp only[VR];exact⟨_,_,cN,rfl,rfl⟩
  ·cases hv
 case box e x=>
  split at hv
  ·rename_i c hx;split at hv
   ·cases hv
   ·rename_i Mu;cases hv;obtain⟨f1,f2⟩:=VR.flat c _ (fun cs e=>by subst e;simp[dn] at Mu) (fun k s p e=>by subst e;simp[dn] at Mu) (bD h hx);have KM:=kM h hm MW L5 (e:=e) (sz:=0) f1 f2;refine⟨.pointer (some ⟨w.heap.size,0,none⟩),_,_,?_,KM.put hd ?_⟩
    ·simp[execOp,ho,Instr.box,newVar,newRow]
    ·simp only[VR];exact⟨_,_,cN,rfl,rfl⟩
  ·cases hv
 case buildSlice t len parts=>
  split at hv
  ·rename_i e Ks;obtain⟨it,Fl,Ks⟩:=Option.map_eq_some_iff.1 Ks;split at hv
   ·rename_i ie cs CW Kr;split at hv
    ·rename_i hb;obtain⟨out,Nx,hv⟩:=Option.map_eq_some_iff.1 hv;cases hv;obtain⟨fi,z,g1,g2,g3,g4,g5⟩:=(ht e ie CW).info;obtain⟨k1,k2⟩:=cw (w:=w) (F:=FB C σ s.heap) _ _ g5;have CX:z.cells.size=ie.size:=by rw[← (ht e ie CW).len,← bt.length _ _ k1];simp
     have hz:=jT (σ:=σ) (aG.ca _ _ k1) len;obtain⟨l1,l2⟩:=kg h _ _ Kr;obtain⟨us,m1,m2,m3⟩:=lJ _ cs (parts.toList.map fun p=>(p.1,a.eval p.2)) _ out (madeCells z.cells (len*z.cells.size)) (by simpa using l1) l2 hz (iz k2 len) Nx;have KM:=kM h hm MW L5 (e:=e) (sz:=ie.size) m2 m3;have Pb:us.size=len*ie.size:=by
      have:=aG.length _ _ m2;rw[kH _ _ _ _ Nx,ef,(ht e ie CW).len] at this
      simpa using this
     have hp:(parts.map fun (x:Nat×Operand)=>(x.1,a.eval x.2)).toList=parts.toList.map fun (p:Nat×Operand)=>(p.1,a.eval p.2):=by simp
     rw[CX] at m1;refine⟨.slice (some ⟨w.heap.size,0,none⟩) len len,_,_,?_,KM.put hd ?_⟩
     ·simp only[execOp,ho,Instr.buildSlice,Sem.run_bind,bp (da (ht t it Fl) Ks),Result.andThen_ok,ch g1,g2,hp];rw[if_neg (by have:=hb.1;omega)];by_cases h0:len*ie.size=0
      ·have e0:madeCells z.cells 0=#[]:=by simp[madeCells]
       have e2:(Array.range 0).map (fun _=>(default:Value))=#[]:=by simp[Array.range_zero']
       rw[h0,e0] at m1;simp[h0,e2,m1,newRow]
      ·have e1:(Array.range (len*ie.size)).map (fun x=>z.cells[x % z.cells.size]!)=madeCells z.cells (len*ie.size):=rfl;simp[h0,gT g1 g4,e1,m1,newRow]
     ·simp only[VR];exact⟨_,cN,len,rfl,Nat.le_refl _,by have:=hb.2;simp only[maxLen];omega,by simp[Pb],fun _=>Pb.symm⟩
    ·cases hv
   ·cases hv
  ·cases hv
 case makeSlice t l c=>
  split at hv
  ·rename_i e k n k' m' Ks hl L9;obtain⟨it,Fl,Ks⟩:=Option.map_eq_some_iff.1 Ks;split at hv
   ·rename_i ie CW;split at hv
    ·rename_i hb;obtain⟨rfl,h0,PJ,QP⟩:=hb;cases hv;obtain⟨fi,z,g1,g2,g3,g4,g5⟩:=(ht e ie CW).info;obtain⟨k1,k2⟩:=cw (w:=w) (F:=FB C σ s.heap) _ _ g5;have kl:=bD h hl;have kc:=bD h L9;simp only[VR] at kl kc;have CX:fi.size=z.cells.size:=by rw[g2,← (ht e ie CW).len,← bt.length _ _ k1];simp
     have hz:=jT (σ:=σ) (aG.ca _ _ k1) n.toNat;have hr:=run_make (P:=P) w t e fi z (da (ht t it Fl) Ks) g1 g4 k k' n n h0 (Int.le_refl _) (by rw[g3];exact PJ) QP;have KM:=kM h hm MW L5 (e:=e) (sz:=ie.size) hz (iz k2 n.toNat);have S0:z.cells.size=ie.size:=by rw[← CX,g2]
     rw[CX] at hr;refine⟨.slice (some ⟨w.heap.size,0,none⟩) n.toNat n.toNat,_,_,by simp only[execOp,ho,kl,kc,Sem.run_bind,hr,Result.andThen_ok,Sem.run_pure],KM.put hd ?_⟩;simp only[VR];refine⟨_,cN,n.toNat,rfl,Nat.le_refl _,by simp only[maxLen];omega,?_,fun _=>?_⟩
     ·simp[size_madeCells,S0]
     ·simp[size_madeCells,S0]
    ·cases hv
   ·cases hv
  ·cases hv
end
end Go.Can
