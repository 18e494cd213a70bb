/- Operations in any order: where those that are not ordered ke -/
import Derived.Test.YtlkmbdfhdknlgaaGreatDoorZ07
namespace Go.Can
open Go.RowKit
structure FS where
 e:Nat→Option CV
 h:Nat→Option Ob
 n:Nat
structure Ef where
 r:Option CV
 w:List (Nat×Option Ob)
 k:Nat
structure Vw where
 t:List Nat
 o:List Nat
 n:Bool
 a:Option (Nat×Nat)
def ka (h:Nat→Option Ob)(w:List (Nat×Option Ob)):Nat→Option Ob:=fun p=>match assoc w p with
 | some y=>y
 | none=>h p
def ap (d:Option Tmp)(E:Ef)(x:FS):FS:=⟨iq x.e d E.r,ka x.h E.w,x.n+E.k⟩
def dV (V:Vw)(x y:FS):Prop:=(∀ t∈V.t,x.e t=y.e t)∧(∀ o∈V.o,x.h o=y.h o)∧(V.n=true→x.n=y.n)∧(∀ r,V.a=some r→∀ o,o<r.1∨r.2≤o→x.h o=y.h o)
structure FJ (d d':Option Tmp)(E E':Ef)(V V':Vw):Prop where
 s1:∀ t,d=some t→t∉V'.t
 s2:∀ t,d'=some t→t∉V.t
 s3:∀ t,d=some t→d'≠some t
 h1:∀ o y,assoc E.w o=some y→o∉V'.o
 h2:∀ o y,assoc E'.w o=some y→o∉V.o
 h3:∀ o y,assoc E.w o=some y→assoc E'.w o=none
 n1:V'.n=true→E.k=0
 n2:V.n=true→E'.k=0
 a1:∀ r,V'.a=some r→∀ o y,assoc E.w o=some y→r.1≤o∧o<r.2
 a2:∀ r,V.a=some r→∀ o y,assoc E'.w o=some y→r.1≤o∧o<r.2
theorem dV.refl (V:Vw)(x:FS):dV V x x:=⟨fun _ _=>rfl,fun _ _=>rfl,fun _=>rfl,fun _ _ _ _=>rfl⟩
theorem dV.symm {V:Vw}{x y:FS}(h:dV V x y):dV V y x:=⟨fun t ht=>(h.1 t ht).symm,fun o ho=>(h.2.1 o ho).symm,fun hn=>(h.2.2.1 hn).symm,fun r ha o ho=>(h.2.2.2 r ha o ho).symm⟩
theorem dV.trans {V:Vw}{x y z:FS}(h:dV V x y)(k:dV V y z):dV V x z:=⟨fun t ht=>(h.1 t ht).trans (k.1 t ht),fun o ho=>(h.2.1 o ho).trans (k.2.1 o ho),fun hn=>(h.2.2.1 hn).trans (k.2.2.1 hn),fun r ha o ho=>(h.2.2.2 r ha o ho).trans (k.2.2.2 r ha o ho)⟩
theorem Ea {d d':Option Tmp}{E E':Ef}{V V':Vw}(h:FJ d d' E E' V V')(x:FS):ap d E (ap d' E' x)=ap d' E' (ap d E x):=by
 unfold ap;congr 1
 ·funext t;simp only[iq];by_cases h1:d=some t
  ·rw[if_pos h1,if_neg (h.s3 t h1),if_pos h1]
  ·rw[if_neg h1,if_neg h1]
 ·funext p;simp only[ka]
  cases h1:assoc E.w p with
  | none=>rfl
  | some y=>rw[h.h3 p y h1]
 ·simp only;omega
theorem nK {V:Vw}{d:Option Tmp}{E:Ef}(h1:∀ t,d=some t→t∉V.t)(h2:∀ o y,assoc E.w o=some y→o∉V.o)(h3:V.n=true→E.k=0)(h4:∀ r,V.a=some r→∀ o y,assoc E.w o=some y→r.1≤o∧o<r.2)(x:FS):dV V (ap d E x) x:=by
 refine⟨fun t ht=>?_,fun o ho=>?_,fun hn=>?_,fun r ha o ho=>?_⟩
 ·simp only[ap,iq];rw[if_neg (fun e=>h1 t e ht)]
 ·simp only[ap,ka]
  cases h5:assoc E.w o with
  | none=>rfl
  | some y=>exact absurd ho (h2 o y h5)
 ·simp only[ap,h3 hn];rfl
 ·simp only[ap,ka]
  cases h5:assoc E.w o with
  | none=>rfl
  | some y=>have:=h4 r ha o y h5;omega
theorem IF {V:Vw}{d:Option Tmp}{E:Ef}{x y:FS}(h:dV V x y):dV V (ap d E x) (ap d E y):=by
 refine⟨fun t ht=>?_,fun o ho=>?_,fun hn=>?_,fun r ha o ho=>?_⟩
 ·simp only[ap,iq];rw[h.1 t ht]
 ·simp only[ap,ka];rw[h.2.1 o ho]
 ·simp only[ap];rw[h.2.2.1 hn]
 ·simp only[ap,ka];rw[h.2.2.2 r ha o ho]
def bU (dst:Nat→Option Tmp)(E:Nat→Ef)(L:Nat→Bool):List Nat→FS→FS
 | [],x=>x
 | i::r,x=>bU dst E L r (if L i then ap (dst i) (E i) x else x)
section
variable {dst:Nat→Option Tmp}{E:Nat→Ef}
theorem dN {L:Nat→Bool}:∀ (l m:List Nat) (x:FS),bU dst E L (l++m) x=bU dst E L m (bU dst E L l x)
 | [],_,_=>rfl
 | i::r,m,x=>by simp only[List.cons_append,bU];exact dN r m _
theorem fC {L L':Nat→Bool}:∀ (l:List Nat) (x:FS),(∀ i∈l,L i=L' i)→bU dst E L l x=bU dst E L' l x
 | [],_,_=>rfl
 | i::r,x,h=>by
  simp only[bU];rw[h i N3];exact fC r _ fun j hj=>h j (by simp[hj])
theorem pE:∀ (l:List Nat) (x:FS),bU dst E (fun _=>false) l x=x
 | [],_=>rfl
 | _::r,x=>by simp only[bU,Bool.false_eq_true,if_false];exact pE r x
theorem gI {V:Vw}{L L':Nat→Bool}:∀ (l:List Nat) (x y:FS),(∀ i∈l,L i≠L' i→∀ z,dV V (ap (dst i) (E i) z) z)→dV V x y→dV V (bU dst E L l x) (bU dst E L' l y)
 | [],_,_,_,h=>h
 | i::r,x,y,hd,h=>by
  simp only[bU];refine gI r _ _ (fun j hj=>hd j (by simp[hj])) ?_;cases h1:L i<;>cases h2:L' i<;>simp only[Bool.false_eq_true,if_false,if_true]
  ·exact h
  ·exact h.trans (hd i N3 (by rw[h1,h2];simp) y).symm
  ·exact (hd i N3 (by rw[h1,h2];simp) x).trans h
  ·exact IF h
theorem mg {L:Nat→Bool}{d:Option Tmp}{G:Ef}:∀ (l:List Nat) (x:FS),(∀ j∈l,L j=true→∀ z,ap d G (ap (dst j) (E j) z)=ap (dst j) (E j) (ap d G z))→bU dst E L l (ap d G x)=ap d G (bU dst E L l x)
 | [],_,_=>rfl
 | j::r,x,h=>by
  simp only[bU];cases h1:L j<;>simp only[Bool.false_eq_true,if_false,if_true]
  ·exact mg r x fun k hk=>h k (by simp[hk])
  ·rw[← h j N3 h1 x];exact mg r _ fun k hk=>h k (by simp[hk])
end
def ss (ops:Array Oper)(listed:Array Bool):Prop:=∀ j oj,ops[j]? = some oj→listed.getD j false=true→∀ e∈oj.after,Region.binds .any e=true→listed.getD e.on false=true
def BG (ops:Array Oper)(j i:Nat):Prop:=∀ listed:Array Bool,ss ops listed→(∀ oj,ops[j]? = some oj→∀ e∈oj.after,Region.binds .any e=true→listed.getD e.on false=true)→listed.getD i false=true
theorem Es {P:Program}{ops:Array Oper}{ord:List Nat}{dst:Nat→Option Tmp}{E:Nat→Ef}{V:Nat→Vw}{x0:FS}{R:Array Bool→FS→Act→World→Prop}{Q':Exit→Act→World→Prop}
  (hn:ord.Nodup) (RC:∀ j,j<ops.size→j∈ord) (Oa:∀ i∈ord,i<ops.size)
  (VQ:∀ pre i post,ord=pre++i::post→∀ oi,ops[i]? = some oi→∀ e∈oi.after,Region.binds .any e=true→e.on∈pre)
  (Uu:∀ pre i post,ord=pre++i::post→∀ j∈post,BG ops j i∨FJ (dst i) (dst j) (E i) (E j) (V i) (V j))
  (dt:∀ pre i post,ord=pre++i::post→∀ (listed:Array Bool) (x:FS) (a:Act) (w:World) (K:Act→World→Prop),listed.size=ops.size→listed.getD i false=false→R listed x a w→dV (V i) x (bU dst E (fun _=>true) pre x0) →
   (∀ a' w',R (listed.setIfInBounds i true) (ap (dst i) (E i) x) a' w'→K a' w')→wpOp P ops Q' i K a w)
  (Vo:∀ (listed:Array Bool) (a:Act) (w:World),R listed (bU dst E (fun _=>true) ord x0) a w→Q' .normal a w) :
  ∀ (m:Nat) (listed:Array Bool) (a:Act) (w:World),listed.size=ops.size→ss ops listed→(ord.countP fun j=>!listed.getD j false)=m→R listed (bU dst E (fun j=>listed.getD j false) ord x0) a w→wpAny P .any ops Q' m listed a w:=by
 intro m
 induction m with
 | zero=>
  intro listed a w Oh Og hc hR;have ON:∀ j∈ord,listed.getD j false=true:=fun j hj=>by
   have:=List.countP_eq_zero.1 hc j hj
   simpa using this
  refine⟨?_,Vo listed a w ?_⟩
  ·rw[List.eq_nil_iff_forall_not_mem];intro j hj;have h1:=getD_both (mem_ready.1 hj).1;obtain⟨_,o,ho,_⟩:=mem_ready.1 hj;rw[ON j (RC j (Array.getElem?_eq_some_iff.1 ho).1)] at h1;cases h1
  ·rwa [fC ord x0 (L':=fun _=>true) fun i hi=>ON i hi] at hR
 | succ m ih=>
  intro listed a w Oh Og hc hR;have hex:∃ i∈ord,listed.getD i false=false:=by
   have:0<ord.countP fun j=>!listed.getD j false:=by omega
   obtain⟨i,hi,h⟩:=List.countP_pos_iff.1 this;exact⟨i,hi,by simpa using h⟩
  refine⟨fun h0=>?_,fun i hi=>?_⟩
  ·exfalso;have:∀ (l pre:List Nat),ord=pre++l→(∀ j∈pre,listed.getD j false=true)→(∃ i∈l,listed.getD i false=false)→False:=by
    intro l
    induction l with
    | nil=>rintro pre _ _ ⟨i,hi,_⟩;cases hi
    | cons k r ihl=>
     intro pre ho hp hx
     cases hk:listed.getD k false with
     | true=>
      refine ihl (pre++[k]) (by simp[ho]) ?_ ?_
      ·intro j hj;rcases List.mem_append.1 hj with hj | hj
       ·exact hp j hj
       ·have:j=k:=by simpa using hj
        subst this;exact hk
      ·obtain⟨i,hi,hu⟩:=hx;rcases List.mem_cons.1 hi with e | hi
       ·subst e;rw[hk] at hu;cases hu
       ·exact⟨i,hi,hu⟩
     | false=>
      have Ot:=Oa k (by rw[ho];simp);have Om:ops[k]? = some ops[k]:=by simp[Ot]
      have:k∈Region.ready .any ops listed:=by
       refine mem_ready.2 ⟨oT (by rw[Oh];exact Ot) hk,_,Om,fun e he hb=>?_⟩;exact hp _ (VQ pre k r ho _ Om e he hb)
      rw[h0] at this;cases this
   exact this ord [] rfl N3 hex
  ·have QH:listed.getD i false=false:=getD_both (mem_ready.1 hi).1;obtain⟨_,oi,SY,PV⟩:=mem_ready.1 hi;have S7:i∈ord:=RC i (Array.getElem?_eq_some_iff.1 SY).1;obtain⟨pre,post,To⟩:=List.append_of_mem S7;have QE:=hn;rw[To,List.nodup_append,List.nodup_cons] at QE;have RZ:∀ k∈post,listed.getD k false=true→FJ (dst i) (dst k) (E i) (E k) (V i) (V k):=fun k hk hl=>by
    rcases Uu pre i post To k hk with h | h
    ·have:=h listed Og fun ok Om e he hb=>Og k ok Om hl e he hb;rw[QH] at this;cases this
    ·exact h
   have Wx:∀ k∈pre,listed.getD k false=false→FJ (dst k) (dst i) (E k) (E i) (V k) (V i):=fun k hk hl=>by
    obtain⟨p1,p2,hp⟩:=List.append_of_mem hk;have WC:ord=p1++k::(p2++i::post):=by rw[To,hp];simp
    rcases Uu p1 k _ WC i N3 with h | h
    ·have:=h listed Og fun ok Om e he hb=>by
      rw[SY] at Om;cases Om;exact PV e he hb
     rw[hl] at this;cases this
    ·exact h
   have QI:bU dst E (fun j=>listed.getD j false) ord x0=bU dst E (fun j=>listed.getD j false) post (bU dst E (fun j=>listed.getD j false) pre x0):=by
    rw[To,dN];simp only[bU,QH,Bool.false_eq_true,if_false]
   refine dt pre i post To listed _ a w _ Oh QH hR ?_ fun a' w' ZQ=>?_
   ·rw[QI];have e1:dV (V i) (bU dst E (fun j=>listed.getD j false) post (bU dst E (fun j=>listed.getD j false) pre x0)) (bU dst E (fun j=>listed.getD j false) pre x0):=by
     have:=gI (V:=V i) (dst:=dst) (E:=E) (L:=fun j=>listed.getD j false) (L':=fun _=>false) post _ _ (fun k hk Ok z=>by
      have hl:listed.getD k false=true:=by cases h:listed.getD k false<;>simp_all
      have h:=RZ k hk hl;exact nK h.s2 h.h2 h.n2 h.a2 z) (dV.refl (V i) (bU dst E (fun j=>listed.getD j false) pre x0))
     rwa [pE] at this
    refine e1.trans (gI pre _ _ (fun k hk Ok z=>?_) (dV.refl _ _));have hl:listed.getD k false=false:=by cases h:listed.getD k false<;>simp_all
    have h:=Wx k hk hl;exact nK h.s1 h.h1 h.n1 h.a1 z
   ·have N6:i<listed.size:=by rw[Oh];exact Oa i S7
    refine ih _ a' w' (by simpa using Oh) ?_ ?_ ?_
    ·intro j oj hj hl e he hb;by_cases Tr:i=j
     ·subst Tr;have:oj=oi:=Option.some.inj (hj.symm.trans SY);subst this;exact getD_set_true (PV e he hb)
     ·rw[getD_set_ne false Tr] at hl;exact getD_set_true (Og j oj hj hl e he hb)
    ·have:=count_set ord i listed hn S7 N6 QH;omega
    ·have P5:(listed.setIfInBounds i true).getD i false=true:=by simp[N6]
     have key:bU dst E (fun j=>(listed.setIfInBounds i true).getD j false) ord x0=ap (dst i) (E i) (bU dst E (fun j=>listed.getD j false) ord x0):=by
      rw[QI,To,dN];simp only[bU,P5,if_true];rw[fC pre x0 (L':=fun j=>listed.getD j false) fun k hk=>getD_set_ne false (fun e=>by subst e;exact QE.2.2 i hk i N3 rfl)];rw[fC post _ (L':=fun j=>listed.getD j false) fun k hk=>getD_set_ne false (fun e=>by subst e;exact QE.2.1.1 hk)];exact mg post _ fun k hk hl z=>Ea (RZ k hk hl) z
     rw[key];exact ZQ
def fs (s:St):FS:=⟨assoc s.env,assoc s.heap,s.nx⟩
def pU:List (Nat×Option Ob)→List (Nat×Ob)→List (Nat×Ob)
 | [],H=>H
 | (o,some x)::r,H=>(o,x)::j5 (pU r H) o
 | (o,none)::r,H=>j5 (pU r H) o
theorem mv (H:List (Nat×Ob)):∀ (w:List (Nat×Option Ob)) (p:Nat),assoc (pU w H) p=ka (assoc H) w p
 | [],p=>rfl
 | (o,some x)::r,p=>by
  simp only[pU,assoc,ka];by_cases e:o=p
  ·rw[if_pos e,if_pos e]
  ·rw[if_neg e,if_neg e,eT,if_neg e,mv H r p,ka]
 | (o,none)::r,p=>by
  simp only[pU,assoc,ka];rw[eT];by_cases e:o=p
  ·rw[if_pos e,if_pos e]
  ·rw[if_neg e,if_neg e,mv H r p,ka]
def N0 (d:Option Tmp)(E:Ef)(s:St):St:=qo ⟨s.env,pU E.w s.heap,s.nx+E.k⟩ d E.r
theorem HK (d:Option Tmp)(E:Ef)(s:St):fs (N0 d E s)=ap d E (fs s):=by
 unfold fs N0 ap;congr 1
 ·funext t;exact vD t
 ·funext p;rw[og.1];exact mv s.heap E.w p
 ·rw[og.2]
theorem nC (s:St)(d:Option Tmp)(c:CV):fs (s.put d c)=ap d ⟨some c,[],0⟩ (fs s):=HK d ⟨some c,[],0⟩ s
def kX:CV→List Nat
 | .bp o _ _=>[o]
 | .aq o _=>[o]
 | _=>[]
theorem tU {o:Nat}{c:CV}(h:names o c=true):o∈kX c:=by
 cases c<;>simp_all [names,kX]
def Jo (s:St)(op:Op):List Nat:=op.operands.toList.flatMap fun x=>match ev s x with
 | some v=>kX v
 | none=>[]
theorem Dv {s:St}{op:Op}{x:Operand}{v:CV}{o:Nat}(hx:x∈op.operands)(hv:ev s x=some v)(hn:names o v=true):o∈Jo s op:=by
 unfold Jo;refine List.mem_flatMap.2 ⟨x,by simpa using hx,?_⟩;rw[hv];exact tU hn
def GK (s:St)(op:Op):List Nat:=match op with
 | .load _ _=>Jo s op
 | .slice _ _ _ _ _=>Jo s op
 | _=>[]
def qQ (av:List (Nat×TI))(s:St):Op→Option (Ob×(Nat→CV))
 | .alloc e=>match assoc av e with
  | some ie=>some (⟨e,0,ie.zero⟩,fun m=>.aq m 0)
  | none=>none
 | .makeSlice t l c=>match dG av t,ev s l,ev s c with
  | some (.sl e),some (.int _ n),some (.int _ m)=>match assoc av e with
   | some ie=>if n=m∧0≤n∧(ie.bytes:Int)*n≤281474976710656∧n≤9223372036854775807 then some (⟨e,ie.size,aS ie.zero n.toNat⟩,fun m=>.bp m 0 n.toNat) else none
   | none=>none
  | _,_,_=>none
 | op=>Bn av s op
def My (av:List (Nat×TI))(s:St)(t:TypeId)(x v:Operand):Option (Nat×Ob):=
 match ev s x,ev s v,assoc av t with
 | some (.aq p off),some c,some i=>match assoc s.heap p with
  | none=>none
  | some ob=>if dR c then none else if c.cells.length=i.size∧off+c.cells.length≤ob.cells.length then some (p,{ ob with cells:=gA ob.cells off c.cells }) else none
 | _,_,_=>none
def Ae (s:St):CV→Option Ob
 | .bp o _ _=>assoc s.heap o
 | _=>none
def qT (av:List (Nat×TI))(t:TypeId)(p:CV)(obp:Option Ob)(src:Option (List CV×Nat)):Option (Ob×Nat×Option Nat):=
 match dG av t with
 | some (.sl e)=>match assoc av e,src with
  | some ie,some (news,m)=>if 0<ie.size∧0<ie.bytes∧news.length=m*ie.size then
    match p with
    | .aj=>if m*ie.bytes≤140737488355328 then some (⟨e,ie.size,news⟩,m,none) else none
    | .bp o off n=>match obp with
     | none=>none
     | some ob=>if off=0∧ob.elem=e∧ob.sz=ie.size∧n*ie.size=ob.cells.length∧(n+m)*ie.bytes≤140737488355328 then some ({ ob with cells:=ob.cells++news },n+m,some o) else none
    | _=>none
   else none
  | _,_=>none
 | _=>none
def rmL:Option Nat→List (Nat×Option Ob)
 | some o=>[(o,none)]
 | none=>[]
def J5 (H:List (Nat×Ob)):Option Nat→List (Nat×Ob)
 | some o=>j5 H o
 | none=>H
theorem CR {av:List (Nat×TI)}{s:St}{d:Option Tmp}{t:TypeId}{x y:Operand}{p q:CV}{ob:Ob}{k:Nat}{rm:Option Nat}(hx:ev s x=some p)(hy:ev s y=some q)(h:qT av t p (Ae s p) (cells? s q)=some (ob,k,rm)) :
  oE av s d t x y=some (St.put { env:=s.env,heap:=(s.nx,ob)::J5 s.heap rm,nx:=s.nx+1 } d (.bp s.nx 0 k)):=by
 unfold qT at h;unfold oE;split at h
 ·rename_i e ht;split at h
  ·rename_i ie news m h1 h2;split at h
   ·rename_i hc;split at h
    ·split at h
     ·rename_i hb;cases h;simp only[ht,hx,hy,h1,h2];rw[if_pos hc,if_pos hb];rfl
     ·cases h
    ·rename_i o off n;split at h
     ·cases h
     ·rename_i Ov P7;split at h
      ·rename_i hb;cases h;simp only[Ae] at P7;simp only[ht,hx,hy,h1,h2];rw[if_pos hc];simp only[P7];rw[if_pos hb];rfl
      ·cases h
    ·cases h
   ·cases h
  ·cases h
 ·cases h
mutual
def y6:CV→CV→Bool
 | .int k n,.int k' n'=>decide (k=k') && n == n'
 | .bool a,.bool b=>a == b
 | .str a,.str b=>a.data.toList == b.data.toList
 | .agg a,.agg b=>sd a b
 | .az a n,.az b m=>n == m && sd a b
 | .aj,.aj=>true
 | .cF a,.cF b=>sd a b
 | .bw,.bw=>true
 | .fn f a,.fn g b=>f == g && sd a b
 | .cr,.cr=>true
 | .iface f a,.iface g b=>f == g && sd a b
 | .dI a,.dI b=>sd a b
 | .bp o f n,.bp p g m=>o == p && f == g && n == m
 | .aq o f,.aq p g=>o == p && f == g
 | .any,.any=>true
 | _,_=>false
def sd:List CV→List CV→Bool
 | [],[]=>true
 | a::r,b::q=>y6 a b && sd r q
 | _,_=>false
end
mutual
theorem MG:∀ (a b:CV),y6 a b=true→a=b
 | .int k n,b,h=>by cases b<;>simp_all [y6]
 | .bool a,b,h=>by cases b<;>simp_all [y6]
 | .str a,b,h=>by
  cases b<;>simp only[y6,Bool.false_eq_true] at h;rename_i b;have:a.data.toList=b.data.toList:=by simpa using h
  have h2:a.data=b.data:=Array.toList_inj.1 this;have:a=b:=ByteArray.ext h2;rw[this]
 | .agg a,b,h=>by
  cases b<;>simp only[y6,Bool.false_eq_true] at h;rw[jv _ _ h]
 | .az a n,b,h=>by
  cases b<;>simp only[y6,Bool.false_eq_true,Bool.and_eq_true,beq_iff_eq] at h;rw[jv _ _ h.2,h.1]
 | .aj,b,h=>by cases b<;>simp_all [y6]
 | .cF a,b,h=>by
  cases b<;>simp only[y6,Bool.false_eq_true] at h;rw[jv _ _ h]
 | .bw,b,h=>by cases b<;>simp_all [y6]
 | .fn f a,b,h=>by
  cases b<;>simp only[y6,Bool.false_eq_true,Bool.and_eq_true,beq_iff_eq] at h;rw[jv _ _ h.2,h.1]
 | .cr,b,h=>by cases b<;>simp_all [y6]
 | .iface f a,b,h=>by
  cases b<;>simp only[y6,Bool.false_eq_true,Bool.and_eq_true,beq_iff_eq] at h;rw[jv _ _ h.2,h.1]
 | .iter _ _ _,b,h=>by cases b<;>simp_all [y6]
 | .mp _ _,b,h=>by cases b<;>simp_all [y6]
 | .dI a,b,h=>by
  cases b<;>simp only[y6,Bool.false_eq_true] at h;rw[jv _ _ h]
 | .bp o f n,b,h=>by cases b<;>simp_all [y6]
 | .aq o f,b,h=>by cases b<;>simp_all [y6]
 | .any,b,h=>by cases b<;>simp_all [y6]
theorem jv:∀ (a b:List CV),sd a b=true→a=b
 | [],b,h=>by cases b<;>simp_all [sd]
 | x::r,b,h=>by
  cases b with
  | nil=>simp[sd] at h
  | cons y q=>
   simp only[sd,Bool.and_eq_true] at h;rw[MG x y h.1,jv r q h.2]
end
def oeq:Option Ob→Option Ob→Bool
 | some a,some b=>a.elem == b.elem && a.sz == b.sz && sd a.cells b.cells
 | none,none=>true
 | _,_=>false
theorem L3 {a b:Option Ob}(h:oeq a b=true):a=b:=by
 cases a<;>cases b<;>simp only[oeq,Bool.false_eq_true,Bool.and_eq_true,beq_iff_eq] at h
 ·rfl
 ·rename_i x y;obtain⟨⟨h1,h2⟩,h3⟩:=h;have h4:=jv _ _ h3;cases x;cases y;simp only at h1 h2 h4;subst h1;subst h2;subst h4;rfl
def kD (H H':List (Nat×Ob)):List (Nat×Ob)→List (Nat×Option Ob)→List (Nat×Option Ob)
 | [],l=>l
 | (o,_)::r,l=>if oeq (assoc H o) (assoc H' o) then kD H H' r l else (o,assoc H' o)::kD H H' r l
def sL (H H':List (Nat×Ob)):List (Nat×Option Ob):=kD H H' H' (kD H H' H [])
theorem kK (H H':List (Nat×Ob)):∀ (l:List (Nat×Ob)) (m:List (Nat×Option Ob)) (p:Nat) (y:Option Ob),(∀ p y,assoc m p=some y→y=assoc H' p)→assoc (kD H H' l m) p=some y→y=assoc H' p
 | [],m,p,y,hm,h=>hm p y h
 | (o,_)::r,m,p,y,hm,h=>by
  simp only[kD] at h;split at h
  ·exact kK H H' r m p y hm h
  ·simp only[assoc] at h;split at h
   ·rename_i e;cases h;rw[e]
   ·exact kK H H' r m p y hm h
theorem mh (H H':List (Nat×Ob)):∀ (l:List (Nat×Ob)) (m:List (Nat×Option Ob)) (p:Nat),assoc (kD H H' l m) p=none→assoc m p=none∧(assoc l p=none∨assoc H p=assoc H' p)
 | [],m,p,h=>⟨h,.inl rfl⟩
 | (o,_)::r,m,p,h=>by
  simp only[kD] at h;split at h
  ·rename_i he;obtain⟨h1,h2⟩:=mh H H' r m p h;refine⟨h1,?_⟩;simp only[assoc];by_cases e:o=p
   ·subst e;exact .inr (L3 he)
   ·rw[if_neg e];exact h2
  ·simp only[assoc] at h;split at h
   ·cases h
   ·rename_i e;obtain⟨h1,h2⟩:=mh H H' r m p h;refine⟨h1,?_⟩;simp only[assoc];rw[if_neg e];exact h2
theorem H3 (H H':List (Nat×Ob))(p:Nat):ka (assoc H) (sL H H') p=assoc H' p:=by
 unfold ka sL
 cases h:assoc (kD H H' H' (kD H H' H [])) p with
 | some y=>
  simp only;exact kK H H' H' _ p y (fun q z hz=>kK H H' H [] q z (fun _ _ h=>by cases h) hz) h
 | none=>
  simp only;obtain⟨h1,h2⟩:=mh H H' H' _ p h;obtain⟨_,h3⟩:=mh H H' H [] p h1;rcases h2 with h2 | h2
  ·rcases h3 with h3 | h3
   ·rw[h2,h3]
   ·exact h3
  ·exact h2
theorem mj (H H':List (Nat×Ob)){p:Nat}{y:Option Ob}:∀ (l:List (Nat×Ob)) (m:List (Nat×Option Ob)),assoc l p=none→assoc m p=none→assoc (kD H H' l m) p=some y→False
 | [],m,_,hm,h=>by simp only[kD] at h;rw[hm] at h;cases h
 | (o,x)::r,m,hl,hm,h=>by
  simp only[assoc] at hl;split at hl
  ·cases hl
  ·rename_i e;simp only[kD] at h;split at h
   ·exact mj H H' r m hl hm h
   ·simp only[assoc] at h;rw[if_neg e] at h;exact mj H H' r m hl hm h
theorem CB {H H':List (Nat×Ob)}{p:Nat}{y:Option Ob}(h1:assoc H p=none)(h2:assoc H' p=none)(h:assoc (sL H H') p=some y):False:=by
 unfold sL at h;refine mj H H' H' _ h2 ?_ h
 cases hc:assoc (kD H H' H []) p with
 | none=>rfl
 | some z=>exact (mj H H' H [] h1 rfl hc).elim
def eD (cs:List CV):List Nat:=cs.flatMap fun c=>match c with
 | .agg ds=>ds.flatMap kX
 | c=>kX c
def FO (lo hi:Nat)(bl:List Nat)(o:Nat):Bool:=decide (o<lo) || decide (hi≤o) || bl.contains o
def rA (lo hi:Nat)(bl:List Nat):List (Nat×Ob)→List (Nat×Ob)
 | []=>[]
 | (o,x)::r=>if FO lo hi bl o then (o,x)::rA lo hi bl r else rA lo hi bl r
def Cm (lo hi:Nat)(bl:List Nat):List (Nat×Ob)→List (Nat×Ob)
 | []=>[]
 | (o,x)::r=>if FO lo hi bl o then Cm lo hi bl r else (o,x)::Cm lo hi bl r
theorem mu (lo hi:Nat)(bl:List Nat):∀ (H:List (Nat×Ob)) (p:Nat),assoc (rA lo hi bl H) p=if FO lo hi bl p then assoc H p else none
 | [],p=>by simp[rA,assoc]
 | (o,x)::r,p=>by
  simp only[rA];by_cases e:o=p
  ·subst e;by_cases h:FO lo hi bl o=true
   ·simp[h,assoc]
   ·rw[if_neg h,mu lo hi bl r o];simp[h]
  ·split
   ·simp only[assoc];rw[if_neg e,if_neg e];exact mu lo hi bl r p
   ·simp only[assoc];rw[if_neg e];exact mu lo hi bl r p
theorem fI (lo hi:Nat)(bl:List Nat):∀ (H:List (Nat×Ob)) (p:Nat),assoc (Cm lo hi bl H) p=if FO lo hi bl p then none else assoc H p
 | [],p=>by simp[Cm,assoc]
 | (o,x)::r,p=>by
  simp only[Cm];by_cases e:o=p
  ·subst e;by_cases h:FO lo hi bl o=true
   ·rw[if_pos h,fI lo hi bl r o];simp[h]
   ·simp[h,assoc]
  ·split
   ·simp only[assoc];rw[if_neg e];exact fI lo hi bl r p
   ·simp only[assoc];rw[if_neg e,if_neg e];exact fI lo hi bl r p
theorem gK {α:Type}:∀ (l m:List (Nat×α)) (p:Nat),assoc (l++m) p=match assoc l p with
  | some y=>some y
  | none=>assoc m p
 | [],_,_=>rfl
 | (o,x)::r,m,p=>by
  simp only[List.cons_append,assoc];by_cases e:o=p
  ·rw[if_pos e,if_pos e]
  ·rw[if_neg e,if_neg e];exact gK r m p
def DV (av:List (Nat×TI))(s:St):Op→Option (CV×List Nat)
 | .convert t u x=>match qM av s t u x with
  | some c=>some (c,match ev s x with | some v=>kX v | none=>[])
  | none=>none
 | _=>none
def vo (av:List (Nat×TI))(mt:hZ)(ops:Array Oper)(call:fL)(pc:FuncId→List CV→Option CV)(lo hi m:Nat)(s:St)(o:Oper):Option (Ef×List Nat×Bool×Option (Nat×Nat)):=
 match b9 ops s o with
 | none=>none
 | some false=>some (⟨some (.dI []),[],0⟩,[],false,none)
 | some true=>match cg o with
  | some c=>match iF mt s c with
   | some (g,cs)=>match (if trees cs then pc g cs else none) with
    | some r=>some (⟨some r,[],0⟩,[],false,none)
    | none=>match call g cs (rA lo hi (eD cs) s.heap) s.nx with
     | some (x,H,n)=>if s.nx≤n∧(H.all fun y=>FO lo hi (eD cs) y.1)=true then some (⟨some x,sL (rA lo hi (eD cs) s.heap) H,n-s.nx⟩,eD cs,true,some (lo,hi)) else none
     | none=>none
   | none=>none
  | none=>match fz av s o.op with
   | some c=>some (⟨some c,[],0⟩,GK s o.op,false,none)
   | none=>match DV av s o.op with
    | some (c,rs)=>some (⟨some c,[],0⟩,rs,false,none)
    | none=>match qQ av s o.op with
    | some (ob,f)=>some (⟨some (f m),[(m,some ob)],0⟩,[],false,none)
    | none=>match o.op with
     | .store t x v=>match My av s t x v with
      | some (p,ob)=>some (⟨none,[(p,some ob)],0⟩,[p],false,none)
      | none=>none
     | .call cl=>match cl.callee,cl.args.toList,cl.argTypes.toList with
      | .builtin .append,[x,y],[t,t']=>if t=t' then match ev s x,ev s y with
        | some p,some q=>match qT av t p (Ae s p) (cells? s q) with
         | some (ob,k,rm)=>some (⟨some (.bp s.nx 0 k),(s.nx,some ob)::rmL rm,1⟩,kX p++kX q,true,none)
         | none=>none
        | _,_=>none
       else none
      | _,_,_=>none
     | _=>none
section
variable {P:Program}{C:Cx}{σ:Nat→Option OB}{s:St}{a:Act}{w:World}{ops:Array Oper}{av:List (Nat×TI)}{mt:hZ}{pc:FuncId→List CV→Option CV}
theorem aK.MD (h:aK C σ s a w){s':St}(he:fs s'=fs s):aK C σ s' a w:=by
 unfold fs at he;simp only[FS.mk.injEq] at he;obtain⟨h1,h2,h3⟩:=he;have TQ:FB C σ s'.heap=FB C σ s.heap:=by
  unfold FB;rw[h2]
 refine⟨h.oA,h.tm,h.os,h.tape,h.output,h.size,h.frame,?_,?_,?_,?_,h.gO,by rw[h3];exact h.low,h.new⟩
 ·intro t c hc;rw[h1] at hc;rw[TQ];exact h.env t c hc
 ·intro o ob ho;rw[h2] at ho;have:=h.obj o ob ho;unfold ObR at this ⊢;rw[TQ];exact this
 ·intro o o' ob Ov b ho OI;rw[h2] at ho OI;exact h.inj o o' ob Ov b ho OI
 ·intro o ho;rw[h3] at ho;exact h.nx o ho
theorem mA (h:aK C σ s a w){m:Nat}(hm:σ m=none)(Rx:C.n0≤m)(Qw:m<s.nx){e:TypeId}{sz:Nat}{cs:List CV}{us:Array Value}(hr:aT w (FB C σ s.heap) σ cs us.toList)(h1:cs.all one=true) :
  aK C (sig σ m ⟨some w.heap.size,us.size,sz⟩) { s with heap:=(m,⟨e,sz,cs⟩)::s.heap } a (w.alloc (.cells us e)):=by
 have hl:=aT.length _ _ hr;refine (h.DJ hm Rx Qw (Nat.le_refl _) (nB _) (ob:=⟨e,sz,cs⟩) (B:=⟨some w.heap.size,us.size,sz⟩) rfl h1 N3 fun b hb=>?_).1;simp only[Option.some.injEq] at hb;subst hb;exact⟨Nat.le_refl _,us,heap_alloc_new w _,rfl,by simp only;simp at hl;omega,by simp only;rw[← hl,List.take_of_length_le (Nat.le_refl _)];exact hr⟩
theorem E5 (ht:aF P av)(h:aK C σ s a w){m:Nat}(hm:σ m=none)(Rx:C.n0≤m)(Qw:m<s.nx){o:Oper}(hd:∀ t,o.dst=some t→t<a.tmps.size){ob:Ob}{f:Nat→CV}(hv:qQ av s o.op=some (ob,f)) :
  ∃ z w' B,(execOp a.eval o).run P w=.ok (.value z) w'∧aK C (sig σ m B) (St.put { s with heap:=(m,ob)::s.heap } o.dst (f m)) (a.put o.dst z) w':=by
 cases ho:o.op<;>rw[ho] at hv<;>simp only[qQ,Bn] at hv<;>first | cases hv | skip
 case alloc e=>
  split at hv
  ·rename_i ie Oe;cases hv;obtain⟨fi,z,g1,_,_,g4,g5⟩:=(ht e ie Oe).info;obtain⟨k1,k2⟩:=cS (w:=w) (F:=FB C σ s.heap) _ _ g5;have O6:=mA h hm Rx Qw (e:=e) (sz:=0) (aT.cA _ _ k1) k2;refine⟨.pointer (some ⟨w.heap.size,0,none⟩),_,_,?_,O6.put hd ?_⟩
   ·simp[execOp,ho,Instr.alloc,iU g1 g4,newVar,newRow]
   ·simp only[VR];exact⟨_,_,dr,rfl,rfl⟩
  ·cases hv
 case box e x=>
  split at hv
  ·rename_i c hx;split at hv
   ·cases hv
   ·rename_i Q6;cases hv;obtain⟨f1,f2⟩:=VR.flat c _ (fun cs e=>by subst e;simp[dR] at Q6) (fun k s p e=>by subst e;simp[dR] at Q6) (bO h hx);have O6:=mA h hm Rx Qw (e:=e) (sz:=0) f1 f2;refine⟨.pointer (some ⟨w.heap.size,0,none⟩),_,_,?_,O6.put hd ?_⟩
    ·simp[execOp,ho,Instr.box,newVar,newRow]
    ·simp only[VR];exact⟨_,_,dr,rfl,rfl⟩
  ·cases hv
 case buildSlice t len parts=>
  split at hv
  ·rename_i e OM;obtain⟨it,Oq,OM⟩:=Option.map_eq_some_iff.1 OM;split at hv
   ·rename_i ie cs Oe OJ;split at hv
    ·rename_i hb;obtain⟨out,R2,hv⟩:=Option.map_eq_some_iff.1 hv;cases hv;obtain⟨fi,z,g1,g2,g3,g4,g5⟩:=(ht e ie Oe).info;obtain⟨k1,k2⟩:=cS (w:=w) (F:=FB C σ s.heap) _ _ g5;have Oh:z.cells.size=ie.size:=by rw[← (ht e ie Oe).len,← bP.length _ _ k1];simp
     have hz:=lv (σ:=σ) (aT.cA _ _ k1) len;obtain⟨l1,l2⟩:=lV h _ _ OJ;obtain⟨us,m1,m2,m3⟩:=nH _ cs (parts.toList.map fun p=>(p.1,a.eval p.2)) _ out (madeCells z.cells (len*z.cells.size)) (by simpa using l1) l2 hz (jB k2 len) R2;have O6:=mA h hm Rx Qw (e:=e) (sz:=ie.size) m2 m3;have T7:us.size=len*ie.size:=by
      have:=aT.length _ _ m2;rw[mq _ _ _ _ R2,e8,(ht e ie Oe).len] at this
      simpa using this
     have hp:(parts.map fun (x:Nat×Operand)=>(x.1,a.eval x.2)).toList=parts.toList.map fun (p:Nat×Operand)=>(p.1,a.eval p.2):=by simp
     rw[Oh] at m1;refine⟨.slice (some ⟨w.heap.size,0,none⟩) len len,_,_,?_,O6.put hd ?_⟩
     ·simp only[execOp,ho,Instr.buildSlice,Sem.run_bind,bC (dK (ht t it Oq) OM),Result.andThen_ok,cL g1,g2,hp];rw[if_neg (by have:=hb.1;omega)];by_cases h0:len*ie.size=0
      ·have e0:madeCells z.cells 0=#[]:=by simp[madeCells]
       have e2:(Array.range 0).map (fun _=>(default:Value))=#[]:=by simp[Array.range_zero']
       rw[h0,e0] at m1;simp[h0,e2,m1,newRow]
      ·have e1:(Array.range (len*ie.size)).map (fun x=>z.cells[x % z.cells.size]!)=madeCells z.cells (len*ie.size):=rfl;simp[h0,iU g1 g4,e1,m1,newRow]
     ·simp only[VR];exact⟨_,dr,len,rfl,Nat.le_refl _,by have:=hb.2;simp only[maxLen];omega,by simp[T7],fun _=>T7.symm⟩
    ·cases hv
   ·cases hv
  ·cases hv
 case makeSlice t l c=>
  split at hv
  ·rename_i e k n k' m' OM hl QF;obtain⟨it,Oq,OM⟩:=Option.map_eq_some_iff.1 OM;split at hv
   ·rename_i ie Oe;split at hv
    ·rename_i hb;obtain⟨rfl,h0,UD,V9⟩:=hb;cases hv;obtain⟨fi,z,g1,g2,g3,g4,g5⟩:=(ht e ie Oe).info;obtain⟨k1,k2⟩:=cS (w:=w) (F:=FB C σ s.heap) _ _ g5;have kl:=bO h hl;have kc:=bO h QF;simp only[VR] at kl kc;have Oh:fi.size=z.cells.size:=by rw[g2,← (ht e ie Oe).len,← bP.length _ _ k1];simp
     have hz:=lv (σ:=σ) (aT.cA _ _ k1) n.toNat;have hr:=run_make (P:=P) w t e fi z (dK (ht t it Oq) OM) g1 g4 k k' n n h0 (Int.le_refl _) (by rw[g3];exact UD) V9;have O6:=mA h hm Rx Qw (e:=e) (sz:=ie.size) hz (jB k2 n.toNat);have YL:z.cells.size=ie.size:=by rw[← Oh,g2]
     rw[Oh] at hr;refine⟨.slice (some ⟨w.heap.size,0,none⟩) n.toNat n.toNat,_,_,by simp only[execOp,ho,kl,kc,Sem.run_bind,hr,Result.andThen_ok,Sem.run_pure],O6.put hd ?_⟩;simp only[VR];refine⟨_,dr,n.toNat,rfl,Nat.le_refl _,by simp only[maxLen];omega,?_,fun _=>?_⟩
     ·simp[size_madeCells,YL]
     ·simp[size_madeCells,YL]
    ·cases hv
   ·cases hv
  ·cases hv
end
end Go.Can
