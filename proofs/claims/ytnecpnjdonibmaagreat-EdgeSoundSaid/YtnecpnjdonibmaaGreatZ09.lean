/- Operations in any order: where those that are not ordered ke -/
import Derived.Test.YtnecpnjdonibmaaGreatZ08
namespace Go.Can
open Go.RowKit
structure FS where
 e:Nat→Option CV
 h:Nat→Option Ob
 n:Nat
structure Ef where
 r:Option CV
 w:List (Nat×Option Ob)
 k:Nat
structure Vw where
 t:List Nat
 o:List Nat
 n:Bool
 a:Option (Nat×Nat)
def jJ (h:Nat→Option Ob)(w:List (Nat×Option Ob)):Nat→Option Ob:=fun p=>match assoc w p with
 | some y=>y
 | none=>h p
def ap (d:Option Tmp)(E:Ef)(x:FS):FS:=⟨iT x.e d E.r,jJ x.h E.w,x.n+E.k⟩
def Agree (V:Vw)(x y:FS):Prop:=(∀ t∈V.t,x.e t=y.e t)∧(∀ o∈V.o,x.h o=y.h o)∧(V.n=true→x.n=y.n)∧(∀ r,V.a=some r→∀ o,o<r.1∨r.2≤o→x.h o=y.h o)
structure Fm (d d':Option Tmp)(E E':Ef)(V V':Vw):Prop where
 s1:∀ t,d=some t→t∉V'.t
 s2:∀ t,d'=some t→t∉V.t
 s3:∀ t,d=some t→d'≠some t
 h1:∀ o y,assoc E.w o=some y→o∉V'.o
 h2:∀ o y,assoc E'.w o=some y→o∉V.o
 h3:∀ o y,assoc E.w o=some y→assoc E'.w o=none
 n1:V'.n=true→E.k=0
 n2:V.n=true→E'.k=0
 a1:∀ r,V'.a=some r→∀ o y,assoc E.w o=some y→r.1≤o∧o<r.2
 a2:∀ r,V.a=some r→∀ o y,assoc E'.w o=some y→r.1≤o∧o<r.2
theorem Agree.refl (V:Vw)(x:FS):Agree V x x:=⟨fun _ _=>rfl,fun _ _=>rfl,fun _=>rfl,fun _ _ _ _=>rfl⟩
theorem Agree.symm {V:Vw}{x y:FS}(h:Agree V x y):Agree V y x:=⟨fun t ht=>(h.1 t ht).symm,fun o ho=>(h.2.1 o ho).symm,fun hn=>(h.2.2.1 hn).symm,fun r ha o ho=>(h.2.2.2 r ha o ho).symm⟩
theorem Agree.trans {V:Vw}{x y z:FS}(h:Agree V x y)(k:Agree V y z):Agree V x z:=⟨fun t ht=>(h.1 t ht).trans (k.1 t ht),fun o ho=>(h.2.1 o ho).trans (k.2.1 o ho),fun hn=>(h.2.2.1 hn).trans (k.2.2.1 hn),fun r ha o ho=>(h.2.2.2 r ha o ho).trans (k.2.2.2 r ha o ho)⟩
theorem DG {d d':Option Tmp}{E E':Ef}{V V':Vw}(h:Fm d d' E E' V V')(x:FS):ap d E (ap d' E' x)=ap d' E' (ap d E x):=by
 unfold ap;congr 1
 ·funext t;simp only[iT];by_cases h1:d=some t
  ·rw[if_pos h1,if_neg (h.s3 t h1),if_pos h1]
  ·rw[if_neg h1,if_neg h1]
 ·funext p;simp only[jJ]
  cases h1:assoc E.w p with
  | none=>rfl
  | some y=>rw[h.h3 p y h1]
 ·simp only;omega
theorem mK {V:Vw}{d:Option Tmp}{E:Ef}(h1:∀ t,d=some t→t∉V.t)(h2:∀ o y,assoc E.w o=some y→o∉V.o)(h3:V.n=true→E.k=0)(h4:∀ r,V.a=some r→∀ o y,assoc E.w o=some y→r.1≤o∧o<r.2)(x:FS):Agree V (ap d E x) x:=by
 refine⟨fun t ht=>?_,fun o ho=>?_,fun hn=>?_,fun r ha o ho=>?_⟩
 ·simp only[ap,iT];rw[if_neg (fun e=>h1 t e ht)]
 ·simp only[ap,jJ]
  cases h5:assoc E.w o with
  | none=>rfl
  | some y=>exact absurd ho (h2 o y h5)
 ·simp only[ap,h3 hn];rfl
 ·simp only[ap,jJ]
  cases h5:assoc E.w o with
  | none=>rfl
  | some y=>have:=h4 r ha o y h5;omega
theorem IE {V:Vw}{d:Option Tmp}{E:Ef}{x y:FS}(h:Agree V x y):Agree V (ap d E x) (ap d E y):=by
 refine⟨fun t ht=>?_,fun o ho=>?_,fun hn=>?_,fun r ha o ho=>?_⟩
 ·simp only[ap,iT];rw[h.1 t ht]
 ·simp only[ap,jJ];rw[h.2.1 o ho]
 ·simp only[ap];rw[h.2.2.1 hn]
 ·simp only[ap,jJ];rw[h.2.2.2 r ha o ho]
def bR (dst:Nat→Option Tmp)(E:Nat→Ef)(L:Nat→Bool):List Nat→FS→FS
 | [],x=>x
 | i::r,x=>bR dst E L r (if L i then ap (dst i) (E i) x else x)
section
variable {dst:Nat→Option Tmp}{E:Nat→Ef}
theorem du {L:Nat→Bool}:∀ (l m:List Nat) (x:FS),bR dst E L (l++m) x=bR dst E L m (bR dst E L l x)
 | [],_,_=>rfl
 | i::r,m,x=>by simp only[List.cons_append,bR];exact du r m _
theorem eX {L L':Nat→Bool}:∀ (l:List Nat) (x:FS),(∀ i∈l,L i=L' i)→bR dst E L l x=bR dst E L' l x
 | [],_,_=>rfl
 | i::r,x,h=>by
  simp only[bR];rw[h i zX];exact eX r _ fun j hj=>h j (by simp[hj])
theorem oA:∀ (l:List Nat) (x:FS),bR dst E (fun _=>false) l x=x
 | [],_=>rfl
 | _::r,x=>by simp only[bR,Bool.false_eq_true,if_false];exact oA r x
theorem gm {V:Vw}{L L':Nat→Bool}:∀ (l:List Nat) (x y:FS),(∀ i∈l,L i≠L' i→∀ z,Agree V (ap (dst i) (E i) z) z)→Agree V x y→Agree V (bR dst E L l x) (bR dst E L' l y)
 | [],_,_,_,h=>h
 | i::r,x,y,hd,h=>by
  simp only[bR];refine gm r _ _ (fun j hj=>hd j (by simp[hj])) ?_;cases h1:L i<;>cases h2:L' i<;>simp only[Bool.false_eq_true,if_false,if_true]
  ·exact h
  ·exact h.trans (hd i zX (by rw[h1,h2];simp) y).symm
  ·exact (hd i zX (by rw[h1,h2];simp) x).trans h
  ·exact IE h
theorem lA {L:Nat→Bool}{d:Option Tmp}{G:Ef}:∀ (l:List Nat) (x:FS),(∀ j∈l,L j=true→∀ z,ap d G (ap (dst j) (E j) z)=ap (dst j) (E j) (ap d G z))→bR dst E L l (ap d G x)=ap d G (bR dst E L l x)
 | [],_,_=>rfl
 | j::r,x,h=>by
  simp only[bR];cases h1:L j<;>simp only[Bool.false_eq_true,if_false,if_true]
  ·exact lA r x fun k hk=>h k (by simp[hk])
  ·rw[← h j zX h1 x];exact lA r _ fun k hk=>h k (by simp[hk])
end
def qD (ops:Array Oper)(listed:Array Bool):Prop:=∀ j oj,ops[j]? = some oj→listed.getD j false=true→∀ e∈oj.after,Region.binds .any e=true→listed.getD e.on false=true
def AV (ops:Array Oper)(j i:Nat):Prop:=∀ listed:Array Bool,qD ops listed→(∀ oj,ops[j]? = some oj→∀ e∈oj.after,Region.binds .any e=true→listed.getD e.on false=true)→listed.getD i false=true
theorem DR {P:Program}{ops:Array Oper}{ord:List Nat}{dst:Nat→Option Tmp}{E:Nat→Ef}{V:Nat→Vw}{x0:FS}{R:Array Bool→FS→Act→World→Prop}{Q':Exit→Act→World→Prop}
  (hn:ord.Nodup) (SX:∀ j,j<ops.size→j∈ord) (PQ:∀ i∈ord,i<ops.size)
  (V5:∀ pre i post,ord=pre++i::post→∀ oi,ops[i]? = some oi→∀ e∈oi.after,Region.binds .any e=true→e.on∈pre)
  (VE:∀ pre i post,ord=pre++i::post→∀ j∈post,AV ops j i∨Fm (dst i) (dst j) (E i) (E j) (V i) (V j))
  (cS:∀ pre i post,ord=pre++i::post→∀ (listed:Array Bool) (x:FS) (a:Act) (w:World) (K:Act→World→Prop),listed.size=ops.size→listed.getD i false=false→R listed x a w→Agree (V i) x (bR dst E (fun _=>true) pre x0) →
   (∀ a' w',R (listed.setIfInBounds i true) (ap (dst i) (E i) x) a' w'→K a' w')→wpOp P ops Q' i K a w)
  (WI:∀ (listed:Array Bool) (a:Act) (w:World),R listed (bR dst E (fun _=>true) ord x0) a w→Q' .normal a w) :
  ∀ (m:Nat) (listed:Array Bool) (a:Act) (w:World),listed.size=ops.size→qD ops listed→(ord.countP fun j=>!listed.getD j false)=m→R listed (bR dst E (fun j=>listed.getD j false) ord x0) a w→wpAny P .any ops Q' m listed a w:=by
 intro m
 induction m with
 | zero=>
  intro listed a w PZ PX hc hR;have Qs:∀ j∈ord,listed.getD j false=true:=fun j hj=>by
   have:=List.countP_eq_zero.1 hc j hj
   simpa using this
  refine⟨?_,WI listed a w ?_⟩
  ·rw[List.eq_nil_iff_forall_not_mem];intro j hj;have h1:=getD_both (mem_ready.1 hj).1;obtain⟨_,o,ho,_⟩:=mem_ready.1 hj;rw[Qs j (SX j (Array.getElem?_eq_some_iff.1 ho).1)] at h1;cases h1
  ·rwa [eX ord x0 (L':=fun _=>true) fun i hi=>Qs i hi] at hR
 | succ m ih=>
  intro listed a w PZ PX hc hR;have hex:∃ i∈ord,listed.getD i false=false:=by
   have:0<ord.countP fun j=>!listed.getD j false:=by omega
   obtain⟨i,hi,h⟩:=List.countP_pos_iff.1 this;exact⟨i,hi,by simpa using h⟩
  refine⟨fun h0=>?_,fun i hi=>?_⟩
  ·exfalso;have:∀ (l pre:List Nat),ord=pre++l→(∀ j∈pre,listed.getD j false=true)→(∃ i∈l,listed.getD i false=false)→False:=by
    intro l
    induction l with
    | nil=>rintro pre _ _ ⟨i,hi,_⟩;cases hi
    | cons k r ihl=>
     intro pre ho hp hx
     cases hk:listed.getD k false with
     | true=>
      refine ihl (pre++[k]) (by simp[ho]) ?_ ?_
      ·intro j hj;rcases List.mem_append.1 hj with hj | hj
       ·exact hp j hj
       ·have:j=k:=by simpa using hj
        subst this;exact hk
      ·obtain⟨i,hi,hu⟩:=hx;rcases List.mem_cons.1 hi with e | hi
       ·subst e;rw[hk] at hu;cases hu
       ·exact⟨i,hi,hu⟩
     | false=>
      have Qh:=PQ k (by rw[ho];simp);have P9:ops[k]? = some ops[k]:=by simp[Qh]
      have:k∈Region.ready .any ops listed:=by
       refine mem_ready.2 ⟨nQ (by rw[PZ];exact Qh) hk,_,P9,fun e he hb=>?_⟩;exact hp _ (V5 pre k r ho _ P9 e he hb)
      rw[h0] at this;cases this
   exact this ord [] rfl zX hex
  ·have Sd:listed.getD i false=false:=getD_both (mem_ready.1 hi).1;obtain⟨_,oi,Uo,Ry⟩:=mem_ready.1 hi;have UI:i∈ord:=SX i (Array.getElem?_eq_some_iff.1 Uo).1;obtain⟨pre,post,UC⟩:=List.append_of_mem UI;have SD:=hn;rw[UC,List.nodup_append,List.nodup_cons] at SD;have Tt:∀ k∈post,listed.getD k false=true→Fm (dst i) (dst k) (E i) (E k) (V i) (V k):=fun k hk hl=>by
    rcases VE pre i post UC k hk with h | h
    ·have:=h listed PX fun ok P9 e he hb=>PX k ok P9 hl e he hb;rw[Sd] at this;cases this
    ·exact h
   have XL:∀ k∈pre,listed.getD k false=false→Fm (dst k) (dst i) (E k) (E i) (V k) (V i):=fun k hk hl=>by
    obtain⟨p1,p2,hp⟩:=List.append_of_mem hk;have XR:ord=p1++k::(p2++i::post):=by rw[UC,hp];simp
    rcases VE p1 k _ XR i zX with h | h
    ·have:=h listed PX fun ok P9 e he hb=>by
      rw[Uo] at P9;cases P9;exact Ry e he hb
     rw[hl] at this;cases this
    ·exact h
   have Sf:bR dst E (fun j=>listed.getD j false) ord x0=bR dst E (fun j=>listed.getD j false) post (bR dst E (fun j=>listed.getD j false) pre x0):=by
    rw[UC,du];simp only[bR,Sd,Bool.false_eq_true,if_false]
   refine cS pre i post UC listed _ a w _ PZ Sd hR ?_ fun a' w' hR'=>?_
   ·rw[Sf];have e1:Agree (V i) (bR dst E (fun j=>listed.getD j false) post (bR dst E (fun j=>listed.getD j false) pre x0)) (bR dst E (fun j=>listed.getD j false) pre x0):=by
     have:=gm (V:=V i) (dst:=dst) (E:=E) (L:=fun j=>listed.getD j false) (L':=fun _=>false) post _ _ (fun k hk P3 z=>by
      have hl:listed.getD k false=true:=by cases h:listed.getD k false<;>simp_all
      have h:=Tt k hk hl;exact mK h.s2 h.h2 h.n2 h.a2 z) (Agree.refl (V i) (bR dst E (fun j=>listed.getD j false) pre x0))
     rwa [oA] at this
    refine e1.trans (gm pre _ _ (fun k hk P3 z=>?_) (Agree.refl _ _));have hl:listed.getD k false=false:=by cases h:listed.getD k false<;>simp_all
    have h:=XL k hk hl;exact mK h.s1 h.h1 h.n1 h.a1 z
   ·have PJ:i<listed.size:=by rw[PZ];exact PQ i UI
    refine ih _ a' w' (by simpa using PZ) ?_ ?_ ?_
    ·intro j oj hj hl e he hb;by_cases Tc:i=j
     ·subst Tc;have:oj=oi:=Option.some.inj (hj.symm.trans Uo);subst this;exact getD_set_true (Ry e he hb)
     ·rw[getD_set_ne false Tc] at hl;exact getD_set_true (PX j oj hj hl e he hb)
    ·have:=count_set ord i listed hn UI PJ Sd;omega
    ·have RH:(listed.setIfInBounds i true).getD i false=true:=by simp[PJ]
     have key:bR dst E (fun j=>(listed.setIfInBounds i true).getD j false) ord x0=ap (dst i) (E i) (bR dst E (fun j=>listed.getD j false) ord x0):=by
      rw[Sf,UC,du];simp only[bR,RH,if_true];rw[eX pre x0 (L':=fun j=>listed.getD j false) fun k hk=>getD_set_ne false (fun e=>by subst e;exact SD.2.2 i hk i zX rfl)];rw[eX post _ (L':=fun j=>listed.getD j false) fun k hk=>getD_set_ne false (fun e=>by subst e;exact SD.2.1.1 hk)];exact lA post _ fun k hk hl z=>DG (Tt k hk hl) z
     rw[key];exact hR'
def fs (s:St):FS:=⟨assoc s.env,assoc s.heap,s.nx⟩
def oH:List (Nat×Option Ob)→List (Nat×Ob)→List (Nat×Ob)
 | [],H=>H
 | (o,some x)::r,H=>(o,x)::iY (oH r H) o
 | (o,none)::r,H=>iY (oH r H) o
theorem lK (H:List (Nat×Ob)):∀ (w:List (Nat×Option Ob)) (p:Nat),assoc (oH w H) p=jJ (assoc H) w p
 | [],p=>rfl
 | (o,some x)::r,p=>by
  simp only[oH,assoc,jJ];by_cases e:o=p
  ·rw[if_pos e,if_pos e]
  ·rw[if_neg e,if_neg e,ez,if_neg e,lK H r p,jJ]
 | (o,none)::r,p=>by
  simp only[oH,assoc,jJ];rw[ez];by_cases e:o=p
  ·rw[if_pos e,if_pos e]
  ·rw[if_neg e,if_neg e,lK H r p,jJ]
def Ox (d:Option Tmp)(E:Ef)(s:St):St:=oZ ⟨s.env,oH E.w s.heap,s.nx+E.k⟩ d E.r
theorem HK (d:Option Tmp)(E:Ef)(s:St):fs (Ox d E s)=ap d E (fs s):=by
 unfold fs Ox ap;congr 1
 ·funext t;exact uN t
 ·funext p;rw[mZ.1];exact lK s.heap E.w p
 ·rw[mZ.2]
theorem mB (s:St)(d:Option Tmp)(c:CV):fs (s.put d c)=ap d ⟨some c,[],0⟩ (fs s):=HK d ⟨some c,[],0⟩ s
def kp:CV→List Nat
 | .bj o _ _=>[o]
 | .av o _=>[o]
 | _=>[]
theorem sf {o:Nat}{c:CV}(h:names o c=true):o∈kp c:=by
 cases c<;>simp_all [names,kp]
def Jv (s:St)(op:Op):List Nat:=op.operands.toList.flatMap fun x=>match ev s x with
 | some v=>kp v
 | none=>[]
theorem C5 {s:St}{op:Op}{x:Operand}{v:CV}{o:Nat}(hx:x∈op.operands)(hv:ev s x=some v)(hn:names o v=true):o∈Jv s op:=by
 unfold Jv;refine List.mem_flatMap.2 ⟨x,by simpa using hx,?_⟩;rw[hv];exact sf hn
def GL (s:St)(op:Op):List Nat:=match op with
 | .load _ _=>Jv s op
 | .slice _ _ _ _ _=>Jv s op
 | _=>[]
def pM (au:List (Nat×TI))(s:St):Op→Option (Ob×(Nat→CV))
 | .alloc e=>match assoc au e with
  | some ie=>some (⟨e,0,ie.zero⟩,fun m=>.av m 0)
  | none=>none
 | .makeSlice t l c=>match dq au t,ev s l,ev s c with
  | some (.sl e),some (.int _ n),some (.int _ m)=>match assoc au e with
   | some ie=>if n=m∧0≤n∧(ie.bytes:Int)*n≤281474976710656∧n≤9223372036854775807 then some (⟨e,ie.size,aX ie.zero n.toNat⟩,fun m=>.bj m 0 n.toNat) else none
   | none=>none
  | _,_,_=>none
 | op=>AA au s op
def M6 (au:List (Nat×TI))(s:St)(t:TypeId)(x v:Operand):Option (Nat×Ob):=
 match ev s x,ev s v,assoc au t with
 | some (.av p off),some c,some i=>match assoc s.heap p with
  | none=>none
  | some ob=>if dx c then none else if c.cells.length=i.size∧off+c.cells.length≤ob.cells.length then some (p,{ ob with cells:=ic ob.cells off c.cells }) else none
 | _,_,_=>none
def zw (s:St):CV→Option Ob
 | .bj o _ _=>assoc s.heap o
 | _=>none
def pP (au:List (Nat×TI))(t:TypeId)(p:CV)(obp:Option Ob)(src:Option (List CV×Nat)):Option (Ob×Nat×Option Nat):=
 match dq au t with
 | some (.sl e)=>match assoc au e,src with
  | some ie,some (news,m)=>if 0<ie.size∧0<ie.bytes∧news.length=m*ie.size then
    match p with
    | .ai=>if m*ie.bytes≤140737488355328 then some (⟨e,ie.size,news⟩,m,none) else none
    | .bj o off n=>match obp with
     | none=>none
     | some ob=>if off=0∧ob.elem=e∧ob.sz=ie.size∧n*ie.size=ob.cells.length∧(n+m)*ie.bytes≤140737488355328 then some ({ ob with cells:=ob.cells++news },n+m,some o) else none
    | _=>none
   else none
  | _,_=>none
 | _=>none
def rmL:Option Nat→List (Nat×Option Ob)
 | some o=>[(o,none)]
 | none=>[]
def Kg (H:List (Nat×Ob)):Option Nat→List (Nat×Ob)
 | some o=>iY H o
 | none=>H
theorem B6 {au:List (Nat×TI)}{s:St}{d:Option Tmp}{t:TypeId}{x y:Operand}{p q:CV}{ob:Ob}{k:Nat}{rm:Option Nat}(hx:ev s x=some p)(hy:ev s y=some q)(h:pP au t p (zw s p) (cells? s q)=some (ob,k,rm)) :
  nr au s d t x y=some (St.put { env:=s.env,heap:=(s.nx,ob)::Kg s.heap rm,nx:=s.nx+1 } d (.bj s.nx 0 k)):=by
 unfold pP at h;unfold nr;split at h
 ·rename_i e ht;split at h
  ·rename_i ie news m h1 h2;split at h
   ·rename_i hc;split at h
    ·split at h
     ·rename_i hb;cases h;simp only[ht,hx,hy,h1,h2];rw[if_pos hc,if_pos hb];rfl
     ·cases h
    ·rename_i o off n;split at h
     ·cases h
     ·rename_i P6 Rh;split at h
      ·rename_i hb;cases h;simp only[zw] at Rh;simp only[ht,hx,hy,h1,h2];rw[if_pos hc];simp only[Rh];rw[if_pos hb];rfl
      ·cases h
    ·cases h
   ·cases h
  ·cases h
 ·cases h
mutual
def yu:CV→CV→Bool
 | .int k n,.int k' n'=>decide (k=k') && n == n'
 | .bool a,.bool b=>a == b
 | .str a,.str b=>a.data.toList == b.data.toList
 | .agg a,.agg b=>qx a b
 | .az a n,.az b m=>n == m && qx a b
 | .ai,.ai=>true
 | .cA a,.cA b=>qx a b
 | .bG,.bG=>true
 | .fn f a,.fn g b=>f == g && qx a b
 | .cd,.cd=>true
 | .iface f a,.iface g b=>f == g && qx a b
 | .dH a,.dH b=>qx a b
 | .bj o f n,.bj p g m=>o == p && f == g && n == m
 | .av o f,.av p g=>o == p && f == g
 | .any,.any=>true
 | _,_=>false
def qx:List CV→List CV→Bool
 | [],[]=>true
 | a::r,b::q=>yu a b && qx r q
 | _,_=>false
end
mutual
theorem Nd:∀ (a b:CV),yu a b=true→a=b
 | .int k n,b,h=>by cases b<;>simp_all [yu]
 | .bool a,b,h=>by cases b<;>simp_all [yu]
 | .str a,b,h=>by
  cases b<;>simp only[yu,Bool.false_eq_true] at h;rename_i b;have:a.data.toList=b.data.toList:=by simpa using h
  have h2:a.data=b.data:=Array.toList_inj.1 this;have:a=b:=ByteArray.ext h2;rw[this]
 | .agg a,b,h=>by
  cases b<;>simp only[yu,Bool.false_eq_true] at h;rw[jk _ _ h]
 | .az a n,b,h=>by
  cases b<;>simp only[yu,Bool.false_eq_true,Bool.and_eq_true,beq_iff_eq] at h;rw[jk _ _ h.2,h.1]
 | .ai,b,h=>by cases b<;>simp_all [yu]
 | .cA a,b,h=>by
  cases b<;>simp only[yu,Bool.false_eq_true] at h;rw[jk _ _ h]
 | .bG,b,h=>by cases b<;>simp_all [yu]
 | .fn f a,b,h=>by
  cases b<;>simp only[yu,Bool.false_eq_true,Bool.and_eq_true,beq_iff_eq] at h;rw[jk _ _ h.2,h.1]
 | .cd,b,h=>by cases b<;>simp_all [yu]
 | .iface f a,b,h=>by
  cases b<;>simp only[yu,Bool.false_eq_true,Bool.and_eq_true,beq_iff_eq] at h;rw[jk _ _ h.2,h.1]
 | .iter _ _ _,b,h=>by cases b<;>simp_all [yu]
 | .mp _ _,b,h=>by cases b<;>simp_all [yu]
 | .dH a,b,h=>by
  cases b<;>simp only[yu,Bool.false_eq_true] at h;rw[jk _ _ h]
 | .bj o f n,b,h=>by cases b<;>simp_all [yu]
 | .av o f,b,h=>by cases b<;>simp_all [yu]
 | .any,b,h=>by cases b<;>simp_all [yu]
theorem jk:∀ (a b:List CV),qx a b=true→a=b
 | [],b,h=>by cases b<;>simp_all [qx]
 | x::r,b,h=>by
  cases b with
  | nil=>simp[qx] at h
  | cons y q=>
   simp only[qx,Bool.and_eq_true] at h;rw[Nd x y h.1,jk r q h.2]
end
def oeq:Option Ob→Option Ob→Bool
 | some a,some b=>a.elem == b.elem && a.sz == b.sz && qx a.cells b.cells
 | none,none=>true
 | _,_=>false
theorem Ms {a b:Option Ob}(h:oeq a b=true):a=b:=by
 cases a<;>cases b<;>simp only[oeq,Bool.false_eq_true,Bool.and_eq_true,beq_iff_eq] at h
 ·rfl
 ·rename_i x y;obtain⟨⟨h1,h2⟩,h3⟩:=h;have h4:=jk _ _ h3;cases x;cases y;simp only at h1 h2 h4;subst h1;subst h2;subst h4;rfl
def jX (H H':List (Nat×Ob)):List (Nat×Ob)→List (Nat×Option Ob)→List (Nat×Option Ob)
 | [],l=>l
 | (o,_)::r,l=>if oeq (assoc H o) (assoc H' o) then jX H H' r l else (o,assoc H' o)::jX H H' r l
def qU (H H':List (Nat×Ob)):List (Nat×Option Ob):=jX H H' H' (jX H H' H [])
theorem j4 (H H':List (Nat×Ob)):∀ (l:List (Nat×Ob)) (m:List (Nat×Option Ob)) (p:Nat) (y:Option Ob),(∀ p y,assoc m p=some y→y=assoc H' p)→assoc (jX H H' l m) p=some y→y=assoc H' p
 | [],m,p,y,hm,h=>hm p y h
 | (o,_)::r,m,p,y,hm,h=>by
  simp only[jX] at h;split at h
  ·exact j4 H H' r m p y hm h
  ·simp only[assoc] at h;split at h
   ·rename_i e;cases h;rw[e]
   ·exact j4 H H' r m p y hm h
theorem lB (H H':List (Nat×Ob)):∀ (l:List (Nat×Ob)) (m:List (Nat×Option Ob)) (p:Nat),assoc (jX H H' l m) p=none→assoc m p=none∧(assoc l p=none∨assoc H p=assoc H' p)
 | [],m,p,h=>⟨h,.inl rfl⟩
 | (o,_)::r,m,p,h=>by
  simp only[jX] at h;split at h
  ·rename_i he;obtain⟨h1,h2⟩:=lB H H' r m p h;refine⟨h1,?_⟩;simp only[assoc];by_cases e:o=p
   ·subst e;exact .inr (Ms he)
   ·rw[if_neg e];exact h2
  ·simp only[assoc] at h;split at h
   ·cases h
   ·rename_i e;obtain⟨h1,h2⟩:=lB H H' r m p h;refine⟨h1,?_⟩;simp only[assoc];rw[if_neg e];exact h2
theorem HZ (H H':List (Nat×Ob))(p:Nat):jJ (assoc H) (qU H H') p=assoc H' p:=by
 unfold jJ qU
 cases h:assoc (jX H H' H' (jX H H' H [])) p with
 | some y=>
  simp only;exact j4 H H' H' _ p y (fun q z hz=>j4 H H' H [] q z (fun _ _ h=>by cases h) hz) h
 | none=>
  simp only;obtain⟨h1,h2⟩:=lB H H' H' _ p h;obtain⟨_,h3⟩:=lB H H' H [] p h1;rcases h2 with h2 | h2
  ·rcases h3 with h3 | h3
   ·rw[h2,h3]
   ·exact h3
  ·exact h2
theorem lC (H H':List (Nat×Ob)){p:Nat}{y:Option Ob}:∀ (l:List (Nat×Ob)) (m:List (Nat×Option Ob)),assoc l p=none→assoc m p=none→assoc (jX H H' l m) p=some y→False
 | [],m,_,hm,h=>by simp only[jX] at h;rw[hm] at h;cases h
 | (o,x)::r,m,hl,hm,h=>by
  simp only[assoc] at hl;split at hl
  ·cases hl
  ·rename_i e;simp only[jX] at h;split at h
   ·exact lC H H' r m hl hm h
   ·simp only[assoc] at h;rw[if_neg e] at h;exact lC H H' r m hl hm h
theorem BQ {H H':List (Nat×Ob)}{p:Nat}{y:Option Ob}(h1:assoc H p=none)(h2:assoc H' p=none)(h:assoc (qU H H') p=some y):False:=by
 unfold qU at h;refine lC H H' H' _ h2 ?_ h
 cases hc:assoc (jX H H' H []) p with
 | none=>rfl
 | some z=>exact (lC H H' H [] h1 rfl hc).elim
def dV (cs:List CV):List Nat:=cs.flatMap fun c=>match c with
 | .agg ds=>ds.flatMap kp
 | c=>kp c
def Fy (lo hi:Nat)(bg:List Nat)(o:Nat):Bool:=decide (o<lo) || decide (hi≤o) || bg.contains o
def qb (lo hi:Nat)(bg:List Nat):List (Nat×Ob)→List (Nat×Ob)
 | []=>[]
 | (o,x)::r=>if Fy lo hi bg o then (o,x)::qb lo hi bg r else qb lo hi bg r
def BC (lo hi:Nat)(bg:List Nat):List (Nat×Ob)→List (Nat×Ob)
 | []=>[]
 | (o,x)::r=>if Fy lo hi bg o then BC lo hi bg r else (o,x)::BC lo hi bg r
theorem lJ (lo hi:Nat)(bg:List Nat):∀ (H:List (Nat×Ob)) (p:Nat),assoc (qb lo hi bg H) p=if Fy lo hi bg p then assoc H p else none
 | [],p=>by simp[qb,assoc]
 | (o,x)::r,p=>by
  simp only[qb];by_cases e:o=p
  ·subst e;by_cases h:Fy lo hi bg o=true
   ·simp[h,assoc]
   ·rw[if_neg h,lJ lo hi bg r o];simp[h]
  ·split
   ·simp only[assoc];rw[if_neg e,if_neg e];exact lJ lo hi bg r p
   ·simp only[assoc];rw[if_neg e];exact lJ lo hi bg r p
theorem fa (lo hi:Nat)(bg:List Nat):∀ (H:List (Nat×Ob)) (p:Nat),assoc (BC lo hi bg H) p=if Fy lo hi bg p then none else assoc H p
 | [],p=>by simp[BC,assoc]
 | (o,x)::r,p=>by
  simp only[BC];by_cases e:o=p
  ·subst e;by_cases h:Fy lo hi bg o=true
   ·rw[if_pos h,fa lo hi bg r o];simp[h]
   ·simp[h,assoc]
  ·split
   ·simp only[assoc];rw[if_neg e];exact fa lo hi bg r p
   ·simp only[assoc];rw[if_neg e,if_neg e];exact fa lo hi bg r p
theorem gv {α:Type}:∀ (l m:List (Nat×α)) (p:Nat),assoc (l++m) p=match assoc l p with
  | some y=>some y
  | none=>assoc m p
 | [],_,_=>rfl
 | (o,x)::r,m,p=>by
  simp only[List.cons_append,assoc];by_cases e:o=p
  ·rw[if_pos e,if_pos e]
  ·rw[if_neg e,if_neg e];exact gv r m p
def Dt (au:List (Nat×TI))(s:St):Op→Option (CV×List Nat)
 | .convert t u x=>match pE au s t u x with
  | some c=>some (c,match ev s x with | some v=>kp v | none=>[])
  | none=>none
 | _=>none
def uz (au:List (Nat×TI))(mt:gL)(ops:Array Oper)(call:fe)(pc:FuncId→List CV→Option CV)(lo hi m:Nat)(s:St)(o:Oper):Option (Ef×List Nat×Bool×Option (Nat×Nat)):=
 match bN ops s o with
 | none=>none
 | some false=>some (⟨some (.dH []),[],0⟩,[],false,none)
 | some true=>match cc o with
  | some c=>match ig mt s c with
   | some (g,cs)=>match (if trees cs then pc g cs else none) with
    | some r=>some (⟨some r,[],0⟩,[],false,none)
    | none=>match call g cs (qb lo hi (dV cs) s.heap) s.nx with
     | some (x,H,n)=>if s.nx≤n∧(H.all fun y=>Fy lo hi (dV cs) y.1)=true then some (⟨some x,qU (qb lo hi (dV cs) s.heap) H,n-s.nx⟩,dV cs,true,some (lo,hi)) else none
     | none=>none
   | none=>none
  | none=>match eV au s o.op with
   | some c=>some (⟨some c,[],0⟩,GL s o.op,false,none)
   | none=>match Dt au s o.op with
    | some (c,rs)=>some (⟨some c,[],0⟩,rs,false,none)
    | none=>match pM au s o.op with
    | some (ob,f)=>some (⟨some (f m),[(m,some ob)],0⟩,[],false,none)
    | none=>match o.op with
     | .store t x v=>match M6 au s t x v with
      | some (p,ob)=>some (⟨none,[(p,some ob)],0⟩,[p],false,none)
      | none=>none
     | .call cl=>match cl.callee,cl.args.toList,cl.argTypes.toList with
      | .builtin .append,[x,y],[t,t']=>if t=t' then match ev s x,ev s y with
        | some p,some q=>match pP au t p (zw s p) (cells? s q) with
         | some (ob,k,rm)=>some (⟨some (.bj s.nx 0 k),(s.nx,some ob)::rmL rm,1⟩,kp p++kp q,true,none)
         | none=>none
        | _,_=>none
       else none
      | _,_,_=>none
     | _=>none
section
variable {P:Program}{C:Cx}{σ:Nat→Option OB}{s:St}{a:Act}{w:World}{ops:Array Oper}{au:List (Nat×TI)}{mt:gL}{pc:FuncId→List CV→Option CV}
theorem aL.Nb (h:aL C σ s a w){s':St}(he:fs s'=fs s):aL C σ s' a w:=by
 unfold fs at he;simp only[FS.mk.injEq] at he;obtain⟨h1,h2,h3⟩:=he;have U4:FB C σ s'.heap=FB C σ s.heap:=by
  unfold FB;rw[h2]
 refine⟨h.mD,h.tm,h.os,h.tape,h.output,h.size,h.frame,?_,?_,?_,?_,h.gy,by rw[h3];exact h.low,h.new⟩
 ·intro t c hc;rw[h1] at hc;rw[U4];exact h.env t c hc
 ·intro o ob ho;rw[h2] at ho;have:=h.obj o ob ho;unfold ObR at this ⊢;rw[U4];exact this
 ·intro o o' ob P6 b ho Qu;rw[h2] at ho Qu;exact h.inj o o' ob P6 b ho Qu
 ·intro o ho;rw[h3] at ho;exact h.nx o ho
theorem lM (h:aL C σ s a w){m:Nat}(hm:σ m=none)(SQ:C.n0≤m)(QY:m<s.nx){e:TypeId}{sz:Nat}{cs:List CV}{us:Array Value}(hr:aN w (FB C σ s.heap) σ cs us.toList)(h1:cs.all one=true) :
  aL C (sig σ m ⟨some w.heap.size,us.size,sz⟩) { s with heap:=(m,⟨e,sz,cs⟩)::s.heap } a (w.alloc (.cells us e)):=by
 have hl:=aN.length _ _ hr;refine (h.Dj hm SQ QY (Nat.le_refl _) (mA _) (ob:=⟨e,sz,cs⟩) (B:=⟨some w.heap.size,us.size,sz⟩) rfl h1 zX fun b hb=>?_).1;simp only[Option.some.injEq] at hb;subst hb;exact⟨Nat.le_refl _,us,heap_alloc_new w _,rfl,by simp only;simp at hl;omega,by simp only;rw[← hl,List.take_of_length_le (Nat.le_refl _)];exact hr⟩
theorem Ew (ht:aB P au)(h:aL C σ s a w){m:Nat}(hm:σ m=none)(SQ:C.n0≤m)(QY:m<s.nx){o:Oper}(hd:∀ t,o.dst=some t→t<a.tmps.size){ob:Ob}{f:Nat→CV}(hv:pM au s o.op=some (ob,f)) :
  ∃ z w' B,(execOp a.eval o).run P w=.ok (.value z) w'∧aL C (sig σ m B) (St.put { s with heap:=(m,ob)::s.heap } o.dst (f m)) (a.put o.dst z) w':=by
 cases ho:o.op<;>rw[ho] at hv<;>simp only[pM,AA] at hv<;>first | cases hv | skip
 case alloc e=>
  split at hv
  ·rename_i ie PS;cases hv;obtain⟨fi,z,g1,_,_,g4,g5⟩:=(ht e ie PS).info;obtain⟨k1,k2⟩:=cN (w:=w) (F:=FB C σ s.heap) _ _ g5;have QM:=lM h hm SQ QY (e:=e) (sz:=0) (aN.cm _ _ k1) k2;refine⟨.pointer (some ⟨w.heap.size,0,none⟩),_,_,?_,QM.put hd ?_⟩
   ·simp[execOp,ho,Instr.alloc,iI g1 g4,newVar,newRow]
   ·simp only[VR];exact⟨_,_,de,rfl,rfl⟩
  ·cases hv
 case box e x=>
  split at hv
  ·rename_i c hx;split at hv
   ·cases hv
   ·rename_i SB;cases hv;obtain⟨f1,f2⟩:=VR.flat c _ (fun cs e=>by subst e;simp[dx] at SB) (fun k s p e=>by subst e;simp[dx] at SB) (bL h hx);have QM:=lM h hm SQ QY (e:=e) (sz:=0) f1 f2;refine⟨.pointer (some ⟨w.heap.size,0,none⟩),_,_,?_,QM.put hd ?_⟩
    ·simp[execOp,ho,Instr.box,newVar,newRow]
    ·simp only[VR];exact⟨_,_,de,rfl,rfl⟩
  ·cases hv
 case buildSlice t len parts=>
  split at hv
  ·rename_i e Qk;obtain⟨it,Qp,Qk⟩:=Option.map_eq_some_iff.1 Qk;split at hv
   ·rename_i ie cs PS Ql;split at hv
    ·rename_i hb;obtain⟨out,Tu,hv⟩:=Option.map_eq_some_iff.1 hv;cases hv;obtain⟨fi,z,g1,g2,g3,g4,g5⟩:=(ht e ie PS).info;obtain⟨k1,k2⟩:=cN (w:=w) (F:=FB C σ s.heap) _ _ g5;have PZ:z.cells.size=ie.size:=by rw[← (ht e ie PS).len,← bP.length _ _ k1];simp
     have hz:=kH (σ:=σ) (aN.cm _ _ k1) len;obtain⟨l1,l2⟩:=lg h _ _ Ql;obtain⟨us,m1,m2,m3⟩:=mI _ cs (parts.toList.map fun p=>(p.1,a.eval p.2)) _ out (madeCells z.cells (len*z.cells.size)) (by simpa using l1) l2 hz (jo k2 len) Tu;have QM:=lM h hm SQ QY (e:=e) (sz:=ie.size) m2 m3;have Vh:us.size=len*ie.size:=by
      have:=aN.length _ _ m2;rw[lF _ _ _ _ Tu,eH,(ht e ie PS).len] at this
      simpa using this
     have hp:(parts.map fun (x:Nat×Operand)=>(x.1,a.eval x.2)).toList=parts.toList.map fun (p:Nat×Operand)=>(p.1,a.eval p.2):=by simp
     rw[PZ] at m1;refine⟨.slice (some ⟨w.heap.size,0,none⟩) len len,_,_,?_,QM.put hd ?_⟩
     ·simp only[execOp,ho,Instr.buildSlice,Sem.run_bind,bu (dr (ht t it Qp) Qk),Result.andThen_ok,cG g1,g2,hp];rw[if_neg (by have:=hb.1;omega)];by_cases h0:len*ie.size=0
      ·have e0:madeCells z.cells 0=#[]:=by simp[madeCells]
       have e2:(Array.range 0).map (fun _=>(default:Value))=#[]:=by simp[Array.range_zero']
       rw[h0,e0] at m1;simp[h0,e2,m1,newRow]
      ·have e1:(Array.range (len*ie.size)).map (fun x=>z.cells[x % z.cells.size]!)=madeCells z.cells (len*ie.size):=rfl;simp[h0,iI g1 g4,e1,m1,newRow]
     ·simp only[VR];exact⟨_,de,len,rfl,Nat.le_refl _,by have:=hb.2;simp only[maxLen];omega,by simp[Vh],fun _=>Vh.symm⟩
    ·cases hv
   ·cases hv
  ·cases hv
 case makeSlice t l c=>
  split at hv
  ·rename_i e k n k' m' Qk hl RS;obtain⟨it,Qp,Qk⟩:=Option.map_eq_some_iff.1 Qk;split at hv
   ·rename_i ie PS;split at hv
    ·rename_i hb;obtain⟨rfl,h0,VQ,Xn⟩:=hb;cases hv;obtain⟨fi,z,g1,g2,g3,g4,g5⟩:=(ht e ie PS).info;obtain⟨k1,k2⟩:=cN (w:=w) (F:=FB C σ s.heap) _ _ g5;have kl:=bL h hl;have kc:=bL h RS;simp only[VR] at kl kc;have PZ:fi.size=z.cells.size:=by rw[g2,← (ht e ie PS).len,← bP.length _ _ k1];simp
     have hz:=kH (σ:=σ) (aN.cm _ _ k1) n.toNat;have hr:=run_make (P:=P) w t e fi z (dr (ht t it Qp) Qk) g1 g4 k k' n n h0 (Int.le_refl _) (by rw[g3];exact VQ) Xn;have QM:=lM h hm SQ QY (e:=e) (sz:=ie.size) hz (jo k2 n.toNat);have Zu:z.cells.size=ie.size:=by rw[← PZ,g2]
     rw[PZ] at hr;refine⟨.slice (some ⟨w.heap.size,0,none⟩) n.toNat n.toNat,_,_,by simp only[execOp,ho,kl,kc,Sem.run_bind,hr,Result.andThen_ok,Sem.run_pure],QM.put hd ?_⟩;simp only[VR];refine⟨_,de,n.toNat,rfl,Nat.le_refl _,by simp only[maxLen];omega,?_,fun _=>?_⟩
     ·simp[size_madeCells,Zu]
     ·simp[size_madeCells,Zu]
    ·cases hv
   ·cases hv
  ·cases hv
end
end Go.Can
