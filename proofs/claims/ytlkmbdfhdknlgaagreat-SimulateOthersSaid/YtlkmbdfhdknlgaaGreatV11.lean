/- Operations in any order: w -/
import Derived.Test.YtlkmbdfhdknlgaaGreatV10
namespace Go.Can
open Go.RowKit List
structure FS where
 e:Nat->Option CV
 h:Nat->Option Ob
 n:Nat
structure Ef where
 r:Option CV
 w:List (Nat×Option Ob)
 k:Nat
structure Vw where
 t:List Nat
 o:List Nat
 n:Bool
 a:Option (Nat×Nat)
def kD (h:Nat->Option Ob)(w:List (Nat×Option Ob)):Nat->Option Ob:=λ p=>match assoc w p with
 | some y=>y
 | none=>h p
def ap (d:Option Tmp)(E:Ef)(x:FS):FS:=⟨ql x.e d E.r,kD x.h E.w,x.n+E.k⟩
def eA (V:Vw)(x y:FS):Prop:=(∀ t∈V.t,x.e t=y.e t)/\(∀ o∈V.o,x.h o=y.h o)/\(V.n=true->x.n=y.n)/\(∀ r,V.a=some r->∀ o,o<r.1\/r.2<=o->x.h o=y.h o)
structure F5 (d d':Option Tmp)(E E':Ef)(V V':Vw):Prop where
 s1:∀ t,d=some t->t∉V'.t
 s2:∀ t,d'=some t->t∉V.t
 s3:∀ t,d=some t->d'≠some t
 h1:∀ o y,assoc E.w o=some y->o∉V'.o
 h2:∀ o y,assoc E'.w o=some y->o∉V.o
 h3:∀ o y,assoc E.w o=some y->assoc E'.w o=none
 n1:V'.n=true->E.k=0
 n2:V.n=true->E'.k=0
 a1:∀ r,V'.a=some r->∀ o y,assoc E.w o=some y->r.1<=o/\o<r.2
 a2:∀ r,V.a=some r->∀ o y,assoc E'.w o=some y->r.1<=o/\o<r.2
theorem eA.refl (V:Vw)(x:FS):eA V x x:=⟨λ _ _=>rfl,λ _ _=>rfl,λ _=>rfl,λ _ _ _ _=>rfl⟩
theorem eA.symm {V:Vw}{x y:FS}(h:eA V x y):eA V y x:=⟨λ t ht=>(h.1 t ht).symm,λ o ho=>(h.2.1 o ho).symm,λ hn=>(h.2.2.1 hn).symm,λ r ha o ho=>(h.2.2.2 r ha o ho).symm⟩
theorem eA.trans {V:Vw}{x y z:FS}(h:eA V x y)(k:eA V y z):eA V x z:=⟨λ t ht=>(h.1 t ht).trans (k.1 t ht),λ o ho=>(h.2.1 o ho).trans (k.2.1 o ho),λ hn=>(h.2.2.1 hn).trans (k.2.2.1 hn),λ r ha o ho=>(h.2.2.2 r ha o ho).trans (k.2.2.2 r ha o ho)⟩
theorem Et {d d':Option Tmp}{E E':Ef}{V V':Vw}(h:F5 d d' E E' V V')(x:FS):ap d E (ap d' E' x)=ap d' E' (ap d E x):=by
 unfold ap;congr 1
 ·funext t;simp only[ql];by_cases h1:d=some t
  ·rw[if_pos h1,if_neg (h.s3 t h1),if_pos h1]
  ·rw[if_neg h1,if_neg h1]
 ·funext p;simp only[kD]
  cases h1:assoc E.w p with
  | none=>rfl
  | some y=>rw[h.h3 p y h1]
 ·simp only;omega
theorem oD {V:Vw}{d:Option Tmp}{E:Ef}(h1:∀ t,d=some t->t∉V.t)(h2:∀ o y,assoc E.w o=some y->o∉V.o)(h3:V.n=true->E.k=0)(h4:∀ r,V.a=some r->∀ o y,assoc E.w o=some y->r.1<=o/\o<r.2)(x:FS):eA V (ap d E x) x:=by
 refine⟨λ t ht=>?_,λ o ho=>?_,λ hn=>?_,λ r ha o ho=>?_⟩
 ·simp only[ap,ql];rw[if_neg (λ e=>h1 t e ht)]
 ·simp only[ap,kD]
  cases h5:assoc E.w o with
  | none=>rfl
  | some y=>exact absurd ho (h2 o y h5)
 ·simp only[ap,h3 hn];rfl
 ·simp only[ap,kD]
  cases h5:assoc E.w o with
  | none=>rfl
  | some y=>have:=h4 r ha o y h5;omega
theorem IL {V:Vw}{d:Option Tmp}{E:Ef}{x y:FS}(h:eA V x y):eA V (ap d E x) (ap d E y):=by
 refine⟨λ t ht=>?_,λ o ho=>?_,λ hn=>?_,λ r ha o ho=>?_⟩
 ·simp only[ap,ql];rw[h.1 t ht]
 ·simp only[ap,kD];rw[h.2.1 o ho]
 ·simp only[ap];rw[h.2.2.1 hn]
 ·simp only[ap,kD];rw[h.2.2.2 r ha o ho]
def ck (dst:Nat->Option Tmp)(E:Nat->Ef)(L:Nat->Bool):List Nat->FS->FS
 | [],x=>x
 | i::r,x=>ck dst E L r (if L i then ap (dst i) (E i) x else x)
section
variable {dst:Nat->Option Tmp}{E:Nat->Ef}
theorem dZ {L:Nat->Bool}:∀ (l m:List Nat) (x:FS),ck dst E L (l++m) x=ck dst E L m (ck dst E L l x)
 | [],_,_=>rfl
 | i::r,m,x=>by simp only[cons_append,ck];exact dZ r m _
theorem fN {L L':Nat->Bool}:∀ (l:List Nat) (x:FS),(∀ i∈l,L i=L' i)->ck dst E L l x=ck dst E L' l x
 | [],_,_=>rfl
 | i::r,x,h=>by
  simp only[ck];rw[h i xr];exact fN r _ λ j hj=>h j (by simp[hj])
theorem p7:∀ (l:List Nat) (x:FS),ck dst E (λ _=>false) l x=x
 | [],_=>rfl
 | _::r,x=>by simp only[ck,Bool.false_eq_true,if_false];exact p7 r x
theorem gV {V:Vw}{L L':Nat->Bool}:∀ (l:List Nat) (x y:FS),(∀ i∈l,L i≠L' i->∀ z,eA V (ap (dst i) (E i) z) z)->eA V x y->eA V (ck dst E L l x) (ck dst E L' l y)
 | [],_,_,_,h=>h
 | i::r,x,y,hd,h=>by
  simp only[ck];refine gV r _ _ (λ j hj=>hd j (by simp[hj])) ?_;cases h1:L i<;>cases h2:L' i<;>simp only[Bool.false_eq_true,if_false,if_true]
  ·exact h
  ·exact h.trans (hd i xr (by rw[h1,h2];simp) y).symm
  ·exact (hd i xr (by rw[h1,h2];simp) x).trans h
  ·exact IL h
theorem mJ {L:Nat->Bool}{d:Option Tmp}{G:Ef}:∀ (l:List Nat) (x:FS),(∀ j∈l,L j=true->∀ z,ap d G (ap (dst j) (E j) z)=ap (dst j) (E j) (ap d G z))->ck dst E L l (ap d G x)=ap d G (ck dst E L l x)
 | [],_,_=>rfl
 | j::r,x,h=>by
  simp only[ck];cases h1:L j<;>simp only[Bool.false_eq_true,if_false,if_true]
  ·exact mJ r x λ k hk=>h k (by simp[hk])
  ·rw[<- h j xr h1 x];exact mJ r _ λ k hk=>h k (by simp[hk])
end
def sJ (ops:Array Oper)(listed:Array Bool):Prop:=∀ j oj,ops[j]? = some oj->listed.getD j false=true->∀ e∈oj.after,Region.binds .any e=true->listed.getD e.on false=true
def B6 (ops:Array Oper)(j i:Nat):Prop:=∀ listed:Array Bool,sJ ops listed->(∀ oj,ops[j]? = some oj->∀ e∈oj.after,Region.binds .any e=true->listed.getD e.on false=true)->listed.getD i false=true
theorem EH {P:Program}{ops:Array Oper}{ord:List Nat}{dst:Nat->Option Tmp}{E:Nat->Ef}{V:Nat->Vw}{x0:FS}{R:Array Bool->FS->Act->World->Prop}{Q':Exit->Act->World->Prop}
  (hn:ord.Nodup) (Sq:∀ j,j<ops.size->j∈ord) (OT:∀ i∈ord,i<ops.size)
  (Wo:∀ pre i post,ord=pre++i::post->∀ oi,ops[i]? = some oi->∀ e∈oi.after,Region.binds .any e=true->e.on∈pre)
  (UT:∀ pre i post,ord=pre++i::post->∀ j∈post,B6 ops j i\/F5 (dst i) (dst j) (E i) (E j) (V i) (V j))
  (jF:∀ pre i post,ord=pre++i::post->∀ (listed:Array Bool) (x:FS) (a:Act) (w:World) (K:Act->World->Prop),listed.size=ops.size->listed.getD i false=false->R listed x a w->eA (V i) x (ck dst E (λ _=>true) pre x0) ->
   (∀ a' w',R (listed.setIfInBounds i true) (ap (dst i) (E i) x) a' w'->K a' w')->wpOp P ops Q' i K a w)
  (RW:∀ (listed:Array Bool) (a:Act) (w:World),R listed (ck dst E (λ _=>true) ord x0) a w->Q' .normal a w) :
  ∀ (m:Nat) (listed:Array Bool) (a:Act) (w:World),listed.size=ops.size->sJ ops listed->(ord.countP λ j=>!listed.getD j false)=m->R listed (ck dst E (λ j=>listed.getD j false) ord x0) a w->wpAny P .any ops Q' m listed a w:=by
 intro m
 induction m with
 | zero=>
  intro listed a w O0 O2 hc hR;have PJ:∀ j∈ord,listed.getD j false=true:=λ j hj=>by
   have:=countP_eq_zero.1 hc j hj
   simpa using this
  refine⟨?_,RW listed a w ?_⟩
  ·rw[eq_nil_iff_forall_not_mem];intro j hj;have h1:=getD_both (mem_ready.1 hj).1;obtain⟨_,o,ho,_⟩:=mem_ready.1 hj;rw[PJ j (Sq j (Array.getElem?_eq_some_iff.1 ho).1)] at h1;cases h1
  ·rwa [fN ord x0 (L':=λ _=>true) λ i hi=>PJ i hi] at hR
 | succ m ih=>
  intro listed a w O0 O2 hc hR;have hex:∃ i∈ord,listed.getD i false=false:=by
   have:0<ord.countP λ j=>!listed.getD j false:=by omega
   obtain⟨i,hi,h⟩:=countP_pos_iff.1 this;exact⟨i,hi,by simpa using h⟩
  refine⟨λ h0=>?_,λ i hi=>?_⟩
  ·exfalso;have:∀ (l pre:List Nat),ord=pre++l->(∀ j∈pre,listed.getD j false=true)->(∃ i∈l,listed.getD i false=false)->False:=by
    intro l
    induction l with
    | nil=>rintro pre _ _ ⟨i,hi,_⟩;cases hi
    | cons k r YE=>
     intro pre ho hp hx
     cases hk:listed.getD k false with
     | true=>
      refine YE (pre++[k]) (by simp[ho]) ?_ ?_
      ·intro j hj;rcases mem_append.1 hj with hj | hj
       ·exact hp j hj
       ·have:j=k:=by simpa using hj
        subst this;exact hk
      ·obtain⟨i,hi,hu⟩:=hx;rcases mem_cons.1 hi with e | hi
       ·subst e;rw[hk] at hu;cases hu
       ·exact⟨i,hi,hu⟩
     | false=>
      have Pa:=OT k (by rw[ho];simp);have O8:ops[k]? = some ops[k]:=by simp[Pa]
      have:k∈Region.ready .any ops listed:=by
       refine mem_ready.2 ⟨jf (by rw[O0];exact Pa) hk,_,O8,λ e he hb=>?_⟩;exact hp _ (Wo pre k r ho _ O8 e he hb)
      rw[h0] at this;cases this
   exact this ord [] rfl xr hex
  ·have Q1:listed.getD i false=false:=getD_both (mem_ready.1 hi).1;obtain⟨_,oi,Q6,Qf⟩:=mem_ready.1 hi;have QM:i∈ord:=Sq i (Array.getElem?_eq_some_iff.1 Q6).1;obtain⟨pre,post,Ql⟩:=append_of_mem QM;have QU:=hn;rw[Ql,nodup_append,nodup_cons] at QU;have Rb:∀ k∈post,listed.getD k false=true->F5 (dst i) (dst k) (E i) (E k) (V i) (V k):=λ k hk hl=>by
    rcases UT pre i post Ql k hk with h | h
    ·have:=h listed O2 λ ok O8 e he hb=>O2 k ok O8 hl e he hb;rw[Q1] at this;cases this
    ·exact h
   have UH:∀ k∈pre,listed.getD k false=false->F5 (dst k) (dst i) (E k) (E i) (V k) (V i):=λ k hk hl=>by
    obtain⟨p1,p2,hp⟩:=append_of_mem hk;have VT:ord=p1++k::(p2++i::post):=by rw[Ql,hp];simp
    rcases UT p1 k _ VT i xr with h | h
    ·have:=h listed O2 λ ok O8 e he hb=>by
      rw[Q6] at O8;cases O8;exact Qf e he hb
     rw[hl] at this;cases this
    ·exact h
   have Ry:ck dst E (λ j=>listed.getD j false) ord x0=ck dst E (λ j=>listed.getD j false) post (ck dst E (λ j=>listed.getD j false) pre x0):=by
    rw[Ql,dZ];simp only[ck,Q1,Bool.false_eq_true,if_false]
   refine jF pre i post Ql listed _ a w _ O0 Q1 hR ?_ λ a' w' Z1=>?_
   ·rw[Ry];have e1:eA (V i) (ck dst E (λ j=>listed.getD j false) post (ck dst E (λ j=>listed.getD j false) pre x0)) (ck dst E (λ j=>listed.getD j false) pre x0):=by
     have:=gV (V:=V i) (dst:=dst) (E:=E) (L:=λ j=>listed.getD j false) (L':=λ _=>false) post _ _ (λ k hk Pp z=>by
      have hl:listed.getD k false=true:=by cases h:listed.getD k false<;>simp_all
      have h:=Rb k hk hl;exact oD h.s2 h.h2 h.n2 h.a2 z) (eA.refl (V i) (ck dst E (λ j=>listed.getD j false) pre x0))
     rwa [p7] at this
    refine e1.trans (gV pre _ _ (λ k hk Pp z=>?_) (eA.refl _ _));have hl:listed.getD k false=false:=by cases h:listed.getD k false<;>simp_all
    have h:=UH k hk hl;exact oD h.s1 h.h1 h.n1 h.a1 z
   ·have OP:i<listed.size:=by rw[O0];exact OT i QM
    refine ih _ a' w' (by simpa using O0) ?_ ?_ ?_
    ·intro j oj hj hl e he hb;by_cases Rg:i=j
     ·subst Rg;have:oj=oi:=Option.some.inj (hj.symm.trans Q6);subst this;exact getD_set_true (Qf e he hb)
     ·rw[getD_set_ne false Rg] at hl;exact getD_set_true (O2 j oj hj hl e he hb)
    ·have:=count_set ord i listed hn QM OP Q1;omega
    ·have Qu:(listed.setIfInBounds i true).getD i false=true:=by simp[OP]
     have key:ck dst E (λ j=>(listed.setIfInBounds i true).getD j false) ord x0=ap (dst i) (E i) (ck dst E (λ j=>listed.getD j false) ord x0):=by
      rw[Ry,Ql,dZ];simp only[ck,Qu,if_true];rw[fN pre x0 (L':=λ j=>listed.getD j false) λ k hk=>getD_set_ne false (λ e=>by subst e;exact QU.2.2 i hk i xr rfl)];rw[fN post _ (L':=λ j=>listed.getD j false) λ k hk=>getD_set_ne false (λ e=>by subst e;exact QU.2.1.1 hk)];exact mJ post _ λ k hk hl z=>Et (Rb k hk hl) z
     rw[key];exact Z1
def fs (s:St):FS:=⟨assoc s.env,assoc s.heap,s.nx⟩
def qg:List (Nat×Option Ob)->List (Nat×Ob)->List (Nat×Ob)
 | [],H=>H
 | (o,some x)::r,H=>(o,x)::jU (qg r H) o
 | (o,none)::r,H=>jU (qg r H) o
theorem m8 (H:List (Nat×Ob)):∀ (w:List (Nat×Option Ob)) (p:Nat),assoc (qg w H) p=kD (assoc H) w p
 | [],p=>rfl
 | (o,some x)::r,p=>by
  simp only[qg,assoc,kD];by_cases e:o=p
  ·rw[if_pos e,if_pos e]
  ·rw[if_neg e,if_neg e,fv,if_neg e,m8 H r p,kD]
 | (o,none)::r,p=>by
  simp only[qg,assoc,kD];rw[fv];by_cases e:o=p
  ·rw[if_pos e,if_pos e]
  ·rw[if_neg e,if_neg e,m8 H r p,kD]
def OM (d:Option Tmp)(E:Ef)(s:St):St:=nA ⟨s.env,qg E.w s.heap,s.nx+E.k⟩ d E.r
theorem H5 (d:Option Tmp)(E:Ef)(s:St):fs (OM d E s)=ap d E (fs s):=by
 unfold fs OM ap;congr 1
 ·funext t;exact mZ t
 ·funext p;rw[gO.1];exact m8 s.heap E.w p
 ·rw[gO.2]
theorem ox (s:St)(d:Option Tmp)(c:CV):fs (s.put d c)=ap d ⟨some c,[],0⟩ (fs s):=H5 d ⟨some c,[],0⟩ s
def lz:CV->List Nat
 | .bg o _ _=>[o]
 | .ax o _=>[o]
 | _=>[]
theorem uC {o:Nat}{c:CV}(h:names o c=true):o∈lz c:=by
 cases c<;>simp_all [names,lz]
def JG (s:St)(op:Op):List Nat:=op.operands.toList.flatMap λ x=>match ev s x with
 | some v=>lz v
 | none=>[]
theorem DW {s:St}{op:Op}{x:Operand}{v:CV}{o:Nat}(hx:x∈op.operands)(hv:ev s x=some v)(hn:names o v=true):o∈JG s op:=by
 unfold JG;refine mem_flatMap.2 ⟨x,by simpa using hx,?_⟩;rw[hv];exact uC hn
def G3 (s:St)(op:Op):List Nat:=match op with
 | .load _ _=>JG s op
 | .slice _ _ _ _ _=>JG s op
 | _=>[]
def rh (av:List (Nat×TI))(s:St):Op->Option (Ob×(Nat->CV))
 | .alloc e=>match assoc av e with
  | some ie=>some (⟨e,0,ie.zero⟩,λ m=>.ax m 0)
  | none=>none
 | .makeSlice t l c=>match dM av t,ev s l,ev s c with
  | some (.sl e),some (.int _ n),some (.int _ m)=>match assoc av e with
   | some ie=>if n=m/\0<=n/\(ie.bytes:Int)*n<=281474976710656/\n<=9223372036854775807 then some (⟨e,ie.size,aS ie.zero n.toNat⟩,λ m=>.bg m 0 n.toNat) else none
   | none=>none
  | _,_,_=>none
 | op=>BL av s op
def Nj (av:List (Nat×TI))(s:St)(t:TypeId)(x v:Operand):Option (Nat×Ob):=
 match ev s x,ev s v,assoc av t with
 | some (.ax p off),some c,some i=>match assoc s.heap p with
  | none=>none
  | some ob=>if ez c then none else if c.cells.length=i.size/\off+c.cells.length<=ob.cells.length then some (p,{ ob with cells:=gC ob.cells off c.cells }) else none
 | _,_,_=>none
def AA (s:St):CV->Option Ob
 | .bg o _ _=>assoc s.heap o
 | _=>none
def ru (av:List (Nat×TI))(t:TypeId)(p:CV)(obp:Option Ob)(src:Option (List CV×Nat)):Option (Ob×Nat×Option Nat):=
 match dM av t with
 | some (.sl e)=>match assoc av e,src with
  | some ie,some (news,m)=>if 0<ie.size/\0<ie.bytes/\news.length=m*ie.size then
    match p with
    | .ak=>if m*ie.bytes<=140737488355328 then some (⟨e,ie.size,news⟩,m,none) else none
    | .bg o off n=>match obp with
     | none=>none
     | some ob=>if off=0/\ob.elem=e/\ob.sz=ie.size/\n*ie.size=ob.cells.length/\(n+m)*ie.bytes<=140737488355328 then some ({ ob with cells:=ob.cells++news },n+m,some o) else none
    | _=>none
   else none
  | _,_=>none
 | _=>none
def rmL:Option Nat->List (Nat×Option Ob)
 | some o=>[(o,none)]
 | none=>[]
def KA (H:List (Nat×Ob)):Option Nat->List (Nat×Ob)
 | some o=>jU H o
 | none=>H
theorem Dk {av:List (Nat×TI)}{s:St}{d:Option Tmp}{t:TypeId}{x y:Operand}{p q:CV}{ob:Ob}{k:Nat}{rm:Option Nat}(hx:ev s x=some p)(hy:ev s y=some q)(h:ru av t p (AA s p) (cells? s q)=some (ob,k,rm)) :
  pa av s d t x y=some (St.put { env:=s.env,heap:=(s.nx,ob)::KA s.heap rm,nx:=s.nx+1 } d (.bg s.nx 0 k)):=by
 unfold ru at h;unfold pa;split at h
 ·rename_i e ht;split at h
  ·rename_i ie news m h1 h2;split at h
   ·rename_i hc;split at h
    ·split at h
     ·rename_i hb;cases h;simp only[ht,hx,hy,h1,h2];rw[if_pos hc,if_pos hb];rfl
     ·cases h
    ·rename_i o off n;split at h
     ·cases h
     ·rename_i Pe QT;split at h
      ·rename_i hb;cases h;simp only[AA] at QT;simp only[ht,hx,hy,h1,h2];rw[if_pos hc];simp only[QT];rw[if_pos hb];rfl
      ·cases h
    ·cases h
   ·cases h
  ·cases h
 ·cases h
mutual
def zB:CV->CV->Bool
 | .int k n,.int k' n'=>decide (k=k') && n == n'
 | .bool a,.bool b=>a == b
 | .str a,.str b=>a.data.toList == b.data.toList
 | .agg a,.agg b=>sE a b
 | .au a n,.au b m=>n == m && sE a b
 | .ak,.ak=>true
 | .de a,.de b=>sE a b
 | .bM,.bM=>true
 | .fn f a,.fn g b=>f == g && sE a b
 | .cH,.cH=>true
 | .iface f a,.iface g b=>f == g && sE a b
 | .bY a,.bY b=>sE a b
 | .bg o f n,.bg p g m=>o == p && f == g && n == m
 | .ax o f,.ax p g=>o == p && f == g
 | .any,.any=>true
 | _,_=>false
def sE:List CV->List CV->Bool
 | [],[]=>true
 | a::r,b::q=>zB a b && sE r q
 | _,_=>false
end
mutual
theorem Np:∀ (a b:CV),zB a b=true->a=b
 | .int k n,b,h=>by cases b<;>simp_all [zB]
 | .bool a,b,h=>by cases b<;>simp_all [zB]
 | .str a,b,h=>by
  cases b<;>simp only[zB,Bool.false_eq_true] at h;rename_i b;have:a.data.toList=b.data.toList:=by simpa using h
  have h2:a.data=b.data:=Array.toList_inj.1 this;have:a=b:=ByteArray.ext h2;rw[this]
 | .agg a,b,h=>by
  cases b<;>simp only[zB,Bool.false_eq_true] at h;rw[jW _ _ h]
 | .au a n,b,h=>by
  cases b<;>simp only[zB,Bool.false_eq_true,Bool.and_eq_true,beq_iff_eq] at h;rw[jW _ _ h.2,h.1]
 | .ak,b,h=>by cases b<;>simp_all [zB]
 | .de a,b,h=>by
  cases b<;>simp only[zB,Bool.false_eq_true] at h;rw[jW _ _ h]
 | .bM,b,h=>by cases b<;>simp_all [zB]
 | .fn f a,b,h=>by
  cases b<;>simp only[zB,Bool.false_eq_true,Bool.and_eq_true,beq_iff_eq] at h;rw[jW _ _ h.2,h.1]
 | .cH,b,h=>by cases b<;>simp_all [zB]
 | .iface f a,b,h=>by
  cases b<;>simp only[zB,Bool.false_eq_true,Bool.and_eq_true,beq_iff_eq] at h;rw[jW _ _ h.2,h.1]
 | .iter _ _ _,b,h=>by cases b<;>simp_all [zB]
 | .mp _ _,b,h=>by cases b<;>simp_all [zB]
 | .bY a,b,h=>by
  cases b<;>simp only[zB,Bool.false_eq_true] at h;rw[jW _ _ h]
 | .bg o f n,b,h=>by cases b<;>simp_all [zB]
 | .ax o f,b,h=>by cases b<;>simp_all [zB]
 | .any,b,h=>by cases b<;>simp_all [zB]
theorem jW:∀ (a b:List CV),sE a b=true->a=b
 | [],b,h=>by cases b<;>simp_all [sE]
 | x::r,b,h=>by
  cases b with
  | nil=>simp[sE] at h
  | cons y q=>
   simp only[sE,Bool.and_eq_true] at h;rw[Np x y h.1,jW r q h.2]
end
def oeq:Option Ob->Option Ob->Bool
 | some a,some b=>a.elem == b.elem && a.sz == b.sz && sE a.cells b.cells
 | none,none=>true
 | _,_=>false
theorem MG {a b:Option Ob}(h:oeq a b=true):a=b:=by
 cases a<;>cases b<;>simp only[oeq,Bool.false_eq_true,Bool.and_eq_true,beq_iff_eq] at h
 ·rfl
 ·rename_i x y;obtain⟨⟨h1,h2⟩,h3⟩:=h;have h4:=jW _ _ h3;cases x;cases y;simp only at h1 h2 h4;subst h1;subst h2;subst h4;rfl
def kW (H H':List (Nat×Ob)):List (Nat×Ob)->List (Nat×Option Ob)->List (Nat×Option Ob)
 | [],l=>l
 | (o,_)::r,l=>if oeq (assoc H o) (assoc H' o) then kW H H' r l else (o,assoc H' o)::kW H H' r l
def td (H H':List (Nat×Ob)):List (Nat×Option Ob):=kW H H' H' (kW H H' H [])
theorem k8 (H H':List (Nat×Ob)):∀ (l:List (Nat×Ob)) (m:List (Nat×Option Ob)) (p:Nat) (y:Option Ob),(∀ p y,assoc m p=some y->y=assoc H' p)->assoc (kW H H' l m) p=some y->y=assoc H' p
 | [],m,p,y,hm,h=>hm p y h
 | (o,_)::r,m,p,y,hm,h=>by
  simp only[kW] at h;split at h
  ·exact k8 H H' r m p y hm h
  ·simp only[assoc] at h;split at h
   ·rename_i e;cases h;rw[e]
   ·exact k8 H H' r m p y hm h
theorem mO (H H':List (Nat×Ob)):∀ (l:List (Nat×Ob)) (m:List (Nat×Option Ob)) (p:Nat),assoc (kW H H' l m) p=none->assoc m p=none/\(assoc l p=none\/assoc H p=assoc H' p)
 | [],m,p,h=>⟨h,.inl rfl⟩
 | (o,_)::r,m,p,h=>by
  simp only[kW] at h;split at h
  ·rename_i he;obtain⟨h1,h2⟩:=mO H H' r m p h;refine⟨h1,?_⟩;simp only[assoc];by_cases e:o=p
   ·subst e;exact .inr (MG he)
   ·rw[if_neg e];exact h2
  ·simp only[assoc] at h;split at h
   ·cases h
   ·rename_i e;obtain⟨h1,h2⟩:=mO H H' r m p h;refine⟨h1,?_⟩;simp only[assoc];rw[if_neg e];exact h2
theorem Ij (H H':List (Nat×Ob))(p:Nat):kD (assoc H) (td H H') p=assoc H' p:=by
 unfold kD td
 cases h:assoc (kW H H' H' (kW H H' H [])) p with
 | some y=>
  simp only;exact k8 H H' H' _ p y (λ q z hz=>k8 H H' H [] q z (λ _ _ h=>by cases h) hz) h
 | none=>
  simp only;obtain⟨h1,h2⟩:=mO H H' H' _ p h;obtain⟨_,h3⟩:=mO H H' H [] p h1;rcases h2 with h2 | h2
  ·rcases h3 with h3 | h3
   ·rw[h2,h3]
   ·exact h3
  ·exact h2
theorem mP (H H':List (Nat×Ob)){p:Nat}{y:Option Ob}:∀ (l:List (Nat×Ob)) (m:List (Nat×Option Ob)),assoc l p=none->assoc m p=none->assoc (kW H H' l m) p=some y->False
 | [],m,_,hm,h=>by simp only[kW] at h;rw[hm] at h;cases h
 | (o,x)::r,m,hl,hm,h=>by
  simp only[assoc] at hl;split at hl
  ·cases hl
  ·rename_i e;simp only[kW] at h;split at h
   ·exact mP H H' r m hl hm h
   ·simp only[assoc] at h;rw[if_neg e] at h;exact mP H H' r m hl hm h
theorem C6 {H H':List (Nat×Ob)}{p:Nat}{y:Option Ob}(h1:assoc H p=none)(h2:assoc H' p=none)(h:assoc (td H H') p=some y):False:=by
 unfold td at h;refine mP H H' H' _ h2 ?_ h
 cases hc:assoc (kW H H' H []) p with
 | none=>rfl
 | some z=>exact (mP H H' H [] h1 rfl hc).elim
def eW (cs:List CV):List Nat:=cs.flatMap λ c=>match c with
 | .agg ds=>ds.flatMap lz
 | c=>lz c
def F9 (lo hi:Nat)(bL:List Nat)(o:Nat):Bool:=decide (o<lo) || decide (hi<=o) || bL.contains o
def rR (lo hi:Nat)(bL:List Nat):List (Nat×Ob)->List (Nat×Ob)
 | []=>[]
 | (o,x)::r=>if F9 lo hi bL o then (o,x)::rR lo hi bL r else rR lo hi bL r
def CN (lo hi:Nat)(bL:List Nat):List (Nat×Ob)->List (Nat×Ob)
 | []=>[]
 | (o,x)::r=>if F9 lo hi bL o then CN lo hi bL r else (o,x)::CN lo hi bL r
theorem mY (lo hi:Nat)(bL:List Nat):∀ (H:List (Nat×Ob)) (p:Nat),assoc (rR lo hi bL H) p=if F9 lo hi bL p then assoc H p else none
 | [],p=>by simp[rR,assoc]
 | (o,x)::r,p=>by
  simp only[rR];by_cases e:o=p
  ·subst e;by_cases h:F9 lo hi bL o=true
   ·simp[h,assoc]
   ·rw[if_neg h,mY lo hi bL r o];simp[h]
  ·split
   ·simp only[assoc];rw[if_neg e,if_neg e];exact mY lo hi bL r p
   ·simp only[assoc];rw[if_neg e];exact mY lo hi bL r p
theorem fT (lo hi:Nat)(bL:List Nat):∀ (H:List (Nat×Ob)) (p:Nat),assoc (CN lo hi bL H) p=if F9 lo hi bL p then none else assoc H p
 | [],p=>by simp[CN,assoc]
 | (o,x)::r,p=>by
  simp only[CN];by_cases e:o=p
  ·subst e;by_cases h:F9 lo hi bL o=true
   ·rw[if_pos h,fT lo hi bL r o];simp[h]
   ·simp[h,assoc]
  ·split
   ·simp only[assoc];rw[if_neg e];exact fT lo hi bL r p
   ·simp only[assoc];rw[if_neg e,if_neg e];exact fT lo hi bL r p
theorem gZ {α:Type}:∀ (l m:List (Nat×α)) (p:Nat),assoc (l++m) p=match assoc l p with
  | some y=>some y
  | none=>assoc m p
 | [],_,_=>rfl
 | (o,x)::r,m,p=>by
  simp only[cons_append,assoc];by_cases e:o=p
  ·rw[if_pos e,if_pos e]
  ·rw[if_neg e,if_neg e];exact gZ r m p
def Ec (av:List (Nat×TI))(s:St):Op->Option (CV×List Nat)
 | .convert t u x=>match q8 av s t u x with
  | some c=>some (c,match ev s x with | some v=>lz v | none=>[])
  | none=>none
 | _=>none
def vT (av:List (Nat×TI))(mt:iO)(ops:Array Oper)(call:fW)(pc:FuncId->List CV->Option CV)(lo hi m:Nat)(s:St)(o:Oper):Option (Ef×List Nat×Bool×Option (Nat×Nat)):=
 match bW ops s o with
 | none=>none
 | some false=>some (⟨some (.bY []),[],0⟩,[],false,none)
 | some true=>match cB o with
  | some c=>match jE mt s c with
   | some (g,cs)=>match (if trees cs then pc g cs else none) with
    | some r=>some (⟨some r,[],0⟩,[],false,none)
    | none=>match call g cs (rR lo hi (eW cs) s.heap) s.nx with
     | some (x,H,n)=>if s.nx<=n/\(H.all λ y=>F9 lo hi (eW cs) y.1)=true then some (⟨some x,td (rR lo hi (eW cs) s.heap) H,n-s.nx⟩,eW cs,true,some (lo,hi)) else none
     | none=>none
   | none=>none
  | none=>match fp av s o.op with
   | some c=>some (⟨some c,[],0⟩,G3 s o.op,false,none)
   | none=>match Ec av s o.op with
    | some (c,rs)=>some (⟨some c,[],0⟩,rs,false,none)
    | none=>match rh av s o.op with
    | some (ob,f)=>some (⟨some (f m),[(m,some ob)],0⟩,[],false,none)
    | none=>match o.op with
     | .store t x v=>match Nj av s t x v with
      | some (p,ob)=>some (⟨none,[(p,some ob)],0⟩,[p],false,none)
      | none=>none
     | .call cl=>match cl.callee,cl.args.toList,cl.argTypes.toList with
      | .builtin .append,[x,y],[t,t']=>if t=t' then match ev s x,ev s y with
        | some p,some q=>match ru av t p (AA s p) (cells? s q) with
         | some (ob,k,rm)=>some (⟨some (.bg s.nx 0 k),(s.nx,some ob)::rmL rm,1⟩,lz p++lz q,true,none)
         | none=>none
        | _,_=>none
       else none
      | _,_,_=>none
     | _=>none
section
variable {P:Program}{C:Cx}{σ:Nat->Option OB}{s:St}{a:Act}{w:World}{ops:Array Oper}{av:List (Nat×TI)}{mt:iO}{pc:FuncId->List CV->Option CV}
theorem aO.No (h:aO C σ s a w){s':St}(he:fs s'=fs s):aO C σ s' a w:=by
 unfold fs at he;simp only[FS.mk.injEq] at he;obtain⟨h1,h2,h3⟩:=he;have Ur:FB C σ s'.heap=FB C σ s.heap:=by
  unfold FB;rw[h2]
 refine⟨h.oz,h.tm,h.os,h.tape,h.output,h.size,h.frame,?_,?_,?_,?_,h.fX,by rw[h3];exact h.low,h.new⟩
 ·intro t c hc;rw[h1] at hc;rw[Ur];exact h.env t c hc
 ·intro o ob ho;rw[h2] at ho;have:=h.obj o ob ho;unfold ObR at this |-;rw[Ur];exact this
 ·intro o o' ob Pe b ho Pt;rw[h2] at ho Pt;exact h.inj o o' ob Pe b ho Pt
 ·intro o ho;rw[h3] at ho;exact h.nx o ho
theorem nc (h:aO C σ s a w){m:Nat}(hm:σ m=none)(SC:C.n0<=m)(To:m<s.nx){e:TypeId}{sz:Nat}{cs:List CV}{us:Array Value}(hr:a7 w (FB C σ s.heap) σ cs us.toList)(h1:cs.all one=true) :
  aO C (sig σ m ⟨some w.heap.size,us.size,sz⟩) { s with heap:=(m,⟨e,sz,cs⟩)::s.heap } a (w.alloc (.cells us e)):=by
 have hl:=a7.length _ _ hr;refine (h.D5 hm SC To (Nat.le_refl _) (ou _) (ob:=⟨e,sz,cs⟩) (B:=⟨some w.heap.size,us.size,sz⟩) rfl h1 xr λ b hb=>?_).1;simp only[Option.some.injEq] at hb;subst hb;exact⟨Nat.le_refl _,us,heap_alloc_new w _,rfl,by simp only;simp at hl;omega,by simp only;rw[<- hl,take_of_length_le (Nat.le_refl _)];exact hr⟩
theorem Fp (ht:aD P av)(h:aO C σ s a w){m:Nat}(hm:σ m=none)(SC:C.n0<=m)(To:m<s.nx){o:Oper}(hd:∀ t,o.dst=some t->t<a.tmps.size){ob:Ob}{f:Nat->CV}(hv:rh av s o.op=some (ob,f)) :
  ∃ z w' B,(execOp a.eval o).run P w=.ok (.value z) w'/\aO C (sig σ m B) (St.put { s with heap:=(m,ob)::s.heap } o.dst (f m)) (a.put o.dst z) w':=by
 cases ho:o.op<;>rw[ho] at hv<;>simp only[rh,BL] at hv<;>first | cases hv | skip
 case alloc e=>
  split at hv
  ·rename_i ie OV;cases hv;obtain⟨fi,z,g1,_,_,g4,g5⟩:=(ht e ie OV).info;obtain⟨k1,k2⟩:=dt (w:=w) (F:=FB C σ s.heap) _ _ g5;have PW:=nc h hm SC To (e:=e) (sz:=0) (a7.cS _ _ k1) k2;refine⟨.pointer (some ⟨w.heap.size,0,none⟩),_,_,?_,PW.put hd ?_⟩
   ·simp[execOp,ho,Instr.alloc,ig g1 g4,newVar,newRow]
   ·simp only[VR];exact⟨_,_,dN,rfl,rfl⟩
  ·cases hv
 case box e x=>
  split at hv
  ·rename_i c hx;split at hv
   ·cases hv
   ·rename_i RP;cases hv;obtain⟨f1,f2⟩:=VR.flat c _ (λ cs e=>by subst e;simp[ez] at RP) (λ k s p e=>by subst e;simp[ez] at RP) (bG h hx);have PW:=nc h hm SC To (e:=e) (sz:=0) f1 f2;refine⟨.pointer (some ⟨w.heap.size,0,none⟩),_,_,?_,PW.put hd ?_⟩
    ·simp[execOp,ho,Instr.box,newVar,newRow]
    ·simp only[VR];exact⟨_,_,dN,rfl,rfl⟩
  ·cases hv
 case buildSlice t len parts=>
  split at hv
  ·rename_i e PG;obtain⟨it,Ps,PG⟩:=Option.map_eq_some_iff.1 PG;split at hv
   ·rename_i ie cs OV PQ;split at hv
    ·rename_i hb;obtain⟨out,SS,hv⟩:=Option.map_eq_some_iff.1 hv;cases hv;obtain⟨fi,z,g1,g2,g3,g4,g5⟩:=(ht e ie OV).info;obtain⟨k1,k2⟩:=dt (w:=w) (F:=FB C σ s.heap) _ _ g5;have O0:z.cells.size=ie.size:=by rw[<- (ht e ie OV).len,<- ca.length _ _ k1];simp
     have hz:=lP (σ:=σ) (a7.cS _ _ k1) len;obtain⟨l1,l2⟩:=me h _ _ PQ;obtain⟨us,m1,m2,m3⟩:=oB _ cs (parts.toList.map λ p=>(p.1,a.eval p.2)) _ out (madeCells z.cells (len*z.cells.size)) (by simpa using l1) l2 hz (j3 k2 len) SS;have PW:=nc h hm SC To (e:=e) (sz:=ie.size) m2 m3;have UA:us.size=len*ie.size:=by
      have:=a7.length _ _ m2;rw[mU _ _ _ _ SS,fE,(ht e ie OV).len] at this
      simpa using this
     have hp:(parts.map λ (x:Nat×Operand)=>(x.1,a.eval x.2)).toList=parts.toList.map λ (p:Nat×Operand)=>(p.1,a.eval p.2):=by simp
     rw[O0] at m1;refine⟨.slice (some ⟨w.heap.size,0,none⟩) len len,_,_,?_,PW.put hd ?_⟩
     ·simp only[execOp,ho,Instr.buildSlice,Sem.run_bind,bH (dI (ht t it Ps) PG),Result.andThen_ok,db g1,g2,hp];rw[if_neg (by have:=hb.1;omega)];by_cases h0:len*ie.size=0
      ·have e0:madeCells z.cells 0=#[]:=by simp[madeCells]
       have e2:(Array.range 0).map (λ _=>(default:Value))=#[]:=by simp[Array.range_zero']
       rw[h0,e0] at m1;simp[h0,e2,m1,newRow]
      ·have e1:(Array.range (len*ie.size)).map (λ x=>z.cells[x % z.cells.size]!)=madeCells z.cells (len*ie.size):=rfl;simp[h0,ig g1 g4,e1,m1,newRow]
     ·simp only[VR];exact⟨_,dN,len,rfl,Nat.le_refl _,by have:=hb.2;simp only[maxLen];omega,by simp[UA],λ _=>UA.symm⟩
    ·cases hv
   ·cases hv
  ·cases hv
 case makeSlice t l c=>
  split at hv
  ·rename_i e k n k' m' PG hl UL;obtain⟨it,Ps,PG⟩:=Option.map_eq_some_iff.1 PG;split at hv
   ·rename_i ie OV;split at hv
    ·rename_i hb;obtain⟨rfl,h0,Uq,WD⟩:=hb;cases hv;obtain⟨fi,z,g1,g2,g3,g4,g5⟩:=(ht e ie OV).info;obtain⟨k1,k2⟩:=dt (w:=w) (F:=FB C σ s.heap) _ _ g5;have kl:=bG h hl;have kc:=bG h UL;simp only[VR] at kl kc;have O0:fi.size=z.cells.size:=by rw[g2,<- (ht e ie OV).len,<- ca.length _ _ k1];simp
     have hz:=lP (σ:=σ) (a7.cS _ _ k1) n.toNat;have hr:=run_make (P:=P) w t e fi z (dI (ht t it Ps) PG) g1 g4 k k' n n h0 (Int.le_refl _) (by rw[g3];exact Uq) WD;have PW:=nc h hm SC To (e:=e) (sz:=ie.size) hz (j3 k2 n.toNat);have Y1:z.cells.size=ie.size:=by rw[<- O0,g2]
     rw[O0] at hr;refine⟨.slice (some ⟨w.heap.size,0,none⟩) n.toNat n.toNat,_,_,by simp only[execOp,ho,kl,kc,Sem.run_bind,hr,Result.andThen_ok,Sem.run_pure],PW.put hd ?_⟩;simp only[VR];refine⟨_,dN,n.toNat,rfl,Nat.le_refl _,by simp only[maxLen];omega,?_,λ _=>?_⟩
     ·simp[size_madeCells,Y1]
     ·simp[size_madeCells,Y1]
    ·cases hv
   ·cases hv
  ·cases hv
end
end Go.Can
