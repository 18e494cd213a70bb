/- Operations in any order: w -/
import Derived.Test.YtlkmbdfhdknlgaaGreatZ09
namespace Go.Can
open Go.RowKit List
structure FS where
 e:Nat->Option CV
 h:Nat->Option Ob
 n:Nat
structure Ef where
 r:Option CV
 w:List (Nat×Option Ob)
 k:Nat
structure Vw where
 t:List Nat
 o:List Nat
 n:Bool
 a:Option (Nat×Nat)
def kY (h:Nat->Option Ob)(w:List (Nat×Option Ob)):Nat->Option Ob:=λ p=>match assoc w p with
 | some y=>y
 | none=>h p
def ap (d:Option Tmp)(E:Ef)(x:FS):FS:=⟨iY x.e d E.r,kY x.h E.w,x.n+E.k⟩
def eL (V:Vw)(x y:FS):Prop:=(∀ t∈V.t,x.e t=y.e t)/\(∀ o∈V.o,x.h o=y.h o)/\(V.n=true->x.n=y.n)/\(∀ r,V.a=some r->∀ o,o<r.1\/r.2<=o->x.h o=y.h o)
structure Io (d d':Option Tmp)(E E':Ef)(V V':Vw):Prop where
 s1:∀ t,d=some t->t∉V'.t
 s2:∀ t,d'=some t->t∉V.t
 s3:∀ t,d=some t->d'≠some t
 h1:∀ o y,assoc E.w o=some y->o∉V'.o
 h2:∀ o y,assoc E'.w o=some y->o∉V.o
 h3:∀ o y,assoc E.w o=some y->assoc E'.w o=none
 n1:V'.n=true->E.k=0
 n2:V.n=true->E'.k=0
 a1:∀ r,V'.a=some r->∀ o y,assoc E.w o=some y->r.1<=o/\o<r.2
 a2:∀ r,V.a=some r->∀ o y,assoc E'.w o=some y->r.1<=o/\o<r.2
theorem eL.refl (V:Vw)(x:FS):eL V x x:=⟨λ _ _=>rfl,λ _ _=>rfl,λ _=>rfl,λ _ _ _ _=>rfl⟩
theorem eL.symm {V:Vw}{x y:FS}(h:eL V x y):eL V y x:=⟨λ t ht=>(h.1 t ht).symm,λ o ho=>(h.2.1 o ho).symm,λ hn=>(h.2.2.1 hn).symm,λ r ha o ho=>(h.2.2.2 r ha o ho).symm⟩
theorem eL.trans {V:Vw}{x y z:FS}(h:eL V x y)(k:eL V y z):eL V x z:=⟨λ t ht=>(h.1 t ht).trans (k.1 t ht),λ o ho=>(h.2.1 o ho).trans (k.2.1 o ho),λ hn=>(h.2.2.1 hn).trans (k.2.2.1 hn),λ r ha o ho=>(h.2.2.2 r ha o ho).trans (k.2.2.2 r ha o ho)⟩
theorem GU {d d':Option Tmp}{E E':Ef}{V V':Vw}(h:Io d d' E E' V V')(x:FS):ap d E (ap d' E' x)=ap d' E' (ap d E x):=by
 unfold ap;congr 1
 ·funext t;simp only[iY];by_cases h1:d=some t
  ·rw[if_pos h1,if_neg (h.s3 t h1),if_pos h1]
  ·rw[if_neg h1,if_neg h1]
 ·funext p;simp only[kY]
  cases h1:assoc E.w p with
  | none=>rfl
  | some y=>rw[h.h3 p y h1]
 ·simp only;omega
theorem ph {V:Vw}{d:Option Tmp}{E:Ef}(h1:∀ t,d=some t->t∉V.t)(h2:∀ o y,assoc E.w o=some y->o∉V.o)(h3:V.n=true->E.k=0)(h4:∀ r,V.a=some r->∀ o y,assoc E.w o=some y->r.1<=o/\o<r.2)(x:FS):eL V (ap d E x) x:=by
 refine⟨λ t ht=>?_,λ o ho=>?_,λ hn=>?_,λ r ha o ho=>?_⟩
 ·simp only[ap,iY];rw[if_neg (λ e=>h1 t e ht)]
 ·simp only[ap,kY]
  cases h5:assoc E.w o with
  | none=>rfl
  | some y=>exact absurd ho (h2 o y h5)
 ·simp only[ap,h3 hn];rfl
 ·simp only[ap,kY]
  cases h5:assoc E.w o with
  | none=>rfl
  | some y=>have:=h4 r ha o y h5;omega
theorem Lw {V:Vw}{d:Option Tmp}{E:Ef}{x y:FS}(h:eL V x y):eL V (ap d E x) (ap d E y):=by
 refine⟨λ t ht=>?_,λ o ho=>?_,λ hn=>?_,λ r ha o ho=>?_⟩
 ·simp only[ap,iY];rw[h.1 t ht]
 ·simp only[ap,kY];rw[h.2.1 o ho]
 ·simp only[ap];rw[h.2.2.1 hn]
 ·simp only[ap,kY];rw[h.2.2.2 r ha o ho]
def cf (dst:Nat->Option Tmp)(E:Nat->Ef)(L:Nat->Bool):List Nat->FS->FS
 | [],x=>x
 | i::r,x=>cf dst E L r (if L i then ap (dst i) (E i) x else x)
section
variable {dst:Nat->Option Tmp}{E:Nat->Ef}
theorem ej {L:Nat->Bool}:∀ (l m:List Nat) (x:FS),cf dst E L (l++m) x=cf dst E L m (cf dst E L l x)
 | [],_,_=>rfl
 | i::r,m,x=>by simp only[cons_append,cf];exact ej r m _
theorem gh {L L':Nat->Bool}:∀ (l:List Nat) (x:FS),(∀ i∈l,L i=L' i)->cf dst E L l x=cf dst E L' l x
 | [],_,_=>rfl
 | i::r,x,h=>by
  simp only[cf];rw[h i xr];exact gh r _ λ j hj=>h j (by simp[hj])
theorem qH:∀ (l:List Nat) (x:FS),cf dst E (λ _=>false) l x=x
 | [],_=>rfl
 | _::r,x=>by simp only[cf,Bool.false_eq_true,if_false];exact qH r x
theorem ik {V:Vw}{L L':Nat->Bool}:∀ (l:List Nat) (x y:FS),(∀ i∈l,L i≠L' i->∀ z,eL V (ap (dst i) (E i) z) z)->eL V x y->eL V (cf dst E L l x) (cf dst E L' l y)
 | [],_,_,_,h=>h
 | i::r,x,y,hd,h=>by
  simp only[cf];refine ik r _ _ (λ j hj=>hd j (by simp[hj])) ?_;cases h1:L i<;>cases h2:L' i<;>simp only[Bool.false_eq_true,if_false,if_true]
  ·exact h
  ·exact h.trans (hd i xr (by rw[h1,h2];simp) y).symm
  ·exact (hd i xr (by rw[h1,h2];simp) x).trans h
  ·exact Lw h
theorem nA {L:Nat->Bool}{d:Option Tmp}{G:Ef}:∀ (l:List Nat) (x:FS),(∀ j∈l,L j=true->∀ z,ap d G (ap (dst j) (E j) z)=ap (dst j) (E j) (ap d G z))->cf dst E L l (ap d G x)=ap d G (cf dst E L l x)
 | [],_,_=>rfl
 | j::r,x,h=>by
  simp only[cf];cases h1:L j<;>simp only[Bool.false_eq_true,if_false,if_true]
  ·exact nA r x λ k hk=>h k (by simp[hk])
  ·rw[<- h j xr h1 x];exact nA r _ λ k hk=>h k (by simp[hk])
end
def uK (ops:Array Oper)(listed:Array Bool):Prop:=∀ j oj,ops[j]? = some oj->listed.getD j false=true->∀ e∈oj.after,Region.binds .any e=true->listed.getD e.on false=true
def DR (ops:Array Oper)(j i:Nat):Prop:=∀ listed:Array Bool,uK ops listed->(∀ oj,ops[j]? = some oj->∀ e∈oj.after,Region.binds .any e=true->listed.getD e.on false=true)->listed.getD i false=true
theorem G9 {P:Program}{ops:Array Oper}{ord:List Nat}{dst:Nat->Option Tmp}{E:Nat->Ef}{V:Nat->Vw}{x0:FS}{R:Array Bool->FS->Act->World->Prop}{Q':Exit->Act->World->Prop}
  (hn:ord.Nodup) (Ve:∀ j,j<ops.size->j∈ord) (RS:∀ i∈ord,i<ops.size)
  (Zg:∀ pre i post,ord=pre++i::post->∀ oi,ops[i]? = some oi->∀ e∈oi.after,Region.binds .any e=true->e.on∈pre)
  (XW:∀ pre i post,ord=pre++i::post->∀ j∈post,DR ops j i\/Io (dst i) (dst j) (E i) (E j) (V i) (V j))
  (du:∀ pre i post,ord=pre++i::post->∀ (listed:Array Bool) (x:FS) (a:Act) (w:World) (K:Act->World->Prop),listed.size=ops.size->listed.getD i false=false->R listed x a w->eL (V i) x (cf dst E (λ _=>true) pre x0) ->
   (∀ a' w',R (listed.setIfInBounds i true) (ap (dst i) (E i) x) a' w'->K a' w')->wpOp P ops Q' i K a w)
  (VW:∀ (listed:Array Bool) (a:Act) (w:World),R listed (cf dst E (λ _=>true) ord x0) a w->Q' .normal a w) :
  ∀ (m:Nat) (listed:Array Bool) (a:Act) (w:World),listed.size=ops.size->uK ops listed->(ord.countP λ j=>!listed.getD j false)=m->R listed (cf dst E (λ j=>listed.getD j false) ord x0) a w->wpAny P .any ops Q' m listed a w:=by
 intro m
 induction m with
 | zero=>
  intro listed a w R0 RY hc hR;have Tn:∀ j∈ord,listed.getD j false=true:=λ j hj=>by
   have:=countP_eq_zero.1 hc j hj
   simpa using this
  refine⟨?_,VW listed a w ?_⟩
  ·rw[eq_nil_iff_forall_not_mem];intro j hj;have h1:=getD_both (mem_ready.1 hj).1;obtain⟨_,o,ho,_⟩:=mem_ready.1 hj;rw[Tn j (Ve j (Array.getElem?_eq_some_iff.1 ho).1)] at h1;cases h1
  ·rwa [gh ord x0 (L':=λ _=>true) λ i hi=>Tn i hi] at hR
 | succ m ih=>
  intro listed a w R0 RY hc hR;have hex:∃ i∈ord,listed.getD i false=false:=by
   have:0<ord.countP λ j=>!listed.getD j false:=by omega
   obtain⟨i,hi,h⟩:=countP_pos_iff.1 this;exact⟨i,hi,by simpa using h⟩
  refine⟨λ h0=>?_,λ i hi=>?_⟩
  ·exfalso;have:∀ (l pre:List Nat),ord=pre++l->(∀ j∈pre,listed.getD j false=true)->(∃ i∈l,listed.getD i false=false)->False:=by
    intro l
    induction l with
    | nil=>rintro pre _ _ ⟨i,hi,_⟩;cases hi
    | cons k r ihl=>
     intro pre ho hp hx
     cases hk:listed.getD k false with
     | true=>
      refine ihl (pre++[k]) (by simp[ho]) ?_ ?_
      ·intro j hj;rcases mem_append.1 hj with hj | hj
       ·exact hp j hj
       ·have:j=k:=by simpa using hj
        subst this;exact hk
      ·obtain⟨i,hi,hu⟩:=hx;rcases mem_cons.1 hi with e | hi
       ·subst e;rw[hk] at hu;cases hu
       ·exact⟨i,hi,hu⟩
     | false=>
      have R8:=RS k (by rw[ho];simp);have Sg:ops[k]? = some ops[k]:=by simp[R8]
      have:k∈Region.ready .any ops listed:=by
       refine mem_ready.2 ⟨qe (by rw[R0];exact R8) hk,_,Sg,λ e he hb=>?_⟩;exact hp _ (Zg pre k r ho _ Sg e he hb)
      rw[h0] at this;cases this
   exact this ord [] rfl xr hex
  ·have Us:listed.getD i false=false:=getD_both (mem_ready.1 hi).1;obtain⟨_,oi,WD,TB⟩:=mem_ready.1 hi;have UK:i∈ord:=Ve i (Array.getElem?_eq_some_iff.1 WD).1;obtain⟨pre,post,WY⟩:=append_of_mem UK;have U9:=hn;rw[WY,nodup_append,nodup_cons] at U9;have VM:∀ k∈post,listed.getD k false=true->Io (dst i) (dst k) (E i) (E k) (V i) (V k):=λ k hk hl=>by
    rcases XW pre i post WY k hk with h | h
    ·have:=h listed RY λ ok Sg e he hb=>RY k ok Sg hl e he hb;rw[Us] at this;cases this
    ·exact h
   have Z1:∀ k∈pre,listed.getD k false=false->Io (dst k) (dst i) (E k) (E i) (V k) (V i):=λ k hk hl=>by
    obtain⟨p1,p2,hp⟩:=append_of_mem hk;have Z6:ord=p1++k::(p2++i::post):=by rw[WY,hp];simp
    rcases XW p1 k _ Z6 i xr with h | h
    ·have:=h listed RY λ ok Sg e he hb=>by
      rw[WD] at Sg;cases Sg;exact TB e he hb
     rw[hl] at this;cases this
    ·exact h
   have Uv:cf dst E (λ j=>listed.getD j false) ord x0=cf dst E (λ j=>listed.getD j false) post (cf dst E (λ j=>listed.getD j false) pre x0):=by
    rw[WY,ej];simp only[cf,Us,Bool.false_eq_true,if_false]
   refine du pre i post WY listed _ a w _ R0 Us hR ?_ λ a' w' hR'=>?_
   ·rw[Uv];have e1:eL (V i) (cf dst E (λ j=>listed.getD j false) post (cf dst E (λ j=>listed.getD j false) pre x0)) (cf dst E (λ j=>listed.getD j false) pre x0):=by
     have:=ik (V:=V i) (dst:=dst) (E:=E) (L:=λ j=>listed.getD j false) (L':=λ _=>false) post _ _ (λ k hk Sb z=>by
      have hl:listed.getD k false=true:=by cases h:listed.getD k false<;>simp_all
      have h:=VM k hk hl;exact ph h.s2 h.h2 h.n2 h.a2 z) (eL.refl (V i) (cf dst E (λ j=>listed.getD j false) pre x0))
     rwa [qH] at this
    refine e1.trans (ik pre _ _ (λ k hk Sb z=>?_) (eL.refl _ _));have hl:listed.getD k false=false:=by cases h:listed.getD k false<;>simp_all
    have h:=Z1 k hk hl;exact ph h.s1 h.h1 h.n1 h.a1 z
   ·have Og:i<listed.size:=by rw[R0];exact RS i UK
    refine ih _ a' w' (by simpa using R0) ?_ ?_ ?_
    ·intro j oj hj hl e he hb;by_cases W0:i=j
     ·subst W0;have:oj=oi:=Option.some.inj (hj.symm.trans WD);subst this;exact getD_set_true (TB e he hb)
     ·rw[getD_set_ne false W0] at hl;exact getD_set_true (RY j oj hj hl e he hb)
    ·have:=count_set ord i listed hn UK Og Us;omega
    ·have TR:(listed.setIfInBounds i true).getD i false=true:=by simp[Og]
     have key:cf dst E (λ j=>(listed.setIfInBounds i true).getD j false) ord x0=ap (dst i) (E i) (cf dst E (λ j=>listed.getD j false) ord x0):=by
      rw[Uv,WY,ej];simp only[cf,TR,if_true];rw[gh pre x0 (L':=λ j=>listed.getD j false) λ k hk=>getD_set_ne false (λ e=>by subst e;exact U9.2.2 i hk i xr rfl)];rw[gh post _ (L':=λ j=>listed.getD j false) λ k hk=>getD_set_ne false (λ e=>by subst e;exact U9.2.1.1 hk)];exact nA post _ λ k hk hl z=>GU (VM k hk hl) z
     rw[key];exact hR'
def fs (s:St):FS:=⟨assoc s.env,assoc s.heap,s.nx⟩
def qT:List (Nat×Option Ob)->List (Nat×Ob)->List (Nat×Ob)
 | [],H=>H
 | (o,some x)::r,H=>(o,x)::jX (qT r H) o
 | (o,none)::r,H=>jX (qT r H) o
theorem nR (H:List (Nat×Ob)):∀ (w:List (Nat×Option Ob)) (p:Nat),assoc (qT w H) p=kY (assoc H) w p
 | [],p=>rfl
 | (o,some x)::r,p=>by
  simp only[qT,assoc,kY];by_cases e:o=p
  ·rw[if_pos e,if_pos e]
  ·rw[if_neg e,if_neg e,fE,if_neg e,nR H r p,kY]
 | (o,none)::r,p=>by
  simp only[qT,assoc,kY];rw[fE];by_cases e:o=p
  ·rw[if_pos e,if_pos e]
  ·rw[if_neg e,if_neg e,nR H r p,kY]
def RN (d:Option Tmp)(E:Ef)(s:St):St:=p8 ⟨s.env,qT E.w s.heap,s.nx+E.k⟩ d E.r
theorem KJ (d:Option Tmp)(E:Ef)(s:St):fs (RN d E s)=ap d E (fs s):=by
 unfold fs RN ap;congr 1
 ·funext t;exact x8 t
 ·funext p;rw[pH.1];exact nR s.heap E.w p
 ·rw[pH.2]
theorem oY (s:St)(d:Option Tmp)(c:CV):fs (s.put d c)=ap d ⟨some c,[],0⟩ (fs s):=KJ d ⟨some c,[],0⟩ s
def lY:CV->List Nat
 | .bb o _ _=>[o]
 | .aw o _=>[o]
 | _=>[]
theorem vL {o:Nat}{c:CV}(h:names o c=true):o∈lY c:=by
 cases c<;>simp_all [names,lY]
def Mt (s:St)(op:Op):List Nat:=op.operands.toList.flatMap λ x=>match ev s x with
 | some v=>lY v
 | none=>[]
theorem F9 {s:St}{op:Op}{x:Operand}{v:CV}{o:Nat}(hx:x∈op.operands)(hv:ev s x=some v)(hn:names o v=true):o∈Mt s op:=by
 unfold Mt;refine mem_flatMap.2 ⟨x,by simpa using hx,?_⟩;rw[hv];exact vL hn
def Jv (s:St)(op:Op):List Nat:=match op with
 | .load _ _=>Mt s op
 | .slice _ _ _ _ _=>Mt s op
 | _=>[]
def sM (av:List (Nat×TI))(s:St):Op->Option (Ob×(Nat->CV))
 | .alloc e=>match assoc av e with
  | some ie=>some (⟨e,0,ie.zero⟩,λ m=>.aw m 0)
  | none=>none
 | .makeSlice t l c=>match dM av t,ev s l,ev s c with
  | some (.sl e),some (.int _ n),some (.int _ m)=>match assoc av e with
   | some ie=>if n=m/\0<=n/\(ie.bytes:Int)*n<=281474976710656/\n<=9223372036854775807 then some (⟨e,ie.size,aY ie.zero n.toNat⟩,λ m=>.bb m 0 n.toNat) else none
   | none=>none
  | _,_,_=>none
 | op=>Dz av s op
def Qo (av:List (Nat×TI))(s:St)(t:TypeId)(x v:Operand):Option (Nat×Ob):=
 match ev s x,ev s v,assoc av t with
 | some (.aw p off),some c,some i=>match assoc s.heap p with
  | none=>none
  | some ob=>if eF c then none else if c.cells.length=i.size/\off+c.cells.length<=ob.cells.length then some (p,{ ob with cells:=gP ob.cells off c.cells }) else none
 | _,_,_=>none
def Cr (s:St):CV->Option Ob
 | .bb o _ _=>assoc s.heap o
 | _=>none
def sP (av:List (Nat×TI))(t:TypeId)(p:CV)(obp:Option Ob)(src:Option (List CV×Nat)):Option (Ob×Nat×Option Nat):=
 match dM av t with
 | some (.sl e)=>match assoc av e,src with
  | some ie,some (news,m)=>if 0<ie.size/\0<ie.bytes/\news.length=m*ie.size then
    match p with
    | .aj=>if m*ie.bytes<=140737488355328 then some (⟨e,ie.size,news⟩,m,none) else none
    | .bb o off n=>match obp with
     | none=>none
     | some ob=>if off=0/\ob.elem=e/\ob.sz=ie.size/\n*ie.size=ob.cells.length/\(n+m)*ie.bytes<=140737488355328 then some ({ ob with cells:=ob.cells++news },n+m,some o) else none
    | _=>none
   else none
  | _,_=>none
 | _=>none
def rmL:Option Nat->List (Nat×Option Ob)
 | some o=>[(o,none)]
 | none=>[]
def Nr (H:List (Nat×Ob)):Option Nat->List (Nat×Ob)
 | some o=>jX H o
 | none=>H
theorem Fk {av:List (Nat×TI)}{s:St}{d:Option Tmp}{t:TypeId}{x y:Operand}{p q:CV}{ob:Ob}{k:Nat}{rm:Option Nat}(hx:ev s x=some p)(hy:ev s y=some q)(h:sP av t p (Cr s p) (cells? s q)=some (ob,k,rm)) :
  pW av s d t x y=some (St.put { env:=s.env,heap:=(s.nx,ob)::Nr s.heap rm,nx:=s.nx+1 } d (.bb s.nx 0 k)):=by
 unfold sP at h;unfold pW;split at h
 ·rename_i e ht;split at h
  ·rename_i ie news m h1 h2;split at h
   ·rename_i hc;split at h
    ·split at h
     ·rename_i hb;cases h;simp only[ht,hx,hy,h1,h2];rw[if_pos hc,if_pos hb];rfl
     ·cases h
    ·rename_i o off n;split at h
     ·cases h
     ·rename_i R9 TU;split at h
      ·rename_i hb;cases h;simp only[Cr] at TU;simp only[ht,hx,hy,h1,h2];rw[if_pos hc];simp only[TU];rw[if_pos hb];rfl
      ·cases h
    ·cases h
   ·cases h
  ·cases h
 ·cases h
mutual
def Bk:CV->CV->Bool
 | .int k n,.int k' n'=>decide (k=k') && n == n'
 | .bool a,.bool b=>a == b
 | .str a,.str b=>a.data.toList == b.data.toList
 | .agg a,.agg b=>uD a b
 | .ax a n,.ax b m=>n == m && uD a b
 | .aj,.aj=>true
 | .cQ a,.cQ b=>uD a b
 | .bJ,.bJ=>true
 | .fn f a,.fn g b=>f == g && uD a b
 | .cE,.cE=>true
 | .iface f a,.iface g b=>f == g && uD a b
 | .cB a,.cB b=>uD a b
 | .bb o f n,.bb p g m=>o == p && f == g && n == m
 | .aw o f,.aw p g=>o == p && f == g
 | .any,.any=>true
 | _,_=>false
def uD:List CV->List CV->Bool
 | [],[]=>true
 | a::r,b::q=>Bk a b && uD r q
 | _,_=>false
end
mutual
theorem Qx:∀ (a b:CV),Bk a b=true->a=b
 | .int k n,b,h=>by cases b<;>simp_all [Bk]
 | .bool a,b,h=>by cases b<;>simp_all [Bk]
 | .str a,b,h=>by
  cases b<;>simp only[Bk,Bool.false_eq_true] at h;rename_i b;have:a.data.toList=b.data.toList:=by simpa using h
  have h2:a.data=b.data:=Array.toList_inj.1 this;have:a=b:=ByteArray.ext h2;rw[this]
 | .agg a,b,h=>by
  cases b<;>simp only[Bk,Bool.false_eq_true] at h;rw[jZ _ _ h]
 | .ax a n,b,h=>by
  cases b<;>simp only[Bk,Bool.false_eq_true,Bool.and_eq_true,beq_iff_eq] at h;rw[jZ _ _ h.2,h.1]
 | .aj,b,h=>by cases b<;>simp_all [Bk]
 | .cQ a,b,h=>by
  cases b<;>simp only[Bk,Bool.false_eq_true] at h;rw[jZ _ _ h]
 | .bJ,b,h=>by cases b<;>simp_all [Bk]
 | .fn f a,b,h=>by
  cases b<;>simp only[Bk,Bool.false_eq_true,Bool.and_eq_true,beq_iff_eq] at h;rw[jZ _ _ h.2,h.1]
 | .cE,b,h=>by cases b<;>simp_all [Bk]
 | .iface f a,b,h=>by
  cases b<;>simp only[Bk,Bool.false_eq_true,Bool.and_eq_true,beq_iff_eq] at h;rw[jZ _ _ h.2,h.1]
 | .iter _ _ _,b,h=>by cases b<;>simp_all [Bk]
 | .mp _ _,b,h=>by cases b<;>simp_all [Bk]
 | .cB a,b,h=>by
  cases b<;>simp only[Bk,Bool.false_eq_true] at h;rw[jZ _ _ h]
 | .bb o f n,b,h=>by cases b<;>simp_all [Bk]
 | .aw o f,b,h=>by cases b<;>simp_all [Bk]
 | .any,b,h=>by cases b<;>simp_all [Bk]
theorem jZ:∀ (a b:List CV),uD a b=true->a=b
 | [],b,h=>by cases b<;>simp_all [uD]
 | x::r,b,h=>by
  cases b with
  | nil=>simp[uD] at h
  | cons y q=>
   simp only[uD,Bool.and_eq_true] at h;rw[Qx x y h.1,jZ r q h.2]
end
def oeq:Option Ob->Option Ob->Bool
 | some a,some b=>a.elem == b.elem && a.sz == b.sz && uD a.cells b.cells
 | none,none=>true
 | _,_=>false
theorem PR {a b:Option Ob}(h:oeq a b=true):a=b:=by
 cases a<;>cases b<;>simp only[oeq,Bool.false_eq_true,Bool.and_eq_true,beq_iff_eq] at h
 ·rfl
 ·rename_i x y;obtain⟨⟨h1,h2⟩,h3⟩:=h;have h4:=jZ _ _ h3;cases x;cases y;simp only at h1 h2 h4;subst h1;subst h2;subst h4;rfl
def lC (H H':List (Nat×Ob)):List (Nat×Ob)->List (Nat×Option Ob)->List (Nat×Option Ob)
 | [],l=>l
 | (o,_)::r,l=>if oeq (assoc H o) (assoc H' o) then lC H H' r l else (o,assoc H' o)::lC H H' r l
def u5 (H H':List (Nat×Ob)):List (Nat×Option Ob):=lC H H' H' (lC H H' H [])
theorem lJ (H H':List (Nat×Ob)):∀ (l:List (Nat×Ob)) (m:List (Nat×Option Ob)) (p:Nat) (y:Option Ob),(∀ p y,assoc m p=some y->y=assoc H' p)->assoc (lC H H' l m) p=some y->y=assoc H' p
 | [],m,p,y,hm,h=>hm p y h
 | (o,_)::r,m,p,y,hm,h=>by
  simp only[lC] at h;split at h
  ·exact lJ H H' r m p y hm h
  ·simp only[assoc] at h;split at h
   ·rename_i e;cases h;rw[e]
   ·exact lJ H H' r m p y hm h
theorem nD (H H':List (Nat×Ob)):∀ (l:List (Nat×Ob)) (m:List (Nat×Option Ob)) (p:Nat),assoc (lC H H' l m) p=none->assoc m p=none/\(assoc l p=none\/assoc H p=assoc H' p)
 | [],m,p,h=>⟨h,.inl rfl⟩
 | (o,_)::r,m,p,h=>by
  simp only[lC] at h;split at h
  ·rename_i he;obtain⟨h1,h2⟩:=nD H H' r m p h;refine⟨h1,?_⟩;simp only[assoc];by_cases e:o=p
   ·subst e;exact .inr (PR he)
   ·rw[if_neg e];exact h2
  ·simp only[assoc] at h;split at h
   ·cases h
   ·rename_i e;obtain⟨h1,h2⟩:=nD H H' r m p h;refine⟨h1,?_⟩;simp only[assoc];rw[if_neg e];exact h2
theorem KY (H H':List (Nat×Ob))(p:Nat):kY (assoc H) (u5 H H') p=assoc H' p:=by
 unfold kY u5
 cases h:assoc (lC H H' H' (lC H H' H [])) p with
 | some y=>
  simp only;exact lJ H H' H' _ p y (λ q z hz=>lJ H H' H [] q z (λ _ _ h=>by cases h) hz) h
 | none=>
  simp only;obtain⟨h1,h2⟩:=nD H H' H' _ p h;obtain⟨_,h3⟩:=nD H H' H [] p h1;rcases h2 with h2 | h2
  ·rcases h3 with h3 | h3
   ·rw[h2,h3]
   ·exact h3
  ·exact h2
theorem nE (H H':List (Nat×Ob)){p:Nat}{y:Option Ob}:∀ (l:List (Nat×Ob)) (m:List (Nat×Option Ob)),assoc l p=none->assoc m p=none->assoc (lC H H' l m) p=some y->False
 | [],m,_,hm,h=>by simp only[lC] at h;rw[hm] at h;cases h
 | (o,x)::r,m,hl,hm,h=>by
  simp only[assoc] at hl;split at hl
  ·cases hl
  ·rename_i e;simp only[lC] at h;split at h
   ·exact nE H H' r m hl hm h
   ·simp only[assoc] at h;rw[if_neg e] at h;exact nE H H' r m hl hm h
theorem EZ {H H':List (Nat×Ob)}{p:Nat}{y:Option Ob}(h1:assoc H p=none)(h2:assoc H' p=none)(h:assoc (u5 H H') p=some y):False:=by
 unfold u5 at h;refine nE H H' H' _ h2 ?_ h
 cases hc:assoc (lC H H' H []) p with
 | none=>rfl
 | some z=>exact (nE H H' H [] h1 rfl hc).elim
def fp (cs:List CV):List Nat:=cs.flatMap λ c=>match c with
 | .agg ds=>ds.flatMap lY
 | c=>lY c
def It (lo hi:Nat)(bG:List Nat)(o:Nat):Bool:=decide (o<lo) || decide (hi<=o) || bG.contains o
def tz (lo hi:Nat)(bG:List Nat):List (Nat×Ob)->List (Nat×Ob)
 | []=>[]
 | (o,x)::r=>if It lo hi bG o then (o,x)::tz lo hi bG r else tz lo hi bG r
def EC (lo hi:Nat)(bG:List Nat):List (Nat×Ob)->List (Nat×Ob)
 | []=>[]
 | (o,x)::r=>if It lo hi bG o then EC lo hi bG r else (o,x)::EC lo hi bG r
theorem nQ (lo hi:Nat)(bG:List Nat):∀ (H:List (Nat×Ob)) (p:Nat),assoc (tz lo hi bG H) p=if It lo hi bG p then assoc H p else none
 | [],p=>by simp[tz,assoc]
 | (o,x)::r,p=>by
  simp only[tz];by_cases e:o=p
  ·subst e;by_cases h:It lo hi bG o=true
   ·simp[h,assoc]
   ·rw[if_neg h,nQ lo hi bG r o];simp[h]
  ·split
   ·simp only[assoc];rw[if_neg e,if_neg e];exact nQ lo hi bG r p
   ·simp only[assoc];rw[if_neg e];exact nQ lo hi bG r p
theorem gq (lo hi:Nat)(bG:List Nat):∀ (H:List (Nat×Ob)) (p:Nat),assoc (EC lo hi bG H) p=if It lo hi bG p then none else assoc H p
 | [],p=>by simp[EC,assoc]
 | (o,x)::r,p=>by
  simp only[EC];by_cases e:o=p
  ·subst e;by_cases h:It lo hi bG o=true
   ·rw[if_pos h,gq lo hi bG r o];simp[h]
   ·simp[h,assoc]
  ·split
   ·simp only[assoc];rw[if_neg e];exact gq lo hi bG r p
   ·simp only[assoc];rw[if_neg e,if_neg e];exact gq lo hi bG r p
theorem ir {α:Type}:∀ (l m:List (Nat×α)) (p:Nat),assoc (l++m) p=match assoc l p with
  | some y=>some y
  | none=>assoc m p
 | [],_,_=>rfl
 | (o,x)::r,m,p=>by
  simp only[cons_append,assoc];by_cases e:o=p
  ·rw[if_pos e,if_pos e]
  ·rw[if_neg e,if_neg e];exact ir r m p
def GB (av:List (Nat×TI))(s:St):Op->Option (CV×List Nat)
 | .convert t u x=>match sI av s t u x with
  | some c=>some (c,match ev s x with | some v=>lY v | none=>[])
  | none=>none
 | _=>none
def xK (av:List (Nat×TI))(mt:iX)(ops:Array Oper)(call:gv)(pc:FuncId->List CV->Option CV)(lo hi m:Nat)(s:St)(o:Oper):Option (Ef×List Nat×Bool×Option (Nat×Nat)):=
 match bY ops s o with
 | none=>none
 | some false=>some (⟨some (.cB []),[],0⟩,[],false,none)
 | some true=>match ct o with
  | some c=>match jL mt s c with
   | some (g,cs)=>match (if trees cs then pc g cs else none) with
    | some r=>some (⟨some r,[],0⟩,[],false,none)
    | none=>match call g cs (tz lo hi (fp cs) s.heap) s.nx with
     | some (x,H,n)=>if s.nx<=n/\(H.all λ y=>It lo hi (fp cs) y.1)=true then some (⟨some x,u5 (tz lo hi (fp cs) s.heap) H,n-s.nx⟩,fp cs,true,some (lo,hi)) else none
     | none=>none
   | none=>none
  | none=>match fC av s o.op with
   | some c=>some (⟨some c,[],0⟩,Jv s o.op,false,none)
   | none=>match GB av s o.op with
    | some (c,rs)=>some (⟨some c,[],0⟩,rs,false,none)
    | none=>match sM av s o.op with
    | some (ob,f)=>some (⟨some (f m),[(m,some ob)],0⟩,[],false,none)
    | none=>match o.op with
     | .store t x v=>match Qo av s t x v with
      | some (p,ob)=>some (⟨none,[(p,some ob)],0⟩,[p],false,none)
      | none=>none
     | .call cl=>match cl.callee,cl.args.toList,cl.argTypes.toList with
      | .builtin .append,[x,y],[t,t']=>if t=t' then match ev s x,ev s y with
        | some p,some q=>match sP av t p (Cr s p) (cells? s q) with
         | some (ob,k,rm)=>some (⟨some (.bb s.nx 0 k),(s.nx,some ob)::rmL rm,1⟩,lY p++lY q,true,none)
         | none=>none
        | _,_=>none
       else none
      | _,_,_=>none
     | _=>none
section
variable {P:Program}{C:Cx}{σ:Nat->Option OB}{s:St}{a:Act}{w:World}{ops:Array Oper}{av:List (Nat×TI)}{mt:iX}{pc:FuncId->List CV->Option CV}
theorem aQ.Qt (h:aQ C σ s a w){s':St}(he:fs s'=fs s):aQ C σ s' a w:=by
 unfold fs at he;simp only[FS.mk.injEq] at he;obtain⟨h1,h2,h3⟩:=he;have Xm:FB C σ s'.heap=FB C σ s.heap:=by
  unfold FB;rw[h2]
 refine⟨h.pQ,h.tm,h.os,h.tape,h.output,h.size,h.frame,?_,?_,?_,?_,h.gA,by rw[h3];exact h.low,h.new⟩
 ·intro t c hc;rw[h1] at hc;rw[Xm];exact h.env t c hc
 ·intro o ob ho;rw[h2] at ho;have:=h.obj o ob ho;unfold ObR at this |-;rw[Xm];exact this
 ·intro o o' ob R9 b ho Sr;rw[h2] at ho Sr;exact h.inj o o' ob R9 b ho Sr
 ·intro o ho;rw[h3] at ho;exact h.nx o ho
theorem nV (h:aQ C σ s a w){m:Nat}(hm:σ m=none)(Vp:C.n0<=m)(UW:m<s.nx){e:TypeId}{sz:Nat}{cs:List CV}{us:Array Value}(hr:a6 w (FB C σ s.heap) σ cs us.toList)(h1:cs.all one=true) :
  aQ C (sig σ m ⟨some w.heap.size,us.size,sz⟩) { s with heap:=(m,⟨e,sz,cs⟩)::s.heap } a (w.alloc (.cells us e)):=by
 have hl:=a6.length _ _ hr;refine (h.Gr hm Vp UW (Nat.le_refl _) (oX _) (ob:=⟨e,sz,cs⟩) (B:=⟨some w.heap.size,us.size,sz⟩) rfl h1 xr λ b hb=>?_).1;simp only[Option.some.injEq] at hb;subst hb;exact⟨Nat.le_refl _,us,heap_alloc_new w _,rfl,by simp only;simp at hl;omega,by simp only;rw[<- hl,take_of_length_le (Nat.le_refl _)];exact hr⟩
theorem HI (ht:aD P av)(h:aQ C σ s a w){m:Nat}(hm:σ m=none)(Vp:C.n0<=m)(UW:m<s.nx){o:Oper}(hd:∀ t,o.dst=some t->t<a.tmps.size){ob:Ob}{f:Nat->CV}(hv:sM av s o.op=some (ob,f)) :
  ∃ z w' B,(execOp a.eval o).run P w=.ok (.value z) w'/\aQ C (sig σ m B) (St.put { s with heap:=(m,ob)::s.heap } o.dst (f m)) (a.put o.dst z) w':=by
 cases ho:o.op<;>rw[ho] at hv<;>simp only[sM,Dz] at hv<;>first | cases hv | skip
 case alloc e=>
  split at hv
  ·rename_i ie RU;cases hv;obtain⟨fi,z,g1,_,_,g4,g5⟩:=(ht e ie RU).info;obtain⟨k1,k2⟩:=dk (w:=w) (F:=FB C σ s.heap) _ _ g5;have Su:=nV h hm Vp UW (e:=e) (sz:=0) (a6.cK _ _ k1) k2;refine⟨.pointer (some ⟨w.heap.size,0,none⟩),_,_,?_,Su.put hd ?_⟩
   ·simp[execOp,ho,Instr.alloc,iA g1 g4,newVar,newRow]
   ·simp only[VR];exact⟨_,_,dN,rfl,rfl⟩
  ·cases hv
 case box e x=>
  split at hv
  ·rename_i c hx;split at hv
   ·cases hv
   ·rename_i UO;cases hv;obtain⟨f1,f2⟩:=VR.flat c _ (λ cs e=>by subst e;simp[eF] at UO) (λ k s p e=>by subst e;simp[eF] at UO) (bF h hx);have Su:=nV h hm Vp UW (e:=e) (sz:=0) f1 f2;refine⟨.pointer (some ⟨w.heap.size,0,none⟩),_,_,?_,Su.put hd ?_⟩
    ·simp[execOp,ho,Instr.box,newVar,newRow]
    ·simp only[VR];exact⟨_,_,dN,rfl,rfl⟩
  ·cases hv
 case buildSlice t len parts=>
  split at hv
  ·rename_i e Ss;obtain⟨it,Sk,Ss⟩:=Option.map_eq_some_iff.1 Ss;split at hv
   ·rename_i ie cs RU Sw;split at hv
    ·rename_i hb;obtain⟨out,VN,hv⟩:=Option.map_eq_some_iff.1 hv;cases hv;obtain⟨fi,z,g1,g2,g3,g4,g5⟩:=(ht e ie RU).info;obtain⟨k1,k2⟩:=dk (w:=w) (F:=FB C σ s.heap) _ _ g5;have R0:z.cells.size=ie.size:=by rw[<- (ht e ie RU).len,<- bZ.length _ _ k1];simp
     have hz:=mh (σ:=σ) (a6.cK _ _ k1) len;obtain⟨l1,l2⟩:=mO h _ _ Sw;obtain⟨us,m1,m2,m3⟩:=pd _ cs (parts.toList.map λ p=>(p.1,a.eval p.2)) _ out (madeCells z.cells (len*z.cells.size)) (by simpa using l1) l2 hz (j6 k2 len) VN;have Su:=nV h hm Vp UW (e:=e) (sz:=ie.size) m2 m3;have Xx:us.size=len*ie.size:=by
      have:=a6.length _ _ m2;rw[nL _ _ _ _ VN,fM,(ht e ie RU).len] at this
      simpa using this
     have hp:(parts.map λ (x:Nat×Operand)=>(x.1,a.eval x.2)).toList=parts.toList.map λ (p:Nat×Operand)=>(p.1,a.eval p.2):=by simp
     rw[R0] at m1;refine⟨.slice (some ⟨w.heap.size,0,none⟩) len len,_,_,?_,Su.put hd ?_⟩
     ·simp only[execOp,ho,Instr.buildSlice,Sem.run_bind,bz (dI (ht t it Sk) Ss),Result.andThen_ok,cP g1,g2,hp];rw[if_neg (by have:=hb.1;omega)];by_cases h0:len*ie.size=0
      ·have e0:madeCells z.cells 0=#[]:=by simp[madeCells]
       have e2:(Array.range 0).map (λ _=>(default:Value))=#[]:=by simp[Array.range_zero']
       rw[h0,e0] at m1;simp[h0,e2,m1,newRow]
      ·have e1:(Array.range (len*ie.size)).map (λ x=>z.cells[x % z.cells.size]!)=madeCells z.cells (len*ie.size):=rfl;simp[h0,iA g1 g4,e1,m1,newRow]
     ·simp only[VR];exact⟨_,dN,len,rfl,Nat.le_refl _,by have:=hb.2;simp only[maxLen];omega,by simp[Xx],λ _=>Xx.symm⟩
    ·cases hv
   ·cases hv
  ·cases hv
 case makeSlice t l c=>
  split at hv
  ·rename_i e k n k' m' Ss hl SS;obtain⟨it,Sk,Ss⟩:=Option.map_eq_some_iff.1 Ss;split at hv
   ·rename_i ie RU;split at hv
    ·rename_i hb;obtain⟨rfl,h0,X4,ZB⟩:=hb;cases hv;obtain⟨fi,z,g1,g2,g3,g4,g5⟩:=(ht e ie RU).info;obtain⟨k1,k2⟩:=dk (w:=w) (F:=FB C σ s.heap) _ _ g5;have kl:=bF h hl;have kc:=bF h SS;simp only[VR] at kl kc;have R0:fi.size=z.cells.size:=by rw[g2,<- (ht e ie RU).len,<- bZ.length _ _ k1];simp
     have hz:=mh (σ:=σ) (a6.cK _ _ k1) n.toNat;have hr:=run_make (P:=P) w t e fi z (dI (ht t it Sk) Ss) g1 g4 k k' n n h0 (Int.le_refl _) (by rw[g3];exact X4) ZB;have Su:=nV h hm Vp UW (e:=e) (sz:=ie.size) hz (j6 k2 n.toNat);have hrm:z.cells.size=ie.size:=by rw[<- R0,g2]
     rw[R0] at hr;refine⟨.slice (some ⟨w.heap.size,0,none⟩) n.toNat n.toNat,_,_,by simp only[execOp,ho,kl,kc,Sem.run_bind,hr,Result.andThen_ok,Sem.run_pure],Su.put hd ?_⟩;simp only[VR];refine⟨_,dN,n.toNat,rfl,Nat.le_refl _,by simp only[maxLen];omega,?_,λ _=>?_⟩
     ·simp[size_madeCells,hrm]
     ·simp[size_madeCells,hrm]
    ·cases hv
   ·cases hv
  ·cases hv
end
end Go.Can
