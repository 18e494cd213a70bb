/- Operations in any order: where those that are not ordered ke -/
import Derived.Test.YtnecpnjdonibmaaGreatZ10
namespace Go.Can
open Go.RowKit
structure FS where
 e:Nat→Option CV
 h:Nat→Option Ob
 n:Nat
structure Ef where
 r:Option CV
 w:List (Nat×Option Ob)
 k:Nat
structure Vw where
 t:List Nat
 o:List Nat
 n:Bool
 a:Option (Nat×Nat)
def kq (h:Nat→Option Ob)(w:List (Nat×Option Ob)):Nat→Option Ob:=fun p=>match assoc w p with
 | some y=>y
 | none=>h p
def ap (d:Option Tmp)(E:Ef)(x:FS):FS:=⟨ej x.e d E.r,kq x.h E.w,x.n+E.k⟩
def dI (V:Vw)(x y:FS):Prop:=(∀ t∈V.t,x.e t=y.e t)∧(∀ o∈V.o,x.h o=y.h o)∧(V.n=true→x.n=y.n)∧(∀ r,V.a=some r→∀ o,o<r.1∨r.2≤o→x.h o=y.h o)
structure Gm (d d':Option Tmp)(E E':Ef)(V V':Vw):Prop where
 s1:∀ t,d=some t→t∉V'.t
 s2:∀ t,d'=some t→t∉V.t
 s3:∀ t,d=some t→d'≠some t
 h1:∀ o y,assoc E.w o=some y→o∉V'.o
 h2:∀ o y,assoc E'.w o=some y→o∉V.o
 h3:∀ o y,assoc E.w o=some y→assoc E'.w o=none
 n1:V'.n=true→E.k=0
 n2:V.n=true→E'.k=0
 a1:∀ r,V'.a=some r→∀ o y,assoc E.w o=some y→r.1≤o∧o<r.2
 a2:∀ r,V.a=some r→∀ o y,assoc E'.w o=some y→r.1≤o∧o<r.2
theorem dI.refl (V:Vw)(x:FS):dI V x x:=⟨fun _ _=>rfl,fun _ _=>rfl,fun _=>rfl,fun _ _ _ _=>rfl⟩
theorem dI.symm {V:Vw}{x y:FS}(h:dI V x y):dI V y x:=⟨fun t ht=>(h.1 t ht).symm,fun o ho=>(h.2.1 o ho).symm,fun hn=>(h.2.2.1 hn).symm,fun r ha o ho=>(h.2.2.2 r ha o ho).symm⟩
theorem dI.trans {V:Vw}{x y z:FS}(h:dI V x y)(k:dI V y z):dI V x z:=⟨fun t ht=>(h.1 t ht).trans (k.1 t ht),fun o ho=>(h.2.1 o ho).trans (k.2.1 o ho),fun hn=>(h.2.2.1 hn).trans (k.2.2.1 hn),fun r ha o ho=>(h.2.2.2 r ha o ho).trans (k.2.2.2 r ha o ho)⟩
theorem ER {d d':Option Tmp}{E E':Ef}{V V':Vw}(h:Gm d d' E E' V V')(x:FS):ap d E (ap d' E' x)=ap d' E' (ap d E x):=by
 unfold ap;congr 1
 ·funext t;simp only[ej];by_cases h1:d=some t
  ·rw[if_pos h1,if_neg (h.s3 t h1),if_pos h1]
  ·rw[if_neg h1,if_neg h1]
 ·funext p;simp only[kq]
  cases h1:assoc E.w p with
  | none=>rfl
  | some y=>rw[h.h3 p y h1]
 ·simp only;omega
theorem ox {V:Vw}{d:Option Tmp}{E:Ef}(h1:∀ t,d=some t→t∉V.t)(h2:∀ o y,assoc E.w o=some y→o∉V.o)(h3:V.n=true→E.k=0)(h4:∀ r,V.a=some r→∀ o y,assoc E.w o=some y→r.1≤o∧o<r.2)(x:FS):dI V (ap d E x) x:=by
 refine⟨fun t ht=>?_,fun o ho=>?_,fun hn=>?_,fun r ha o ho=>?_⟩
 ·simp only[ap,ej];rw[if_neg (fun e=>h1 t e ht)]
 ·simp only[ap,kq]
  cases h5:assoc E.w o with
  | none=>rfl
  | some y=>exact absurd ho (h2 o y h5)
 ·simp only[ap,h3 hn];rfl
 ·simp only[ap,kq]
  cases h5:assoc E.w o with
  | none=>rfl
  | some y=>have:=h4 r ha o y h5;omega
theorem Jz {V:Vw}{d:Option Tmp}{E:Ef}{x y:FS}(h:dI V x y):dI V (ap d E x) (ap d E y):=by
 refine⟨fun t ht=>?_,fun o ho=>?_,fun hn=>?_,fun r ha o ho=>?_⟩
 ·simp only[ap,ej];rw[h.1 t ht]
 ·simp only[ap,kq];rw[h.2.1 o ho]
 ·simp only[ap];rw[h.2.2.1 hn]
 ·simp only[ap,kq];rw[h.2.2.2 r ha o ho]
def bS (dst:Nat→Option Tmp)(E:Nat→Ef)(L:Nat→Bool):List Nat→FS→FS
 | [],x=>x
 | i::r,x=>bS dst E L r (if L i then ap (dst i) (E i) x else x)
section
variable {dst:Nat→Option Tmp}{E:Nat→Ef}
theorem dL {L:Nat→Bool}:∀ (l m:List Nat) (x:FS),bS dst E L (l++m) x=bS dst E L m (bS dst E L l x)
 | [],_,_=>rfl
 | i::r,m,x=>by simp only[List.cons_append,bS];exact dL r m _
theorem eW {L L':Nat→Bool}:∀ (l:List Nat) (x:FS),(∀ i∈l,L i=L' i)→bS dst E L l x=bS dst E L' l x
 | [],_,_=>rfl
 | i::r,x,h=>by
  simp only[bS];rw[h i OU];exact eW r _ fun j hj=>h j (by simp[hj])
theorem mr:∀ (l:List Nat) (x:FS),bS dst E (fun _=>false) l x=x
 | [],_=>rfl
 | _::r,x=>by simp only[bS,Bool.false_eq_true,if_false];exact mr r x
theorem gU {V:Vw}{L L':Nat→Bool}:∀ (l:List Nat) (x y:FS),(∀ i∈l,L i≠L' i→∀ z,dI V (ap (dst i) (E i) z) z)→dI V x y→dI V (bS dst E L l x) (bS dst E L' l y)
 | [],_,_,_,h=>h
 | i::r,x,y,hd,h=>by
  simp only[bS];refine gU r _ _ (fun j hj=>hd j (by simp[hj])) ?_;cases h1:L i<;>cases h2:L' i<;>simp only[Bool.false_eq_true,if_false,if_true]
  ·exact h
  ·exact h.trans (hd i OU (by rw[h1,h2];simp) y).symm
  ·exact (hd i OU (by rw[h1,h2];simp) x).trans h
  ·exact Jz h
theorem mu {L:Nat→Bool}{d:Option Tmp}{G:Ef}:∀ (l:List Nat) (x:FS),(∀ j∈l,L j=true→∀ z,ap d G (ap (dst j) (E j) z)=ap (dst j) (E j) (ap d G z))→bS dst E L l (ap d G x)=ap d G (bS dst E L l x)
 | [],_,_=>rfl
 | j::r,x,h=>by
  simp only[bS];cases h1:L j<;>simp only[Bool.false_eq_true,if_false,if_true]
  ·exact mu r x fun k hk=>h k (by simp[hk])
  ·rw[← h j OU h1 x];exact mu r _ fun k hk=>h k (by simp[hk])
end
def iS (ops:Array Oper)(listed:Array Bool):Prop:=∀ j oj,ops[j]? = some oj→listed.getD j false=true→∀ e∈oj.after,Region.binds .any e=true→listed.getD e.on false=true
def EU (ops:Array Oper)(j i:Nat):Prop:=∀ listed:Array Bool,iS ops listed→(∀ oj,ops[j]? = some oj→∀ e∈oj.after,Region.binds .any e=true→listed.getD e.on false=true)→listed.getD i false=true
def nA (ops:Array Oper):Nat→Nat→Nat→Bool
 | 0,_,_=>false
 | f+1,j,i=>match ops[j]? with
  | some oj=>oj.after.any fun e=>Region.binds .any e && (e.on == i || nA ops f e.on i)
  | none=>false
theorem gH {ops:Array Oper}:∀ (f j i:Nat),nA ops f j i=true→EU ops j i
 | 0,_,_,h=>by simp[nA] at h
 | f+1,j,i,h=>by
  intro listed hc hj;simp only[nA] at h
  cases Tf:ops[j]? with
  | none=>rw[Tf] at h;simp at h
  | some oj=>
   rw[Tf] at h;simp only at h;obtain⟨e,he,hb⟩:=Array.any_eq_true'.1 h;simp only[Bool.and_eq_true,Bool.or_eq_true,beq_iff_eq] at hb;have hl:=hj oj Tf e he hb.1;rcases hb.2 with h1 | h1
   ·rw[← h1];exact hl
   ·exact gH f e.on i h1 listed hc fun ok Pe e' Zx Po=>hc e.on ok Pe hl e' Zx Po
theorem xn {P:Program}{ops:Array Oper}{ord:List Nat}{dst:Nat→Option Tmp}{E:Nat→Ef}{V:Nat→Vw}{x0:FS}{R:Array Bool→FS→Act→World→Prop}{Q':Exit→Act→World→Prop}
  (hn:ord.Nodup) (Rb:∀ j,j<ops.size→j∈ord) (O1:∀ i∈ord,i<ops.size)
  (Tt:∀ pre i post,ord=pre++i::post→∀ oi,ops[i]? = some oi→∀ e∈oi.after,Region.binds .any e=true→e.on∈pre)
  (UU:∀ pre i post,ord=pre++i::post→∀ j∈post,EU ops j i∨Gm (dst i) (dst j) (E i) (E j) (V i) (V j))
  (bq:∀ pre i post,ord=pre++i::post→∀ (listed:Array Bool) (x:FS) (a:Act) (w:World) (K:Act→World→Prop),listed.size=ops.size→listed.getD i false=false→R listed x a w→dI (V i) x (bS dst E (fun _=>true) pre x0) →
   (∀ a' w',R (listed.setIfInBounds i true) (ap (dst i) (E i) x) a' w'→K a' w')→wpOp P ops Q' i K a w)
  (RT:∀ (listed:Array Bool) (a:Act) (w:World),R listed (bS dst E (fun _=>true) ord x0) a w→Q' .normal a w) :
  ∀ (m:Nat) (listed:Array Bool) (a:Act) (w:World),listed.size=ops.size→iS ops listed→(ord.countP fun j=>!listed.getD j false)=m→R listed (bS dst E (fun j=>listed.getD j false) ord x0) a w→wpAny P .any ops Q' m listed a w:=by
 intro m
 induction m with
 | zero=>
  intro listed a w O9 O7 hc hR;have Pt:∀ j∈ord,listed.getD j false=true:=fun j hj=>by
   have:=List.countP_eq_zero.1 hc j hj
   simpa using this
  refine⟨?_,RT listed a w ?_⟩
  ·rw[List.eq_nil_iff_forall_not_mem];intro j hj;have h1:=getD_both (mem_ready.1 hj).1;obtain⟨_,o,ho,_⟩:=mem_ready.1 hj;rw[Pt j (Rb j (Array.getElem?_eq_some_iff.1 ho).1)] at h1;cases h1
  ·rwa [eW ord x0 (L':=fun _=>true) fun i hi=>Pt i hi] at hR
 | succ m ih=>
  intro listed a w O9 O7 hc hR;have hex:∃ i∈ord,listed.getD i false=false:=by
   have:0<ord.countP fun j=>!listed.getD j false:=by omega
   obtain⟨i,hi,h⟩:=List.countP_pos_iff.1 this;exact⟨i,hi,by simpa using h⟩
  refine⟨fun h0=>?_,fun i hi=>?_⟩
  ·exfalso;have:∀ (l pre:List Nat),ord=pre++l→(∀ j∈pre,listed.getD j false=true)→(∃ i∈l,listed.getD i false=false)→False:=by
    intro l
    induction l with
    | nil=>rintro pre _ _ ⟨i,hi,_⟩;cases hi
    | cons k r Yp=>
     intro pre ho hp hx
     cases hk:listed.getD k false with
     | true=>
      refine Yp (pre++[k]) (by simp[ho]) ?_ ?_
      ·intro j hj;rcases List.mem_append.1 hj with hj | hj
       ·exact hp j hj
       ·have:j=k:=by simpa using hj
        subst this;exact hk
      ·obtain⟨i,hi,hu⟩:=hx;rcases List.mem_cons.1 hi with e | hi
       ·subst e;rw[hk] at hu;cases hu
       ·exact⟨i,hi,hu⟩
     | false=>
      have PD:=O1 k (by rw[ho];simp);have Pe:ops[k]? = some ops[k]:=by simp[PD]
      have:k∈Region.ready .any ops listed:=by
       refine mem_ready.2 ⟨iT (by rw[O9];exact PD) hk,_,Pe,fun e he hb=>?_⟩;exact hp _ (Tt pre k r ho _ Pe e he hb)
      rw[h0] at this;cases this
   exact this ord [] rfl OU hex
  ·have QM:listed.getD i false=false:=getD_both (mem_ready.1 hi).1;obtain⟨_,oi,Qo,PU⟩:=mem_ready.1 hi;have RM:i∈ord:=Rb i (Array.getElem?_eq_some_iff.1 Qo).1;obtain⟨pre,post,Qg⟩:=List.append_of_mem RM;have QY:=hn;rw[Qg,List.nodup_append,List.nodup_cons] at QY;have Re:∀ k∈post,listed.getD k false=true→Gm (dst i) (dst k) (E i) (E k) (V i) (V k):=fun k hk hl=>by
    rcases UU pre i post Qg k hk with h | h
    ·have:=h listed O7 fun ok Pe e he hb=>O7 k ok Pe hl e he hb;rw[QM] at this;cases this
    ·exact h
   have UH:∀ k∈pre,listed.getD k false=false→Gm (dst k) (dst i) (E k) (E i) (V k) (V i):=fun k hk hl=>by
    obtain⟨p1,p2,hp⟩:=List.append_of_mem hk;have UM:ord=p1++k::(p2++i::post):=by rw[Qg,hp];simp
    rcases UU p1 k _ UM i OU with h | h
    ·have:=h listed O7 fun ok Pe e he hb=>by
      rw[Qo] at Pe;cases Pe;exact PU e he hb
     rw[hl] at this;cases this
    ·exact h
   have Rq:bS dst E (fun j=>listed.getD j false) ord x0=bS dst E (fun j=>listed.getD j false) post (bS dst E (fun j=>listed.getD j false) pre x0):=by
    rw[Qg,dL];simp only[bS,QM,Bool.false_eq_true,if_false]
   refine bq pre i post Qg listed _ a w _ O9 QM hR ?_ fun a' w' ZO=>?_
   ·rw[Rq];have e1:dI (V i) (bS dst E (fun j=>listed.getD j false) post (bS dst E (fun j=>listed.getD j false) pre x0)) (bS dst E (fun j=>listed.getD j false) pre x0):=by
     have:=gU (V:=V i) (dst:=dst) (E:=E) (L:=fun j=>listed.getD j false) (L':=fun _=>false) post _ _ (fun k hk Pf z=>by
      have hl:listed.getD k false=true:=by cases h:listed.getD k false<;>simp_all
      have h:=Re k hk hl;exact ox h.s2 h.h2 h.n2 h.a2 z) (dI.refl (V i) (bS dst E (fun j=>listed.getD j false) pre x0))
     rwa [mr] at this
    refine e1.trans (gU pre _ _ (fun k hk Pf z=>?_) (dI.refl _ _));have hl:listed.getD k false=false:=by cases h:listed.getD k false<;>simp_all
    have h:=UH k hk hl;exact ox h.s1 h.h1 h.n1 h.a1 z
   ·have OX:i<listed.size:=by rw[O9];exact O1 i RM
    refine ih _ a' w' (by simpa using O9) ?_ ?_ ?_
    ·intro j oj hj hl e he hb;by_cases Qr:i=j
     ·subst Qr;have:oj=oi:=Option.some.inj (hj.symm.trans Qo);subst this;exact getD_set_true (PU e he hb)
     ·rw[getD_set_ne false Qr] at hl;exact getD_set_true (O7 j oj hj hl e he hb)
    ·have:=count_set ord i listed hn RM OX QM;omega
    ·have Qn:(listed.setIfInBounds i true).getD i false=true:=by simp[OX]
     have key:bS dst E (fun j=>(listed.setIfInBounds i true).getD j false) ord x0=ap (dst i) (E i) (bS dst E (fun j=>listed.getD j false) ord x0):=by
      rw[Rq,Qg,dL];simp only[bS,Qn,if_true];rw[eW pre x0 (L':=fun j=>listed.getD j false) fun k hk=>getD_set_ne false (fun e=>by subst e;exact QY.2.2 i hk i OU rfl)];rw[eW post _ (L':=fun j=>listed.getD j false) fun k hk=>getD_set_ne false (fun e=>by subst e;exact QY.2.1.1 hk)];exact mu post _ fun k hk hl z=>ER (Re k hk hl) z
     rw[key];exact ZO
def fs (s:St):FS:=⟨assoc s.env,assoc s.heap,s.nx⟩
def p7:List (Nat×Option Ob)→List (Nat×Ob)→List (Nat×Ob)
 | [],H=>H
 | (o,some x)::r,H=>(o,x)::jD (p7 r H) o
 | (o,none)::r,H=>jD (p7 r H) o
theorem mJ (H:List (Nat×Ob)):∀ (w:List (Nat×Option Ob)) (p:Nat),assoc (p7 w H) p=kq (assoc H) w p
 | [],p=>rfl
 | (o,some x)::r,p=>by
  simp only[p7,assoc,kq];by_cases e:o=p
  ·rw[if_pos e,if_pos e]
  ·rw[if_neg e,if_neg e,fe,if_neg e,mJ H r p,kq]
 | (o,none)::r,p=>by
  simp only[p7,assoc,kq];rw[fe];by_cases e:o=p
  ·rw[if_pos e,if_pos e]
  ·rw[if_neg e,if_neg e,mJ H r p,kq]
def NL (d:Option Tmp)(E:Ef)(s:St):St:=eY ⟨s.env,p7 E.w s.heap,s.nx+E.k⟩ d E.r
theorem zA (d:Option Tmp)(E:Ef)(s:St):fs (NL d E s)=ap d E (fs s):=by
 unfold fs NL ap;congr 1
 ·funext t;exact cr t
 ·funext p;rw[dg.1];exact mJ s.heap E.w p
 ·rw[dg.2]
theorem su (s:St)(d:Option Tmp)(c:CV):fs (s.put d c)=ap d ⟨some c,[],0⟩ (fs s):=zA d ⟨some c,[],0⟩ s
def ll:CV→List Nat
 | .bl o _ _=>[o]
 | .ax o _=>[o]
 | _=>[]
theorem uu {o:Nat}{c:CV}(h:names o c=true):o∈ll c:=by
 cases c<;>simp_all [names,ll]
def Kf (s:St)(op:Op):List Nat:=op.operands.toList.flatMap fun x=>match ev s x with
 | some v=>ll v
 | none=>[]
theorem D4 {s:St}{op:Op}{x:Operand}{v:CV}{o:Nat}(hx:x∈op.operands)(hv:ev s x=some v)(hn:names o v=true):o∈Kf s op:=by
 unfold Kf;refine List.mem_flatMap.2 ⟨x,by simpa using hx,?_⟩;rw[hv];exact uu hn
def HF (s:St)(op:Op):List Nat:=match op with
 | .load _ _=>Kf s op
 | .slice _ _ _ _ _=>Kf s op
 | _=>[]
def qU (ak:List (Nat×TI))(s:St):Op→Option (Ob×(Nat→CV))
 | .alloc e=>match assoc ak e with
  | some ie=>some (⟨e,0,ie.zero⟩,fun m=>.ax m 0)
  | none=>none
 | .makeSlice t l c=>match dE ak t,ev s l,ev s c with
  | some (.sl e),some (.int _ n),some (.int _ m)=>match assoc ak e with
   | some ie=>if n=m∧0≤n∧(ie.bytes:Int)*n≤281474976710656∧n≤9223372036854775807 then some (⟨e,ie.size,bb ie.zero n.toNat⟩,fun m=>.bl m 0 n.toNat) else none
   | none=>none
  | _,_,_=>none
 | op=>ov ak s op
def Nx (ak:List (Nat×TI))(s:St)(t:TypeId)(x v:Operand):Option (Nat×Ob):=
 match ev s x,ev s v,assoc ak t with
 | some (.ax p off),some c,some i=>match assoc s.heap p with
  | none=>none
  | some ob=>if dP c then none else if c.cells.length=i.size∧off+c.cells.length≤ob.cells.length then some (p,{ ob with cells:=fD ob.cells off c.cells }) else none
 | _,_,_=>none
def AQ (s:St):CV→Option Ob
 | .bl o _ _=>assoc s.heap o
 | _=>none
def qX (ak:List (Nat×TI))(t:TypeId)(p:CV)(obp:Option Ob)(src:Option (List CV×Nat)):Option (Ob×Nat×Option Nat):=
 match dE ak t with
 | some (.sl e)=>match assoc ak e,src with
  | some ie,some (news,m)=>if 0<ie.size∧0<ie.bytes∧news.length=m*ie.size then
    match p with
    | .aa=>if m*ie.bytes≤140737488355328 then some (⟨e,ie.size,news⟩,m,none) else none
    | .bl o off n=>match obp with
     | none=>none
     | some ob=>if off=0∧ob.elem=e∧ob.sz=ie.size∧n*ie.size=ob.cells.length∧(n+m)*ie.bytes≤140737488355328 then some ({ ob with cells:=ob.cells++news },n+m,some o) else none
    | _=>none
   else none
  | _,_=>none
 | _=>none
def rmL:Option Nat→List (Nat×Option Ob)
 | some o=>[(o,none)]
 | none=>[]
def KY (H:List (Nat×Ob)):Option Nat→List (Nat×Ob)
 | some o=>jD H o
 | none=>H
theorem Dd {ak:List (Nat×TI)}{s:St}{d:Option Tmp}{t:TypeId}{x y:Operand}{p q:CV}{ob:Ob}{k:Nat}{rm:Option Nat}(hx:ev s x=some p)(hy:ev s y=some q)(h:qX ak t p (AQ s p) (cells? s q)=some (ob,k,rm)) :
  oS ak s d t x y=some (St.put { env:=s.env,heap:=(s.nx,ob)::KY s.heap rm,nx:=s.nx+1 } d (.bl s.nx 0 k)):=by
 unfold qX at h;unfold oS;split at h
 ·rename_i e ht;split at h
  ·rename_i ie news m h1 h2;split at h
   ·rename_i hc;split at h
    ·split at h
     ·rename_i hb;cases h;simp only[ht,hx,hy,h1,h2];rw[if_pos hc,if_pos hb];rfl
     ·cases h
    ·rename_i o off n;split at h
     ·cases h
     ·rename_i Pk QX;split at h
      ·rename_i hb;cases h;simp only[AQ] at QX;simp only[ht,hx,hy,h1,h2];rw[if_pos hc];simp only[QX];rw[if_pos hb];rfl
      ·cases h
    ·cases h
   ·cases h
  ·cases h
 ·cases h
mutual
def zS:CV→CV→Bool
 | .int k n,.int k' n'=>decide (k=k') && n == n'
 | .bool a,.bool b=>a == b
 | .str a,.str b=>a.data.toList == b.data.toList
 | .agg a,.agg b=>sB a b
 | .aA a n,.aA b m=>n == m && sB a b
 | .aa,.aa=>true
 | .cG a,.cG b=>sB a b
 | .bL,.bL=>true
 | .fn f a,.fn g b=>f == g && sB a b
 | .cA,.cA=>true
 | .iface f a,.iface g b=>f == g && sB a b
 | .dS a,.dS b=>sB a b
 | .bl o f n,.bl p g m=>o == p && f == g && n == m
 | .ax o f,.ax p g=>o == p && f == g
 | .any,.any=>true
 | _,_=>false
def sB:List CV→List CV→Bool
 | [],[]=>true
 | a::r,b::q=>zS a b && sB r q
 | _,_=>false
end
mutual
theorem ND:∀ (a b:CV),zS a b=true→a=b
 | .int k n,b,h=>by cases b<;>simp_all [zS]
 | .bool a,b,h=>by cases b<;>simp_all [zS]
 | .str a,b,h=>by
  cases b<;>simp only[zS,Bool.false_eq_true] at h;rename_i b;have:a.data.toList=b.data.toList:=by simpa using h
  have h2:a.data=b.data:=Array.toList_inj.1 this;have:a=b:=ByteArray.ext h2;rw[this]
 | .agg a,b,h=>by
  cases b<;>simp only[zS,Bool.false_eq_true] at h;rw[jP _ _ h]
 | .aA a n,b,h=>by
  cases b<;>simp only[zS,Bool.false_eq_true,Bool.and_eq_true,beq_iff_eq] at h;rw[jP _ _ h.2,h.1]
 | .aa,b,h=>by cases b<;>simp_all [zS]
 | .cG a,b,h=>by
  cases b<;>simp only[zS,Bool.false_eq_true] at h;rw[jP _ _ h]
 | .bL,b,h=>by cases b<;>simp_all [zS]
 | .fn f a,b,h=>by
  cases b<;>simp only[zS,Bool.false_eq_true,Bool.and_eq_true,beq_iff_eq] at h;rw[jP _ _ h.2,h.1]
 | .cA,b,h=>by cases b<;>simp_all [zS]
 | .iface f a,b,h=>by
  cases b<;>simp only[zS,Bool.false_eq_true,Bool.and_eq_true,beq_iff_eq] at h;rw[jP _ _ h.2,h.1]
 | .iter _ _ _,b,h=>by cases b<;>simp_all [zS]
 | .mp _ _,b,h=>by cases b<;>simp_all [zS]
 | .dS a,b,h=>by
  cases b<;>simp only[zS,Bool.false_eq_true] at h;rw[jP _ _ h]
 | .bl o f n,b,h=>by cases b<;>simp_all [zS]
 | .ax o f,b,h=>by cases b<;>simp_all [zS]
 | .any,b,h=>by cases b<;>simp_all [zS]
theorem jP:∀ (a b:List CV),sB a b=true→a=b
 | [],b,h=>by cases b<;>simp_all [sB]
 | x::r,b,h=>by
  cases b with
  | nil=>simp[sB] at h
  | cons y q=>
   simp only[sB,Bool.and_eq_true] at h;rw[ND x y h.1,jP r q h.2]
end
def oeq:Option Ob→Option Ob→Bool
 | some a,some b=>a.elem == b.elem && a.sz == b.sz && sB a.cells b.cells
 | none,none=>true
 | _,_=>false
theorem M0 {a b:Option Ob}(h:oeq a b=true):a=b:=by
 cases a<;>cases b<;>simp only[oeq,Bool.false_eq_true,Bool.and_eq_true,beq_iff_eq] at h
 ·rfl
 ·rename_i x y;obtain⟨⟨h1,h2⟩,h3⟩:=h;have h4:=jP _ _ h3;cases x;cases y;simp only at h1 h2 h4;subst h1;subst h2;subst h4;rfl
def kO (H H':List (Nat×Ob)):List (Nat×Ob)→List (Nat×Option Ob)→List (Nat×Option Ob)
 | [],l=>l
 | (o,_)::r,l=>if oeq (assoc H o) (assoc H' o) then kO H H' r l else (o,assoc H' o)::kO H H' r l
def sZ (H H':List (Nat×Ob)):List (Nat×Option Ob):=kO H H' H' (kO H H' H [])
theorem kR (H H':List (Nat×Ob)):∀ (l:List (Nat×Ob)) (m:List (Nat×Option Ob)) (p:Nat) (y:Option Ob),(∀ p y,assoc m p=some y→y=assoc H' p)→assoc (kO H H' l m) p=some y→y=assoc H' p
 | [],m,p,y,hm,h=>hm p y h
 | (o,_)::r,m,p,y,hm,h=>by
  simp only[kO] at h;split at h
  ·exact kR H H' r m p y hm h
  ·simp only[assoc] at h;split at h
   ·rename_i e;cases h;rw[e]
   ·exact kR H H' r m p y hm h
theorem mw (H H':List (Nat×Ob)):∀ (l:List (Nat×Ob)) (m:List (Nat×Option Ob)) (p:Nat),assoc (kO H H' l m) p=none→assoc m p=none∧(assoc l p=none∨assoc H p=assoc H' p)
 | [],m,p,h=>⟨h,.inl rfl⟩
 | (o,_)::r,m,p,h=>by
  simp only[kO] at h;split at h
  ·rename_i he;obtain⟨h1,h2⟩:=mw H H' r m p h;refine⟨h1,?_⟩;simp only[assoc];by_cases e:o=p
   ·subst e;exact .inr (M0 he)
   ·rw[if_neg e];exact h2
  ·simp only[assoc] at h;split at h
   ·cases h
   ·rename_i e;obtain⟨h1,h2⟩:=mw H H' r m p h;refine⟨h1,?_⟩;simp only[assoc];rw[if_neg e];exact h2
theorem IZ (H H':List (Nat×Ob))(p:Nat):kq (assoc H) (sZ H H') p=assoc H' p:=by
 unfold kq sZ
 cases h:assoc (kO H H' H' (kO H H' H [])) p with
 | some y=>
  simp only;exact kR H H' H' _ p y (fun q z hz=>kR H H' H [] q z (fun _ _ h=>by cases h) hz) h
 | none=>
  simp only;obtain⟨h1,h2⟩:=mw H H' H' _ p h;obtain⟨_,h3⟩:=mw H H' H [] p h1;rcases h2 with h2 | h2
  ·rcases h3 with h3 | h3
   ·rw[h2,h3]
   ·exact h3
  ·exact h2
theorem mA (H H':List (Nat×Ob)){p:Nat}{y:Option Ob}:∀ (l:List (Nat×Ob)) (m:List (Nat×Option Ob)),assoc l p=none→assoc m p=none→assoc (kO H H' l m) p=some y→False
 | [],m,_,hm,h=>by simp only[kO] at h;rw[hm] at h;cases h
 | (o,x)::r,m,hl,hm,h=>by
  simp only[assoc] at hl;split at hl
  ·cases hl
  ·rename_i e;simp only[kO] at h;split at h
   ·exact mA H H' r m hl hm h
   ·simp only[assoc] at h;rw[if_neg e] at h;exact mA H H' r m hl hm h
theorem CY {H H':List (Nat×Ob)}{p:Nat}{y:Option Ob}(h1:assoc H p=none)(h2:assoc H' p=none)(h:assoc (sZ H H') p=some y):False:=by
 unfold sZ at h;refine mA H H' H' _ h2 ?_ h
 cases hc:assoc (kO H H' H []) p with
 | none=>rfl
 | some z=>exact (mA H H' H [] h1 rfl hc).elim
def eI (cs:List CV):List Nat:=cs.flatMap fun c=>match c with
 | .agg ds=>ds.flatMap ll
 | c=>ll c
def Gu (lo hi:Nat)(bk:List Nat)(o:Nat):Bool:=decide (o<lo) || decide (hi≤o) || bk.contains o
def rL (lo hi:Nat)(bk:List Nat):List (Nat×Ob)→List (Nat×Ob)
 | []=>[]
 | (o,x)::r=>if Gu lo hi bk o then (o,x)::rL lo hi bk r else rL lo hi bk r
def CG (lo hi:Nat)(bk:List Nat):List (Nat×Ob)→List (Nat×Ob)
 | []=>[]
 | (o,x)::r=>if Gu lo hi bk o then CG lo hi bk r else (o,x)::CG lo hi bk r
theorem mI (lo hi:Nat)(bk:List Nat):∀ (H:List (Nat×Ob)) (p:Nat),assoc (rL lo hi bk H) p=if Gu lo hi bk p then assoc H p else none
 | [],p=>by simp[rL,assoc]
 | (o,x)::r,p=>by
  simp only[rL];by_cases e:o=p
  ·subst e;by_cases h:Gu lo hi bk o=true
   ·simp[h,assoc]
   ·rw[if_neg h,mI lo hi bk r o];simp[h]
  ·split
   ·simp only[assoc];rw[if_neg e,if_neg e];exact mI lo hi bk r p
   ·simp only[assoc];rw[if_neg e];exact mI lo hi bk r p
theorem fO (lo hi:Nat)(bk:List Nat):∀ (H:List (Nat×Ob)) (p:Nat),assoc (CG lo hi bk H) p=if Gu lo hi bk p then none else assoc H p
 | [],p=>by simp[CG,assoc]
 | (o,x)::r,p=>by
  simp only[CG];by_cases e:o=p
  ·subst e;by_cases h:Gu lo hi bk o=true
   ·rw[if_pos h,fO lo hi bk r o];simp[h]
   ·simp[h,assoc]
  ·split
   ·simp only[assoc];rw[if_neg e];exact fO lo hi bk r p
   ·simp only[assoc];rw[if_neg e,if_neg e];exact fO lo hi bk r p
theorem fZ {α:Type}:∀ (l m:List (Nat×α)) (p:Nat),assoc (l++m) p=match assoc l p with
  | some y=>some y
  | none=>assoc m p
 | [],_,_=>rfl
 | (o,x)::r,m,p=>by
  simp only[List.cons_append,assoc];by_cases e:o=p
  ·rw[if_pos e,if_pos e]
  ·rw[if_neg e,if_neg e];exact fZ r m p
def EA (ak:List (Nat×TI))(s:St):Op→Option (CV×List Nat)
 | .convert t u x=>match qQ ak s t u x with
  | some c=>some (c,match ev s x with | some v=>ll v | none=>[])
  | none=>none
 | _=>none
def sw (ak:List (Nat×TI))(mt:jv)(ops:Array Oper)(call:gv)(pc:FuncId→List CV→Option CV)(lo hi m:Nat)(s:St)(o:Oper):Option (Ef×List Nat×Bool×Option (Nat×Nat)):=
 match bZ ops s o with
 | none=>none
 | some false=>some (⟨some (.dS []),[],0⟩,[],false,none)
 | some true=>match ck o with
  | some c=>match iN mt s c with
   | some (g,cs)=>match (if trees cs then pc g cs else none) with
    | some r=>some (⟨some r,[],0⟩,[],false,none)
    | none=>match call g cs (rL lo hi (eI cs) s.heap) s.nx with
     | some (x,H,n)=>if s.nx≤n∧(H.all fun y=>Gu lo hi (eI cs) y.1)=true then some (⟨some x,sZ (rL lo hi (eI cs) s.heap) H,n-s.nx⟩,eI cs,true,some (lo,hi)) else none
     | none=>none
   | none=>none
  | none=>match cY ak s o.op with
   | some c=>some (⟨some c,[],0⟩,HF s o.op,false,none)
   | none=>match EA ak s o.op with
    | some (c,rs)=>some (⟨some c,[],0⟩,rs,false,none)
    | none=>match qU ak s o.op with
    | some (ob,f)=>some (⟨some (f m),[(m,some ob)],0⟩,[],false,none)
    | none=>match o.op with
     | .store t x v=>match Nx ak s t x v with
      | some (p,ob)=>some (⟨none,[(p,some ob)],0⟩,[p],false,none)
      | none=>none
     | .call cl=>match cl.callee,cl.args.toList,cl.argTypes.toList with
      | .builtin .append,[x,y],[t,t']=>if t=t' then match ev s x,ev s y with
        | some p,some q=>match qX ak t p (AQ s p) (cells? s q) with
         | some (ob,k,rm)=>some (⟨some (.bl s.nx 0 k),(s.nx,some ob)::rmL rm,1⟩,ll p++ll q,true,none)
         | none=>none
        | _,_=>none
       else none
      | _,_,_=>none
     | _=>none
section
variable {P:Program}{C:Cx}{σ:Nat→Option OB}{s:St}{a:Act}{w:World}{ops:Array Oper}{ak:List (Nat×TI)}{mt:jv}{pc:FuncId→List CV→Option CV}
theorem aM.I9 (h:aM C σ s a w){s':St}(he:fs s'=fs s):aM C σ s' a w:=by
 unfold fs at he;simp only[FS.mk.injEq] at he;obtain⟨h1,h2,h3⟩:=he;have Um:FB C σ s'.heap=FB C σ s.heap:=by
  unfold FB;rw[h2]
 refine⟨h.nk,h.tm,h.os,h.tape,h.output,h.size,h.frame,?_,?_,?_,?_,h.fh,by rw[h3];exact h.low,h.new⟩
 ·intro t c hc;rw[h1] at hc;rw[Um];exact h.env t c hc
 ·intro o ob ho;rw[h2] at ho;have:=h.obj o ob ho;unfold ObR at this ⊢;rw[Um];exact this
 ·intro o o' ob Pk b ho Py;rw[h2] at ho Py;exact h.inj o o' ob Pk b ho Py
 ·intro o ho;rw[h3] at ho;exact h.nx o ho
theorem mL (h:aM C σ s a w){m:Nat}(hm:σ m=none)(RR:C.n0≤m)(Rj:m<s.nx){e:TypeId}{sz:Nat}{cs:List CV}{us:Array Value}(hr:aS w (FB C σ s.heap) σ cs us.toList)(h1:cs.all one=true) :
  aM C (sig σ m ⟨some w.heap.size,us.size,sz⟩) { s with heap:=(m,⟨e,sz,cs⟩)::s.heap } a (w.alloc (.cells us e)):=by
 have hl:=aS.length _ _ hr;refine (h.Ej hm RR Rj (Nat.le_refl _) (nY _) (ob:=⟨e,sz,cs⟩) (B:=⟨some w.heap.size,us.size,sz⟩) rfl h1 OU fun b hb=>?_).1;simp only[Option.some.injEq] at hb;subst hb;exact⟨Nat.le_refl _,us,heap_alloc_new w _,rfl,by simp only;simp at hl;omega,by simp only;rw[← hl,List.take_of_length_le (Nat.le_refl _)];exact hr⟩
theorem FG (ht:aG P ak)(h:aM C σ s a w){m:Nat}(hm:σ m=none)(RR:C.n0≤m)(Rj:m<s.nx){o:Oper}(hd:∀ t,o.dst=some t→t<a.tmps.size){ob:Ob}{f:Nat→CV}(hv:qU ak s o.op=some (ob,f)) :
  ∃ z w' B,(execOp a.eval o).run P w=.ok (.value z) w'∧aM C (sig σ m B) (St.put { s with heap:=(m,ob)::s.heap } o.dst (f m)) (a.put o.dst z) w':=by
 cases ho:o.op<;>rw[ho] at hv<;>simp only[qU,ov] at hv<;>first | cases hv | skip
 case alloc e=>
  split at hv
  ·rename_i ie O6;cases hv;obtain⟨fi,z,g1,_,_,g4,g5⟩:=(ht e ie O6).info;obtain⟨k1,k2⟩:=cW (w:=w) (F:=FB C σ s.heap) _ _ g5;have P1:=mL h hm RR Rj (e:=e) (sz:=0) (aS.cz _ _ k1) k2;refine⟨.pointer (some ⟨w.heap.size,0,none⟩),_,_,?_,P1.put hd ?_⟩
   ·simp[execOp,ho,Instr.alloc,jj g1 g4,newVar,newRow]
   ·simp only[VR];exact⟨_,_,dv,rfl,rfl⟩
  ·cases hv
 case box e x=>
  split at hv
  ·rename_i c hx;split at hv
   ·cases hv
   ·rename_i RO;cases hv;obtain⟨f1,f2⟩:=VR.flat c _ (fun cs e=>by subst e;simp[dP] at RO) (fun k s p e=>by subst e;simp[dP] at RO) (bK h hx);have P1:=mL h hm RR Rj (e:=e) (sz:=0) f1 f2;refine⟨.pointer (some ⟨w.heap.size,0,none⟩),_,_,?_,P1.put hd ?_⟩
    ·simp[execOp,ho,Instr.box,newVar,newRow]
    ·simp only[VR];exact⟨_,_,dv,rfl,rfl⟩
  ·cases hv
 case buildSlice t len parts=>
  split at hv
  ·rename_i e PB;obtain⟨it,PG,PB⟩:=Option.map_eq_some_iff.1 PB;split at hv
   ·rename_i ie cs O6 PE;split at hv
    ·rename_i hb;obtain⟨out,SC,hv⟩:=Option.map_eq_some_iff.1 hv;cases hv;obtain⟨fi,z,g1,g2,g3,g4,g5⟩:=(ht e ie O6).info;obtain⟨k1,k2⟩:=cW (w:=w) (F:=FB C σ s.heap) _ _ g5;have O9:z.cells.size=ie.size:=by rw[← (ht e ie O6).len,← bW.length _ _ k1];simp
     have hz:=lG (σ:=σ) (aS.cz _ _ k1) len;obtain⟨l1,l2⟩:=l6 h _ _ PE;obtain⟨us,m1,m2,m3⟩:=oc _ cs (parts.toList.map fun p=>(p.1,a.eval p.2)) _ out (madeCells z.cells (len*z.cells.size)) (by simpa using l1) l2 hz (jT k2 len) SC;have P1:=mL h hm RR Rj (e:=e) (sz:=ie.size) m2 m3;have Ux:us.size=len*ie.size:=by
      have:=aS.length _ _ m2;rw[mD _ _ _ _ SC,fv,(ht e ie O6).len] at this
      simpa using this
     have hp:(parts.map fun (x:Nat×Operand)=>(x.1,a.eval x.2)).toList=parts.toList.map fun (p:Nat×Operand)=>(p.1,a.eval p.2):=by simp
     rw[O9] at m1;refine⟨.slice (some ⟨w.heap.size,0,none⟩) len len,_,_,?_,P1.put hd ?_⟩
     ·simp only[execOp,ho,Instr.buildSlice,Sem.run_bind,bu (dJ (ht t it PG) PB),Result.andThen_ok,cP g1,g2,hp];rw[if_neg (by have:=hb.1;omega)];by_cases h0:len*ie.size=0
      ·have e0:madeCells z.cells 0=#[]:=by simp[madeCells]
       have e2:(Array.range 0).map (fun _=>(default:Value))=#[]:=by simp[Array.range_zero']
       rw[h0,e0] at m1;simp[h0,e2,m1,newRow]
      ·have e1:(Array.range (len*ie.size)).map (fun x=>z.cells[x % z.cells.size]!)=madeCells z.cells (len*ie.size):=rfl;simp[h0,jj g1 g4,e1,m1,newRow]
     ·simp only[VR];exact⟨_,dv,len,rfl,Nat.le_refl _,by have:=hb.2;simp only[maxLen];omega,by simp[Ux],fun _=>Ux.symm⟩
    ·cases hv
   ·cases hv
  ·cases hv
 case makeSlice t l c=>
  split at hv
  ·rename_i e k n k' m' PB hl Q8;obtain⟨it,PG,PB⟩:=Option.map_eq_some_iff.1 PB;split at hv
   ·rename_i ie O6;split at hv
    ·rename_i hb;obtain⟨rfl,h0,U6,Wx⟩:=hb;cases hv;obtain⟨fi,z,g1,g2,g3,g4,g5⟩:=(ht e ie O6).info;obtain⟨k1,k2⟩:=cW (w:=w) (F:=FB C σ s.heap) _ _ g5;have kl:=bK h hl;have kc:=bK h Q8;simp only[VR] at kl kc;have O9:fi.size=z.cells.size:=by rw[g2,← (ht e ie O6).len,← bW.length _ _ k1];simp
     have hz:=lG (σ:=σ) (aS.cz _ _ k1) n.toNat;have hr:=run_make (P:=P) w t e fi z (dJ (ht t it PG) PB) g1 g4 k k' n n h0 (Int.le_refl _) (by rw[g3];exact U6) Wx;have P1:=mL h hm RR Rj (e:=e) (sz:=ie.size) hz (jT k2 n.toNat);have YN:z.cells.size=ie.size:=by rw[← O9,g2]
     rw[O9] at hr;refine⟨.slice (some ⟨w.heap.size,0,none⟩) n.toNat n.toNat,_,_,by simp only[execOp,ho,kl,kc,Sem.run_bind,hr,Result.andThen_ok,Sem.run_pure],P1.put hd ?_⟩;simp only[VR];refine⟨_,dv,n.toNat,rfl,Nat.le_refl _,by simp only[maxLen];omega,?_,fun _=>?_⟩
     ·simp[size_madeCells,YN]
     ·simp[size_madeCells,YN]
    ·cases hv
   ·cases hv
  ·cases hv
end
end Go.Can
