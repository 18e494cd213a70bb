/- The operations of a region that draws, as effects: what each -/
import Derived.Test.YtmnglemlimfpbaaGreatZ11
namespace Go.Can
open Go.RowKit
def fs (s:St):FS:=⟨assoc s.env,assoc s.heap,s.nx⟩
def pP:List (Nat×Option Ob)→List (Nat×Ob)→List (Nat×Ob)
 | [],H=>H
 | (o,some x)::r,H=>(o,x)::jy (pP r H) o
 | (o,none)::r,H=>jy (pP r H) o
theorem mK (H:List (Nat×Ob)):∀ (w:List (Nat×Option Ob)) (p:Nat),assoc (pP w H) p=ku (assoc H) w p
 | [],p=>rfl
 | (o,some x)::r,p=>by
  simp only[pP,assoc,ku]
  by_cases e:o=p
  ·rw[if_pos e,if_pos e]
  ·rw[if_neg e,if_neg e,eZ,if_neg e,mK H r p,ku]
 | (o,none)::r,p=>by
  simp only[pP,assoc,ku]
  rw[eZ]
  by_cases e:o=p
  ·rw[if_pos e,if_pos e]
  ·rw[if_neg e,if_neg e,mK H r p,ku]
def Lu (d:Option Tmp)(E:Ef)(s:St):St:=eX ⟨s.env,pP E.w s.heap,s.nx+E.k⟩ d E.r
theorem yJ (d:Option Tmp)(E:Ef)(s:St):fs (Lu d E s)=ap d E (fs s):=by
 unfold fs Lu ap
 congr 1
 ·funext t;exact cj t
 ·funext p;rw[dh.1];exact mK s.heap E.w p
 ·rw[dh.2]
theorem rz (s:St)(d:Option Tmp)(c:CV):fs (s.put d c)=ap d ⟨some c,[],0⟩ (fs s):=yJ d ⟨some c,[],0⟩ s
def lj:CV→List Nat
 | .bx o _ _=>[o]
 | .aw o _=>[o]
 | _=>[]
theorem sY {o:Nat}{c:CV}(h:names o c=true):o∈lj c:=by
 cases c<;>simp_all [names,lj]
def Ij (s:St)(op:Op):List Nat:=op.operands.toList.flatMap fun x=>match ev s x with
 | some v=>lj v
 | none=>[]
theorem CY {s:St}{op:Op}{x:Operand}{v:CV}{o:Nat}(hx:x∈op.operands)(hv:ev s x=some v)(hn:names o v=true):o∈Ij s op:=by
 unfold Ij
 refine List.mem_flatMap.2 ⟨x,by simpa using hx,?_⟩
 rw[hv]
 exact sY hn
def FQ (s:St)(op:Op):List Nat:=match op with
 | .load _ _=>Ij s op
 | .slice _ _ _ _ _=>Ij s op
 | _=>[]
def qD (aq:List (Nat×TI))(s:St):Op→Option (Ob×(Nat→CV))
 | .alloc e=>match assoc aq e with
  | some ie=>some (⟨e,0,ie.zero⟩,fun m=>.aw m 0)
  | none=>none
 | .makeSlice t l c=>match dz aq t,ev s l,ev s c with
  | some (.sl e),some (.int _ n),some (.int _ m)=>match assoc aq e with
   | some ie=>if n=m∧0≤n∧(ie.bytes:Int)*n≤281474976710656∧n≤9223372036854775807 then some (⟨e,ie.size,aI ie.zero n.toNat⟩,fun m=>.bx m 0 n.toNat) else none
   | none=>none
  | _,_,_=>none
 | op=>oc aq s op
def Lg (aq:List (Nat×TI))(s:St)(t:TypeId)(x v:Operand):Option (Nat×Ob):=
 match ev s x,ev s v,assoc aq t with
 | some (.aw p off),some c,some i=>match assoc s.heap p with
  | none=>none
  | some ob=>if dV c then none else if c.cells.length=i.size∧off+c.cells.length≤ob.cells.length then some (p,{ ob with cells:=eO ob.cells off c.cells }) else none
 | _,_,_=>none
def zW (s:St):CV→Option Ob
 | .bx o _ _=>assoc s.heap o
 | _=>none
def qH (aq:List (Nat×TI))(t:TypeId)(p:CV)(obp:Option Ob)(src:Option (List CV×Nat)):Option (Ob×Nat×Option Nat):=
 match dz aq t with
 | some (.sl e)=>match assoc aq e,src with
  | some ie,some (news,m)=>if 0<ie.size∧0<ie.bytes∧news.length=m*ie.size then
    match p with
    | .ah=>if m*ie.bytes≤140737488355328 then some (⟨e,ie.size,news⟩,m,none) else none
    | .bx o off n=>match obp with
     | none=>none
     | some ob=>if off=0∧ob.elem=e∧ob.sz=ie.size∧n*ie.size=ob.cells.length∧(n+m)*ie.bytes≤140737488355328 then some ({ ob with cells:=ob.cells++news },n+m,some o) else none
    | _=>none
   else none
  | _,_=>none
 | _=>none
def rmL:Option Nat→List (Nat×Option Ob)
 | some o=>[(o,none)]
 | none=>[]
def I5 (H:List (Nat×Ob)):Option Nat→List (Nat×Ob)
 | some o=>jy H o
 | none=>H
theorem Cp {aq:List (Nat×TI)}{s:St}{d:Option Tmp}{t:TypeId}{x y:Operand}{p q:CV}{ob:Ob}{k:Nat}{rm:Option Nat}(hx:ev s x=some p)(hy:ev s y=some q)(h:qH aq t p (zW s p) (cells? s q)=some (ob,k,rm)) :
  oG aq s d t x y=some (St.put { env:=s.env,heap:=(s.nx,ob)::I5 s.heap rm,nx:=s.nx+1 } d (.bx s.nx 0 k)):=by
 unfold qH at h
 unfold oG
 split at h
 ·rename_i e ht
  split at h
  ·rename_i ie news m h1 h2
   split at h
   ·rename_i hc
    split at h
    ·split at h
     ·rename_i hb
      cases h
      simp only[ht,hx,hy,h1,h2]
      rw[if_pos hc,if_pos hb]
      rfl
     ·cases h
    ·rename_i o off n
     split at h
     ·cases h
     ·rename_i ob' hob
      split at h
      ·rename_i hb
       cases h
       simp only[zW] at hob
       simp only[ht,hx,hy,h1,h2]
       rw[if_pos hc]
       simp only[hob]
       rw[if_pos hb]
       rfl
      ·cases h
    ·cases h
   ·cases h
  ·cases h
 ·cases h
mutual
def yW:CV→CV→Bool
 | .int k n,.int k' n'=>decide (k=k') && n == n'
 | .bool a,.bool b=>a == b
 | .str a,.str b=>a.data.toList == b.data.toList
 | .agg a,.agg b=>rI a b
 | .av a n,.av b m=>n == m && rI a b
 | .ah,.ah=>true
 | .cM a,.cM b=>rI a b
 | .bm,.bm=>true
 | .fn f a,.fn g b=>f == g && rI a b
 | .cw,.cw=>true
 | .iface f a,.iface g b=>f == g && rI a b
 | .cr a,.cr b=>rI a b
 | .bx o f n,.bx p g m=>o == p && f == g && n == m
 | .aw o f,.aw p g=>o == p && f == g
 | .any,.any=>true
 | _,_=>false
def rI:List CV→List CV→Bool
 | [],[]=>true
 | a::r,b::q=>yW a b && rI r q
 | _,_=>false
end
mutual
theorem Ll:∀ (a b:CV),yW a b=true→a=b
 | .int k n,b,h=>by cases b<;>simp_all [yW]
 | .bool a,b,h=>by cases b<;>simp_all [yW]
 | .str a,b,h=>by
  cases b<;>simp only[yW,Bool.false_eq_true] at h
  rename_i b
  have:a.data.toList=b.data.toList:=by simpa using h
  have h2:a.data=b.data:=Array.toList_inj.1 this
  have:a=b:=ByteArray.ext h2
  rw[this]
 | .agg a,b,h=>by
  cases b<;>simp only[yW,Bool.false_eq_true] at h
  rw[jM _ _ h]
 | .av a n,b,h=>by
  cases b<;>simp only[yW,Bool.false_eq_true,Bool.and_eq_true,beq_iff_eq] at h
  rw[jM _ _ h.2,h.1]
 | .ah,b,h=>by cases b<;>simp_all [yW]
 | .cM a,b,h=>by
  cases b<;>simp only[yW,Bool.false_eq_true] at h
  rw[jM _ _ h]
 | .bm,b,h=>by cases b<;>simp_all [yW]
 | .fn f a,b,h=>by
  cases b<;>simp only[yW,Bool.false_eq_true,Bool.and_eq_true,beq_iff_eq] at h
  rw[jM _ _ h.2,h.1]
 | .cw,b,h=>by cases b<;>simp_all [yW]
 | .iface f a,b,h=>by
  cases b<;>simp only[yW,Bool.false_eq_true,Bool.and_eq_true,beq_iff_eq] at h
  rw[jM _ _ h.2,h.1]
 | .iter _ _ _,b,h=>by cases b<;>simp_all [yW]
 | .mp _ _,b,h=>by cases b<;>simp_all [yW]
 | .cr a,b,h=>by
  cases b<;>simp only[yW,Bool.false_eq_true] at h
  rw[jM _ _ h]
 | .bx o f n,b,h=>by cases b<;>simp_all [yW]
 | .aw o f,b,h=>by cases b<;>simp_all [yW]
 | .any,b,h=>by cases b<;>simp_all [yW]
theorem jM:∀ (a b:List CV),rI a b=true→a=b
 | [],b,h=>by cases b<;>simp_all [rI]
 | x::r,b,h=>by
  cases b with
  | nil=>simp[rI] at h
  | cons y q=>
   simp only[rI,Bool.and_eq_true] at h
   rw[Ll x y h.1,jM r q h.2]
end
def oeq:Option Ob→Option Ob→Bool
 | some a,some b=>a.elem == b.elem && a.sz == b.sz && rI a.cells b.cells
 | none,none=>true
 | _,_=>false
theorem KK {a b:Option Ob}(h:oeq a b=true):a=b:=by
 cases a<;>cases b<;>simp only[oeq,Bool.false_eq_true,Bool.and_eq_true,beq_iff_eq] at h
 ·rfl
 ·rename_i x y
  obtain⟨⟨h1,h2⟩,h3⟩:=h
  have h4:=jM _ _ h3
  cases x;cases y
  simp only at h1 h2 h4
  subst h1;subst h2;subst h4
  rfl
def kQ (H H':List (Nat×Ob)):List (Nat×Ob)→List (Nat×Option Ob)→List (Nat×Option Ob)
 | [],l=>l
 | (o,_)::r,l=>if oeq (assoc H o) (assoc H' o) then kQ H H' r l else (o,assoc H' o)::kQ H H' r l
def sq (H H':List (Nat×Ob)):List (Nat×Option Ob):=kQ H H' H' (kQ H H' H [])
theorem kS (H H':List (Nat×Ob)):∀ (l:List (Nat×Ob)) (m:List (Nat×Option Ob)) (p:Nat) (y:Option Ob),(∀ p y,assoc m p=some y→y=assoc H' p)→assoc (kQ H H' l m) p=some y→y=assoc H' p
 | [],m,p,y,hm,h=>hm p y h
 | (o,_)::r,m,p,y,hm,h=>by
  simp only[kQ] at h
  split at h
  ·exact kS H H' r m p y hm h
  ·simp only[assoc] at h
   split at h
   ·rename_i e;cases h;rw[e]
   ·exact kS H H' r m p y hm h
theorem mB (H H':List (Nat×Ob)):∀ (l:List (Nat×Ob)) (m:List (Nat×Option Ob)) (p:Nat),assoc (kQ H H' l m) p=none→assoc m p=none∧(assoc l p=none∨assoc H p=assoc H' p)
 | [],m,p,h=>⟨h,.inl rfl⟩
 | (o,_)::r,m,p,h=>by
  simp only[kQ] at h
  split at h
  ·rename_i he
   obtain⟨h1,h2⟩:=mB H H' r m p h
   refine⟨h1,?_⟩
   simp only[assoc]
   by_cases e:o=p
   ·subst e;exact .inr (KK he)
   ·rw[if_neg e];exact h2
  ·simp only[assoc] at h
   split at h
   ·cases h
   ·rename_i e
    obtain⟨h1,h2⟩:=mB H H' r m p h
    refine⟨h1,?_⟩
    simp only[assoc]
    rw[if_neg e];exact h2
theorem G5 (H H':List (Nat×Ob))(p:Nat):ku (assoc H) (sq H H') p=assoc H' p:=by
 unfold ku sq
 cases h:assoc (kQ H H' H' (kQ H H' H [])) p with
 | some y=>
  simp only
  exact kS H H' H' _ p y (fun q z hz=>kS H H' H [] q z (fun _ _ h=>by cases h) hz) h
 | none=>
  simp only
  obtain⟨h1,h2⟩:=mB H H' H' _ p h
  obtain⟨_,h3⟩:=mB H H' H [] p h1
  rcases h2 with h2 | h2
  ·rcases h3 with h3 | h3
   ·rw[h2,h3]
   ·exact h3
  ·exact h2
theorem mC (H H':List (Nat×Ob)){p:Nat}{y:Option Ob}:∀ (l:List (Nat×Ob)) (m:List (Nat×Option Ob)),assoc l p=none→assoc m p=none→assoc (kQ H H' l m) p=some y→False
 | [],m,_,hm,h=>by simp only[kQ] at h;rw[hm] at h;cases h
 | (o,x)::r,m,hl,hm,h=>by
  simp only[assoc] at hl
  split at hl
  ·cases hl
  ·rename_i e
   simp only[kQ] at h
   split at h
   ·exact mC H H' r m hl hm h
   ·simp only[assoc] at h
    rw[if_neg e] at h
    exact mC H H' r m hl hm h
theorem Ca {H H':List (Nat×Ob)}{p:Nat}{y:Option Ob}(h1:assoc H p=none)(h2:assoc H' p=none)(h:assoc (sq H H') p=some y):False:=by
 unfold sq at h
 refine mC H H' H' _ h2 ?_ h
 cases hc:assoc (kQ H H' H []) p with
 | none=>rfl
 | some z=>exact (mC H H' H [] h1 rfl hc).elim
def eI (cs:List CV):List Nat:=cs.flatMap fun c=>match c with
 | .agg ds=>ds.flatMap lj
 | c=>lj c
def ES (lo hi:Nat)(bp:List Nat)(o:Nat):Bool:=decide (o<lo) || decide (hi≤o) || bp.contains o
def qV (lo hi:Nat)(bp:List Nat):List (Nat×Ob)→List (Nat×Ob)
 | []=>[]
 | (o,x)::r=>if ES lo hi bp o then (o,x)::qV lo hi bp r else qV lo hi bp r
def BT (lo hi:Nat)(bp:List Nat):List (Nat×Ob)→List (Nat×Ob)
 | []=>[]
 | (o,x)::r=>if ES lo hi bp o then BT lo hi bp r else (o,x)::BT lo hi bp r
theorem mJ (lo hi:Nat)(bp:List Nat):∀ (H:List (Nat×Ob)) (p:Nat),assoc (qV lo hi bp H) p=if ES lo hi bp p then assoc H p else none
 | [],p=>by simp[qV,assoc]
 | (o,x)::r,p=>by
  simp only[qV]
  by_cases e:o=p
  ·subst e
   by_cases h:ES lo hi bp o=true
   ·simp[h,assoc]
   ·rw[if_neg h,mJ lo hi bp r o]
    simp[h]
  ·split
   ·simp only[assoc];rw[if_neg e,if_neg e];exact mJ lo hi bp r p
   ·simp only[assoc];rw[if_neg e];exact mJ lo hi bp r p
theorem fK (lo hi:Nat)(bp:List Nat):∀ (H:List (Nat×Ob)) (p:Nat),assoc (BT lo hi bp H) p=if ES lo hi bp p then none else assoc H p
 | [],p=>by simp[BT,assoc]
 | (o,x)::r,p=>by
  simp only[BT]
  by_cases e:o=p
  ·subst e
   by_cases h:ES lo hi bp o=true
   ·rw[if_pos h,fK lo hi bp r o]
    simp[h]
   ·simp[h,assoc]
  ·split
   ·simp only[assoc];rw[if_neg e];exact fK lo hi bp r p
   ·simp only[assoc];rw[if_neg e,if_neg e];exact fK lo hi bp r p
theorem fT {α:Type}:∀ (l m:List (Nat×α)) (p:Nat),assoc (l++m) p=match assoc l p with
  | some y=>some y
  | none=>assoc m p
 | [],_,_=>rfl
 | (o,x)::r,m,p=>by
  simp only[List.cons_append,assoc]
  by_cases e:o=p
  ·rw[if_pos e,if_pos e]
  ·rw[if_neg e,if_neg e];exact fT r m p
def Dj (aq:List (Nat×TI))(s:St):Op→Option (CV×List Nat)
 | .convert t u x=>match qC aq s t u x with
  | some c=>some (c,match ev s x with | some v=>lj v | none=>[])
  | none=>none
 | _=>none
def rD (aq:List (Nat×TI))(mt:kq)(ops:Array Oper)(call:gf)(pc:FuncId→List CV→Option CV)(lo hi m:Nat)(s:St)(o:Oper):Option (Ef×List Nat×Bool×Option (Nat×Nat)):=
 match bU ops s o with
 | none=>none
 | some false=>some (⟨some (.cr []),[],0⟩,[],false,none)
 | some true=>match cg o with
  | some c=>match jz mt s c with
   | some (g,cs)=>match (if trees cs then pc g cs else none) with
    | some r=>some (⟨some r,[],0⟩,[],false,none)
    | none=>match call g cs (qV lo hi (eI cs) s.heap) s.nx with
     | some (x,H,n)=>if s.nx≤n∧(H.all fun y=>ES lo hi (eI cs) y.1)=true then some (⟨some x,sq (qV lo hi (eI cs) s.heap) H,n-s.nx⟩,eI cs,true,some (lo,hi)) else none
     | none=>none
   | none=>none
  | none=>match da aq s o.op with
   | some c=>some (⟨some c,[],0⟩,FQ s o.op,false,none)
   | none=>match Dj aq s o.op with
    | some (c,rs)=>some (⟨some c,[],0⟩,rs,false,none)
    | none=>match qD aq s o.op with
    | some (ob,f)=>some (⟨some (f m),[(m,some ob)],0⟩,[],false,none)
    | none=>match o.op with
     | .store t x v=>match Lg aq s t x v with
      | some (p,ob)=>some (⟨none,[(p,some ob)],0⟩,[p],false,none)
      | none=>none
     | .call cl=>match cl.callee,cl.args.toList,cl.argTypes.toList with
      | .builtin .append,[x,y],[t,t']=>if t=t' then match ev s x,ev s y with
        | some p,some q=>match qH aq t p (zW s p) (cells? s q) with
         | some (ob,k,rm)=>some (⟨some (.bx s.nx 0 k),(s.nx,some ob)::rmL rm,1⟩,lj p++lj q,true,none)
         | none=>none
        | _,_=>none
       else none
      | _,_,_=>none
     | _=>none
section
variable {P:Program}{C:Cx}{σ:Nat→Option OB}{s:St}{a:Act}{w:World}{ops:Array Oper}{aq:List (Nat×TI)}{mt:kq}{pc:FuncId→List CV→Option CV}
theorem aG.He (h:aG C σ s a w){s':St}(he:fs s'=fs s):aG C σ s' a w:=by
 unfold fs at he
 simp only[FS.mk.injEq] at he
 obtain⟨h1,h2,h3⟩:=he
 have hFB:FB C σ s'.heap=FB C σ s.heap:=by
  unfold FB
  rw[h2]
 refine⟨h.nq,h.tm,h.os,h.tape,h.output,h.size,h.frame,?_,?_,?_,?_,h.fj,by rw[h3];exact h.low,h.new⟩
 ·intro t c hc
  rw[h1] at hc
  rw[hFB]
  exact h.env t c hc
 ·intro o ob ho
  rw[h2] at ho
  have:=h.obj o ob ho
  unfold ObR at this ⊢
  rw[hFB]
  exact this
 ·intro o o' ob ob' b ho ho'
  rw[h2] at ho ho'
  exact h.inj o o' ob ob' b ho ho'
 ·intro o ho
  rw[h3] at ho
  exact h.nx o ho
theorem mM (h:aG C σ s a w){m:Nat}(hm:σ m=none)(hm0:C.n0≤m)(hmx:m<s.nx){e:TypeId}{sz:Nat}{cs:List CV}{us:Array Value}(hr:aS w (FB C σ s.heap) σ cs us.toList)(h1:cs.all one=true) :
  aG C (sig σ m ⟨some w.heap.size,us.size,sz⟩) { s with heap:=(m,⟨e,sz,cs⟩)::s.heap } a (w.alloc (.cells us e)):=by
 have hl:=aS.length _ _ hr
 refine (h.C9 hm hm0 hmx (Nat.le_refl _) (nS _) (ob:=⟨e,sz,cs⟩) (B:=⟨some w.heap.size,us.size,sz⟩) rfl h1 yAa fun b hb=>?_).1
 simp only[Option.some.injEq] at hb
 subst hb
 exact⟨Nat.le_refl _,us,heap_alloc_new w _,rfl,by simp only;simp at hl;omega,by simp only;rw[← hl,List.take_of_length_le (Nat.le_refl _)];exact hr⟩
theorem D8 (ht:ay P aq)(h:aG C σ s a w){m:Nat}(hm:σ m=none)(hm0:C.n0≤m)(hmx:m<s.nx){o:Oper}(hd:∀ t,o.dst=some t→t<a.tmps.size){ob:Ob}{f:Nat→CV}(hv:qD aq s o.op=some (ob,f)) :
  ∃ z w' B,(execOp a.eval o).run P w=.ok (.value z) w'∧aG C (sig σ m B) (St.put { s with heap:=(m,ob)::s.heap } o.dst (f m)) (a.put o.dst z) w':=by
 cases ho:o.op<;>rw[ho] at hv<;>simp only[qD,oc] at hv<;>first | cases hv | skip
 case alloc e=>
  split at hv
  ·rename_i ie hie
   cases hv
   obtain⟨fi,z,g1,_,_,g4,g5⟩:=(ht e ie hie).info
   obtain⟨k1,k2⟩:=cY (w:=w) (F:=FB C σ s.heap) _ _ g5
   have hnew:=mM h hm hm0 hmx (e:=e) (sz:=0) (aS.cu _ _ k1) k2
   refine⟨.pointer (some ⟨w.heap.size,0,none⟩),_,_,?_,hnew.put hd ?_⟩
   ·simp[execOp,ho,Instr.alloc,g7 g1 g4,newVar,newRow]
   ·simp only[VR];exact⟨_,_,dw,rfl,rfl⟩
  ·cases hv
 case box e x=>
  split at hv
  ·rename_i c hx
   split at hv
   ·cases hv
   ·rename_i htup
    cases hv
    obtain⟨f1,f2⟩:=VR.flat c _ (fun cs e=>by subst e;simp[dV] at htup) (fun k s p e=>by subst e;simp[dV] at htup) (bz h hx)
    have hnew:=mM h hm hm0 hmx (e:=e) (sz:=0) f1 f2
    refine⟨.pointer (some ⟨w.heap.size,0,none⟩),_,_,?_,hnew.put hd ?_⟩
    ·simp[execOp,ho,Instr.box,newVar,newRow]
    ·simp only[VR];exact⟨_,_,dw,rfl,rfl⟩
  ·cases hv
 case buildSlice t len parts=>
  split at hv
  ·rename_i e hd'
   obtain⟨it,hit,hd'⟩:=Option.map_eq_some_iff.1 hd'
   split at hv
   ·rename_i ie cs hie hcs
    split at hv
    ·rename_i hb
     obtain⟨out,hout,hv⟩:=Option.map_eq_some_iff.1 hv
     cases hv
     obtain⟨fi,z,g1,g2,g3,g4,g5⟩:=(ht e ie hie).info
     obtain⟨k1,k2⟩:=cY (w:=w) (F:=FB C σ s.heap) _ _ g5
     have hsz:z.cells.size=ie.size:=by rw[← (ht e ie hie).len,← bJ.length _ _ k1];simp
     have hz:=lH (σ:=σ) (aS.cu _ _ k1) len
     obtain⟨l1,l2⟩:=lY h _ _ hcs
     obtain⟨us,m1,m2,m3⟩:=nZ _ cs (parts.toList.map fun p=>(p.1,a.eval p.2)) _ out (madeCells z.cells (len*z.cells.size)) (by simpa using l1) l2 hz (jP k2 len) hout
     have hnew:=mM h hm hm0 hmx (e:=e) (sz:=ie.size) m2 m3
     have hus:us.size=len*ie.size:=by
      have:=aS.length _ _ m2
      rw[mF _ _ _ _ hout,fo,(ht e ie hie).len] at this
      simpa using this
     have hp:(parts.map fun (x:Nat×Operand)=>(x.1,a.eval x.2)).toList=parts.toList.map fun (p:Nat×Operand)=>(p.1,a.eval p.2):=by simp
     rw[hsz] at m1
     refine⟨.slice (some ⟨w.heap.size,0,none⟩) len len,_,_,?_,hnew.put hd ?_⟩
     ·simp only[execOp,ho,Instr.buildSlice,Sem.run_bind,bq (dE (ht t it hit) hd'),Result.andThen_ok,cN g1,g2,hp]
      rw[if_neg (by have:=hb.1;omega)]
      by_cases h0:len*ie.size=0
      ·have e0:madeCells z.cells 0=#[]:=by simp[madeCells]
       have e2:(Array.range 0).map (fun _=>(default:Value))=#[]:=by simp[Array.range_zero']
       rw[h0,e0] at m1
       simp[h0,e2,m1,newRow]
      ·have e1:(Array.range (len*ie.size)).map (fun x=>z.cells[x % z.cells.size]!)=madeCells z.cells (len*ie.size):=rfl
       simp[h0,g7 g1 g4,e1,m1,newRow]
     ·simp only[VR]
      exact⟨_,dw,len,rfl,Nat.le_refl _,by have:=hb.2;simp only[maxLen];omega,by simp[hus],fun _=>hus.symm⟩
    ·cases hv
   ·cases hv
  ·cases hv
 case makeSlice t l c=>
  split at hv
  ·rename_i e k n k' m' hd' hl hmm
   obtain⟨it,hit,hd'⟩:=Option.map_eq_some_iff.1 hd'
   split at hv
   ·rename_i ie hie
    split at hv
    ·rename_i hb
     obtain⟨rfl,h0,hby,h63⟩:=hb
     cases hv
     obtain⟨fi,z,g1,g2,g3,g4,g5⟩:=(ht e ie hie).info
     obtain⟨k1,k2⟩:=cY (w:=w) (F:=FB C σ s.heap) _ _ g5
     have kl:=bz h hl
     have kc:=bz h hmm
     simp only[VR] at kl kc
     have hsz:fi.size=z.cells.size:=by rw[g2,← (ht e ie hie).len,← bJ.length _ _ k1];simp
     have hz:=lH (σ:=σ) (aS.cu _ _ k1) n.toNat
     have hr:=run_make (P:=P) w t e fi z (dE (ht t it hit) hd') g1 g4 k k' n n h0 (Int.le_refl _) (by rw[g3];exact hby) h63
     have hnew:=mM h hm hm0 hmx (e:=e) (sz:=ie.size) hz (jP k2 n.toNat)
     have hrm:z.cells.size=ie.size:=by rw[← hsz,g2]
     rw[hsz] at hr
     refine⟨.slice (some ⟨w.heap.size,0,none⟩) n.toNat n.toNat,_,_,by simp only[execOp,ho,kl,kc,Sem.run_bind,hr,Result.andThen_ok,Sem.run_pure],hnew.put hd ?_⟩
     simp only[VR]
     refine⟨_,dw,n.toNat,rfl,Nat.le_refl _,by simp only[maxLen];omega,?_,fun _=>?_⟩
     ·simp[size_madeCells,hrm]
     ·simp[size_madeCells,hrm]
    ·cases hv
   ·cases hv
  ·cases hv
end
end Go.Can
