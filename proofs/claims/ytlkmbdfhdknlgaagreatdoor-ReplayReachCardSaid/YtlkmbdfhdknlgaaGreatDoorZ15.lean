/- The code of a program: what lowering makes of it, and its fo -/
import Derived.Test.YtlkmbdfhdknlgaaGreatDoorZ14
namespace Go.aN
open Go.Can
structure En where
 name:ByteArray
 kind:Nat
 n:Nat
def ic (x:En):List CV:=[.str x.name,I x.kind,I x.n]
def iJ:List En→ByteArray→Option En
 | [],_=>none
 | x::r,s=>if x.name=s then some x else iJ r s
def lP (E:List En)(s:ByteArray):En:=(iJ E s).getD ⟨eS,0,0⟩
theorem gV {E:List En}{s:ByteArray}{x:En}(h:iJ E s=some x):lP E s=x:=by simp[lP,h]
theorem dy (A B:List En)(s:ByteArray):iJ (A++B) s=(match iJ A s with
  | some x=>some x
  | none=>iJ B s):=by
 induction A with
 | nil=>rfl
 | cons a r ih=>
  simp only[List.cons_append,iJ];split
  ·rfl
  ·exact ih
theorem qz {E:List En}{s:ByteArray}:iJ E s=none↔s∉E.map (·.name):=by
 induction E with
 | nil=>simp[iJ]
 | cons a r ih=>
  simp only[iJ,List.map_cons,List.mem_cons,not_or];split
  ·rename_i h;simp[h]
  ·rename_i h;rw[ih];exact⟨fun h2=>⟨fun e=>h e.symm,h2⟩,fun h2=>h2.2⟩
def dP (E:List En):Ex→Ex
 | .nm s=>if (lP E s).kind=1 then .jX (lP E s).n else .loc (lP E s).n
 | .un k e=>.un k (dP E e)
 | .bin k a b=>.bin k (dP E a) (dP E b)
 | e=>e
def yh (E:List En)(r:Rf):Pl:=⟨decide ((lP E r.name).kind=5),(lP E r.name).n,r.index.map (dP E)⟩
def cZ (E:List En):List Ar→List Ex
 | []=>[]
 | .exp e::l=>dP E e::cZ E l
 | .uX _::l=>cZ E l
def eR (E:List En):List Ar→List Pl
 | []=>[]
 | .exp _::l=>eR E l
 | .uX r::l=>yh E r::eR E l
def fp (k:Nat):Sm→List En
 | .gP s _=>[⟨s,4,k⟩]
 | _=>[]
mutual
/-- The code of a statement that begins at place b, and the number of locals after it. -/
def dW:Sm→List En→Nat→Nat→List In×Nat
 | .gP _ e,E,k,_=>([.set k false (dP E e)],k+1)
 | .iy s e,E,k,_=>([.set (lP E s).n (decide ((lP E s).kind=1)) (dP E e)],k)
 | .dU g s l,E,k,_=>([.call g (lP E s).n (cZ E l) (eR E l)],k)
 | .dx u r,E,k,_=>([.lock u (yh E r)],k)
 | .lu e th el,E,k,b=>
  if el.length=0 then (.branch (b+1+(bR th E k (b+1)).1.length) (dP E e)::(bR th E k (b+1)).1,(bR th E k (b+1)).2)
  else (.branch (b+2+(bR th E k (b+1)).1.length) (dP E e)::((bR th E k (b+1)).1++.jump (b+2+(bR th E k (b+1)).1.length+(bR el E (bR th E k (b+1)).2 (b+2+(bR th E k (b+1)).1.length)).1.length) ::
   (bR el E (bR th E k (b+1)).2 (b+2+(bR th E k (b+1)).1.length)).1),(bR el E (bR th E k (b+1)).2 (b+2+(bR th E k (b+1)).1.length)).2)
 | .cE e th,E,k,b=>(.branch (b+2+(bR th E k (b+1)).1.length) (dP E e)::((bR th E k (b+1)).1++[.jump b]),(bR th E k (b+1)).2)
 | .jm,_,k,_=>([.ret],k)
def bR:List Sm→List En→Nat→Nat→List In×Nat
 | [],_,k,_=>([],k)
 | s::r,E,k,b=>((dW s E k b).1++(bR r (E++fp k s) (dW s E k b).2 (b+(dW s E k b).1.length)).1,(bR r (E++fp k s) (dW s E k b).2 (b+(dW s E k b).1.length)).2)
end
mutual
/-- The number of statements. -/
def nZ:Sm→Nat
 | .lu _ th el=>1+fb th+fb el
 | .cE _ th=>1+fb th
 | _=>1
def fb:List Sm→Nat
 | []=>0
 | s::r=>nZ s+fb r
end
mutual
/-- The statements of the instructions; the statement itself is number s. -/
def vM:Sm→Nat→List Nat
 | .lu _ th el,s=>if el.length=0 then s::iw th (s+1) else s::(iw th (s+1)++s::iw el (s+1+fb th))
 | .cE _ th,s=>s::(iw th (s+1)++[s])
 | _,s=>[s]
def iw:List Sm→Nat→List Nat
 | [],_=>[]
 | x::r,s=>vM x s++iw r (s+nZ x)
end
def DN (c:Nat):Nat→List ByteArray→List En
 | _,[]=>[]
 | i,s::r=>⟨s,c,i⟩ :: DN c (i+1) r
def da (p:Pg):List En:=DN 1 0 (p.gs.map (·.name))++DN 2 0 (p.ms.map (·.name))++DN 3 0 (p.fs.map (·.name))
def kS:Nat→Nat→List Pm→List En
 | _,_,[]=>[]
 | i,j,p::r=>if p.mutex=true then ⟨p.name,5,j⟩ :: kS i (j+1) r else ⟨p.name,4,i⟩ :: kS (i+1) j r
def pI:List Pm→Nat
 | []=>0
 | p::r=>(if p.mutex=true then 0 else 1)+pI r
def pL:List Pm→Nat
 | []=>0
 | p::r=>(if p.mutex=true then 1 else 0)+pL r
def q8 (p:Pg)(f:Fu):List En:=da p++kS 0 0 f.params
def mS (p:Pg)(f:Fu):Pr:=⟨f.name,pI f.params,pL f.params,(bR f.body (q8 p f) (pI f.params) 0).2,(bR f.body (q8 p f) (pI f.params) 0).1++[.ret]⟩
def lA (p:Pg):Un:=⟨p.gs.map (·.init),p.ms,p.fs.map (mS p),0⟩
def BF (g k:Nat):Ex→Prop
 | .num n=>n<4611686018427387904
 | .loc i=>i<k
 | .jX i=>i<g
 | .un o e=>o<2∧BF g k e
 | .bin o a b=>o<13∧BF g k a∧BF g k b
 | _=>False
def IL (ms:List Mx)(g k L:Nat)(p:Pl):Prop:=
 (p.param=true∧p.index<L∧p.at_=none)∨(p.param=false∧∃ m,ms[p.index]? = some m∧((p.at_=none∧m.size=0)∨∃ e,p.at_=some e∧0<m.size∧BF g k e))
def FT (IQ:List (Nat×Nat))(ms:List Mx)(g k L M:Nat):In→Prop
 | .set t gl e=>(if gl=true then t<g else t<k)∧BF g k e
 | .call _ t is ps=>IQ[t]? = some (is.length,ps.length)∧(∀ e∈is,BF g k e)∧∀ p∈ps,IL ms g k L p
 | .lock _ p=>IL ms g k L p
 | .branch t e=>t≤M∧BF g k e
 | .jump t=>t≤M
 | .ret=>True
theorem BF.mono {g k k':Nat}(h:k≤k'):∀ {e:Ex},BF g k e→BF g k' e
 | .num _,hx=>hx
 | .loc _,hx=>Nat.lt_of_lt_of_le hx h
 | .jX _,hx=>hx
 | .un _ _,hx=>⟨hx.1,BF.mono h hx.2⟩
 | .bin _ _ _,hx=>⟨hx.1,BF.mono h hx.2.1,BF.mono h hx.2.2⟩
 | .zero,hx=>hx.elim
 | .nm _,hx=>hx.elim
theorem IL.mono {ms:List Mx}{g k k' L:Nat}(h:k≤k'){p:Pl}(hp:IL ms g k L p):IL ms g k' L p:=by
 rcases hp with hp | ⟨h1,m,h2,h3 | ⟨e,h3,h4,h5⟩⟩
 ·exact .inl hp
 ·exact .inr ⟨h1,m,h2,.inl h3⟩
 ·exact .inr ⟨h1,m,h2,.inr ⟨e,h3,h4,h5.mono h⟩⟩
theorem FT.mono {IQ:List (Nat×Nat)}{ms:List Mx}{g k k' L M M':Nat}(h:k≤k')(hM:M≤M'){i:In}(hi:FT IQ ms g k L M i):FT IQ ms g k' L M' i:=by
 cases i with
 | set t gl e=>
  refine⟨?_,hi.2.mono h⟩;have:=hi.1;split at this
  ·rename_i hg;rw[if_pos hg];exact this
  ·rename_i hg;rw[if_neg hg];omega
 | call go t is ps=>exact⟨hi.1,fun e he=>(hi.2.1 e he).mono h,fun p hp=>(hi.2.2 p hp).mono h⟩
 | lock u p=>exact IL.mono h hi
 | branch t e=>exact⟨Nat.le_trans hi.1 hM,hi.2.mono h⟩
 | jump t=>exact Nat.le_trans hi hM
 | ret=>trivial
structure EW (g:Nat)(ms:List Mx)(fs:List (ByteArray×List Pm))(ps:List Pm)(V:List ByteArray)(E:List En)(k:Nat):Prop where
 m:∀ m∈ms,∃ j,iJ E m.name=some ⟨m.name,2,j⟩∧ms[j]? = some m
 f:∀ f∈fs,∃ j,iJ E f.1=some ⟨f.1,3,j⟩∧fs[j]? = some f
 p:∀ p∈ps,p.mutex=true→∃ j,iJ E p.name=some ⟨p.name,5,j⟩∧j<pL ps
 v:∀ s∈V,∃ c j,iJ E s=some ⟨s,c,j⟩∧((c=1∧j<g)∨(c=4∧j<k))
 o:∀ s,s∉V→s∉nG++nM++nF++nP→iJ E s=none
theorem EW.add {g:Nat}{ms:List Mx}{fs:List (ByteArray×List Pm)}{ps:List Pm}{V:List ByteArray}{E:List En}{k:Nat}(h:EW g ms fs ps V E k){s:ByteArray}(hs:iJ E s=none):EW g ms fs ps (V++[s]) (E++[⟨s,4,k⟩]) (k+1):=by
 have hk:∀ {t:ByteArray} {x:En},iJ E t=some x→iJ (E++[⟨s,4,k⟩]) t=some x:=fun {t x} ht=>by rw[dy,ht]
 refine⟨fun m hm=>?_,fun f hf=>?_,fun p hp eY=>?_,fun t ht=>?_,fun t ht ht2=>?_⟩
 ·obtain⟨j,h1,h2⟩:=h.m m hm;exact⟨j,hk h1,h2⟩
 ·obtain⟨j,h1,h2⟩:=h.f f hf;exact⟨j,hk h1,h2⟩
 ·obtain⟨j,h1,h2⟩:=h.p p hp eY;exact⟨j,hk h1,h2⟩
 ·rcases List.mem_append.1 ht with ht | ht
  ·obtain⟨c,j,h1,h2⟩:=h.v t ht;exact⟨c,j,hk h1,by omega⟩
  ·rw[List.mem_singleton] at ht;subst ht;exact⟨4,k,by rw[dy,hs];simp[iJ],.inr ⟨rfl,by omega⟩⟩
 ·rw[List.mem_append,not_or,List.mem_singleton] at ht;rw[dy,h.o t ht.1 ht2];simp only[iJ];rw[if_neg fun e=>ht.2 e.symm]
theorem EW.up {g:Nat}{ms:List Mx}{fs:List (ByteArray×List Pm)}{ps:List Pm}{V:List ByteArray}{E:List En}{k k':Nat}(h:EW g ms fs ps V E k)(hk:k≤k'):EW g ms fs ps V E k':=
 ⟨h.m,h.f,h.p,fun s hs=>by
  obtain⟨c,j,h1,h2⟩:=h.v s hs;exact⟨c,j,h1,by omega⟩,h.o⟩
section
variable {g:Nat}{ms:List Mx}{fs:List (ByteArray×List Pm)}{ps:List Pm}{V:List ByteArray}{E:List En}{k:Nat}
theorem EW.ex (h:EW g ms fs ps V E k):∀ {d:Nat} {e:Ex},fK V d e→BF g k (dP E e)
 | _,.num n,hx=>by simpa [fK,dP,BF] using hx
 | _,.nm s,hx=>by
  simp only[fK] at hx;obtain⟨c,j,h1,h2⟩:=h.v s hx;simp only[dP,gV h1];rcases h2 with ⟨rfl,h2⟩ | ⟨rfl,h2⟩
  ·exact h2
  ·exact h2
 | d+1,.un o e,hx=>by
  simp only[fK] at hx;exact⟨hx.1,h.ex hx.2⟩
 | d+1,.bin o a b,hx=>by
  simp only[fK] at hx;exact⟨hx.1,h.ex hx.2.1,h.ex hx.2.2⟩
 | 0,.un _ _,hx=>hx.elim
 | 0,.bin _ _ _,hx=>hx.elim
 | 0,.zero,hx=>hx.elim
 | 0,.loc _,hx=>hx.elim
 | 0,.jX _,hx=>hx.elim
 | _+1,.zero,hx=>hx.elim
 | _+1,.loc _,hx=>hx.elim
 | _+1,.jX _,hx=>hx.elim
theorem EW.rf (h:EW g ms fs ps V E k){r:Rf}(hr:FR ms ps V r):IL ms g k (pL ps) (yh E r):=by
 rcases hr with ⟨m,hm,hn,hi⟩ | ⟨p,hp,eY,hn,hi⟩
 ·obtain⟨j,h1,h2⟩:=h.m m hm;rw[← hn] at h1;refine .inr ⟨by simp[yh,gV h1],m,by simpa [yh,gV h1] using h2,?_⟩;rcases hi with ⟨h3,h4⟩ | ⟨e,h3,h4,h5⟩
  ·exact .inl ⟨by simp[yh,h3],h4⟩
  ·exact .inr ⟨dP E e,by simp[yh,h3],h4,h.ex h5⟩
 ·obtain⟨j,h1,h2⟩:=h.p p hp eY;rw[← hn] at h1;exact .inl ⟨by simp[yh,gV h1],by simpa [yh,gV h1] using h2,by simp[yh,hi]⟩
theorem EW.ars (h:EW g ms fs ps V E k):∀ {gp:List Pm} {l:List Ar},ja ms ps V gp l→(cZ E l).length=pI gp∧(eR E l).length=pL gp∧(∀ e∈cZ E l,BF g k e)∧∀ p∈eR E l,IL ms g k (pL ps) p
 | [],[],_=>by simp[cZ,eR,pI,pL]
 | q::gp,a::l,hx=>by
  simp only[ja] at hx;obtain⟨i1,i2,i3,i4⟩:=h.ars hx.2
  cases a with
  | uX r=>
   refine⟨by simp[cZ,pI,hx.1.1,i1],by simp[eR,pL,hx.1.1,i2];omega,i3,fun p hp=>?_⟩;simp only[eR,List.mem_cons] at hp;rcases hp with rfl | hp
   ·exact h.rf hx.1.2
   ·exact i4 p hp
  | exp e=>
   refine⟨by simp[cZ,pI,hx.1.1,i1];omega,by simp[eR,pL,hx.1.1,i2],fun x hp=>?_,i4⟩;simp only[cZ,List.mem_cons] at hp;rcases hp with rfl | hp
   ·exact h.ex hx.1.2
   ·exact i3 x hp
 | [],_::_,hx=>hx.elim
 | _::_,[],hx=>hx.elim
end
theorem wC (k:Nat)(hk:k<24):fq k∉nG++nM++nF++nP:=by
 obtain⟨h1,h2,h3,h4⟩:=su k hk;simp only[List.mem_append,not_or];exact⟨⟨⟨h1,h2⟩,h3⟩,h4⟩
def Lv (x:ByteArray×List Pm):Nat×Nat:=(pI x.2,pL x.2)
theorem zI {g:Nat}{ms:List Mx}{fs:List (ByteArray×List Pm)}{ps:List Pm} :
  (∀ s:Sm,∀ d V E k b,EW g ms fs ps V E k→dQ ms fs ps d V s→k≤(dW s E k b).2∧(∀ i∈(dW s E k b).1,FT (fs.map Lv) ms g (dW s E k b).2 (pL ps) (b+(dW s E k b).1.length) i)∧EW g ms fs ps (V++dS s) (E++fp k s) (dW s E k b).2∧8*(dW s E k b).1.length≤en s∧(dW s E k b).2≤k+nZ s)∧
  (∀ l:List Sm,∀ d V E k b,EW g ms fs ps V E k→cM ms fs ps d V l→k≤(bR l E k b).2∧(∀ i∈(bR l E k b).1,FT (fs.map Lv) ms g (bR l E k b).2 (pL ps) (b+(bR l E k b).1.length) i)∧8*(bR l E k b).1.length≤bJ l∧(bR l E k b).2≤k+fb l):=by
 let M1:Sm→Prop:=fun s=>∀ d V E k b,EW g ms fs ps V E k→dQ ms fs ps d V s→k≤(dW s E k b).2∧(∀ i∈(dW s E k b).1,FT (fs.map Lv) ms g (dW s E k b).2 (pL ps) (b+(dW s E k b).1.length) i)∧EW g ms fs ps (V++dS s) (E++fp k s) (dW s E k b).2∧8*(dW s E k b).1.length≤en s∧(dW s E k b).2≤k+nZ s
 let M2:List Sm→Prop:=fun l=>∀ d V E k b,EW g ms fs ps V E k→cM ms fs ps d V l→k≤(bR l E k b).2∧(∀ i∈(bR l E k b).1,FT (fs.map Lv) ms g (bR l E k b).2 (pL ps) (b+(bR l E k b).1.length) i)∧8*(bR l E k b).1.length≤bJ l∧(bR l E k b).2≤k+fb l
 have A1:∀ (s:ByteArray) (e:Ex),M1 (.gP s e):=by
  intro s e d V E k b hE hw;simp only[dQ] at hw;obtain⟨⟨j,hj,rfl⟩,hv,he⟩:=hw;have hn:iJ E (fq j)=none:=hE.o _ hv (wC j hj);refine⟨by simp[dW],fun i hi=>?_,hE.add hn,by simp[dW,en],by simp[dW,nZ]⟩;simp only[dW,List.mem_singleton] at hi ⊢;subst hi;exact⟨by simp,(hE.ex he).mono yA⟩
 have A2:∀ (s:ByteArray) (e:Ex),M1 (.iy s e):=by
  intro s e d V E k b hE hw;simp only[dQ] at hw;obtain⟨c,j,h1,h2⟩:=hE.v s hw.1;refine⟨by simp[dW],fun i hi=>?_,by simpa [dS,fp,dW] using hE,by simp[dW,en],by simp[dW,nZ]⟩;simp only[dW,List.mem_singleton] at hi ⊢;subst hi;refine⟨?_,hE.ex hw.2⟩;rw[gV h1];rcases h2 with ⟨rfl,h2⟩ | ⟨rfl,h2⟩
  ·simpa using h2
  ·simpa using h2
 have A3:∀ (g:Bool) (s:ByteArray) (l:List Ar),M1 (.dU g s l):=by
  intro go s l d V E k b hE hw;simp only[dQ] at hw;obtain⟨gp,h1,h2⟩:=hw;obtain⟨j,h3,h4⟩:=hE.f _ h1;obtain⟨a1,a2,a3,a4⟩:=hE.ars h2;refine⟨by simp[dW],fun i hi=>?_,by simpa [dS,fp,dW] using hE,by simp[dW,en],by simp[dW,nZ]⟩;simp only[dW,List.mem_singleton] at hi ⊢;subst hi;refine⟨?_,a3,a4⟩;rw[gV h3,List.getElem?_map,h4];simp[Lv,a1,a2]
 have A4:∀ (u:Bool) (r:Rf),M1 (.dx u r):=by
  intro u r d V E k b hE hw;simp only[dQ] at hw;refine⟨by simp[dW],fun i hi=>?_,by simpa [dS,fp,dW] using hE,by simp[dW,en],by simp[dW,nZ]⟩;simp only[dW,List.mem_singleton] at hi ⊢;subst hi;exact hE.rf hw
 have A5:∀ (e:Ex) (th el:List Sm),M2 th→M2 el→M1 (.lu e th el):=by
  intro e th el i1 i2 d V E k b hE hw
  cases d with
  | zero=>simp[dQ] at hw
  | succ d=>
   simp only[dQ] at hw;obtain⟨a1,a2,a3,a4⟩:=i1 d V E k (b+1) hE hw.2.1;by_cases Ou:el.length=0
   ·refine⟨by simpa [dW,Ou] using a1,fun i hi=>?_,by simpa [dS,fp,dW,Ou] using hE.up a1,by simp[dW,en,Ou];omega,by simp[dW,nZ,Ou];omega⟩;simp only[dW,Ou,if_true,List.mem_cons,List.length_cons] at hi ⊢;rcases hi with rfl | hi
    ·exact⟨by omega,(hE.ex hw.1).mono a1⟩
    ·exact (a2 i hi).mono (Nat.le_refl _) yA
   ·obtain⟨b1,b2,b3,b4⟩:=i2 d V E (bR th E k (b+1)).2 (b+2+(bR th E k (b+1)).1.length) (hE.up a1) hw.2.2;refine⟨by simp only[dW,Ou,if_false];omega,fun i hi=>?_,by simpa [dS,fp,dW,Ou] using hE.up (Nat.le_trans a1 b1),by simp[dW,en,Ou];omega,by simp only[dW,nZ,Ou,if_false];omega⟩;simp only[dW,Ou,if_false,List.mem_cons,List.mem_append,List.length_cons,List.length_append] at hi ⊢;rcases hi with rfl | hi | rfl | hi
    ·exact⟨by omega,(hE.ex hw.1).mono (Nat.le_trans a1 b1)⟩
    ·exact (a2 i hi).mono b1 yA
    ·exact Nat.le_trans (Nat.le_refl _) yA
    ·exact (b2 i hi).mono (Nat.le_refl _) yA
 have A6:∀ (e:Ex) (th:List Sm),M2 th→M1 (.cE e th):=by
  intro e th i1 d V E k b hE hw
  cases d with
  | zero=>simp[dQ] at hw
  | succ d=>
   simp only[dQ] at hw;obtain⟨a1,a2,a3,a4⟩:=i1 d V E k (b+1) hE hw.2;refine⟨by simpa [dW] using a1,fun i hi=>?_,by simpa [dS,fp,dW] using hE.up a1,by simp[dW,en];omega,by simp[dW,nZ];omega⟩;simp only[dW,List.mem_cons,List.mem_append,List.length_cons,List.length_append,List.length_nil,List.not_mem_nil,or_false] at hi ⊢;rcases hi with rfl | hi | rfl
   ·exact⟨by omega,(hE.ex hw.1).mono a1⟩
   ·exact (a2 i hi).mono (Nat.le_refl _) yA
   ·exact Nat.le_trans (Nat.le_refl _) yA
 have A7:M1 .jm:=by
  intro d V E k b hE _;refine⟨by simp[dW],fun i hi=>?_,by simpa [dS,fp,dW] using hE,by simp[dW,en],by simp[dW,nZ]⟩;simp only[dW,List.mem_singleton] at hi ⊢;subst hi;trivial
 have A0:M2 []:=by
  intro d V E k b hE _;exact⟨by simp[bR],fun i hi=>by simp[bR] at hi,by simp[bR],by simp[bR,fb]⟩
 have A8:∀ (s:Sm) (r:List Sm),M1 s→M2 r→M2 (s::r):=by
  intro s r i1 i2 d V E k b hE hw;simp only[cM] at hw;obtain⟨a1,a2,a3,a4,a5⟩:=i1 d V E k b hE hw.1;obtain⟨b1,b2,b3,b4⟩:=i2 d (V++dS s) (E++fp k s) (dW s E k b).2 (b+(dW s E k b).1.length) a3 hw.2;refine⟨by simp only[bR];omega,fun i hi=>?_,by simp only[bR,bJ,List.length_append];omega,by simp only[bR,fb];omega⟩;simp only[bR,List.mem_append,List.length_append] at hi ⊢;rcases hi with hi | hi
  ·exact (a2 i hi).mono b1 yA
  ·exact (b2 i hi).mono (Nat.le_refl _) yA
 exact⟨fun s=>Sm.rec (motive_1:=M1) (motive_2:=M2) A1 A2 A3 A4 A5 A6 A7 A0 A8 s,fun l=>Sm.rec_1 (motive_1:=M1) (motive_2:=M2) A1 A2 A3 A4 A5 A6 A7 A0 A8 l⟩
theorem ya:(∀ s:Sm,8*nZ s≤en s)∧(∀ l:List Sm,8*fb l≤bJ l):=by
 let M1:Sm→Prop:=fun s=>8*nZ s≤en s
 let M2:List Sm→Prop:=fun l=>8*fb l≤bJ l
 have A5:∀ (e:Ex) (th el:List Sm),M2 th→M2 el→M1 (.lu e th el):=fun e th el h1 h2=>by
  simp only[M1,M2,nZ,en] at *;omega
 have A6:∀ (e:Ex) (th:List Sm),M2 th→M1 (.cE e th):=fun e th h1=>by
  simp only[M1,M2,nZ,en] at *;omega
 have A8:∀ (s:Sm) (r:List Sm),M1 s→M2 r→M2 (s::r):=fun s r h1 h2=>by
  simp only[M1,M2,fb,bJ] at *;omega
 have A1:∀ (s:ByteArray) (e:Ex),M1 (.gP s e):=fun s e=>by simp[M1,nZ,en]
 have A2:∀ (s:ByteArray) (e:Ex),M1 (.iy s e):=fun s e=>by simp[M1,nZ,en]
 have A3:∀ (g:Bool) (s:ByteArray) (l:List Ar),M1 (.dU g s l):=fun g s l=>by simp[M1,nZ,en]
 have A4:∀ (u:Bool) (r:Rf),M1 (.dx u r):=fun u r=>by simp[M1,nZ,en]
 have A7:M1 .jm:=by simp[M1,nZ,en]
 have A0:M2 []:=by simp[M2,fb,bJ]
 exact⟨fun s=>Sm.rec (motive_1:=M1) (motive_2:=M2) A1 A2 A3 A4 A5 A6 A7 A0 A8 s,fun l=>Sm.rec_1 (motive_1:=M1) (motive_2:=M2) A1 A2 A3 A4 A5 A6 A7 A0 A8 l⟩
theorem qA {c:Nat}:∀ {l:List ByteArray} {i j:Nat} {s:ByteArray},l[j]? = some s→l.Nodup→iJ (DN c i l) s=some ⟨s,c,i+j⟩
 | [],_,_,_,h,_=>by simp at h
 | x::r,i,0,s,h,_=>by
  simp only[List.getElem?_cons_zero,Option.some.injEq] at h;subst h;simp[DN,iJ]
 | x::r,i,j+1,s,h,hn=>by
  simp only[List.getElem?_cons_succ] at h;rw[List.nodup_cons] at hn;have hx:x≠s:=fun e=>hn.1 (by rw[e];exact List.mem_of_getElem? h);simp only[DN,iJ];rw[if_neg hx,qA h hn.2];congr 2;omega
theorem lT (c:Nat):∀ (l:List ByteArray) (i:Nat),(DN c i l).map (·.name)=l
 | [],_=>rfl
 | s::r,i=>by simp[DN,lT c r]
theorem ej {c i:Nat}{l:List ByteArray}{s:ByteArray}(h:s∉l):iJ (DN c i l) s=none:=by
 rw[qz,lT];exact h
theorem pj:∀ (l:List Pm) (i j:Nat),(kS i j l).map (·.name)=l.map (·.name)
 | [],_,_=>rfl
 | p::r,i,j=>by
  simp only[kS];split<;>simp[pj r]
theorem qy:∀ {l:List Pm} {i j:Nat} {p:Pm},(l.map (·.name)).Nodup→p∈l→(p.mutex=true→∃ n,iJ (kS i j l) p.name=some ⟨p.name,5,n⟩∧n<j+pL l)∧(p.mutex=false→∃ n,iJ (kS i j l) p.name=some ⟨p.name,4,n⟩∧n<i+pI l)
 | [],_,_,_,_,h=>by simp at h
 | q::r,i,j,p,hn,hp=>by
  simp only[List.map_cons,List.nodup_cons] at hn;rcases List.mem_cons.1 hp with rfl | hp
  ·refine⟨fun hm=>⟨j,by simp[kS,hm,iJ],by simp[pL,hm];omega⟩,fun hm=>⟨i,by simp[kS,hm,iJ],by simp[pI,hm];omega⟩⟩
  ·have hx:q.name≠p.name:=fun e=>hn.1 (by rw[e];exact List.mem_map_of_mem hp)
   cases hq:q.mutex with
   | true=>
    obtain⟨h1,h2⟩:=qy (i:=i) (j:=j+1) hn.2 hp;refine⟨fun hm=>?_,fun hm=>?_⟩
    ·obtain⟨n,h3,h4⟩:=h1 hm;exact⟨n,by simp[kS,hq,iJ,hx,h3],by simp[pL,hq];omega⟩
    ·obtain⟨n,h3,h4⟩:=h2 hm;exact⟨n,by simp[kS,hq,iJ,hx,h3],by simp[pI,hq];omega⟩
   | false=>
    obtain⟨h1,h2⟩:=qy (i:=i+1) (j:=j) hn.2 hp;refine⟨fun hm=>?_,fun hm=>?_⟩
    ·obtain⟨n,h3,h4⟩:=h1 hm;exact⟨n,by simp[kS,hq,iJ,hx,h3],by simp[pL,hq];omega⟩
    ·obtain⟨n,h3,h4⟩:=h2 hm;exact⟨n,by simp[kS,hq,iJ,hx,h3],by simp[pI,hq];omega⟩
theorem gE:(∀ s∈nM,s∉nG)∧(∀ s∈nF,s∉nG∧s∉nM)∧(∀ s∈nP,s∉nG∧s∉nM∧s∉nF)∧nG.Nodup∧nM.Nodup∧nF.Nodup∧nP.Nodup:=by
 have h1:∀ s∈nM,∀ t∈nG,s≠t:=by decide
 have h2:∀ s∈nF,∀ t∈nG++nM,s≠t:=by decide
 have h3:∀ s∈nP,∀ t∈nG++nM++nF,s≠t:=by decide
 refine⟨fun s hs hx=>h1 s hs s hx rfl,fun s hs=>⟨fun hx=>h2 s hs s TS rfl,fun hx=>h2 s hs s TS rfl⟩,fun s hs=>⟨fun hx=>h3 s hs s TS rfl,fun hx=>h3 s hs s TS rfl,fun hx=>h3 s hs s TS rfl⟩,?_,?_,?_,?_⟩<;>
  simp only[List.Nodup,nG,nM,nF,nP,List.pairwise_cons,List.Pairwise.nil,and_true]<;>decide
theorem p9 {l:List ByteArray}{k:Nat}{s:ByteArray}(h:s∈l.take k):s∈l:=List.mem_of_mem_take h
theorem jg {α β:Type}{l:List α}(f:α→β){a:α}(h:a∈l):∃ j:Nat,l[j]? = some a∧(l.map f)[j]? = some (f a):=by
 obtain⟨j,hj⟩:=List.mem_iff_getElem?.1 h;exact⟨j,hj,by rw[List.getElem?_map,hj];rfl⟩
section
variable {p:Pg}(h:km p)
include h
theorem km.sub:(∀ s∈p.gs.map (·.name),s∈nG)∧(∀ s∈p.ms.map (·.name),s∈nM)∧(∀ s∈p.fs.map (·.name),s∈nF)∧(∀ f∈p.fs,∀ s∈f.params.map (·.name),s∈nP):=by
 obtain⟨k1,_,e1⟩:=h.gn;obtain⟨k2,_,_,e2⟩:=h.mn;obtain⟨k3,_,_,e3⟩:=h.fn;refine⟨fun s hs=>?_,fun s hs=>?_,fun s hs=>?_,fun f hf s hs=>?_⟩
 ·rw[e1] at hs;exact p9 hs
 ·rw[e2] at hs;exact p9 hs
 ·rw[e3] at hs;exact p9 hs
 ·obtain⟨k,_,e⟩:=h.pn f hf;rw[e,List.mem_reverse] at hs;exact p9 hs
theorem km.nd:(p.gs.map (·.name)).Nodup∧(p.ms.map (·.name)).Nodup∧(p.fs.map (·.name)).Nodup∧∀ f∈p.fs,(f.params.map (·.name)).Nodup:=by
 obtain⟨_,_,_,n1,n2,n3,n4⟩:=gE;obtain⟨k1,_,e1⟩:=h.gn;obtain⟨k2,_,_,e2⟩:=h.mn;obtain⟨k3,_,_,e3⟩:=h.fn;refine⟨?_,?_,?_,fun f hf=>?_⟩
 ·rw[e1];exact n1.sublist (List.take_sublist _ _)
 ·rw[e2];exact n2.sublist (List.take_sublist _ _)
 ·rw[e3];exact n3.sublist (List.take_sublist _ _)
 ·obtain⟨k,_,e⟩:=h.pn f hf;rw[e];exact List.pairwise_reverse.2 ((n4.sublist (List.take_sublist _ _)).imp fun h=>Ne.symm h)
theorem km.dec:(∀ g∈p.gs,∃ j,iJ (da p) g.name=some ⟨g.name,1,j⟩∧j<p.gs.length)∧(∀ m∈p.ms,∃ j,iJ (da p) m.name=some ⟨m.name,2,j⟩∧p.ms[j]? = some m)∧
  (∀ f∈p.fs,∃ j,iJ (da p) f.name=some ⟨f.name,3,j⟩∧p.fs[j]? = some f)∧(∀ s,s∉nG++nM++nF→iJ (da p) s=none):=by
 obtain⟨a1,a2,_,_⟩:=gE;obtain⟨s1,s2,s3,_⟩:=h.sub;obtain⟨d1,d2,d3,_⟩:=h.nd;refine⟨fun g hg=>?_,fun m hm=>?_,fun f hf=>?_,fun s hs=>?_⟩
 ·obtain⟨j,h1,h2⟩:=jg (·.name) hg;refine⟨j,?_,(List.getElem?_eq_some_iff.1 h1).1⟩;rw[da,dy,dy,qA h2 d1];simp
 ·obtain⟨j,h1,h2⟩:=jg (·.name) hm;refine⟨j,?_,h1⟩;have PL:=s2 _ (List.mem_map_of_mem (f:=(·.name)) hm);rw[da,dy,dy,ej (fun hx=>a1 _ PL (s1 _ hx)),qA h2 d2];simp
 ·obtain⟨j,h1,h2⟩:=jg (·.name) hf;refine⟨j,?_,h1⟩;have PL:=s3 _ (List.mem_map_of_mem (f:=(·.name)) hf);rw[da,dy,dy,ej (fun hx=>(a2 _ PL).1 (s1 _ hx)),ej (fun hx=>(a2 _ PL).2 (s2 _ hx)),qA h2 d3];simp
 ·simp only[List.mem_append,not_or] at hs;rw[da,dy,dy,ej (fun hx=>hs.1.1 (s1 _ hx)),ej (fun hx=>hs.1.2 (s2 _ hx)),ej (fun hx=>hs.2 (s3 _ hx))]
theorem km.ew {f:Fu}(hf:f∈p.fs):EW p.gs.length p.ms (p.fs.map fun f=>(f.name,f.params)) f.params (jq p.gs f.params) (q8 p f) (pI f.params):=by
 obtain⟨d1,d2,d3,d4⟩:=h.dec;obtain⟨_,_,a3,_⟩:=gE;obtain⟨_,_,_,s4⟩:=h.sub;obtain⟨_,_,_,n4⟩:=h.nd;have TE:∀ q∈f.params,iJ (da p) q.name=none:=fun q hq=>by
  have:=s4 f hf _ (List.mem_map_of_mem (f:=(·.name)) hq);have:=a3 _ this;exact d4 _ (by simp only[List.mem_append,not_or];exact⟨⟨this.1,this.2.1⟩,this.2.2⟩)
 refine⟨fun m hm=>?_,fun x hx=>?_,fun q hq Ww=>?_,fun s hs=>?_,fun s hs Wt=>?_⟩
 ·obtain⟨j,h1,h2⟩:=d2 m hm;exact⟨j,by rw[q8,dy,h1],h2⟩
 ·rw[List.mem_map] at hx;obtain⟨f',V1,rfl⟩:=hx;obtain⟨j,h1,h2⟩:=d3 f' V1;exact⟨j,by rw[q8,dy,h1],by rw[List.getElem?_map,h2];rfl⟩
 ·obtain⟨n,h1,h2⟩:=(qy (i:=0) (j:=0) (n4 f hf) hq).1 Ww;exact⟨n,by rw[q8,dy,TE q hq];exact h1,by omega⟩
 ·simp only[jq,List.mem_append,List.mem_flatMap,List.mem_map] at hs;rcases hs with ⟨g,hg,rfl⟩ | ⟨q,hq,hs⟩
  ·obtain⟨j,h1,h2⟩:=d1 g hg;exact⟨1,j,by rw[q8,dy,h1],.inl ⟨rfl,h2⟩⟩
  ·cases hm:q.mutex with
   | true=>simp[hm] at hs
   | false=>
    simp[hm] at hs;subst hs;obtain⟨n,h1,h2⟩:=(qy (i:=0) (j:=0) (n4 f hf) hq).2 hm;exact⟨4,n,by rw[q8,dy,TE q hq];exact h1,.inr ⟨rfl,by omega⟩⟩
 ·have hs3:=Wt;simp only[List.mem_append,not_or] at hs3;rw[q8,dy,d4 s (by simp only[List.mem_append,not_or];exact hs3.1)];rw[qz,pj];exact fun hx=>hs3.2 (s4 f hf _ hx)
end
theorem pIL:∀ l:List Pm,pI l+pL l=l.length
 | []=>rfl
 | p::r=>by
  have:=pIL r;simp only[pI,pL,List.length_cons];split<;>omega
structure im (u:Un):Prop where
 np:1≤u.ps.length∧u.ps.length≤4
 nm:1≤u.ms.length∧u.ms.length≤4
 ng:u.gs.length≤2
 gi:∀ g∈u.gs,-2≤g∧g≤2
 mz:∀ m∈u.ms,m.size≤3∧(m.re=true→m.size=0)
 main:u.main=0
 p0:∀ q,u.ps[0]? = some q→q.ints=0∧q.bI=0
 pr:∀ q∈u.ps,q.ints≤2∧q.bI≤2∧q.ints≤q.locals∧q.locals≤200∧q.code.length≤145
 pc:∀ q∈u.ps,(∃ c,q.code=c++[.ret])∧∀ i∈q.code,FT (u.ps.map fun q=>(q.ints,q.bI)) u.ms u.gs.length q.locals q.bI (q.code.length-1) i
theorem km.unit {p:Pg}(h:km p)(hw:∀ f∈p.fs,bJ f.body≤1152)(hp:∀ f∈p.fs,f.params.length≤2):im (lA p):=by
 obtain⟨k1,SK,e1⟩:=h.gn;obtain⟨k2,_,Ry,e2⟩:=h.mn;obtain⟨k3,_,hk3,e3⟩:=h.fn;have l1:=congrArg List.length e1;have l2:=congrArg List.length e2;have l3:=congrArg List.length e3;simp[nG] at l1;simp[nM] at l2;simp[nF] at l3;have hs:∀ f∈p.fs,pI f.params≤(bR f.body (q8 p f) (pI f.params) 0).2∧(∀ i∈(bR f.body (q8 p f) (pI f.params) 0).1,FT ((p.fs.map fun f=>(f.name,f.params)).map Lv) p.ms p.gs.length (bR f.body (q8 p f) (pI f.params) 0).2 (pL f.params) (0+(bR f.body (q8 p f) (pI f.params) 0).1.length) i)∧8*(bR f.body (q8 p f) (pI f.params) 0).1.length≤bJ f.body∧(bR f.body (q8 p f) (pI f.params) 0).2≤pI f.params+fb f.body:=
  fun f hf=>zI.2 f.body 2 _ _ _ 0 (h.ew hf) (h.bd f hf)
 have Tm:(lA p).ps.map (fun q=>(q.ints,q.bI))=(p.fs.map fun f=>(f.name,f.params)).map Lv:=by
  simp only[lA,List.map_map];rfl
 refine⟨by simp only[lA,List.length_map];omega,by simp only[lA];omega,by simp only[lA,List.length_map];omega,fun g hg=>?_,h.mz,rfl,fun q hq=>?_,fun q hq=>?_,fun q hq=>?_⟩
 ·simp only[lA,List.mem_map] at hg;obtain⟨x,hx,rfl⟩:=hg;exact h.gi x hx
 ·simp only[lA,List.getElem?_map,Option.map_eq_some_iff] at hq;obtain⟨f,hf,rfl⟩:=hq;simp[mS,h.f0 f hf,pI,pL]
 ·simp only[lA,List.mem_map] at hq;obtain⟨f,hf,rfl⟩:=hq;obtain⟨b1,b2,b3,b4⟩:=hs f hf;have b5:=ya.2 f.body;have b6:=hw f hf;have b7:=pIL f.params;have b8:=hp f hf;refine⟨by simp only[mS];omega,by simp only[mS];omega,b1,by simp only[mS];omega,by simp only[mS,List.length_append,List.length_singleton];omega⟩
 ·rw[Tm];simp only[lA,List.mem_map] at hq;obtain⟨f,hf,rfl⟩:=hq;obtain⟨b1,b2,b3,b4⟩:=hs f hf;refine⟨⟨_,rfl⟩,fun i hi=>?_⟩;simp only[mS,List.mem_append,List.mem_singleton] at hi ⊢;rcases hi with hi | rfl
  ·have hx:=FT.mono (Nat.le_refl _) (M':=(bR f.body (q8 p f) (pI f.params) 0).1.length) yA (b2 i hi)
   simpa [lA] using hx
  ·trivial
deriving instance DecidableEq for Is
def oq (is:Is)(q:Pl):Nat:=if q.param=true then is.bI.getD q.index 0 else q.index
def mN:In→Int
 | .set _ _ _=>1
 | .call g _ _ _=>if g=true then 3 else 2
 | .lock u _=>if u=true then 5 else 4
 | .branch _ _=>6
 | .jump _=>7
 | .ret=>8
def jz (is:Is):In→Option Is
 | .call _ t _ ps=>some ⟨t,ps.map (oq is)⟩
 | _=>none
def au (u:Un)(is:Is):List In:=match u.ps[is.proc]? with
 | some q=>q.code
 | none=>[]
def sh (u:Un)(is:Is)(pc:Int):Option Is:=if pc<0 then none else match (au u is)[pc.toNat]? with
 | some i=>jz is i
 | none=>none
def y9:Option Is→CV
 | some x=>.dI [.agg (cC x),.bool true]
 | none=>.dI [.agg [I 0,.az [] 0],.bool false]
theorem gT (i:In):∃ cs,cU i=I (mN i)::cs∧cs.length=11:=by
 have h:∃ cs,cU i=I (mN i)::cs:=by cases i<;>exact⟨_,rfl⟩
 obtain⟨cs,h⟩:=h;have:=eg i;rw[h] at this;exact⟨cs,h,by simpa using this⟩
structure pY (u:Un)(is:Is):Prop where
 q:∃ q,u.ps[is.proc]? = some q∧is.bI.length=q.bI
 m:∀ l∈is.bI,l<u.ms.length
theorem L6 {u:Un}{is:Is}{g k L:Nat}{q:Pl}(hm:∀ l∈is.bI,l<u.ms.length)(hL:is.bI.length=L)(h:IL u.ms g k L q):oq is q<u.ms.length:=by
 rcases h with ⟨h1,h2,_⟩ | ⟨h1,m,h2,_⟩
 ·simp only[oq,h1,if_true];rw[List.getD_eq_getElem?_getD,List.getElem?_eq_getElem yA];exact hm _ (List.getElem_mem yA)
 ·simp only[oq,h1,Bool.false_eq_true,if_false];exact (List.getElem?_eq_some_iff.1 h2).1
theorem CL {u:Un}(hu:im u){is:Is}(hi:pY u is){i:In}(hm:i∈au u is){x:Is}(hx:jz is i=some x):pY u x:=by
 obtain⟨⟨q,hq,hl⟩,hlm⟩:=hi;simp only[au,hq] at hm;have hv:=(hu.pc q (List.mem_of_getElem? hq)).2 i hm
 cases i with
 | call g t is' ps=>
  simp only[jz,Option.some.injEq] at hx;subst hx;obtain⟨h1,_,h3⟩:=hv;rw[List.getElem?_map,Option.map_eq_some_iff] at h1;obtain⟨q',h4,h5⟩:=h1;simp only[Prod.mk.injEq] at h5;refine⟨⟨q',h4,?_⟩,fun l SJ=>?_⟩
  ·simp only[List.length_map];omega
  ·simp only[List.mem_map] at SJ;obtain⟨pl,Po,rfl⟩:=SJ;exact L6 hlm hl (h3 pl Po)
 | _=>simp[jz] at hx
def rX:In→Bool
 | .call g _ _ _=>g
 | _=>false
def cq (l:List Nat)(n:Nat):Nat:=(l.takeWhile (· < n)).length
def fU (l:List Nat)(n:Nat):List Nat:=if n∈l then l else l.take (cq l n)++n::l.drop (cq l n)
def eN (l:List Is)(x:Is):List Is:=if x∈l then l else l++[x]
def gu (l:List Is)(x:Is):Nat:=l.findIdx fun y=>decide (y=x)
def gL (is:Is):List In→List Is→List Nat→List Is×List Int×List Nat
 | [],l,r=>(l,[],r)
 | i::c,l,r=>match jz is i with
  | none=>((gL is c l r).1,-1::(gL is c l r).2.1,(gL is c l r).2.2)
  | some x=>((gL is c (eN l x) (if rX i=true then fU r (gu (eN l x) x) else r)).1,(gu (eN l x) x:Int)::(gL is c (eN l x) (if rX i=true then fU r (gu (eN l x) x) else r)).2.1,(gL is c (eN l x) (if rX i=true then fU r (gu (eN l x) x) else r)).2.2)
def mo (u:Un):Nat→Nat→List Is→List (List Int)→List Nat→Cl
 | 0,_,l,cs,r=>⟨l,cs,r⟩
 | f+1,i,l,cs,r=>match l[i]? with
  | none=>⟨l,cs,r⟩
  | some x=>mo u f (i+1) (gL x (au u x) l r).1 (cs++[(gL x (au u x) l r).2.1]) (gL x (au u x) l r).2.2
def ak (u:Un):Cl:=mo u 100 0 [⟨u.main,[]⟩] [] [0]
def comb (n:Nat):Nat→List (List Nat)
 | 0=>[[]]
 | k+1=>(List.range n).flatMap fun a=>(comb n k).map (a :: ·)
theorem Ak (n:Nat):∀ (l:List Nat),(∀ x∈l,x<n)→l∈comb n l.length
 | [],_=>by simp[comb]
 | a::r,h=>by
  simp only[List.length_cons,comb,List.mem_flatMap,List.mem_range,List.mem_map];exact⟨a,h a List.mem_cons_self,r,Ak n r fun x hx=>h x (List.mem_cons_of_mem _ hx),rfl⟩
theorem zF (c:Nat):∀ l:List Nat,(∀ x∈l,x≤c)→l.sum≤l.length*c
 | [],_=>by simp
 | a::r,h=>by
  have h1:=h a List.mem_cons_self;have h2:=zF c r fun x hx=>h x (List.mem_cons_of_mem _ hx);rw[List.sum_cons,List.length_cons,Nat.succ_mul];omega
theorem Bc (n:Nat):∀ k,(comb n k).length=n ^ k
 | 0=>by simp[comb]
 | k+1=>by
  simp only[comb,List.length_flatMap,List.length_map,Bc n k];rw[List.map_const',List.sum_replicate_nat,List.length_range,Nat.pow_succ,Nat.mul_comm]
def vI (n:Nat):Nat→List Pr→List Is
 | _,[]=>[]
 | t,q::r=>(comb n q.bI).map (fun ls=>⟨t,ls⟩)++vI n (t+1) r
theorem Al (n:Nat):∀ (l:List Pr) (t j:Nat) (q:Pr) (x:Is),l[j]? = some q→x.proc=t+j→x.bI.length=q.bI→(∀ a∈x.bI,a<n)→x∈vI n t l
 | [],_,_,_,_,h,_,_,_=>by simp at h
 | p::r,t,0,q,x,h,hp,hl,ha=>by
  simp only[List.getElem?_cons_zero,Option.some.injEq] at h;subst h;simp only[vI,List.mem_append,List.mem_map];refine .inl ⟨x.bI,by rw[← hl];exact Ak n _ ha,?_⟩;cases x;simp only at hp;simp[hp]
 | p::r,t,j+1,q,x,h,hp,hl,ha=>by
  simp only[List.getElem?_cons_succ] at h;simp only[vI,List.mem_append];exact .inr (Al n r (t+1) j q x h yA hl ha)
theorem xi {α:Type}(w:α→Nat):∀ (l m:List α),l.Nodup→(∀ x∈l,x∈m)→(l.map w).sum≤(m.map w).sum
 | [],_,_,_=>by simp
 | a::r,m,hn,hs=>by
  obtain⟨m1,m2,rfl⟩:=List.append_of_mem (hs a List.mem_cons_self);rw[List.nodup_cons] at hn;have ih:=xi w r (m1++m2) hn.2 fun x hx=>by
   have h1:=hs x (List.mem_cons_of_mem _ hx);have Ok:x≠a:=fun e=>hn.1 (e ▸ hx);simp only[List.mem_append,List.mem_cons] at h1 ⊢;rcases h1 with h | h | h
   ·exact .inl h
   ·exact (Ok h).elim
   ·exact .inr h
  simp only[List.map_append,List.sum_append,List.map_cons,List.sum_cons] at ih ⊢;omega
theorem Bp {u:Un}(w:Is→Nat)(c:Nat)(n:Nat)(hw:∀ x,w x≤c)(hn:n≤4):∀ (l:List Pr) (t:Nat),(∀ q∈l,q.bI≤2)→((vI n t l).map w).sum≤l.length*(16*c)
 | [],_,_=>by simp[vI]
 | q::r,t,h=>by
  have h1:=Bp (u:=u) w c n hw hn r (t+1) fun x hx=>h x (List.mem_cons_of_mem _ hx);have h2:=h q List.mem_cons_self;have h3:(comb n q.bI).length≤16:=by
   rw[Bc]
   calc n ^ q.bI≤4 ^ q.bI:=Nat.pow_le_pow_left hn _
    _≤4 ^ 2:=Nat.pow_le_pow_right yA h2
  have h4:(((comb n q.bI).map fun ls=>(⟨t,ls⟩:Is)).map w).sum≤16*c:=by
   refine Nat.le_trans (zF c _ fun x hx=>?_) (Nat.mul_le_mul_right c (by simpa using h3));simp only[List.mem_map] at hx;obtain⟨y,_,rfl⟩:=hx;exact hw y
  have h5:(r.length+1)*(16*c)=r.length*(16*c)+16*c:=Nat.succ_mul _ _;simp only[vI,List.map_append,List.sum_append,List.length_cons];omega
theorem Ax {u:Un}(hu:im u)(w:Is→Nat)(c:Nat)(hw:∀ x,w x≤c){l:List Is}(hn:l.Nodup)(hv:∀ x∈l,pY u x):(l.map w).sum≤c+48*c:=by
 have TF:=hu.np;have Pp:=hu.nm;have h1:=xi w l (vI u.ms.length 0 u.ps) hn fun x hx=>by
  obtain⟨⟨q,hq,hl⟩,hm⟩:=hv x hx;exact Al _ _ 0 x.proc q x hq yA hl hm
 refine Nat.le_trans h1 ?_
 cases PW:u.ps with
 | nil=>rw[PW] at TF;simp at TF
 | cons q0 r=>
  have h0:=hu.p0 q0 (by rw[PW];rfl);have hr:r.length≤3:=by rw[PW] at TF;simp at TF;omega
  have h2:=Bp (u:=u) w c u.ms.length hw Pp.2 r 1 fun q hq=>(hu.pr q (by rw[PW];exact List.mem_cons_of_mem _ hq)).2.1;have h3:(vI u.ms.length 0 (q0::r))=⟨0,[]⟩ :: vI u.ms.length 1 r:=by simp[vI,h0.2,comb]
  rw[h3,List.map_cons,List.sum_cons];have h4:=hw ⟨0,[]⟩;have h5:r.length*(16*c)≤48*c:=by
   calc r.length*(16*c)≤3*(16*c):=Nat.mul_le_mul_right _ hr
    _=48*c:=by omega
  omega
theorem jW {u:Un}(hu:im u){l:List Is}(hn:l.Nodup)(hv:∀ x∈l,pY u x):l.length≤49:=by
 have:=Ax hu (fun _=>1) 1 (fun _=>Nat.le_refl _) hn hv;rw[List.map_const',List.sum_replicate_nat] at this;omega
theorem eK {u:Un}(hu:im u)(x:Is):(au u x).length≤145:=by
 unfold au
 cases h:u.ps[x.proc]? with
 | none=>simp
 | some q=>exact (hu.pr q (List.mem_of_getElem? h)).2.2.2.2
theorem Cr {u:Un}(hu:im u){l:List Is}(hn:l.Nodup)(hv:∀ x∈l,pY u x):(l.map fun x=>(au u x).length).sum≤7105:=
 Ax hu _ 145 (eK hu) hn hv
theorem mB {l:List Is}{x:Is}(h:l.Nodup):(eN l x).Nodup:=by
 unfold eN;split
 ·exact h
 ·rename_i hx;refine List.nodup_append.2 ⟨h,by simp,fun a ha b hb e=>?_⟩;rw[List.mem_singleton] at hb;subst hb;subst e;exact hx ha
theorem CS {u:Un}{l:List Is}{x:Is}(h:∀ y∈l,pY u y)(hx:pY u x):∀ y∈eN l x,pY u y:=by
 unfold eN;split
 ·exact h
 ·intro y hy;rcases List.mem_append.1 hy with hy | hy
  ·exact h y hy
  ·rw[List.mem_singleton] at hy;subst hy;exact hx
theorem Kq {l:List Is}{x y:Is}{i:Nat}(h:l[i]? = some y):(eN l x)[i]? = some y:=by
 unfold eN;split
 ·exact h
 ·rw[List.getElem?_append_left (List.getElem?_eq_some_iff.1 h).1];exact h
theorem Br (l:List Is)(x:Is):x∈eN l x:=by
 unfold eN;split
 ·assumption
 ·simp
theorem Bq (l:List Is)(x:Is):∃ t,eN l x=l++t:=by
 unfold eN;split
 ·exact⟨[],by simp⟩
 ·exact⟨[x],rfl⟩
theorem tw (x:Is):∀ (c:List In) (l:List Is) (r:List Nat),∃ t,(gL x c l r).1=l++t
 | [],l,r=>⟨[],by simp[gL]⟩
 | i::c,l,r=>by
  simp only[gL]
  cases jz x i with
  | none=>exact tw x c l r
  | some y=>
   simp only;obtain⟨t1,h1⟩:=Bq l y;obtain⟨t2,h2⟩:=tw x c (eN l y) (if rX i=true then fU r (gu (eN l y) y) else r);exact⟨t1++t2,by rw[h2,h1,List.append_assoc]⟩
theorem DF {l:List Is}{x:Is}(h:x∈l):gu l x<l.length:=by
 unfold gu;exact List.findIdx_lt_length_of_exists ⟨x,h,by simp⟩
def yf (l:List Is)(x:Is)(c:List In):List Int:=c.map fun i=>match jz x i with
 | none=>-1
 | some y=>(gu l y:Int)
theorem vc {l:List Is}{y:Is}(h:y∈l)(t:List Is):gu (l++t) y=gu l y:=by
 unfold gu;rw[List.findIdx_append,if_pos];exact List.findIdx_lt_length_of_exists ⟨y,h,by simp⟩
theorem zN (x:Is)(t:List Is):∀ (c:List In) (l:List Is),(∀ i∈c,∀ y,jz x i=some y→y∈l)→yf (l++t) x c=yf l x c
 | [],_,_=>rfl
 | i::c,l,h=>by
  have ih:=zN x t c l fun j hj=>h j (List.mem_cons_of_mem _ hj);unfold yf at ih ⊢;rw[List.map_cons,List.map_cons,ih];congr 1
  cases hc:jz x i with
  | none=>rfl
  | some y=>
   simp only;rw[vc (h i List.mem_cons_self y hc)]
theorem pz (l:List Nat)(n x:Nat):x∈fU l n↔x∈l∨x=n:=by
 unfold fU;split
 ·rename_i h;exact⟨.inl,fun h2=>h2.elim id fun e=>e ▸ h⟩
 ·rw[List.mem_append,List.mem_cons];have:=List.take_append_drop (cq l n) l;constructor
  ·rintro (h | h | h)
   ·exact .inl (List.mem_of_mem_take h)
   ·exact .inr h
   ·exact .inl (List.mem_of_mem_drop h)
  ·rintro (h | h)
   ·rw[← this,List.mem_append] at h;exact h.elim .inl fun h=>.inr (.inr h)
   ·exact .inr (.inl h)
structure SI (x:Is)(c:List In)(l:List Is)(r:List Nat)(L:List Is)(row:List Int)(R:List Nat):Prop where
 pre:∃ t,L=l++t
 row:row=yf L x c
 mem:∀ i∈c,∀ y,jz x i=some y→y∈L
 nd:l.Nodup→L.Nodup
 new:∀ k y,l.length≤k→L[k]? = some y→∃ i∈c,jz x i=some y
 root:∀ n,n∈R↔n∈r∨∃ i∈c,rX i=true∧∃ y,jz x i=some y∧gu L y=n
theorem BW (x:Is):∀ (c:List In) (l:List Is) (r:List Nat),SI x c l r (gL x c l r).1 (gL x c l r).2.1 (gL x c l r).2.2
 | [],l,r=>by
  refine⟨⟨[],by simp[gL]⟩,rfl,(fun i hi=>by cases hi),id,fun k y h1 h2=>?_,fun n=>by simp[gL]⟩;simp only[gL] at h2;rw[List.getElem?_eq_none h1] at h2;cases h2
 | i::c,l,r=>by
  cases hc:jz x i with
  | none=>
   have ih:=BW x c l r;simp only[gL,hc];refine⟨ih.pre,?_,?_,ih.nd,?_,?_⟩
   ·rw[ih.row];simp only[yf,List.map_cons,hc]
   ·intro j hj y hy;rcases List.mem_cons.1 hj with rfl | hj
    ·rw[hc] at hy;cases hy
    ·exact ih.mem j hj y hy
   ·intro k y h1 h2;obtain⟨j,hj,hy⟩:=ih.new k y h1 h2;exact⟨j,List.mem_cons_of_mem _ hj,hy⟩
   ·intro n;rw[ih.root];constructor
    ·rintro (h | ⟨j,hj,h⟩)
     ·exact .inl h
     ·exact .inr ⟨j,List.mem_cons_of_mem _ hj,h⟩
    ·rintro (h | ⟨j,hj,hg,y,hy,h⟩)
     ·exact .inl h
     ·rcases List.mem_cons.1 hj with rfl | hj
      ·rw[hc] at hy;cases hy
      ·exact .inr ⟨j,hj,hg,y,hy,h⟩
  | some z=>
   have ih:=BW x c (eN l z) (if rX i=true then fU r (gu (eN l z) z) else r);simp only[gL,hc];generalize gL x c (eN l z) (if rX i=true then fU r (gu (eN l z) z) else r)=S at ih ⊢;obtain⟨t,ht⟩:=ih.pre;obtain⟨t',ht'⟩:=Bq l z;have hz:z∈eN l z:=Br l z;have hzi:gu S.1 z=gu (eN l z) z:=by rw[ht];exact vc hz t
   refine⟨⟨t'++t,by rw[ht,ht',List.append_assoc]⟩,?_,?_,fun h=>ih.nd (mB h),?_,?_⟩
   ·rw[ih.row];simp only[yf,List.map_cons,hc,hzi]
   ·intro j hj y hy;rcases List.mem_cons.1 hj with rfl | hj
    ·rw[hc] at hy;cases hy;rw[ht];exact List.mem_append_left _ hz
    ·exact ih.mem j hj y hy
   ·intro k y h1 h2;by_cases hk:(eN l z).length≤k
    ·obtain⟨j,hj,hy⟩:=ih.new k y hk h2;exact⟨j,List.mem_cons_of_mem _ hj,hy⟩
    ·rw[ht,List.getElem?_append_left yA] at h2;refine⟨i,List.mem_cons_self,?_⟩;unfold eN at h2 hk;split at h2
     ·rw[List.getElem?_eq_none h1] at h2;cases h2
     ·rw[List.getElem?_append_right h1] at h2;have:k-l.length=0:=by
       have:=(List.getElem?_eq_some_iff.1 h2).1;simp only[List.length_cons,List.length_nil] at this;omega
      rw[this] at h2;simp only[List.getElem?_cons_zero,Option.some.injEq] at h2;rw[hc,h2]
   ·intro n;rw[ih.root];constructor
    ·rintro (h | ⟨j,hj,h⟩)
     ·by_cases hg:rX i=true
      ·rw[if_pos hg,pz] at h;rcases h with h | h
       ·exact .inl h
       ·exact .inr ⟨i,List.mem_cons_self,hg,z,hc,by rw[hzi,h]⟩
      ·rw[if_neg hg] at h;exact .inl h
     ·exact .inr ⟨j,List.mem_cons_of_mem _ hj,h⟩
    ·rintro (h | ⟨j,hj,hg,y,hy,h⟩)
     ·refine .inl ?_;split
      ·rw[pz];exact .inl h
      ·exact h
     ·rcases List.mem_cons.1 hj with rfl | hj
      ·refine .inl ?_;rw[if_pos hg,pz];rw[hc] at hy;cases hy;exact .inr (by rw[← h,hzi])
      ·exact .inr ⟨j,hj,hg,y,hy,h⟩
structure CI (u:Un)(i:Nat)(l:List Is)(cs:List (List Int))(r:List Nat):Prop where
 len:cs.length=i
 le:i≤l.length
 pos:0<l.length
 nd:l.Nodup
 mem:∀ j x,j<i→l[j]? = some x→∀ c∈au u x,∀ y,jz x c=some y→y∈l
 row:∀ j x,j<i→l[j]? = some x→cs[j]? = some (yf l x (au u x))
 up:∀ k y,0<k→l[k]? = some y→∃ j x,j<i∧j<k∧l[j]? = some x∧∃ c∈au u x,jz x c=some y
 root:∀ n,n∈r↔n=0∨∃ j x,j<i∧l[j]? = some x∧∃ c∈au u x,rX c=true∧∃ y,jz x c=some y∧gu l y=n
theorem CI.step {u:Un}{i:Nat}{l:List Is}{cs:List (List Int)}{r:List Nat}(h:CI u i l cs r){x:Is}(hx:l[i]? = some x) :
  CI u (i+1) (gL x (au u x) l r).1 (cs++[(gL x (au u x) l r).2.1]) (gL x (au u x) l r).2.2:=by
 have s:=BW x (au u x) l r;generalize gL x (au u x) l r=S at s ⊢;obtain⟨t,ht⟩:=s.pre;have N6:=(List.getElem?_eq_some_iff.1 hx).1;have Qg:∀ j,j<l.length→S.1[j]? = l[j]?:=fun j hj=>by rw[ht,List.getElem?_append_left hj]
 have hle:l.length≤S.1.length:=by rw[ht];simp
 have Vd:S.1[i]? = some x:=by rw[Qg i N6,hx]
 have hlen:=h.len;have PL:∀ j y,j<i→l[j]? = some y→∀ c∈au u y,∀ z,jz y c=some z→gu S.1 z=gu l z:=fun j y hj hy c hc z hz=>by
  rw[ht];exact vc (h.mem j y hj hy c hc z hz) t
 refine⟨by simp[hlen],by omega,by have:=h.pos;omega,s.nd h.nd,?_,?_,?_,?_⟩
 ·intro j y hj hy c hc z hz;by_cases e:j=i
  ·subst e;rw[Vd] at hy;cases hy;exact s.mem c hc z hz
  ·rw[Qg j yA] at hy;rw[ht];exact List.mem_append_left _ (h.mem j y yA hy c hc z hz)
 ·intro j y hj hy;by_cases e:j=i
  ·subst e;rw[Vd] at hy;cases hy;rw[List.getElem?_append_right yA,hlen,Nat.sub_self,s.row];rfl
  ·rw[Qg j yA] at hy;rw[List.getElem?_append_left yA,h.row j y yA hy,ht,zN];exact fun c hc z hz=>h.mem j y yA hy c hc z hz
 ·intro k y hk hy;by_cases Ot:k<l.length
  ·rw[Qg k Ot] at hy;obtain⟨j,z,h1,h2,h3,h4⟩:=h.up k y hk hy;exact⟨j,z,by omega,h2,by rw[Qg j yA];exact h3,h4⟩
  ·obtain⟨c,hc,Ym⟩:=s.new k y yA hy;exact⟨i,x,by omega,by omega,Vd,c,hc,Ym⟩
 ·intro n;rw[s.root,h.root];constructor
  ·rintro ((h1 | ⟨j,y,h1,h2,c,h3,h4,z,h5,h6⟩) | ⟨c,hc,hg,y,hy,h1⟩)
   ·exact .inl h1
   ·exact .inr ⟨j,y,by omega,by rw[Qg j yA];exact h2,c,h3,h4,z,h5,by rw[PL j y h1 h2 c h3 z h5];exact h6⟩
   ·exact .inr ⟨i,x,by omega,Vd,c,hc,hg,y,hy,h1⟩
  ·rintro (h1 | ⟨j,y,h1,h2,c,h3,h4,z,h5,h6⟩)
   ·exact .inl (.inl h1)
   ·by_cases e:j=i
    ·subst e;rw[Vd] at h2;cases h2;exact .inr ⟨c,h3,h4,z,h5,h6⟩
    ·rw[Qg j yA] at h2;exact .inl (.inr ⟨j,y,by omega,h2,c,h3,h4,z,h5,by rw[← PL j y yA h2 c h3 z h5];exact h6⟩)
theorem qg {u:Un}(hu:im u){x:Is}(hx:pY u x):∀ (c:List In) (l:List Is) (r:List Nat),(∀ i∈c,i∈au u x)→l.Nodup→(∀ y∈l,pY u y)→(gL x c l r).1.Nodup∧∀ y∈(gL x c l r).1,pY u y
 | [],_,_,_,h1,h2=>⟨h1,h2⟩
 | i::c,l,r,hc,h1,h2=>by
  simp only[gL];split
  ·exact qg hu hx c l r (fun j hj=>hc j (List.mem_cons_of_mem _ hj)) h1 h2
  ·rename_i y hy;exact qg hu hx c _ _ (fun j hj=>hc j (List.mem_cons_of_mem _ hj)) (mB h1) (CS h2 (CL hu hx (hc i List.mem_cons_self) hy))
theorem D0 {u:Un}(hu:im u):∀ (f i:Nat) (l:List Is) (cs:List (List Int)) (r:List Nat),i+f=100→(∀ y∈l,pY u y)→CI u i l cs r →
  CI u (mo u f i l cs r).is.length (mo u f i l cs r).is (mo u f i l cs r).calls (mo u f i l cs r).roots
 | 0,i,l,cs,r,hf,hv,h=>by
  have:=jW hu h.nd hv;have:=h.le;omega
 | f+1,i,l,cs,r,hf,hv,h=>by
  simp only[mo];split
  ·rename_i hn;have hle:l.length≤i:=by simpa using hn
   have hi:i=l.length:=by have:=h.le;omega
   subst hi;exact h
  ·rename_i x hx;exact D0 hu f (i+1) _ _ _ yA (qg hu (hv x (List.mem_of_getElem? hx)) (au u x) l r (fun _ h=>h) h.nd hv).2 (h.step hx)
theorem y0 {u:Un}(hu:im u):CI u (ak u).is.length (ak u).is (ak u).calls (ak u).roots:=by
 refine D0 hu 100 0 [⟨u.main,[]⟩] [] [0] rfl (fun x hx=>?_) ⟨rfl,by simp,by simp,by simp,(fun j x hj=>by omega),(fun j x hj=>by omega),fun k y hk hy=>?_,fun n=>by simp⟩
 ·rw[List.mem_singleton.1 hx];have hp:=hu.np.1;obtain⟨q,hq⟩:∃ q,u.ps[0]? = some q:=⟨_,List.getElem?_eq_getElem yA⟩;exact⟨⟨q,by rw[hu.main];exact hq,by rw[(hu.p0 q hq).2];rfl⟩,fun l hl=>by cases hl⟩
 ·obtain⟨k',rfl⟩:∃ k',k=k' + 1:=⟨k-1,by omega⟩;simp at hy
end Go.aN
