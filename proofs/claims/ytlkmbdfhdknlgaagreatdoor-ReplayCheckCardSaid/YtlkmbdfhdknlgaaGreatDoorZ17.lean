/- The code of a program: what lowering makes of it, and its fo -/
import Derived.Test.YtlkmbdfhdknlgaaGreatDoorZ16
namespace Go.aT
open Go.Can
structure En where
 name:ByteArray
 kind:Nat
 n:Nat
def gq (x:En):List CV:=[.str x.name,I x.kind,I x.n]
def gI:List En→ByteArray→Option En
 | [],_=>none
 | x::r,s=>if x.name=s then some x else gI r s
def j9 (E:List En)(s:ByteArray):En:=(gI E s).getD ⟨eS,0,0⟩
theorem fU {E:List En}{s:ByteArray}{x:En}(h:gI E s=some x):j9 E s=x:=by simp[j9,h]
theorem cS (A B:List En)(s:ByteArray):gI (A++B) s=(match gI A s with
  | some x=>some x
  | none=>gI B s):=by
 induction A with
 | nil=>rfl
 | cons a r ih=>
  simp only[List.cons_append,gI];split
  ·rfl
  ·exact ih
theorem om {E:List En}{s:ByteArray}:gI E s=none↔s∉E.map (·.name):=by
 induction E with
 | nil=>simp[gI]
 | cons a r ih=>
  simp only[gI,List.map_cons,List.mem_cons,not_or];split
  ·rename_i h;simp[h]
  ·rename_i h;rw[ih];exact⟨fun h2=>⟨fun e=>h e.symm,h2⟩,fun h2=>h2.2⟩
def df (E:List En):Ex→Ex
 | .nm s=>if (j9 E s).kind=1 then .iV (j9 E s).n else .loc (j9 E s).n
 | .un k e=>.un k (df E e)
 | .bin k a b=>.bin k (df E a) (df E b)
 | e=>e
def uJ (E:List En)(r:Rf):Pl:=⟨decide ((j9 E r.name).kind=5),(j9 E r.name).n,r.index.map (df E)⟩
def cC (E:List En):List Ar→List Ex
 | []=>[]
 | .exp e::l=>df E e::cC E l
 | .ru _::l=>cC E l
def dT (E:List En):List Ar→List Pl
 | []=>[]
 | .exp _::l=>dT E l
 | .ru r::l=>uJ E r::dT E l
def ez (k:Nat):Sm→List En
 | .fN s _=>[⟨s,4,k⟩]
 | _=>[]
mutual
/-- The code of a statement that begins at place b, and the number of locals after it. -/
def dq:Sm→List En→Nat→Nat→List In×Nat
 | .fN _ e,E,k,_=>([.set k false (df E e)],k+1)
 | .gz s e,E,k,_=>([.set (j9 E s).n (decide ((j9 E s).kind=1)) (df E e)],k)
 | .dm g s l,E,k,_=>([.call g (j9 E s).n (cC E l) (dT E l)],k)
 | .cR u r,E,k,_=>([.lock u (uJ E r)],k)
 | .jS e th el,E,k,b=>
  if el.length=0 then (.branch (b+1+(bF th E k (b+1)).1.length) (df E e)::(bF th E k (b+1)).1,(bF th E k (b+1)).2)
  else (.branch (b+2+(bF th E k (b+1)).1.length) (df E e)::((bF th E k (b+1)).1++.jump (b+2+(bF th E k (b+1)).1.length+(bF el E (bF th E k (b+1)).2 (b+2+(bF th E k (b+1)).1.length)).1.length) ::
   (bF el E (bF th E k (b+1)).2 (b+2+(bF th E k (b+1)).1.length)).1),(bF el E (bF th E k (b+1)).2 (b+2+(bF th E k (b+1)).1.length)).2)
 | .cb e th,E,k,b=>(.branch (b+2+(bF th E k (b+1)).1.length) (df E e)::((bF th E k (b+1)).1++[.jump b]),(bF th E k (b+1)).2)
 | .ia,_,k,_=>([.ret],k)
def bF:List Sm→List En→Nat→Nat→List In×Nat
 | [],_,k,_=>([],k)
 | s::r,E,k,b=>((dq s E k b).1++(bF r (E++ez k s) (dq s E k b).2 (b+(dq s E k b).1.length)).1,(bF r (E++ez k s) (dq s E k b).2 (b+(dq s E k b).1.length)).2)
end
mutual
/-- The number of statements. -/
def lT:Sm→Nat
 | .jS _ th el=>1+ek th+ek el
 | .cb _ th=>1+ek th
 | _=>1
def ek:List Sm→Nat
 | []=>0
 | s::r=>lT s+ek r
end
mutual
/-- The statements of the instructions; the statement itself is number s. -/
def sr:Sm→Nat→List Nat
 | .jS _ th el,s=>if el.length=0 then s::gy th (s+1) else s::(gy th (s+1)++s::gy el (s+1+ek th))
 | .cb _ th,s=>s::(gy th (s+1)++[s])
 | _,s=>[s]
def gy:List Sm→Nat→List Nat
 | [],_=>[]
 | x::r,s=>sr x s++gy r (s+lT x)
end
def Ac (c:Nat):Nat→List ByteArray→List En
 | _,[]=>[]
 | i,s::r=>⟨s,c,i⟩ :: Ac c (i+1) r
def cD (p:Pg):List En:=Ac 1 0 (p.gs.map (·.name))++Ac 2 0 (p.ms.map (·.name))++Ac 3 0 (p.fs.map (·.name))
def jA:Nat→Nat→List Pm→List En
 | _,_,[]=>[]
 | i,j,p::r=>if p.mutex=true then ⟨p.name,5,j⟩ :: jA i (j+1) r else ⟨p.name,4,i⟩ :: jA (i+1) j r
def pI:List Pm→Nat
 | []=>0
 | p::r=>(if p.mutex=true then 0 else 1)+pI r
def pL:List Pm→Nat
 | []=>0
 | p::r=>(if p.mutex=true then 1 else 0)+pL r
def oQ (p:Pg)(f:Fu):List En:=cD p++jA 0 0 f.params
def la (p:Pg)(f:Fu):Pr:=⟨f.name,pI f.params,pL f.params,(bF f.body (oQ p f) (pI f.params) 0).2,(bF f.body (oQ p f) (pI f.params) 0).1++[.ret]⟩
def jV (p:Pg):Un:=⟨p.gs.map (·.init),p.ms,p.fs.map (la p),0⟩
def yj (g k:Nat):Ex→Prop
 | .num n=>n<4611686018427387904
 | .loc i=>i<k
 | .iV i=>i<g
 | .un o e=>o<2∧yj g k e
 | .bin o a b=>o<13∧yj g k a∧yj g k b
 | _=>False
def EF (ms:List Mx)(g k L:Nat)(p:Pl):Prop:=
 (p.param=true∧p.index<L∧p.at_=none)∨(p.param=false∧∃ m,ms[p.index]? = some m∧((p.at_=none∧m.size=0)∨∃ e,p.at_=some e∧0<m.size∧yj g k e))
def BY (EJ:List (Nat×Nat))(ms:List Mx)(g k L M:Nat):In→Prop
 | .set t gl e=>(if gl=true then t<g else t<k)∧yj g k e
 | .call _ t is ps=>EJ[t]? = some (is.length,ps.length)∧(∀ e∈is,yj g k e)∧∀ p∈ps,EF ms g k L p
 | .lock _ p=>EF ms g k L p
 | .branch t e=>t≤M∧yj g k e
 | .jump t=>t≤M
 | .ret=>True
theorem yj.mono {g k k':Nat}(h:k≤k'):∀ {e:Ex},yj g k e→yj g k' e
 | .num _,hx=>hx
 | .loc _,hx=>Nat.lt_of_lt_of_le hx h
 | .iV _,hx=>hx
 | .un _ _,hx=>⟨hx.1,yj.mono h hx.2⟩
 | .bin _ _ _,hx=>⟨hx.1,yj.mono h hx.2.1,yj.mono h hx.2.2⟩
 | .zero,hx=>hx.elim
 | .nm _,hx=>hx.elim
theorem EF.mono {ms:List Mx}{g k k' L:Nat}(h:k≤k'){p:Pl}(hp:EF ms g k L p):EF ms g k' L p:=by
 rcases hp with hp | ⟨h1,m,h2,h3 | ⟨e,h3,h4,h5⟩⟩
 ·exact .inl hp
 ·exact .inr ⟨h1,m,h2,.inl h3⟩
 ·exact .inr ⟨h1,m,h2,.inr ⟨e,h3,h4,h5.mono h⟩⟩
theorem BY.mono {EJ:List (Nat×Nat)}{ms:List Mx}{g k k' L M M':Nat}(h:k≤k')(hM:M≤M'){i:In}(hi:BY EJ ms g k L M i):BY EJ ms g k' L M' i:=by
 cases i with
 | set t gl e=>
  refine⟨?_,hi.2.mono h⟩;have:=hi.1;split at this
  ·rename_i hg;rw[if_pos hg];exact this
  ·rename_i hg;rw[if_neg hg];omega
 | call go t is ps=>exact⟨hi.1,fun e he=>(hi.2.1 e he).mono h,fun p hp=>(hi.2.2 p hp).mono h⟩
 | lock u p=>exact EF.mono h hi
 | branch t e=>exact⟨Nat.le_trans hi.1 hM,hi.2.mono h⟩
 | jump t=>exact Nat.le_trans hi hM
 | ret=>trivial
structure EW (g:Nat)(ms:List Mx)(fs:List (ByteArray×List Pm))(ps:List Pm)(V:List ByteArray)(E:List En)(k:Nat):Prop where
 m:∀ m∈ms,∃ j,gI E m.name=some ⟨m.name,2,j⟩∧ms[j]? = some m
 f:∀ f∈fs,∃ j,gI E f.1=some ⟨f.1,3,j⟩∧fs[j]? = some f
 p:∀ p∈ps,p.mutex=true→∃ j,gI E p.name=some ⟨p.name,5,j⟩∧j<pL ps
 v:∀ s∈V,∃ c j,gI E s=some ⟨s,c,j⟩∧((c=1∧j<g)∨(c=4∧j<k))
 o:∀ s,s∉V→s∉nG++nM++nF++nP→gI E s=none
theorem EW.add {g:Nat}{ms:List Mx}{fs:List (ByteArray×List Pm)}{ps:List Pm}{V:List ByteArray}{E:List En}{k:Nat}(h:EW g ms fs ps V E k){s:ByteArray}(hs:gI E s=none):EW g ms fs ps (V++[s]) (E++[⟨s,4,k⟩]) (k+1):=by
 have hk:∀ {t:ByteArray} {x:En},gI E t=some x→gI (E++[⟨s,4,k⟩]) t=some x:=fun {t x} ht=>by rw[cS,ht]
 refine⟨fun m hm=>?_,fun f hf=>?_,fun p hp mw=>?_,fun t ht=>?_,fun t ht Zf=>?_⟩
 ·obtain⟨j,h1,h2⟩:=h.m m hm;exact⟨j,hk h1,h2⟩
 ·obtain⟨j,h1,h2⟩:=h.f f hf;exact⟨j,hk h1,h2⟩
 ·obtain⟨j,h1,h2⟩:=h.p p hp mw;exact⟨j,hk h1,h2⟩
 ·rcases List.mem_append.1 ht with ht | ht
  ·obtain⟨c,j,h1,h2⟩:=h.v t ht;exact⟨c,j,hk h1,by omega⟩
  ·rw[List.mem_singleton] at ht;subst ht;exact⟨4,k,by rw[cS,hs];simp[gI],.inr ⟨rfl,by omega⟩⟩
 ·rw[List.mem_append,not_or,List.mem_singleton] at ht;rw[cS,h.o t ht.1 Zf];simp only[gI];rw[if_neg fun e=>ht.2 e.symm]
theorem EW.up {g:Nat}{ms:List Mx}{fs:List (ByteArray×List Pm)}{ps:List Pm}{V:List ByteArray}{E:List En}{k k':Nat}(h:EW g ms fs ps V E k)(hk:k≤k'):EW g ms fs ps V E k':=
 ⟨h.m,h.f,h.p,fun s hs=>by
  obtain⟨c,j,h1,h2⟩:=h.v s hs;exact⟨c,j,h1,by omega⟩,h.o⟩
section
variable {g:Nat}{ms:List Mx}{fs:List (ByteArray×List Pm)}{ps:List Pm}{V:List ByteArray}{E:List En}{k:Nat}
theorem EW.ex (h:EW g ms fs ps V E k):∀ {d:Nat} {e:Ex},eO V d e→yj g k (df E e)
 | _,.num n,hx=>by simpa [eO,df,yj] using hx
 | _,.nm s,hx=>by
  simp only[eO] at hx;obtain⟨c,j,h1,h2⟩:=h.v s hx;simp only[df,fU h1];rcases h2 with ⟨rfl,h2⟩ | ⟨rfl,h2⟩
  ·exact h2
  ·exact h2
 | d+1,.un o e,hx=>by
  simp only[eO] at hx;exact⟨hx.1,h.ex hx.2⟩
 | d+1,.bin o a b,hx=>by
  simp only[eO] at hx;exact⟨hx.1,h.ex hx.2.1,h.ex hx.2.2⟩
 | 0,.un _ _,hx=>hx.elim
 | 0,.bin _ _ _,hx=>hx.elim
 | 0,.zero,hx=>hx.elim
 | 0,.loc _,hx=>hx.elim
 | 0,.iV _,hx=>hx.elim
 | _+1,.zero,hx=>hx.elim
 | _+1,.loc _,hx=>hx.elim
 | _+1,.iV _,hx=>hx.elim
theorem EW.rf (h:EW g ms fs ps V E k){r:Rf}(hr:BX ms ps V r):EF ms g k (pL ps) (uJ E r):=by
 rcases hr with ⟨m,hm,hn,hi⟩ | ⟨p,hp,mw,hn,hi⟩
 ·obtain⟨j,h1,h2⟩:=h.m m hm;rw[← hn] at h1;refine .inr ⟨by simp[uJ,fU h1],m,by simpa [uJ,fU h1] using h2,?_⟩;rcases hi with ⟨h3,h4⟩ | ⟨e,h3,h4,h5⟩
  ·exact .inl ⟨by simp[uJ,h3],h4⟩
  ·exact .inr ⟨df E e,by simp[uJ,h3],h4,h.ex h5⟩
 ·obtain⟨j,h1,h2⟩:=h.p p hp mw;rw[← hn] at h1;exact .inl ⟨by simp[uJ,fU h1],by simpa [uJ,fU h1] using h2,by simp[uJ,hi]⟩
theorem EW.ars (h:EW g ms fs ps V E k):∀ {gp:List Pm} {l:List Ar},gZ ms ps V gp l→(cC E l).length=pI gp∧(dT E l).length=pL gp∧(∀ e∈cC E l,yj g k e)∧∀ p∈dT E l,EF ms g k (pL ps) p
 | [],[],_=>by simp[cC,dT,pI,pL]
 | q::gp,a::l,hx=>by
  simp only[gZ] at hx;obtain⟨i1,i2,i3,i4⟩:=h.ars hx.2
  cases a with
  | ru r=>
   refine⟨by simp[cC,pI,hx.1.1,i1],by simp[dT,pL,hx.1.1,i2];omega,i3,fun p hp=>?_⟩;simp only[dT,List.mem_cons] at hp;rcases hp with rfl | hp
   ·exact h.rf hx.1.2
   ·exact i4 p hp
  | exp e=>
   refine⟨by simp[cC,pI,hx.1.1,i1];omega,by simp[dT,pL,hx.1.1,i2],fun x hp=>?_,i4⟩;simp only[cC,List.mem_cons] at hp;rcases hp with rfl | hp
   ·exact h.ex hx.1.2
   ·exact i3 x hp
 | [],_::_,hx=>hx.elim
 | _::_,[],hx=>hx.elim
end
theorem sR (k:Nat)(hk:k<24):eA k∉nG++nM++nF++nP:=by
 obtain⟨h1,h2,h3,h4⟩:=pF k hk;simp only[List.mem_append,not_or];exact⟨⟨⟨h1,h2⟩,h3⟩,h4⟩
def Hk (x:ByteArray×List Pm):Nat×Nat:=(pI x.2,pL x.2)
theorem vX {g:Nat}{ms:List Mx}{fs:List (ByteArray×List Pm)}{ps:List Pm} :
  (∀ s:Sm,∀ d V E k b,EW g ms fs ps V E k→dh ms fs ps d V s→k≤(dq s E k b).2∧(∀ i∈(dq s E k b).1,BY (fs.map Hk) ms g (dq s E k b).2 (pL ps) (b+(dq s E k b).1.length) i)∧EW g ms fs ps (V++di s) (E++ez k s) (dq s E k b).2∧8*(dq s E k b).1.length≤dB s∧(dq s E k b).2≤k+lT s)∧
  (∀ l:List Sm,∀ d V E k b,EW g ms fs ps V E k→ck ms fs ps d V l→k≤(bF l E k b).2∧(∀ i∈(bF l E k b).1,BY (fs.map Hk) ms g (bF l E k b).2 (pL ps) (b+(bF l E k b).1.length) i)∧8*(bF l E k b).1.length≤bz l∧(bF l E k b).2≤k+ek l):=by
 let M1:Sm→Prop:=fun s=>∀ d V E k b,EW g ms fs ps V E k→dh ms fs ps d V s→k≤(dq s E k b).2∧(∀ i∈(dq s E k b).1,BY (fs.map Hk) ms g (dq s E k b).2 (pL ps) (b+(dq s E k b).1.length) i)∧EW g ms fs ps (V++di s) (E++ez k s) (dq s E k b).2∧8*(dq s E k b).1.length≤dB s∧(dq s E k b).2≤k+lT s
 let M2:List Sm→Prop:=fun l=>∀ d V E k b,EW g ms fs ps V E k→ck ms fs ps d V l→k≤(bF l E k b).2∧(∀ i∈(bF l E k b).1,BY (fs.map Hk) ms g (bF l E k b).2 (pL ps) (b+(bF l E k b).1.length) i)∧8*(bF l E k b).1.length≤bz l∧(bF l E k b).2≤k+ek l
 have A1:∀ (s:ByteArray) (e:Ex),M1 (.fN s e):=by
  intro s e d V E k b hE hw;simp only[dh] at hw;obtain⟨⟨j,hj,rfl⟩,hv,he⟩:=hw;have hn:gI E (eA j)=none:=hE.o _ hv (sR j hj);refine⟨by simp[dq],fun i hi=>?_,hE.add hn,by simp[dq,dB],by simp[dq,lT]⟩;simp only[dq,List.mem_singleton] at hi ⊢;subst hi;exact⟨by simp,(hE.ex he).mono yA⟩
 have A2:∀ (s:ByteArray) (e:Ex),M1 (.gz s e):=by
  intro s e d V E k b hE hw;simp only[dh] at hw;obtain⟨c,j,h1,h2⟩:=hE.v s hw.1;refine⟨by simp[dq],fun i hi=>?_,by simpa [di,ez,dq] using hE,by simp[dq,dB],by simp[dq,lT]⟩;simp only[dq,List.mem_singleton] at hi ⊢;subst hi;refine⟨?_,hE.ex hw.2⟩;rw[fU h1];rcases h2 with ⟨rfl,h2⟩ | ⟨rfl,h2⟩
  ·simpa using h2
  ·simpa using h2
 have A3:∀ (g:Bool) (s:ByteArray) (l:List Ar),M1 (.dm g s l):=by
  intro go s l d V E k b hE hw;simp only[dh] at hw;obtain⟨gp,h1,h2⟩:=hw;obtain⟨j,h3,h4⟩:=hE.f _ h1;obtain⟨a1,a2,a3,a4⟩:=hE.ars h2;refine⟨by simp[dq],fun i hi=>?_,by simpa [di,ez,dq] using hE,by simp[dq,dB],by simp[dq,lT]⟩;simp only[dq,List.mem_singleton] at hi ⊢;subst hi;refine⟨?_,a3,a4⟩;rw[fU h3,List.getElem?_map,h4];simp[Hk,a1,a2]
 have A4:∀ (u:Bool) (r:Rf),M1 (.cR u r):=by
  intro u r d V E k b hE hw;simp only[dh] at hw;refine⟨by simp[dq],fun i hi=>?_,by simpa [di,ez,dq] using hE,by simp[dq,dB],by simp[dq,lT]⟩;simp only[dq,List.mem_singleton] at hi ⊢;subst hi;exact hE.rf hw
 have A5:∀ (e:Ex) (th el:List Sm),M2 th→M2 el→M1 (.jS e th el):=by
  intro e th el i1 i2 d V E k b hE hw
  cases d with
  | zero=>simp[dh] at hw
  | succ d=>
   simp only[dh] at hw;obtain⟨a1,a2,a3,a4⟩:=i1 d V E k (b+1) hE hw.2.1;by_cases Ki:el.length=0
   ·refine⟨by simpa [dq,Ki] using a1,fun i hi=>?_,by simpa [di,ez,dq,Ki] using hE.up a1,by simp[dq,dB,Ki];omega,by simp[dq,lT,Ki];omega⟩;simp only[dq,Ki,if_true,List.mem_cons,List.length_cons] at hi ⊢;rcases hi with rfl | hi
    ·exact⟨by omega,(hE.ex hw.1).mono a1⟩
    ·exact (a2 i hi).mono (Nat.le_refl _) yA
   ·obtain⟨b1,b2,b3,b4⟩:=i2 d V E (bF th E k (b+1)).2 (b+2+(bF th E k (b+1)).1.length) (hE.up a1) hw.2.2;refine⟨by simp only[dq,Ki,if_false];omega,fun i hi=>?_,by simpa [di,ez,dq,Ki] using hE.up (Nat.le_trans a1 b1),by simp[dq,dB,Ki];omega,by simp only[dq,lT,Ki,if_false];omega⟩;simp only[dq,Ki,if_false,List.mem_cons,List.mem_append,List.length_cons,List.length_append] at hi ⊢;rcases hi with rfl | hi | rfl | hi
    ·exact⟨by omega,(hE.ex hw.1).mono (Nat.le_trans a1 b1)⟩
    ·exact (a2 i hi).mono b1 yA
    ·exact Nat.le_trans (Nat.le_refl _) yA
    ·exact (b2 i hi).mono (Nat.le_refl _) yA
 have A6:∀ (e:Ex) (th:List Sm),M2 th→M1 (.cb e th):=by
  intro e th i1 d V E k b hE hw
  cases d with
  | zero=>simp[dh] at hw
  | succ d=>
   simp only[dh] at hw;obtain⟨a1,a2,a3,a4⟩:=i1 d V E k (b+1) hE hw.2;refine⟨by simpa [dq] using a1,fun i hi=>?_,by simpa [di,ez,dq] using hE.up a1,by simp[dq,dB];omega,by simp[dq,lT];omega⟩;simp only[dq,List.mem_cons,List.mem_append,List.length_cons,List.length_append,List.length_nil,List.not_mem_nil,or_false] at hi ⊢;rcases hi with rfl | hi | rfl
   ·exact⟨by omega,(hE.ex hw.1).mono a1⟩
   ·exact (a2 i hi).mono (Nat.le_refl _) yA
   ·exact Nat.le_trans (Nat.le_refl _) yA
 have A7:M1 .ia:=by
  intro d V E k b hE _;refine⟨by simp[dq],fun i hi=>?_,by simpa [di,ez,dq] using hE,by simp[dq,dB],by simp[dq,lT]⟩;simp only[dq,List.mem_singleton] at hi ⊢;subst hi;trivial
 have A0:M2 []:=by
  intro d V E k b hE _;exact⟨by simp[bF],fun i hi=>by simp[bF] at hi,by simp[bF],by simp[bF,ek]⟩
 have A8:∀ (s:Sm) (r:List Sm),M1 s→M2 r→M2 (s::r):=by
  intro s r i1 i2 d V E k b hE hw;simp only[ck] at hw;obtain⟨a1,a2,a3,a4,a5⟩:=i1 d V E k b hE hw.1;obtain⟨b1,b2,b3,b4⟩:=i2 d (V++di s) (E++ez k s) (dq s E k b).2 (b+(dq s E k b).1.length) a3 hw.2;refine⟨by simp only[bF];omega,fun i hi=>?_,by simp only[bF,bz,List.length_append];omega,by simp only[bF,ek];omega⟩;simp only[bF,List.mem_append,List.length_append] at hi ⊢;rcases hi with hi | hi
  ·exact (a2 i hi).mono b1 yA
  ·exact (b2 i hi).mono (Nat.le_refl _) yA
 exact⟨fun s=>Sm.rec (motive_1:=M1) (motive_2:=M2) A1 A2 A3 A4 A5 A6 A7 A0 A8 s,fun l=>Sm.rec_1 (motive_1:=M1) (motive_2:=M2) A1 A2 A3 A4 A5 A6 A7 A0 A8 l⟩
theorem uD:(∀ s:Sm,8*lT s≤dB s)∧(∀ l:List Sm,8*ek l≤bz l):=by
 let M1:Sm→Prop:=fun s=>8*lT s≤dB s
 let M2:List Sm→Prop:=fun l=>8*ek l≤bz l
 have A5:∀ (e:Ex) (th el:List Sm),M2 th→M2 el→M1 (.jS e th el):=fun e th el h1 h2=>by
  simp only[M1,M2,lT,dB] at *;omega
 have A6:∀ (e:Ex) (th:List Sm),M2 th→M1 (.cb e th):=fun e th h1=>by
  simp only[M1,M2,lT,dB] at *;omega
 have A8:∀ (s:Sm) (r:List Sm),M1 s→M2 r→M2 (s::r):=fun s r h1 h2=>by
  simp only[M1,M2,ek,bz] at *;omega
 have A1:∀ (s:ByteArray) (e:Ex),M1 (.fN s e):=fun s e=>by simp[M1,lT,dB]
 have A2:∀ (s:ByteArray) (e:Ex),M1 (.gz s e):=fun s e=>by simp[M1,lT,dB]
 have A3:∀ (g:Bool) (s:ByteArray) (l:List Ar),M1 (.dm g s l):=fun g s l=>by simp[M1,lT,dB]
 have A4:∀ (u:Bool) (r:Rf),M1 (.cR u r):=fun u r=>by simp[M1,lT,dB]
 have A7:M1 .ia:=by simp[M1,lT,dB]
 have A0:M2 []:=by simp[M2,ek,bz]
 exact⟨fun s=>Sm.rec (motive_1:=M1) (motive_2:=M2) A1 A2 A3 A4 A5 A6 A7 A0 A8 s,fun l=>Sm.rec_1 (motive_1:=M1) (motive_2:=M2) A1 A2 A3 A4 A5 A6 A7 A0 A8 l⟩
theorem oo {c:Nat}:∀ {l:List ByteArray} {i j:Nat} {s:ByteArray},l[j]? = some s→l.Nodup→gI (Ac c i l) s=some ⟨s,c,i+j⟩
 | [],_,_,_,h,_=>by simp at h
 | x::r,i,0,s,h,_=>by
  simp only[List.getElem?_cons_zero,Option.some.injEq] at h;subst h;simp[Ac,gI]
 | x::r,i,j+1,s,h,hn=>by
  simp only[List.getElem?_cons_succ] at h;rw[List.nodup_cons] at hn;have hx:x≠s:=fun e=>hn.1 (by rw[e];exact List.mem_of_getElem? h);simp only[Ac,gI];rw[if_neg hx,oo h hn.2];congr 2;omega
theorem ke (c:Nat):∀ (l:List ByteArray) (i:Nat),(Ac c i l).map (·.name)=l
 | [],_=>rfl
 | s::r,i=>by simp[Ac,ke c r]
theorem dA {c i:Nat}{l:List ByteArray}{s:ByteArray}(h:s∉l):gI (Ac c i l) s=none:=by
 rw[om,ke];exact h
theorem mT:∀ (l:List Pm) (i j:Nat),(jA i j l).map (·.name)=l.map (·.name)
 | [],_,_=>rfl
 | p::r,i,j=>by
  simp only[jA];split<;>simp[mT r]
theorem og:∀ {l:List Pm} {i j:Nat} {p:Pm},(l.map (·.name)).Nodup→p∈l→(p.mutex=true→∃ n,gI (jA i j l) p.name=some ⟨p.name,5,n⟩∧n<j+pL l)∧(p.mutex=false→∃ n,gI (jA i j l) p.name=some ⟨p.name,4,n⟩∧n<i+pI l)
 | [],_,_,_,_,h=>by simp at h
 | q::r,i,j,p,hn,hp=>by
  simp only[List.map_cons,List.nodup_cons] at hn;rcases List.mem_cons.1 hp with rfl | hp
  ·refine⟨fun hm=>⟨j,by simp[jA,hm,gI],by simp[pL,hm];omega⟩,fun hm=>⟨i,by simp[jA,hm,gI],by simp[pI,hm];omega⟩⟩
  ·have hx:q.name≠p.name:=fun e=>hn.1 (by rw[e];exact List.mem_map_of_mem hp)
   cases hq:q.mutex with
   | true=>
    obtain⟨h1,h2⟩:=og (i:=i) (j:=j+1) hn.2 hp;refine⟨fun hm=>?_,fun hm=>?_⟩
    ·obtain⟨n,h3,h4⟩:=h1 hm;exact⟨n,by simp[jA,hq,gI,hx,h3],by simp[pL,hq];omega⟩
    ·obtain⟨n,h3,h4⟩:=h2 hm;exact⟨n,by simp[jA,hq,gI,hx,h3],by simp[pI,hq];omega⟩
   | false=>
    obtain⟨h1,h2⟩:=og (i:=i+1) (j:=j) hn.2 hp;refine⟨fun hm=>?_,fun hm=>?_⟩
    ·obtain⟨n,h3,h4⟩:=h1 hm;exact⟨n,by simp[jA,hq,gI,hx,h3],by simp[pL,hq];omega⟩
    ·obtain⟨n,h3,h4⟩:=h2 hm;exact⟨n,by simp[jA,hq,gI,hx,h3],by simp[pI,hq];omega⟩
theorem fC:(∀ s∈nM,s∉nG)∧(∀ s∈nF,s∉nG∧s∉nM)∧(∀ s∈nP,s∉nG∧s∉nM∧s∉nF)∧nG.Nodup∧nM.Nodup∧nF.Nodup∧nP.Nodup:=by
 have h1:∀ s∈nM,∀ t∈nG,s≠t:=by decide
 have h2:∀ s∈nF,∀ t∈nG++nM,s≠t:=by decide
 have h3:∀ s∈nP,∀ t∈nG++nM++nF,s≠t:=by decide
 refine⟨fun s hs hx=>h1 s hs s hx rfl,fun s hs=>⟨fun hx=>h2 s hs s (by simp[hx]) rfl,fun hx=>h2 s hs s (by simp[hx]) rfl⟩,fun s hs=>⟨fun hx=>h3 s hs s (by simp[hx]) rfl,fun hx=>h3 s hs s (by simp[hx]) rfl,fun hx=>h3 s hs s (by simp[hx]) rfl⟩,?_,?_,?_,?_⟩<;>
  simp only[List.Nodup,nG,nM,nF,nP,List.pairwise_cons,List.Pairwise.nil,and_true]<;>decide
theorem nK {l:List ByteArray}{k:Nat}{s:ByteArray}(h:s∈l.take k):s∈l:=List.mem_of_mem_take h
theorem g9 {α β:Type}{l:List α}(f:α→β){a:α}(h:a∈l):∃ j:Nat,l[j]? = some a∧(l.map f)[j]? = some (f a):=by
 obtain⟨j,hj⟩:=List.mem_iff_getElem?.1 h;exact⟨j,hj,by rw[List.getElem?_map,hj];rfl⟩
section
variable {p:Pg}(h:jg p)
include h
theorem jg.sub:(∀ s∈p.gs.map (·.name),s∈nG)∧(∀ s∈p.ms.map (·.name),s∈nM)∧(∀ s∈p.fs.map (·.name),s∈nF)∧(∀ f∈p.fs,∀ s∈f.params.map (·.name),s∈nP):=by
 obtain⟨k1,_,e1⟩:=h.gn;obtain⟨k2,_,_,e2⟩:=h.mn;obtain⟨k3,_,_,e3⟩:=h.fn;refine⟨fun s hs=>?_,fun s hs=>?_,fun s hs=>?_,fun f hf s hs=>?_⟩
 ·rw[e1] at hs;exact nK hs
 ·rw[e2] at hs;exact nK hs
 ·rw[e3] at hs;exact nK hs
 ·obtain⟨k,_,e⟩:=h.pn f hf;rw[e,List.mem_reverse] at hs;exact nK hs
theorem jg.nd:(p.gs.map (·.name)).Nodup∧(p.ms.map (·.name)).Nodup∧(p.fs.map (·.name)).Nodup∧∀ f∈p.fs,(f.params.map (·.name)).Nodup:=by
 obtain⟨_,_,_,n1,n2,n3,n4⟩:=fC;obtain⟨k1,_,e1⟩:=h.gn;obtain⟨k2,_,_,e2⟩:=h.mn;obtain⟨k3,_,_,e3⟩:=h.fn;refine⟨?_,?_,?_,fun f hf=>?_⟩
 ·rw[e1];exact n1.sublist (List.take_sublist _ _)
 ·rw[e2];exact n2.sublist (List.take_sublist _ _)
 ·rw[e3];exact n3.sublist (List.take_sublist _ _)
 ·obtain⟨k,_,e⟩:=h.pn f hf;rw[e];exact List.pairwise_reverse.2 ((n4.sublist (List.take_sublist _ _)).imp fun h=>Ne.symm h)
theorem jg.dec:(∀ g∈p.gs,∃ j,gI (cD p) g.name=some ⟨g.name,1,j⟩∧j<p.gs.length)∧(∀ m∈p.ms,∃ j,gI (cD p) m.name=some ⟨m.name,2,j⟩∧p.ms[j]? = some m)∧
  (∀ f∈p.fs,∃ j,gI (cD p) f.name=some ⟨f.name,3,j⟩∧p.fs[j]? = some f)∧(∀ s,s∉nG++nM++nF→gI (cD p) s=none):=by
 obtain⟨a1,a2,_,_⟩:=fC;obtain⟨s1,s2,s3,_⟩:=h.sub;obtain⟨d1,d2,d3,_⟩:=h.nd;refine⟨fun g hg=>?_,fun m hm=>?_,fun f hf=>?_,fun s hs=>?_⟩
 ·obtain⟨j,h1,h2⟩:=g9 (·.name) hg;refine⟨j,?_,(List.getElem?_eq_some_iff.1 h1).1⟩;rw[cD,cS,cS,oo h2 d1];simp
 ·obtain⟨j,h1,h2⟩:=g9 (·.name) hm;refine⟨j,?_,h1⟩;have Li:=s2 _ (List.mem_map_of_mem (f:=(·.name)) hm);rw[cD,cS,cS,dA (fun hx=>a1 _ Li (s1 _ hx)),oo h2 d2];simp
 ·obtain⟨j,h1,h2⟩:=g9 (·.name) hf;refine⟨j,?_,h1⟩;have Li:=s3 _ (List.mem_map_of_mem (f:=(·.name)) hf);rw[cD,cS,cS,dA (fun hx=>(a2 _ Li).1 (s1 _ hx)),dA (fun hx=>(a2 _ Li).2 (s2 _ hx)),oo h2 d3];simp
 ·simp only[List.mem_append,not_or] at hs;rw[cD,cS,cS,dA (fun hx=>hs.1.1 (s1 _ hx)),dA (fun hx=>hs.1.2 (s2 _ hx)),dA (fun hx=>hs.2 (s3 _ hx))]
theorem jg.ew {f:Fu}(hf:f∈p.fs):EW p.gs.length p.ms (p.fs.map fun f=>(f.name,f.params)) f.params (ij p.gs f.params) (oQ p f) (pI f.params):=by
 obtain⟨d1,d2,d3,d4⟩:=h.dec;obtain⟨_,_,a3,_⟩:=fC;obtain⟨_,_,_,s4⟩:=h.sub;obtain⟨_,_,_,n4⟩:=h.nd;have OC:∀ q∈f.params,gI (cD p) q.name=none:=fun q hq=>by
  have:=s4 f hf _ (List.mem_map_of_mem (f:=(·.name)) hq);have:=a3 _ this;exact d4 _ (by simp only[List.mem_append,not_or];exact⟨⟨this.1,this.2.1⟩,this.2.2⟩)
 refine⟨fun m hm=>?_,fun x hx=>?_,fun q hq Zp=>?_,fun s hs=>?_,fun s hs Q2=>?_⟩
 ·obtain⟨j,h1,h2⟩:=d2 m hm;exact⟨j,by rw[oQ,cS,h1],h2⟩
 ·rw[List.mem_map] at hx;obtain⟨f',Rt,rfl⟩:=hx;obtain⟨j,h1,h2⟩:=d3 f' Rt;exact⟨j,by rw[oQ,cS,h1],by rw[List.getElem?_map,h2];rfl⟩
 ·obtain⟨n,h1,h2⟩:=(og (i:=0) (j:=0) (n4 f hf) hq).1 Zp;exact⟨n,by rw[oQ,cS,OC q hq];exact h1,by omega⟩
 ·simp only[ij,List.mem_append,List.mem_flatMap,List.mem_map] at hs;rcases hs with ⟨g,hg,rfl⟩ | ⟨q,hq,hs⟩
  ·obtain⟨j,h1,h2⟩:=d1 g hg;exact⟨1,j,by rw[oQ,cS,h1],.inl ⟨rfl,h2⟩⟩
  ·cases hm:q.mutex with
   | true=>simp[hm] at hs
   | false=>
    simp[hm] at hs;subst hs;obtain⟨n,h1,h2⟩:=(og (i:=0) (j:=0) (n4 f hf) hq).2 hm;exact⟨4,n,by rw[oQ,cS,OC q hq];exact h1,.inr ⟨rfl,by omega⟩⟩
 ·have Uw:=Q2;simp only[List.mem_append,not_or] at Uw;rw[oQ,cS,d4 s (by simp only[List.mem_append,not_or];exact Uw.1)];rw[om,mT];exact fun hx=>Uw.2 (s4 f hf _ hx)
end
theorem pIL:∀ l:List Pm,pI l+pL l=l.length
 | []=>rfl
 | p::r=>by
  have:=pIL r;simp only[pI,pL,List.length_cons];split<;>omega
structure jP (u:Un):Prop where
 np:1≤u.ps.length∧u.ps.length≤4
 nm:1≤u.ms.length∧u.ms.length≤4
 ng:u.gs.length≤2
 gi:∀ g∈u.gs,-2≤g∧g≤2
 mz:∀ m∈u.ms,m.size≤3∧(m.re=true→m.size=0)
 main:u.main=0
 p0:∀ q,u.ps[0]? = some q→q.ints=0∧q.bx=0
 pr:∀ q∈u.ps,q.ints≤2∧q.bx≤2∧q.ints≤q.locals∧q.locals≤200∧q.code.length≤145
 pc:∀ q∈u.ps,(∃ c,q.code=c++[.ret])∧∀ i∈q.code,BY (u.ps.map fun q=>(q.ints,q.bx)) u.ms u.gs.length q.locals q.bx (q.code.length-1) i
theorem jg.unit {p:Pg}(h:jg p)(hw:∀ f∈p.fs,bz f.body≤1152)(hp:∀ f∈p.fs,f.params.length≤2):jP (jV p):=by
 obtain⟨k1,N6,e1⟩:=h.gn;obtain⟨k2,_,MX,e2⟩:=h.mn;obtain⟨k3,_,Wk,e3⟩:=h.fn;have l1:=congrArg List.length e1;have l2:=congrArg List.length e2;have l3:=congrArg List.length e3;simp[nG] at l1;simp[nM] at l2;simp[nF] at l3;have hs:∀ f∈p.fs,pI f.params≤(bF f.body (oQ p f) (pI f.params) 0).2∧(∀ i∈(bF f.body (oQ p f) (pI f.params) 0).1,BY ((p.fs.map fun f=>(f.name,f.params)).map Hk) p.ms p.gs.length (bF f.body (oQ p f) (pI f.params) 0).2 (pL f.params) (0+(bF f.body (oQ p f) (pI f.params) 0).1.length) i)∧8*(bF f.body (oQ p f) (pI f.params) 0).1.length≤bz f.body∧(bF f.body (oQ p f) (pI f.params) 0).2≤pI f.params+ek f.body:=
  fun f hf=>vX.2 f.body 2 _ _ _ 0 (h.ew hf) (h.bd f hf)
 have OA:(jV p).ps.map (fun q=>(q.ints,q.bx))=(p.fs.map fun f=>(f.name,f.params)).map Hk:=by
  simp only[jV,List.map_map];rfl
 refine⟨by simp only[jV,List.length_map];omega,by simp only[jV];omega,by simp only[jV,List.length_map];omega,fun g hg=>?_,h.mz,rfl,fun q hq=>?_,fun q hq=>?_,fun q hq=>?_⟩
 ·simp only[jV,List.mem_map] at hg;obtain⟨x,hx,rfl⟩:=hg;exact h.gi x hx
 ·simp only[jV,List.getElem?_map,Option.map_eq_some_iff] at hq;obtain⟨f,hf,rfl⟩:=hq;simp[la,h.f0 f hf,pI,pL]
 ·simp only[jV,List.mem_map] at hq;obtain⟨f,hf,rfl⟩:=hq;obtain⟨b1,b2,b3,b4⟩:=hs f hf;have b5:=uD.2 f.body;have b6:=hw f hf;have b7:=pIL f.params;have b8:=hp f hf;refine⟨by simp only[la];omega,by simp only[la];omega,b1,by simp only[la];omega,by simp only[la,List.length_append,List.length_singleton];omega⟩
 ·rw[OA];simp only[jV,List.mem_map] at hq;obtain⟨f,hf,rfl⟩:=hq;obtain⟨b1,b2,b3,b4⟩:=hs f hf;refine⟨⟨_,rfl⟩,fun i hi=>?_⟩;simp only[la,List.mem_append,List.mem_singleton] at hi ⊢;rcases hi with hi | rfl
  ·have hx:=BY.mono (Nat.le_refl _) (M':=(bF f.body (oQ p f) (pI f.params) 0).1.length) yA (b2 i hi)
   simpa [jV] using hx
  ·trivial
deriving instance DecidableEq for Is
def l9 (is:Is)(q:Pl):Nat:=if q.param=true then is.bx.getD q.index 0 else q.index
def lA:In→Int
 | .set _ _ _=>1
 | .call g _ _ _=>if g=true then 3 else 2
 | .lock u _=>if u=true then 5 else 4
 | .branch _ _=>6
 | .jump _=>7
 | .ret=>8
def iy (is:Is):In→Option Is
 | .call _ t _ ps=>some ⟨t,ps.map (l9 is)⟩
 | _=>none
def aC (u:Un)(is:Is):List In:=match u.ps[is.proc]? with
 | some q=>q.code
 | none=>[]
def pB (u:Un)(is:Is)(pc:Int):Option Is:=if pc<0 then none else match (aC u is)[pc.toNat]? with
 | some i=>iy is i
 | none=>none
def vw:Option Is→CV
 | some x=>.db [.agg (cP x),.bool true]
 | none=>.db [.agg [I 0,.au [] 0],.bool false]
theorem jG (i:In):∃ cs,cK i=I (lA i)::cs∧cs.length=11:=by
 have h:∃ cs,cK i=I (lA i)::cs:=by cases i<;>exact⟨_,rfl⟩
 obtain⟨cs,h⟩:=h;have:=eV i;rw[h] at this;exact⟨cs,h,by simpa using this⟩
structure p6 (u:Un)(is:Is):Prop where
 q:∃ q,u.ps[is.proc]? = some q∧is.bx.length=q.bx
 m:∀ l∈is.bx,l<u.ms.length
theorem HS {u:Un}{is:Is}{g k L:Nat}{q:Pl}(hm:∀ l∈is.bx,l<u.ms.length)(hL:is.bx.length=L)(h:EF u.ms g k L q):l9 is q<u.ms.length:=by
 rcases h with ⟨h1,h2,_⟩ | ⟨h1,m,h2,_⟩
 ·simp only[l9,h1,if_true];rw[List.getD_eq_getElem?_getD,List.getElem?_eq_getElem yA];exact hm _ (List.getElem_mem yA)
 ·simp only[l9,h1,Bool.false_eq_true,if_false];exact (List.getElem?_eq_some_iff.1 h2).1
theorem zk {u:Un}(hu:jP u){is:Is}(hi:p6 u is){i:In}(hm:i∈aC u is){x:Is}(hx:iy is i=some x):p6 u x:=by
 obtain⟨⟨q,hq,hl⟩,Wb⟩:=hi;simp only[aC,hq] at hm;have hv:=(hu.pc q (List.mem_of_getElem? hq)).2 i hm
 cases i with
 | call g t is' ps=>
  simp only[iy,Option.some.injEq] at hx;subst hx;obtain⟨h1,_,h3⟩:=hv;rw[List.getElem?_map,Option.map_eq_some_iff] at h1;obtain⟨q',h4,h5⟩:=h1;simp only[Prod.mk.injEq] at h5;refine⟨⟨q',h4,?_⟩,fun l N5=>?_⟩
  ·simp only[List.length_map];omega
  ·simp only[List.mem_map] at N5;obtain⟨pl,LX,rfl⟩:=N5;exact HS Wb hl (h3 pl LX)
 | _=>simp[iy] at hx
def pj:In→Bool
 | .call g _ _ _=>g
 | _=>false
def bW (l:List Nat)(n:Nat):Nat:=(l.takeWhile (· < n)).length
def eY (l:List Nat)(n:Nat):List Nat:=if n∈l then l else l.take (bW l n)++n::l.drop (bW l n)
def dQ (l:List Is)(x:Is):List Is:=if x∈l then l else l++[x]
def fo (l:List Is)(x:Is):Nat:=l.findIdx fun y=>decide (y=x)
def fJ (is:Is):List In→List Is→List Nat→List Is×List Int×List Nat
 | [],l,r=>(l,[],r)
 | i::c,l,r=>match iy is i with
  | none=>((fJ is c l r).1,-1::(fJ is c l r).2.1,(fJ is c l r).2.2)
  | some x=>((fJ is c (dQ l x) (if pj i=true then eY r (fo (dQ l x) x) else r)).1,(fo (dQ l x) x:Int)::(fJ is c (dQ l x) (if pj i=true then eY r (fo (dQ l x) x) else r)).2.1,(fJ is c (dQ l x) (if pj i=true then eY r (fo (dQ l x) x) else r)).2.2)
def kG (u:Un):Nat→Nat→List Is→List (List Int)→List Nat→Cl
 | 0,_,l,cs,r=>⟨l,cs,r⟩
 | f+1,i,l,cs,r=>match l[i]? with
  | none=>⟨l,cs,r⟩
  | some x=>kG u f (i+1) (fJ x (aC u x) l r).1 (cs++[(fJ x (aC u x) l r).2.1]) (fJ x (aC u x) l r).2.2
def av (u:Un):Cl:=kG u 100 0 [⟨u.main,[]⟩] [] [0]
def comb (n:Nat):Nat→List (List Nat)
 | 0=>[[]]
 | k+1=>(List.range n).flatMap fun a=>(comb n k).map (a :: ·)
theorem wY (n:Nat):∀ (l:List Nat),(∀ x∈l,x<n)→l∈comb n l.length
 | [],_=>by simp[comb]
 | a::r,h=>by
  simp only[List.length_cons,comb,List.mem_flatMap,List.mem_range,List.mem_map];exact⟨a,h a List.mem_cons_self,r,wY n r fun x hx=>h x (List.mem_cons_of_mem _ hx),rfl⟩
theorem vV (c:Nat):∀ l:List Nat,(∀ x∈l,x≤c)→l.sum≤l.length*c
 | [],_=>by simp
 | a::r,h=>by
  have h1:=h a List.mem_cons_self;have h2:=vV c r fun x hx=>h x (List.mem_cons_of_mem _ hx);rw[List.sum_cons,List.length_cons,Nat.succ_mul];omega
theorem xQ (n:Nat):∀ k,(comb n k).length=n ^ k
 | 0=>by simp[comb]
 | k+1=>by
  simp only[comb,List.length_flatMap,List.length_map,xQ n k];rw[List.map_const',List.sum_replicate_nat,List.length_range,Nat.pow_succ,Nat.mul_comm]
def sh (n:Nat):Nat→List Pr→List Is
 | _,[]=>[]
 | t,q::r=>(comb n q.bx).map (fun ls=>⟨t,ls⟩)++sh n (t+1) r
theorem wZ (n:Nat):∀ (l:List Pr) (t j:Nat) (q:Pr) (x:Is),l[j]? = some q→x.proc=t+j→x.bx.length=q.bx→(∀ a∈x.bx,a<n)→x∈sh n t l
 | [],_,_,_,_,h,_,_,_=>by simp at h
 | p::r,t,0,q,x,h,hp,hl,ha=>by
  simp only[List.getElem?_cons_zero,Option.some.injEq] at h;subst h;simp only[sh,List.mem_append,List.mem_map];refine .inl ⟨x.bx,by rw[← hl];exact wY n _ ha,?_⟩;cases x;simp only at hp;simp[hp]
 | p::r,t,j+1,q,x,h,hp,hl,ha=>by
  simp only[List.getElem?_cons_succ] at h;simp only[sh,List.mem_append];exact .inr (wZ n r (t+1) j q x h yA hl ha)
theorem tC {α:Type}(w:α→Nat):∀ (l m:List α),l.Nodup→(∀ x∈l,x∈m)→(l.map w).sum≤(m.map w).sum
 | [],_,_,_=>by simp
 | a::r,m,hn,hs=>by
  obtain⟨m1,m2,rfl⟩:=List.append_of_mem (hs a List.mem_cons_self);rw[List.nodup_cons] at hn;have ih:=tC w r (m1++m2) hn.2 fun x hx=>by
   have h1:=hs x (List.mem_cons_of_mem _ hx);have F0:x≠a:=fun e=>hn.1 (e ▸ hx);simp only[List.mem_append,List.mem_cons] at h1 ⊢;rcases h1 with h | h | h
   ·exact .inl h
   ·exact (F0 h).elim
   ·exact .inr h
  simp only[List.map_append,List.sum_append,List.map_cons,List.sum_cons] at ih ⊢;omega
theorem x5 {u:Un}(w:Is→Nat)(c:Nat)(n:Nat)(hw:∀ x,w x≤c)(hn:n≤4):∀ (l:List Pr) (t:Nat),(∀ q∈l,q.bx≤2)→((sh n t l).map w).sum≤l.length*(16*c)
 | [],_,_=>by simp[sh]
 | q::r,t,h=>by
  have h1:=x5 (u:=u) w c n hw hn r (t+1) fun x hx=>h x (List.mem_cons_of_mem _ hx);have h2:=h q List.mem_cons_self;have h3:(comb n q.bx).length≤16:=by
   rw[xQ]
   calc n ^ q.bx≤4 ^ q.bx:=Nat.pow_le_pow_left hn _
    _≤4 ^ 2:=Nat.pow_le_pow_right yA h2
  have h4:(((comb n q.bx).map fun ls=>(⟨t,ls⟩:Is)).map w).sum≤16*c:=by
   refine Nat.le_trans (vV c _ fun x hx=>?_) (Nat.mul_le_mul_right c (by simpa using h3));simp only[List.mem_map] at hx;obtain⟨y,_,rfl⟩:=hx;exact hw y
  have h5:(r.length+1)*(16*c)=r.length*(16*c)+16*c:=Nat.succ_mul _ _;simp only[sh,List.map_append,List.sum_append,List.length_cons];omega
theorem xn {u:Un}(hu:jP u)(w:Is→Nat)(c:Nat)(hw:∀ x,w x≤c){l:List Is}(hn:l.Nodup)(hv:∀ x∈l,p6 u x):(l.map w).sum≤c+48*c:=by
 have OS:=hu.np;have KV:=hu.nm;have h1:=tC w l (sh u.ms.length 0 u.ps) hn fun x hx=>by
  obtain⟨⟨q,hq,hl⟩,hm⟩:=hv x hx;exact wZ _ _ 0 x.proc q x hq yA hl hm
 refine Nat.le_trans h1 ?_
 cases Lt:u.ps with
 | nil=>rw[Lt] at OS;simp at OS
 | cons q0 r=>
  have h0:=hu.p0 q0 (by rw[Lt];rfl);have hr:r.length≤3:=by rw[Lt] at OS;simp at OS;omega
  have h2:=x5 (u:=u) w c u.ms.length hw KV.2 r 1 fun q hq=>(hu.pr q (by rw[Lt];exact List.mem_cons_of_mem _ hq)).2.1;have h3:(sh u.ms.length 0 (q0::r))=⟨0,[]⟩ :: sh u.ms.length 1 r:=by simp[sh,h0.2,comb]
  rw[h3,List.map_cons,List.sum_cons];have h4:=hw ⟨0,[]⟩;have h5:r.length*(16*c)≤48*c:=by
   calc r.length*(16*c)≤3*(16*c):=Nat.mul_le_mul_right _ hr
    _=48*c:=by omega
  omega
theorem iU {u:Un}(hu:jP u){l:List Is}(hn:l.Nodup)(hv:∀ x∈l,p6 u x):l.length≤49:=by
 have:=xn hu (fun _=>1) 1 (fun _=>Nat.le_refl _) hn hv;rw[List.map_const',List.sum_replicate_nat] at this;omega
theorem gX {u:Un}(hu:jP u)(x:Is):(aC u x).length≤145:=by
 unfold aC
 cases h:u.ps[x.proc]? with
 | none=>simp
 | some q=>exact (hu.pr q (List.mem_of_getElem? h)).2.2.2.2
theorem y6 {u:Un}(hu:jP u){l:List Is}(hn:l.Nodup)(hv:∀ x∈l,p6 u x):(l.map fun x=>(aC u x).length).sum≤7105:=
 xn hu _ 145 (gX hu) hn hv
theorem kN {l:List Is}{x:Is}(h:l.Nodup):(dQ l x).Nodup:=by
 unfold dQ;split
 ·exact h
 ·rename_i hx;refine List.nodup_append.2 ⟨h,by simp,fun a ha b hb e=>?_⟩;rw[List.mem_singleton] at hb;subst hb;subst e;exact hx ha
theorem zp {u:Un}{l:List Is}{x:Is}(h:∀ y∈l,p6 u y)(hx:p6 u x):∀ y∈dQ l x,p6 u y:=by
 unfold dQ;split
 ·exact h
 ·intro y hy;rcases List.mem_append.1 hy with hy | hy
  ·exact h y hy
  ·rw[List.mem_singleton] at hy;subst hy;exact hx
theorem Gi {l:List Is}{x y:Is}{i:Nat}(h:l[i]? = some y):(dQ l x)[i]? = some y:=by
 unfold dQ;split
 ·exact h
 ·rw[List.getElem?_append_left (List.getElem?_eq_some_iff.1 h).1];exact h
theorem x7 (l:List Is)(x:Is):x∈dQ l x:=by
 unfold dQ;split
 ·assumption
 ·simp
theorem x6 (l:List Is)(x:Is):∃ t,dQ l x=l++t:=by
 unfold dQ;split
 ·exact⟨[],by simp⟩
 ·exact⟨[x],rfl⟩
theorem qh (x:Is):∀ (c:List In) (l:List Is) (r:List Nat),∃ t,(fJ x c l r).1=l++t
 | [],l,r=>⟨[],by simp[fJ]⟩
 | i::c,l,r=>by
  simp only[fJ]
  cases iy x i with
  | none=>exact qh x c l r
  | some y=>
   simp only;obtain⟨t1,h1⟩:=x6 l y;obtain⟨t2,h2⟩:=qh x c (dQ l y) (if pj i=true then eY r (fo (dQ l y) y) else r);exact⟨t1++t2,by rw[h2,h1,List.append_assoc]⟩
theorem FO {l:List Is}{x:Is}(h:x∈l):fo l x<l.length:=by
 unfold fo;exact List.findIdx_lt_length_of_exists ⟨x,h,by simp⟩
end Go.aT
