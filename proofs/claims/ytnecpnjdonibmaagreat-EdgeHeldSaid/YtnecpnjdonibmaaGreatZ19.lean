/- The code of a program: what lowering makes of it, and its fo -/
import Derived.Test.YtnecpnjdonibmaaGreatZ18
namespace Go.aP
open Go.Can
structure En where
 name:ByteArray
 kind:Nat
 n:Nat
def im (x:En):List CV:=[.str x.name,I x.kind,I x.n]
def iX:List En→ByteArray→Option En
 | [],_=>none
 | x::r,s=>if x.name=s then some x else iX r s
def lV (E:List En)(s:ByteArray):En:=(iX E s).getD ⟨eS,0,0⟩
theorem ia {E:List En}{s:ByteArray}{x:En}(h:iX E s=some x):lV E s=x:=by simp[lV,h]
theorem dC (A B:List En)(s:ByteArray):iX (A++B) s=(match iX A s with
  | some x=>some x
  | none=>iX B s):=by
 induction A with
 | nil=>rfl
 | cons a r ih=>
  simp only[List.cons_append,iX];split
  ·rfl
  ·exact ih
theorem qF {E:List En}{s:ByteArray}:iX E s=none↔s∉E.map (·.name):=by
 induction E with
 | nil=>simp[iX]
 | cons a r ih=>
  simp only[iX,List.map_cons,List.mem_cons,not_or];split
  ·rename_i h;simp[h]
  ·rename_i h;rw[ih];exact⟨fun h2=>⟨fun e=>h e.symm,h2⟩,fun h2=>h2.2⟩
def dT (E:List En):Ex→Ex
 | .nm s=>if (lV E s).kind=1 then .ke (lV E s).n else .loc (lV E s).n
 | .un k e=>.un k (dT E e)
 | .bin k a b=>.bin k (dT E a) (dT E b)
 | e=>e
def y7 (E:List En)(r:Rf):Pl:=⟨decide ((lV E r.name).kind=5),(lV E r.name).n,r.index.map (dT E)⟩
def db (E:List En):List Ar→List Ex
 | []=>[]
 | .exp e::l=>dT E e::db E l
 | .vm _::l=>db E l
def e8 (E:List En):List Ar→List Pl
 | []=>[]
 | .exp _::l=>e8 E l
 | .vm r::l=>y7 E r::e8 E l
def fA (k:Nat):Sm→List En
 | .g6 s _=>[⟨s,4,k⟩]
 | _=>[]
mutual
/-- The code of a statement that begins at place b, and the number of locals after it. -/
def en:Sm→List En→Nat→Nat→List In×Nat
 | .g6 _ e,E,k,_=>([.set k false (dT E e)],k+1)
 | .iD s e,E,k,_=>([.set (lV E s).n (decide ((lV E s).kind=1)) (dT E e)],k)
 | .ef g s l,E,k,_=>([.call g (lV E s).n (db E l) (e8 E l)],k)
 | .dA u r,E,k,_=>([.lock u (y7 E r)],k)
 | .lE e th el,E,k,b=>
  if el.length=0 then (.branch (b+1+(bV th E k (b+1)).1.length) (dT E e)::(bV th E k (b+1)).1,(bV th E k (b+1)).2)
  else (.branch (b+2+(bV th E k (b+1)).1.length) (dT E e)::((bV th E k (b+1)).1++.jump (b+2+(bV th E k (b+1)).1.length+(bV el E (bV th E k (b+1)).2 (b+2+(bV th E k (b+1)).1.length)).1.length) ::
   (bV el E (bV th E k (b+1)).2 (b+2+(bV th E k (b+1)).1.length)).1),(bV el E (bV th E k (b+1)).2 (b+2+(bV th E k (b+1)).1.length)).2)
 | .cJ e th,E,k,b=>(.branch (b+2+(bV th E k (b+1)).1.length) (dT E e)::((bV th E k (b+1)).1++[.jump b]),(bV th E k (b+1)).2)
 | .jF,_,k,_=>([.ret],k)
def bV:List Sm→List En→Nat→Nat→List In×Nat
 | [],_,k,_=>([],k)
 | s::r,E,k,b=>((en s E k b).1++(bV r (E++fA k s) (en s E k b).2 (b+(en s E k b).1.length)).1,(bV r (E++fA k s) (en s E k b).2 (b+(en s E k b).1.length)).2)
end
mutual
/-- The number of statements. -/
def oF:Sm→Nat
 | .lE _ th el=>1+fy th+fy el
 | .cJ _ th=>1+fy th
 | _=>1
def fy:List Sm→Nat
 | []=>0
 | s::r=>oF s+fy r
end
mutual
/-- The statements of the instructions; the statement itself is number s. -/
def wI:Sm→Nat→List Nat
 | .lE _ th el,s=>if el.length=0 then s::iC th (s+1) else s::(iC th (s+1)++s::iC el (s+1+fy th))
 | .cJ _ th,s=>s::(iC th (s+1)++[s])
 | _,s=>[s]
def iC:List Sm→Nat→List Nat
 | [],_=>[]
 | x::r,s=>wI x s++iC r (s+oF x)
end
def Es (c:Nat):Nat→List ByteArray→List En
 | _,[]=>[]
 | i,s::r=>⟨s,c,i⟩ :: Es c (i+1) r
def dd (p:Pg):List En:=Es 1 0 (p.gs.map (·.name))++Es 2 0 (p.ms.map (·.name))++Es 3 0 (p.fs.map (·.name))
def lg:Nat→Nat→List Pm→List En
 | _,_,[]=>[]
 | i,j,p::r=>if p.mutex=true then ⟨p.name,5,j⟩ :: lg i (j+1) r else ⟨p.name,4,i⟩ :: lg (i+1) j r
def pI:List Pm→Nat
 | []=>0
 | p::r=>(if p.mutex=true then 0 else 1)+pI r
def pL:List Pm→Nat
 | []=>0
 | p::r=>(if p.mutex=true then 1 else 0)+pL r
def ry (p:Pg)(f:Fu):List En:=dd p++lg 0 0 f.params
def nw (p:Pg)(f:Fu):Pr:=⟨f.name,pI f.params,pL f.params,(bV f.body (ry p f) (pI f.params) 0).2,(bV f.body (ry p f) (pI f.params) 0).1++[.ret]⟩
def lH (p:Pg):Un:=⟨p.gs.map (·.init),p.ms,p.fs.map (nw p),0⟩
def B3 (g k:Nat):Ex→Prop
 | .num n=>n<4611686018427387904
 | .loc i=>i<k
 | .ke i=>i<g
 | .un o e=>o<2∧B3 g k e
 | .bin o a b=>o<13∧B3 g k a∧B3 g k b
 | _=>False
def JG (ms:List Mx)(g k L:Nat)(p:Pl):Prop:=
 (p.param=true∧p.index<L∧p.at_=none)∨(p.param=false∧∃ m,ms[p.index]? = some m∧((p.at_=none∧m.size=0)∨∃ e,p.at_=some e∧0<m.size∧B3 g k e))
def Gz (JI:List (Nat×Nat))(ms:List Mx)(g k L M:Nat):In→Prop
 | .set t gl e=>(if gl=true then t<g else t<k)∧B3 g k e
 | .call _ t is ps=>JI[t]? = some (is.length,ps.length)∧(∀ e∈is,B3 g k e)∧∀ p∈ps,JG ms g k L p
 | .lock _ p=>JG ms g k L p
 | .branch t e=>t≤M∧B3 g k e
 | .jump t=>t≤M
 | .ret=>True
theorem B3.mono {g k k':Nat}(h:k≤k'):∀ {e:Ex},B3 g k e→B3 g k' e
 | .num _,hx=>hx
 | .loc _,hx=>Nat.lt_of_lt_of_le hx h
 | .ke _,hx=>hx
 | .un _ _,hx=>⟨hx.1,B3.mono h hx.2⟩
 | .bin _ _ _,hx=>⟨hx.1,B3.mono h hx.2.1,B3.mono h hx.2.2⟩
 | .zero,hx=>hx.elim
 | .nm _,hx=>hx.elim
theorem JG.mono {ms:List Mx}{g k k' L:Nat}(h:k≤k'){p:Pl}(hp:JG ms g k L p):JG ms g k' L p:=by
 rcases hp with hp | ⟨h1,m,h2,h3 | ⟨e,h3,h4,h5⟩⟩
 ·exact .inl hp
 ·exact .inr ⟨h1,m,h2,.inl h3⟩
 ·exact .inr ⟨h1,m,h2,.inr ⟨e,h3,h4,h5.mono h⟩⟩
theorem Gz.mono {JI:List (Nat×Nat)}{ms:List Mx}{g k k' L M M':Nat}(h:k≤k')(hM:M≤M'){i:In}(hi:Gz JI ms g k L M i):Gz JI ms g k' L M' i:=by
 cases i with
 | set t gl e=>
  refine⟨?_,hi.2.mono h⟩;have:=hi.1;split at this
  ·rename_i hg;rw[if_pos hg];exact this
  ·rename_i hg;rw[if_neg hg];omega
 | call go t is ps=>exact⟨hi.1,fun e he=>(hi.2.1 e he).mono h,fun p hp=>(hi.2.2 p hp).mono h⟩
 | lock u p=>exact JG.mono h hi
 | branch t e=>exact⟨Nat.le_trans hi.1 hM,hi.2.mono h⟩
 | jump t=>exact Nat.le_trans hi hM
 | ret=>trivial
structure EW (g:Nat)(ms:List Mx)(fs:List (ByteArray×List Pm))(ps:List Pm)(V:List ByteArray)(E:List En)(k:Nat):Prop where
 m:∀ m∈ms,∃ j,iX E m.name=some ⟨m.name,2,j⟩∧ms[j]? = some m
 f:∀ f∈fs,∃ j,iX E f.1=some ⟨f.1,3,j⟩∧fs[j]? = some f
 p:∀ p∈ps,p.mutex=true→∃ j,iX E p.name=some ⟨p.name,5,j⟩∧j<pL ps
 v:∀ s∈V,∃ c j,iX E s=some ⟨s,c,j⟩∧((c=1∧j<g)∨(c=4∧j<k))
 o:∀ s,s∉V→s∉nG++nM++nF++nP→iX E s=none
theorem EW.add {g:Nat}{ms:List Mx}{fs:List (ByteArray×List Pm)}{ps:List Pm}{V:List ByteArray}{E:List En}{k:Nat}(h:EW g ms fs ps V E k){s:ByteArray}(hs:iX E s=none):EW g ms fs ps (V++[s]) (E++[⟨s,4,k⟩]) (k+1):=by
 have hk:∀ {t:ByteArray} {x:En},iX E t=some x→iX (E++[⟨s,4,k⟩]) t=some x:=fun {t x} ht=>by rw[dC,ht]
 refine⟨fun m hm=>?_,fun f hf=>?_,fun p hp dY=>?_,fun t ht=>?_,fun t ht ht2=>?_⟩
 ·obtain⟨j,h1,h2⟩:=h.m m hm;exact⟨j,hk h1,h2⟩
 ·obtain⟨j,h1,h2⟩:=h.f f hf;exact⟨j,hk h1,h2⟩
 ·obtain⟨j,h1,h2⟩:=h.p p hp dY;exact⟨j,hk h1,h2⟩
 ·rcases List.mem_append.1 ht with ht | ht
  ·obtain⟨c,j,h1,h2⟩:=h.v t ht;exact⟨c,j,hk h1,by omega⟩
  ·rw[List.mem_singleton] at ht;subst ht;exact⟨4,k,by rw[dC,hs];simp[iX],.inr ⟨rfl,by omega⟩⟩
 ·rw[List.mem_append,not_or,List.mem_singleton] at ht;rw[dC,h.o t ht.1 ht2];simp only[iX];rw[if_neg fun e=>ht.2 e.symm]
theorem EW.up {g:Nat}{ms:List Mx}{fs:List (ByteArray×List Pm)}{ps:List Pm}{V:List ByteArray}{E:List En}{k k':Nat}(h:EW g ms fs ps V E k)(hk:k≤k'):EW g ms fs ps V E k':=
 ⟨h.m,h.f,h.p,fun s hs=>by
  obtain⟨c,j,h1,h2⟩:=h.v s hs;exact⟨c,j,h1,by omega⟩,h.o⟩
section
variable {g:Nat}{ms:List Mx}{fs:List (ByteArray×List Pm)}{ps:List Pm}{V:List ByteArray}{E:List En}{k:Nat}
theorem EW.ex (h:EW g ms fs ps V E k):∀ {d:Nat} {e:Ex},fS V d e→B3 g k (dT E e)
 | _,.num n,hx=>by simpa [fS,dT,B3] using hx
 | _,.nm s,hx=>by
  simp only[fS] at hx;obtain⟨c,j,h1,h2⟩:=h.v s hx;simp only[dT,ia h1];rcases h2 with ⟨rfl,h2⟩ | ⟨rfl,h2⟩
  ·exact h2
  ·exact h2
 | d+1,.un o e,hx=>by
  simp only[fS] at hx;exact⟨hx.1,h.ex hx.2⟩
 | d+1,.bin o a b,hx=>by
  simp only[fS] at hx;exact⟨hx.1,h.ex hx.2.1,h.ex hx.2.2⟩
 | 0,.un _ _,hx=>hx.elim
 | 0,.bin _ _ _,hx=>hx.elim
 | 0,.zero,hx=>hx.elim
 | 0,.loc _,hx=>hx.elim
 | 0,.ke _,hx=>hx.elim
 | _+1,.zero,hx=>hx.elim
 | _+1,.loc _,hx=>hx.elim
 | _+1,.ke _,hx=>hx.elim
theorem EW.rf (h:EW g ms fs ps V E k){r:Rf}(hr:Gy ms ps V r):JG ms g k (pL ps) (y7 E r):=by
 rcases hr with ⟨m,hm,hn,hi⟩ | ⟨p,hp,dY,hn,hi⟩
 ·obtain⟨j,h1,h2⟩:=h.m m hm;rw[← hn] at h1;refine .inr ⟨by simp[y7,ia h1],m,by simpa [y7,ia h1] using h2,?_⟩;rcases hi with ⟨h3,h4⟩ | ⟨e,h3,h4,h5⟩
  ·exact .inl ⟨by simp[y7,h3],h4⟩
  ·exact .inr ⟨dT E e,by simp[y7,h3],h4,h.ex h5⟩
 ·obtain⟨j,h1,h2⟩:=h.p p hp dY;rw[← hn] at h1;exact .inl ⟨by simp[y7,ia h1],by simpa [y7,ia h1] using h2,by simp[y7,hi]⟩
theorem EW.ars (h:EW g ms fs ps V E k):∀ {gp:List Pm} {l:List Ar},jw ms ps V gp l→(db E l).length=pI gp∧(e8 E l).length=pL gp∧(∀ e∈db E l,B3 g k e)∧∀ p∈e8 E l,JG ms g k (pL ps) p
 | [],[],_=>by simp[db,e8,pI,pL]
 | q::gp,a::l,hx=>by
  simp only[jw] at hx;obtain⟨i1,i2,i3,i4⟩:=h.ars hx.2
  cases a with
  | vm r=>
   refine⟨by simp[db,pI,hx.1.1,i1],by simp[e8,pL,hx.1.1,i2];omega,i3,fun p hp=>?_⟩;simp only[e8,List.mem_cons] at hp;rcases hp with rfl | hp
   ·exact h.rf hx.1.2
   ·exact i4 p hp
  | exp e=>
   refine⟨by simp[db,pI,hx.1.1,i1];omega,by simp[e8,pL,hx.1.1,i2],fun x hp=>?_,i4⟩;simp only[db,List.mem_cons] at hp;rcases hp with rfl | hp
   ·exact h.ex hx.1.2
   ·exact i3 x hp
 | [],_::_,hx=>hx.elim
 | _::_,[],hx=>hx.elim
end
theorem xg (k:Nat)(hk:k<24):fG k∉nG++nM++nF++nP:=by
 obtain⟨h1,h2,h3,h4⟩:=sH k hk;simp only[List.mem_append,not_or];exact⟨⟨⟨h1,h2⟩,h3⟩,h4⟩
def Mr (x:ByteArray×List Pm):Nat×Nat:=(pI x.2,pL x.2)
theorem Au {g:Nat}{ms:List Mx}{fs:List (ByteArray×List Pm)}{ps:List Pm} :
  (∀ s:Sm,∀ d V E k b,EW g ms fs ps V E k→dU ms fs ps d V s→k≤(en s E k b).2∧(∀ i∈(en s E k b).1,Gz (fs.map Mr) ms g (en s E k b).2 (pL ps) (b+(en s E k b).1.length) i)∧EW g ms fs ps (V++dZ s) (E++fA k s) (en s E k b).2∧8*(en s E k b).1.length≤eB s∧(en s E k b).2≤k+oF s)∧
  (∀ l:List Sm,∀ d V E k b,EW g ms fs ps V E k→cR ms fs ps d V l→k≤(bV l E k b).2∧(∀ i∈(bV l E k b).1,Gz (fs.map Mr) ms g (bV l E k b).2 (pL ps) (b+(bV l E k b).1.length) i)∧8*(bV l E k b).1.length≤bO l∧(bV l E k b).2≤k+fy l):=by
 let M1:Sm→Prop:=fun s=>∀ d V E k b,EW g ms fs ps V E k→dU ms fs ps d V s→k≤(en s E k b).2∧(∀ i∈(en s E k b).1,Gz (fs.map Mr) ms g (en s E k b).2 (pL ps) (b+(en s E k b).1.length) i)∧EW g ms fs ps (V++dZ s) (E++fA k s) (en s E k b).2∧8*(en s E k b).1.length≤eB s∧(en s E k b).2≤k+oF s
 let M2:List Sm→Prop:=fun l=>∀ d V E k b,EW g ms fs ps V E k→cR ms fs ps d V l→k≤(bV l E k b).2∧(∀ i∈(bV l E k b).1,Gz (fs.map Mr) ms g (bV l E k b).2 (pL ps) (b+(bV l E k b).1.length) i)∧8*(bV l E k b).1.length≤bO l∧(bV l E k b).2≤k+fy l
 have A1:∀ (s:ByteArray) (e:Ex),M1 (.g6 s e):=by
  intro s e d V E k b hE hw;simp only[dU] at hw;obtain⟨⟨j,hj,rfl⟩,hv,he⟩:=hw;have hn:iX E (fG j)=none:=hE.o _ hv (xg j hj);refine⟨by simp[en],fun i hi=>?_,hE.add hn,by simp[en,eB],by simp[en,oF]⟩;simp only[en,List.mem_singleton] at hi ⊢;subst hi;exact⟨by simp,(hE.ex he).mono yA⟩
 have A2:∀ (s:ByteArray) (e:Ex),M1 (.iD s e):=by
  intro s e d V E k b hE hw;simp only[dU] at hw;obtain⟨c,j,h1,h2⟩:=hE.v s hw.1;refine⟨by simp[en],fun i hi=>?_,by simpa [dZ,fA,en] using hE,by simp[en,eB],by simp[en,oF]⟩;simp only[en,List.mem_singleton] at hi ⊢;subst hi;refine⟨?_,hE.ex hw.2⟩;rw[ia h1];rcases h2 with ⟨rfl,h2⟩ | ⟨rfl,h2⟩
  ·simpa using h2
  ·simpa using h2
 have A3:∀ (g:Bool) (s:ByteArray) (l:List Ar),M1 (.ef g s l):=by
  intro go s l d V E k b hE hw;simp only[dU] at hw;obtain⟨gp,h1,h2⟩:=hw;obtain⟨j,h3,h4⟩:=hE.f _ h1;obtain⟨a1,a2,a3,a4⟩:=hE.ars h2;refine⟨by simp[en],fun i hi=>?_,by simpa [dZ,fA,en] using hE,by simp[en,eB],by simp[en,oF]⟩;simp only[en,List.mem_singleton] at hi ⊢;subst hi;refine⟨?_,a3,a4⟩;rw[ia h3,List.getElem?_map,h4];simp[Mr,a1,a2]
 have A4:∀ (u:Bool) (r:Rf),M1 (.dA u r):=by
  intro u r d V E k b hE hw;simp only[dU] at hw;refine⟨by simp[en],fun i hi=>?_,by simpa [dZ,fA,en] using hE,by simp[en,eB],by simp[en,oF]⟩;simp only[en,List.mem_singleton] at hi ⊢;subst hi;exact hE.rf hw
 have A5:∀ (e:Ex) (th el:List Sm),M2 th→M2 el→M1 (.lE e th el):=by
  intro e th el i1 i2 d V E k b hE hw
  cases d with
  | zero=>simp[dU] at hw
  | succ d=>
   simp only[dU] at hw;obtain⟨a1,a2,a3,a4⟩:=i1 d V E k (b+1) hE hw.2.1;by_cases PH:el.length=0
   ·refine⟨by simpa [en,PH] using a1,fun i hi=>?_,by simpa [dZ,fA,en,PH] using hE.up a1,by simp[en,eB,PH];omega,by simp[en,oF,PH];omega⟩;simp only[en,PH,if_true,List.mem_cons,List.length_cons] at hi ⊢;rcases hi with rfl | hi
    ·exact⟨by omega,(hE.ex hw.1).mono a1⟩
    ·exact (a2 i hi).mono (Nat.le_refl _) yA
   ·obtain⟨b1,b2,b3,b4⟩:=i2 d V E (bV th E k (b+1)).2 (b+2+(bV th E k (b+1)).1.length) (hE.up a1) hw.2.2;refine⟨by simp only[en,PH,if_false];omega,fun i hi=>?_,by simpa [dZ,fA,en,PH] using hE.up (Nat.le_trans a1 b1),by simp[en,eB,PH];omega,by simp only[en,oF,PH,if_false];omega⟩;simp only[en,PH,if_false,List.mem_cons,List.mem_append,List.length_cons,List.length_append] at hi ⊢;rcases hi with rfl | hi | rfl | hi
    ·exact⟨by omega,(hE.ex hw.1).mono (Nat.le_trans a1 b1)⟩
    ·exact (a2 i hi).mono b1 yA
    ·exact Nat.le_trans (Nat.le_refl _) yA
    ·exact (b2 i hi).mono (Nat.le_refl _) yA
 have A6:∀ (e:Ex) (th:List Sm),M2 th→M1 (.cJ e th):=by
  intro e th i1 d V E k b hE hw
  cases d with
  | zero=>simp[dU] at hw
  | succ d=>
   simp only[dU] at hw;obtain⟨a1,a2,a3,a4⟩:=i1 d V E k (b+1) hE hw.2;refine⟨by simpa [en] using a1,fun i hi=>?_,by simpa [dZ,fA,en] using hE.up a1,by simp[en,eB];omega,by simp[en,oF];omega⟩;simp only[en,List.mem_cons,List.mem_append,List.length_cons,List.length_append,List.length_nil,List.not_mem_nil,or_false] at hi ⊢;rcases hi with rfl | hi | rfl
   ·exact⟨by omega,(hE.ex hw.1).mono a1⟩
   ·exact (a2 i hi).mono (Nat.le_refl _) yA
   ·exact Nat.le_trans (Nat.le_refl _) yA
 have A7:M1 .jF:=by
  intro d V E k b hE _;refine⟨by simp[en],fun i hi=>?_,by simpa [dZ,fA,en] using hE,by simp[en,eB],by simp[en,oF]⟩;simp only[en,List.mem_singleton] at hi ⊢;subst hi;trivial
 have A0:M2 []:=by
  intro d V E k b hE _;exact⟨by simp[bV],fun i hi=>by simp[bV] at hi,by simp[bV],by simp[bV,fy]⟩
 have A8:∀ (s:Sm) (r:List Sm),M1 s→M2 r→M2 (s::r):=by
  intro s r i1 i2 d V E k b hE hw;simp only[cR] at hw;obtain⟨a1,a2,a3,a4,a5⟩:=i1 d V E k b hE hw.1;obtain⟨b1,b2,b3,b4⟩:=i2 d (V++dZ s) (E++fA k s) (en s E k b).2 (b+(en s E k b).1.length) a3 hw.2;refine⟨by simp only[bV];omega,fun i hi=>?_,by simp only[bV,bO,List.length_append];omega,by simp only[bV,fy];omega⟩;simp only[bV,List.mem_append,List.length_append] at hi ⊢;rcases hi with hi | hi
  ·exact (a2 i hi).mono b1 yA
  ·exact (b2 i hi).mono (Nat.le_refl _) yA
 exact⟨fun s=>Sm.rec (motive_1:=M1) (motive_2:=M2) A1 A2 A3 A4 A5 A6 A7 A0 A8 s,fun l=>Sm.rec_1 (motive_1:=M1) (motive_2:=M2) A1 A2 A3 A4 A5 A6 A7 A0 A8 l⟩
theorem yZ:(∀ s:Sm,8*oF s≤eB s)∧(∀ l:List Sm,8*fy l≤bO l):=by
 let M1:Sm→Prop:=fun s=>8*oF s≤eB s
 let M2:List Sm→Prop:=fun l=>8*fy l≤bO l
 have A5:∀ (e:Ex) (th el:List Sm),M2 th→M2 el→M1 (.lE e th el):=fun e th el h1 h2=>by
  simp only[M1,M2,oF,eB] at *;omega
 have A6:∀ (e:Ex) (th:List Sm),M2 th→M1 (.cJ e th):=fun e th h1=>by
  simp only[M1,M2,oF,eB] at *;omega
 have A8:∀ (s:Sm) (r:List Sm),M1 s→M2 r→M2 (s::r):=fun s r h1 h2=>by
  simp only[M1,M2,fy,bO] at *;omega
 have A1:∀ (s:ByteArray) (e:Ex),M1 (.g6 s e):=fun s e=>by simp[M1,oF,eB]
 have A2:∀ (s:ByteArray) (e:Ex),M1 (.iD s e):=fun s e=>by simp[M1,oF,eB]
 have A3:∀ (g:Bool) (s:ByteArray) (l:List Ar),M1 (.ef g s l):=fun g s l=>by simp[M1,oF,eB]
 have A4:∀ (u:Bool) (r:Rf),M1 (.dA u r):=fun u r=>by simp[M1,oF,eB]
 have A7:M1 .jF:=by simp[M1,oF,eB]
 have A0:M2 []:=by simp[M2,fy,bO]
 exact⟨fun s=>Sm.rec (motive_1:=M1) (motive_2:=M2) A1 A2 A3 A4 A5 A6 A7 A0 A8 s,fun l=>Sm.rec_1 (motive_1:=M1) (motive_2:=M2) A1 A2 A3 A4 A5 A6 A7 A0 A8 l⟩
theorem qG {c:Nat}:∀ {l:List ByteArray} {i j:Nat} {s:ByteArray},l[j]? = some s→l.Nodup→iX (Es c i l) s=some ⟨s,c,i+j⟩
 | [],_,_,_,h,_=>by simp at h
 | x::r,i,0,s,h,_=>by
  simp only[List.getElem?_cons_zero,Option.some.injEq] at h;subst h;simp[Es,iX]
 | x::r,i,j+1,s,h,hn=>by
  simp only[List.getElem?_cons_succ] at h;rw[List.nodup_cons] at hn;have hx:x≠s:=fun e=>hn.1 (by rw[e];exact List.mem_of_getElem? h);simp only[Es,iX];rw[if_neg hx,qG h hn.2];congr 2;omega
theorem lY (c:Nat):∀ (l:List ByteArray) (i:Nat),(Es c i l).map (·.name)=l
 | [],_=>rfl
 | s::r,i=>by simp[Es,lY c r]
theorem eA {c i:Nat}{l:List ByteArray}{s:ByteArray}(h:s∉l):iX (Es c i l) s=none:=by
 rw[qF,lY];exact h
theorem pM:∀ (l:List Pm) (i j:Nat),(lg i j l).map (·.name)=l.map (·.name)
 | [],_,_=>rfl
 | p::r,i,j=>by
  simp only[lg];split<;>simp[pM r]
theorem qE:∀ {l:List Pm} {i j:Nat} {p:Pm},(l.map (·.name)).Nodup→p∈l→(p.mutex=true→∃ n,iX (lg i j l) p.name=some ⟨p.name,5,n⟩∧n<j+pL l)∧(p.mutex=false→∃ n,iX (lg i j l) p.name=some ⟨p.name,4,n⟩∧n<i+pI l)
 | [],_,_,_,_,h=>by simp at h
 | q::r,i,j,p,hn,hp=>by
  simp only[List.map_cons,List.nodup_cons] at hn;rcases List.mem_cons.1 hp with rfl | hp
  ·refine⟨fun hm=>⟨j,by simp[lg,hm,iX],by simp[pL,hm];omega⟩,fun hm=>⟨i,by simp[lg,hm,iX],by simp[pI,hm];omega⟩⟩
  ·have hx:q.name≠p.name:=fun e=>hn.1 (by rw[e];exact List.mem_map_of_mem hp)
   cases hq:q.mutex with
   | true=>
    obtain⟨h1,h2⟩:=qE (i:=i) (j:=j+1) hn.2 hp;refine⟨fun hm=>?_,fun hm=>?_⟩
    ·obtain⟨n,h3,h4⟩:=h1 hm;exact⟨n,by simp[lg,hq,iX,hx,h3],by simp[pL,hq];omega⟩
    ·obtain⟨n,h3,h4⟩:=h2 hm;exact⟨n,by simp[lg,hq,iX,hx,h3],by simp[pI,hq];omega⟩
   | false=>
    obtain⟨h1,h2⟩:=qE (i:=i+1) (j:=j) hn.2 hp;refine⟨fun hm=>?_,fun hm=>?_⟩
    ·obtain⟨n,h3,h4⟩:=h1 hm;exact⟨n,by simp[lg,hq,iX,hx,h3],by simp[pL,hq];omega⟩
    ·obtain⟨n,h3,h4⟩:=h2 hm;exact⟨n,by simp[lg,hq,iX,hx,h3],by simp[pI,hq];omega⟩
theorem gQ:(∀ s∈nM,s∉nG)∧(∀ s∈nF,s∉nG∧s∉nM)∧(∀ s∈nP,s∉nG∧s∉nM∧s∉nF)∧nG.Nodup∧nM.Nodup∧nF.Nodup∧nP.Nodup:=by
 have h1:∀ s∈nM,∀ t∈nG,s≠t:=by decide
 have h2:∀ s∈nF,∀ t∈nG++nM,s≠t:=by decide
 have h3:∀ s∈nP,∀ t∈nG++nM++nF,s≠t:=by decide
 refine⟨fun s hs hx=>h1 s hs s hx rfl,fun s hs=>⟨fun hx=>h2 s hs s (by simp[hx]) rfl,fun hx=>h2 s hs s (by simp[hx]) rfl⟩,fun s hs=>⟨fun hx=>h3 s hs s (by simp[hx]) rfl,fun hx=>h3 s hs s (by simp[hx]) rfl,fun hx=>h3 s hs s (by simp[hx]) rfl⟩,?_,?_,?_,?_⟩<;>
  simp only[List.Nodup,nG,nM,nF,nP,List.pairwise_cons,List.Pairwise.nil,and_true]<;>decide
theorem qe {l:List ByteArray}{k:Nat}{s:ByteArray}(h:s∈l.take k):s∈l:=List.mem_of_mem_take h
theorem jC {α β:Type}{l:List α}(f:α→β){a:α}(h:a∈l):∃ j:Nat,l[j]? = some a∧(l.map f)[j]? = some (f a):=by
 obtain⟨j,hj⟩:=List.mem_iff_getElem?.1 h;exact⟨j,hj,by rw[List.getElem?_map,hj];rfl⟩
section
variable {p:Pg}(h:kC p)
include h
theorem kC.sub:(∀ s∈p.gs.map (·.name),s∈nG)∧(∀ s∈p.ms.map (·.name),s∈nM)∧(∀ s∈p.fs.map (·.name),s∈nF)∧(∀ f∈p.fs,∀ s∈f.params.map (·.name),s∈nP):=by
 obtain⟨k1,_,e1⟩:=h.gn;obtain⟨k2,_,_,e2⟩:=h.mn;obtain⟨k3,_,_,e3⟩:=h.fn;refine⟨fun s hs=>?_,fun s hs=>?_,fun s hs=>?_,fun f hf s hs=>?_⟩
 ·rw[e1] at hs;exact qe hs
 ·rw[e2] at hs;exact qe hs
 ·rw[e3] at hs;exact qe hs
 ·obtain⟨k,_,e⟩:=h.pn f hf;rw[e,List.mem_reverse] at hs;exact qe hs
theorem kC.nd:(p.gs.map (·.name)).Nodup∧(p.ms.map (·.name)).Nodup∧(p.fs.map (·.name)).Nodup∧∀ f∈p.fs,(f.params.map (·.name)).Nodup:=by
 obtain⟨_,_,_,n1,n2,n3,n4⟩:=gQ;obtain⟨k1,_,e1⟩:=h.gn;obtain⟨k2,_,_,e2⟩:=h.mn;obtain⟨k3,_,_,e3⟩:=h.fn;refine⟨?_,?_,?_,fun f hf=>?_⟩
 ·rw[e1];exact n1.sublist (List.take_sublist _ _)
 ·rw[e2];exact n2.sublist (List.take_sublist _ _)
 ·rw[e3];exact n3.sublist (List.take_sublist _ _)
 ·obtain⟨k,_,e⟩:=h.pn f hf;rw[e];exact List.pairwise_reverse.2 ((n4.sublist (List.take_sublist _ _)).imp fun h=>Ne.symm h)
theorem kC.dec:(∀ g∈p.gs,∃ j,iX (dd p) g.name=some ⟨g.name,1,j⟩∧j<p.gs.length)∧(∀ m∈p.ms,∃ j,iX (dd p) m.name=some ⟨m.name,2,j⟩∧p.ms[j]? = some m)∧
  (∀ f∈p.fs,∃ j,iX (dd p) f.name=some ⟨f.name,3,j⟩∧p.fs[j]? = some f)∧(∀ s,s∉nG++nM++nF→iX (dd p) s=none):=by
 obtain⟨a1,a2,_,_⟩:=gQ;obtain⟨s1,s2,s3,_⟩:=h.sub;obtain⟨d1,d2,d3,_⟩:=h.nd;refine⟨fun g hg=>?_,fun m hm=>?_,fun f hf=>?_,fun s hs=>?_⟩
 ·obtain⟨j,h1,h2⟩:=jC (·.name) hg;refine⟨j,?_,(List.getElem?_eq_some_iff.1 h1).1⟩;rw[dd,dC,dC,qG h2 d1];simp
 ·obtain⟨j,h1,h2⟩:=jC (·.name) hm;refine⟨j,?_,h1⟩;have QD:=s2 _ (List.mem_map_of_mem (f:=(·.name)) hm);rw[dd,dC,dC,eA (fun hx=>a1 _ QD (s1 _ hx)),qG h2 d2];simp
 ·obtain⟨j,h1,h2⟩:=jC (·.name) hf;refine⟨j,?_,h1⟩;have QD:=s3 _ (List.mem_map_of_mem (f:=(·.name)) hf);rw[dd,dC,dC,eA (fun hx=>(a2 _ QD).1 (s1 _ hx)),eA (fun hx=>(a2 _ QD).2 (s2 _ hx)),qG h2 d3];simp
 ·simp only[List.mem_append,not_or] at hs;rw[dd,dC,dC,eA (fun hx=>hs.1.1 (s1 _ hx)),eA (fun hx=>hs.1.2 (s2 _ hx)),eA (fun hx=>hs.2 (s3 _ hx))]
theorem kC.ew {f:Fu}(hf:f∈p.fs):EW p.gs.length p.ms (p.fs.map fun f=>(f.name,f.params)) f.params (jJ p.gs f.params) (ry p f) (pI f.params):=by
 obtain⟨d1,d2,d3,d4⟩:=h.dec;obtain⟨_,_,a3,_⟩:=gQ;obtain⟨_,_,_,s4⟩:=h.sub;obtain⟨_,_,_,n4⟩:=h.nd;have WY:∀ q∈f.params,iX (dd p) q.name=none:=fun q hq=>by
  have:=s4 f hf _ (List.mem_map_of_mem (f:=(·.name)) hq);have:=a3 _ this;exact d4 _ (by simp only[List.mem_append,not_or];exact⟨⟨this.1,this.2.1⟩,this.2.2⟩)
 refine⟨fun m hm=>?_,fun x hx=>?_,fun q hq hq2=>?_,fun s hs=>?_,fun s hs Wi=>?_⟩
 ·obtain⟨j,h1,h2⟩:=d2 m hm;exact⟨j,by rw[ry,dC,h1],h2⟩
 ·rw[List.mem_map] at hx;obtain⟨f',Xm,rfl⟩:=hx;obtain⟨j,h1,h2⟩:=d3 f' Xm;exact⟨j,by rw[ry,dC,h1],by rw[List.getElem?_map,h2];rfl⟩
 ·obtain⟨n,h1,h2⟩:=(qE (i:=0) (j:=0) (n4 f hf) hq).1 hq2;exact⟨n,by rw[ry,dC,WY q hq];exact h1,by omega⟩
 ·simp only[jJ,List.mem_append,List.mem_flatMap,List.mem_map] at hs;rcases hs with ⟨g,hg,rfl⟩ | ⟨q,hq,hs⟩
  ·obtain⟨j,h1,h2⟩:=d1 g hg;exact⟨1,j,by rw[ry,dC,h1],.inl ⟨rfl,h2⟩⟩
  ·cases hm:q.mutex with
   | true=>simp[hm] at hs
   | false=>
    simp[hm] at hs;subst hs;obtain⟨n,h1,h2⟩:=(qE (i:=0) (j:=0) (n4 f hf) hq).2 hm;exact⟨4,n,by rw[ry,dC,WY q hq];exact h1,.inr ⟨rfl,by omega⟩⟩
 ·have hs3:=Wi;simp only[List.mem_append,not_or] at hs3;rw[ry,dC,d4 s (by simp only[List.mem_append,not_or];exact hs3.1)];rw[qF,pM];exact fun hx=>hs3.2 (s4 f hf _ hx)
end
theorem pIL:∀ l:List Pm,pI l+pL l=l.length
 | []=>rfl
 | p::r=>by
  have:=pIL r;simp only[pI,pL,List.length_cons];split<;>omega
structure iy (u:Un):Prop where
 np:1≤u.ps.length∧u.ps.length≤4
 nm:1≤u.ms.length∧u.ms.length≤4
 ng:u.gs.length≤2
 gi:∀ g∈u.gs,-2≤g∧g≤2
 mz:∀ m∈u.ms,m.size≤3∧(m.re=true→m.size=0)
 main:u.main=0
 p0:∀ q,u.ps[0]? = some q→q.ints=0∧q.bH=0
 pr:∀ q∈u.ps,q.ints≤2∧q.bH≤2∧q.ints≤q.locals∧q.locals≤200∧q.code.length≤145
 pc:∀ q∈u.ps,(∃ c,q.code=c++[.ret])∧∀ i∈q.code,Gz (u.ps.map fun q=>(q.ints,q.bH)) u.ms u.gs.length q.locals q.bH (q.code.length-1) i
theorem kC.unit {p:Pg}(h:kC p)(hw:∀ f∈p.fs,bO f.body≤1152)(hp:∀ f∈p.fs,f.params.length≤2):iy (lH p):=by
 obtain⟨k1,TW,e1⟩:=h.gn;obtain⟨k2,_,Ug,e2⟩:=h.mn;obtain⟨k3,_,hk3,e3⟩:=h.fn;have l1:=congrArg List.length e1;have l2:=congrArg List.length e2;have l3:=congrArg List.length e3;simp[nG] at l1;simp[nM] at l2;simp[nF] at l3;have hs:∀ f∈p.fs,pI f.params≤(bV f.body (ry p f) (pI f.params) 0).2∧(∀ i∈(bV f.body (ry p f) (pI f.params) 0).1,Gz ((p.fs.map fun f=>(f.name,f.params)).map Mr) p.ms p.gs.length (bV f.body (ry p f) (pI f.params) 0).2 (pL f.params) (0+(bV f.body (ry p f) (pI f.params) 0).1.length) i)∧8*(bV f.body (ry p f) (pI f.params) 0).1.length≤bO f.body∧(bV f.body (ry p f) (pI f.params) 0).2≤pI f.params+fy f.body:=
  fun f hf=>Au.2 f.body 2 _ _ _ 0 (h.ew hf) (h.bd f hf)
 have TQ:(lH p).ps.map (fun q=>(q.ints,q.bH))=(p.fs.map fun f=>(f.name,f.params)).map Mr:=by
  simp only[lH,List.map_map];rfl
 refine⟨by simp only[lH,List.length_map];omega,by simp only[lH];omega,by simp only[lH,List.length_map];omega,fun g hg=>?_,h.mz,rfl,fun q hq=>?_,fun q hq=>?_,fun q hq=>?_⟩
 ·simp only[lH,List.mem_map] at hg;obtain⟨x,hx,rfl⟩:=hg;exact h.gi x hx
 ·simp only[lH,List.getElem?_map,Option.map_eq_some_iff] at hq;obtain⟨f,hf,rfl⟩:=hq;simp[nw,h.f0 f hf,pI,pL]
 ·simp only[lH,List.mem_map] at hq;obtain⟨f,hf,rfl⟩:=hq;obtain⟨b1,b2,b3,b4⟩:=hs f hf;have b5:=yZ.2 f.body;have b6:=hw f hf;have b7:=pIL f.params;have b8:=hp f hf;refine⟨by simp only[nw];omega,by simp only[nw];omega,b1,by simp only[nw];omega,by simp only[nw,List.length_append,List.length_singleton];omega⟩
 ·rw[TQ];simp only[lH,List.mem_map] at hq;obtain⟨f,hf,rfl⟩:=hq;obtain⟨b1,b2,b3,b4⟩:=hs f hf;refine⟨⟨_,rfl⟩,fun i hi=>?_⟩;simp only[nw,List.mem_append,List.mem_singleton] at hi ⊢;rcases hi with hi | rfl
  ·have hx:=Gz.mono (Nat.le_refl _) (M':=(bV f.body (ry p f) (pI f.params) 0).1.length) yA (b2 i hi)
   simpa [lH] using hx
  ·trivial
deriving instance DecidableEq for Is
def oK (is:Is)(q:Pl):Nat:=if q.param=true then is.bH.getD q.index 0 else q.index
def mU:In→Int
 | .set _ _ _=>1
 | .call g _ _ _=>if g=true then 3 else 2
 | .lock u _=>if u=true then 5 else 4
 | .branch _ _=>6
 | .jump _=>7
 | .ret=>8
def jS (is:Is):In→Option Is
 | .call _ t _ ps=>some ⟨t,ps.map (oK is)⟩
 | _=>none
def au (u:Un)(is:Is):List In:=match u.ps[is.proc]? with
 | some q=>q.code
 | none=>[]
def sD (u:Un)(is:Is)(pc:Int):Option Is:=if pc<0 then none else match (au u is)[pc.toNat]? with
 | some i=>jS is i
 | none=>none
def zW:Option Is→CV
 | some x=>.dS [.agg (cO x),.bool true]
 | none=>.dS [.agg [I 0,.aA [] 0],.bool false]
theorem iK (i:In):∃ cs,dt i=I (mU i)::cs∧cs.length=11:=by
 have h:∃ cs,dt i=I (mU i)::cs:=by cases i<;>exact⟨_,rfl⟩
 obtain⟨cs,h⟩:=h;have:=eK i;rw[h] at this;exact⟨cs,h,by simpa using this⟩
structure pE (u:Un)(is:Is):Prop where
 q:∃ q,u.ps[is.proc]? = some q∧is.bH.length=q.bH
 m:∀ l∈is.bH,l<u.ms.length
theorem M5 {u:Un}{is:Is}{g k L:Nat}{q:Pl}(hm:∀ l∈is.bH,l<u.ms.length)(hL:is.bH.length=L)(h:JG u.ms g k L q):oK is q<u.ms.length:=by
 rcases h with ⟨h1,h2,_⟩ | ⟨h1,m,h2,_⟩
 ·simp only[oK,h1,if_true];rw[List.getD_eq_getElem?_getD,List.getElem?_eq_getElem yA];exact hm _ (List.getElem_mem yA)
 ·simp only[oK,h1,Bool.false_eq_true,if_false];exact (List.getElem?_eq_some_iff.1 h2).1
theorem C8 {u:Un}(hu:iy u){is:Is}(hi:pE u is){i:In}(hm:i∈au u is){x:Is}(hx:jS is i=some x):pE u x:=by
 obtain⟨⟨q,hq,hl⟩,hlm⟩:=hi;simp only[au,hq] at hm;have hv:=(hu.pc q (List.mem_of_getElem? hq)).2 i hm
 cases i with
 | call g t is' ps=>
  simp only[jS,Option.some.injEq] at hx;subst hx;obtain⟨h1,_,h3⟩:=hv;rw[List.getElem?_map,Option.map_eq_some_iff] at h1;obtain⟨q',h4,h5⟩:=h1;simp only[Prod.mk.injEq] at h5;refine⟨⟨q',h4,?_⟩,fun l RS=>?_⟩
  ·simp only[List.length_map];omega
  ·simp only[List.mem_map] at RS;obtain⟨pl,PR,rfl⟩:=RS;exact M5 hlm hl (h3 pl PR)
 | _=>simp[jS] at hx
def sj:In→Bool
 | .call g _ _ _=>g
 | _=>false
def cD (l:List Nat)(n:Nat):Nat:=(l.takeWhile (· < n)).length
def gh (l:List Nat)(n:Nat):List Nat:=if n∈l then l else l.take (cD l n)++n::l.drop (cD l n)
def eR (l:List Is)(x:Is):List Is:=if x∈l then l else l++[x]
def gA (l:List Is)(x:Is):Nat:=l.findIdx fun y=>decide (y=x)
def gY (is:Is):List In→List Is→List Nat→List Is×List Int×List Nat
 | [],l,r=>(l,[],r)
 | i::c,l,r=>match jS is i with
  | none=>((gY is c l r).1,-1::(gY is c l r).2.1,(gY is c l r).2.2)
  | some x=>((gY is c (eR l x) (if sj i=true then gh r (gA (eR l x) x) else r)).1,(gA (eR l x) x:Int)::(gY is c (eR l x) (if sj i=true then gh r (gA (eR l x) x) else r)).2.1,(gY is c (eR l x) (if sj i=true then gh r (gA (eR l x) x) else r)).2.2)
def mC (u:Un):Nat→Nat→List Is→List (List Int)→List Nat→Cl
 | 0,_,l,cs,r=>⟨l,cs,r⟩
 | f+1,i,l,cs,r=>match l[i]? with
  | none=>⟨l,cs,r⟩
  | some x=>mC u f (i+1) (gY x (au u x) l r).1 (cs++[(gY x (au u x) l r).2.1]) (gY x (au u x) l r).2.2
def aj (u:Un):Cl:=mC u 100 0 [⟨u.main,[]⟩] [] [0]
def comb (n:Nat):Nat→List (List Nat)
 | 0=>[[]]
 | k+1=>(List.range n).flatMap fun a=>(comb n k).map (a :: ·)
theorem AW (n:Nat):∀ (l:List Nat),(∀ x∈l,x<n)→l∈comb n l.length
 | [],_=>by simp[comb]
 | a::r,h=>by
  simp only[List.length_cons,comb,List.mem_flatMap,List.mem_range,List.mem_map];exact⟨a,h a List.mem_cons_self,r,AW n r fun x hx=>h x (List.mem_cons_of_mem _ hx),rfl⟩
theorem Ap (c:Nat):∀ l:List Nat,(∀ x∈l,x≤c)→l.sum≤l.length*c
 | [],_=>by simp
 | a::r,h=>by
  have h1:=h a List.mem_cons_self;have h2:=Ap c r fun x hx=>h x (List.mem_cons_of_mem _ hx);rw[List.sum_cons,List.length_cons,Nat.succ_mul];omega
theorem BF (n:Nat):∀ k,(comb n k).length=n ^ k
 | 0=>by simp[comb]
 | k+1=>by
  simp only[comb,List.length_flatMap,List.length_map,BF n k];rw[List.map_const',List.sum_replicate_nat,List.length_range,Nat.pow_succ,Nat.mul_comm]
def wA (n:Nat):Nat→List Pr→List Is
 | _,[]=>[]
 | t,q::r=>(comb n q.bH).map (fun ls=>⟨t,ls⟩)++wA n (t+1) r
theorem AX (n:Nat):∀ (l:List Pr) (t j:Nat) (q:Pr) (x:Is),l[j]? = some q→x.proc=t+j→x.bH.length=q.bH→(∀ a∈x.bH,a<n)→x∈wA n t l
 | [],_,_,_,_,h,_,_,_=>by simp at h
 | p::r,t,0,q,x,h,hp,hl,ha=>by
  simp only[List.getElem?_cons_zero,Option.some.injEq] at h;subst h;simp only[wA,List.mem_append,List.mem_map];refine .inl ⟨x.bH,by rw[← hl];exact AW n _ ha,?_⟩;cases x;simp only at hp;simp[hp]
 | p::r,t,j+1,q,x,h,hp,hl,ha=>by
  simp only[List.getElem?_cons_succ] at h;simp only[wA,List.mem_append];exact .inr (AX n r (t+1) j q x h yA hl ha)
theorem xO {α:Type}(w:α→Nat):∀ (l m:List α),l.Nodup→(∀ x∈l,x∈m)→(l.map w).sum≤(m.map w).sum
 | [],_,_,_=>by simp
 | a::r,m,hn,hs=>by
  obtain⟨m1,m2,rfl⟩:=List.append_of_mem (hs a List.mem_cons_self);rw[List.nodup_cons] at hn;have ih:=xO w r (m1++m2) hn.2 fun x hx=>by
   have h1:=hs x (List.mem_cons_of_mem _ hx);have Pf:x≠a:=fun e=>hn.1 (e ▸ hx);simp only[List.mem_append,List.mem_cons] at h1 ⊢;rcases h1 with h | h | h
   ·exact .inl h
   ·exact (Pf h).elim
   ·exact .inr h
  simp only[List.map_append,List.sum_append,List.map_cons,List.sum_cons] at ih ⊢;omega
theorem BO {u:Un}(w:Is→Nat)(c:Nat)(n:Nat)(hw:∀ x,w x≤c)(hn:n≤4):∀ (l:List Pr) (t:Nat),(∀ q∈l,q.bH≤2)→((wA n t l).map w).sum≤l.length*(16*c)
 | [],_,_=>by simp[wA]
 | q::r,t,h=>by
  have h1:=BO (u:=u) w c n hw hn r (t+1) fun x hx=>h x (List.mem_cons_of_mem _ hx);have h2:=h q List.mem_cons_self;have h3:(comb n q.bH).length≤16:=by
   rw[BF]
   calc n ^ q.bH≤4 ^ q.bH:=Nat.pow_le_pow_left hn _
    _≤4 ^ 2:=Nat.pow_le_pow_right yA h2
  have h4:(((comb n q.bH).map fun ls=>(⟨t,ls⟩:Is)).map w).sum≤16*c:=by
   refine Nat.le_trans (Ap c _ fun x hx=>?_) (Nat.mul_le_mul_right c (by simpa using h3));simp only[List.mem_map] at hx;obtain⟨y,_,rfl⟩:=hx;exact hw y
  have h5:(r.length+1)*(16*c)=r.length*(16*c)+16*c:=Nat.succ_mul _ _;simp only[wA,List.map_append,List.sum_append,List.length_cons];omega
theorem Bc {u:Un}(hu:iy u)(w:Is→Nat)(c:Nat)(hw:∀ x,w x≤c){l:List Is}(hn:l.Nodup)(hv:∀ x∈l,pE u x):(l.map w).sum≤c+48*c:=by
 have Ud:=hu.np;have P2:=hu.nm;have h1:=xO w l (wA u.ms.length 0 u.ps) hn fun x hx=>by
  obtain⟨⟨q,hq,hl⟩,hm⟩:=hv x hx;exact AX _ _ 0 x.proc q x hq yA hl hm
 refine Nat.le_trans h1 ?_
 cases QN:u.ps with
 | nil=>rw[QN] at Ud;simp at Ud
 | cons q0 r=>
  have h0:=hu.p0 q0 (by rw[QN];rfl);have hr:r.length≤3:=by rw[QN] at Ud;simp at Ud;omega
  have h2:=BO (u:=u) w c u.ms.length hw P2.2 r 1 fun q hq=>(hu.pr q (by rw[QN];exact List.mem_cons_of_mem _ hq)).2.1;have h3:(wA u.ms.length 0 (q0::r))=⟨0,[]⟩ :: wA u.ms.length 1 r:=by simp[wA,h0.2,comb]
  rw[h3,List.map_cons,List.sum_cons];have h4:=hw ⟨0,[]⟩;have h5:r.length*(16*c)≤48*c:=by
   calc r.length*(16*c)≤3*(16*c):=Nat.mul_le_mul_right _ hr
    _=48*c:=by omega
  omega
theorem ka {u:Un}(hu:iy u){l:List Is}(hn:l.Nodup)(hv:∀ x∈l,pE u x):l.length≤49:=by
 have:=Bc hu (fun _=>1) 1 (fun _=>Nat.le_refl _) hn hv;rw[List.map_const',List.sum_replicate_nat] at this;omega
theorem fo {u:Un}(hu:iy u)(x:Is):(au u x).length≤145:=by
 unfold au
 cases h:u.ps[x.proc]? with
 | none=>simp
 | some q=>exact (hu.pr q (List.mem_of_getElem? h)).2.2.2.2
theorem CN {u:Un}(hu:iy u){l:List Is}(hn:l.Nodup)(hv:∀ x∈l,pE u x):(l.map fun x=>(au u x).length).sum≤7105:=
 Bc hu _ 145 (fo hu) hn hv
theorem mM {l:List Is}{x:Is}(h:l.Nodup):(eR l x).Nodup:=by
 unfold eR;split
 ·exact h
 ·rename_i hx;refine List.nodup_append.2 ⟨h,by simp,fun a ha b hb e=>?_⟩;rw[List.mem_singleton] at hb;subst hb;subst e;exact hx ha
theorem Df {u:Un}{l:List Is}{x:Is}(h:∀ y∈l,pE u y)(hx:pE u x):∀ y∈eR l x,pE u y:=by
 unfold eR;split
 ·exact h
 ·intro y hy;rcases List.mem_append.1 hy with hy | hy
  ·exact h y hy
  ·rw[List.mem_singleton] at hy;subst hy;exact hx
theorem Lh {l:List Is}{x y:Is}{i:Nat}(h:l[i]? = some y):(eR l x)[i]? = some y:=by
 unfold eR;split
 ·exact h
 ·rw[List.getElem?_append_left (List.getElem?_eq_some_iff.1 h).1];exact h
theorem BQ (l:List Is)(x:Is):x∈eR l x:=by
 unfold eR;split
 ·assumption
 ·simp
theorem BP (l:List Is)(x:Is):∃ t,eR l x=l++t:=by
 unfold eR;split
 ·exact⟨[],by simp⟩
 ·exact⟨[x],rfl⟩
theorem ua (x:Is):∀ (c:List In) (l:List Is) (r:List Nat),∃ t,(gY x c l r).1=l++t
 | [],l,r=>⟨[],by simp[gY]⟩
 | i::c,l,r=>by
  simp only[gY]
  cases jS x i with
  | none=>exact ua x c l r
  | some y=>
   simp only;obtain⟨t1,h1⟩:=BP l y;obtain⟨t2,h2⟩:=ua x c (eR l y) (if sj i=true then gh r (gA (eR l y) y) else r);exact⟨t1++t2,by rw[h2,h1,List.append_assoc]⟩
theorem Eb {l:List Is}{x:Is}(h:x∈l):gA l x<l.length:=by
 unfold gA;exact List.findIdx_lt_length_of_exists ⟨x,h,by simp⟩
end Go.aP
