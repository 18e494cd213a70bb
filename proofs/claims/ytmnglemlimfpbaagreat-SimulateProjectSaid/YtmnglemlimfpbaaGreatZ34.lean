/- The code of a program: what lowering makes of it, and its fo -/
import Derived.Test.YtmnglemlimfpbaaGreatZ33
namespace Go.aX
open Go.Can
structure En where
 name:ByteArray
 kind:Nat
 n:Nat
def iu (x:En):List CV:=[.str x.name,I x.kind,I x.n]
def iZ:List En→ByteArray→Option En
 | [],_=>none
 | x::r,s=>if x.name=s then some x else iZ r s
def lT (E:List En)(s:ByteArray):En:=(iZ E s).getD ⟨eS,0,0⟩
theorem ia {E:List En}{s:ByteArray}{x:En}(h:iZ E s=some x):lT E s=x:=by simp[lT,h]
theorem dC (A B:List En)(s:ByteArray):iZ (A++B) s=(match iZ A s with
  | some x=>some x
  | none=>iZ B s):=by
 induction A with
 | nil=>rfl
 | cons a r ih=>
  simp only[List.cons_append,iZ]
  split
  ·rfl
  ·exact ih
theorem qn {E:List En}{s:ByteArray}:iZ E s=none↔s∉E.map (·.name):=by
 induction E with
 | nil=>simp[iZ]
 | cons a r ih=>
  simp only[iZ,List.map_cons,List.mem_cons,not_or]
  split
  ·rename_i h
   simp[h]
  ·rename_i h
   rw[ih]
   exact⟨fun h2=>⟨fun e=>h e.symm,h2⟩,fun h2=>h2.2⟩
def dR (E:List En):Ex→Ex
 | .nm s=>if (lT E s).kind=1 then .ji (lT E s).n else .loc (lT E s).n
 | .un k e=>.un k (dR E e)
 | .bin k a b=>.bin k (dR E a) (dR E b)
 | e=>e
def yd (E:List En)(r:Rf):Pl:=⟨decide ((lT E r.name).kind=5),(lT E r.name).n,r.index.map (dR E)⟩
def dc (E:List En):List Ar→List Ex
 | []=>[]
 | .exp e::l=>dR E e::dc E l
 | .uJ _::l=>dc E l
def eY (E:List En):List Ar→List Pl
 | []=>[]
 | .exp _::l=>eY E l
 | .uJ r::l=>yd E r::eY E l
def fx (k:Nat):Sm→List En
 | .gZ s _=>[⟨s,4,k⟩]
 | _=>[]
mutual
/-- The code of a statement that begins at place b, and the number of locals after it. -/
def ef:Sm→List En→Nat→Nat→List In×Nat
 | .gZ _ e,E,k,_=>([.set k false (dR E e)],k+1)
 | .iF s e,E,k,_=>([.set (lT E s).n (decide ((lT E s).kind=1)) (dR E e)],k)
 | .dY g s l,E,k,_=>([.call g (lT E s).n (dc E l) (eY E l)],k)
 | .dB u r,E,k,_=>([.lock u (yd E r)],k)
 | .lG e th el,E,k,b=>
  if el.length=0 then (.branch (b+1+(bO th E k (b+1)).1.length) (dR E e)::(bO th E k (b+1)).1,(bO th E k (b+1)).2)
  else (.branch (b+2+(bO th E k (b+1)).1.length) (dR E e)::((bO th E k (b+1)).1++.jump (b+2+(bO th E k (b+1)).1.length+(bO el E (bO th E k (b+1)).2 (b+2+(bO th E k (b+1)).1.length)).1.length) ::
   (bO el E (bO th E k (b+1)).2 (b+2+(bO th E k (b+1)).1.length)).1),(bO el E (bO th E k (b+1)).2 (b+2+(bO th E k (b+1)).1.length)).2)
 | .cJ e th,E,k,b=>(.branch (b+2+(bO th E k (b+1)).1.length) (dR E e)::((bO th E k (b+1)).1++[.jump b]),(bO th E k (b+1)).2)
 | .jC,_,k,_=>([.ret],k)
def bO:List Sm→List En→Nat→Nat→List In×Nat
 | [],_,k,_=>([],k)
 | s::r,E,k,b=>((ef s E k b).1++(bO r (E++fx k s) (ef s E k b).2 (b+(ef s E k b).1.length)).1,(bO r (E++fx k s) (ef s E k b).2 (b+(ef s E k b).1.length)).2)
end
mutual
/-- The number of statements. -/
def ox:Sm→Nat
 | .lG _ th el=>1+fp th+fp el
 | .cJ _ th=>1+fp th
 | _=>1
def fp:List Sm→Nat
 | []=>0
 | s::r=>ox s+fp r
end
mutual
/-- The statements of the instructions; the statement itself is number s. -/
def vJ:Sm→Nat→List Nat
 | .lG _ th el,s=>if el.length=0 then s::iD th (s+1) else s::(iD th (s+1)++s::iD el (s+1+fp th))
 | .cJ _ th,s=>s::(iD th (s+1)++[s])
 | _,s=>[s]
def iD:List Sm→Nat→List Nat
 | [],_=>[]
 | x::r,s=>vJ x s++iD r (s+ox x)
end
def Dd (c:Nat):Nat→List ByteArray→List En
 | _,[]=>[]
 | i,s::r=>⟨s,c,i⟩ :: Dd c (i+1) r
def df (p:Pg):List En:=Dd 1 0 (p.gs.map (·.name))++Dd 2 0 (p.ms.map (·.name))++Dd 3 0 (p.fs.map (·.name))
def lb:Nat→Nat→List Pm→List En
 | _,_,[]=>[]
 | i,j,p::r=>if p.mutex=true then ⟨p.name,5,j⟩ :: lb i (j+1) r else ⟨p.name,4,i⟩ :: lb (i+1) j r
def pI:List Pm→Nat
 | []=>0
 | p::r=>(if p.mutex=true then 0 else 1)+pI r
def pL:List Pm→Nat
 | []=>0
 | p::r=>(if p.mutex=true then 1 else 0)+pL r
def qN (p:Pg)(f:Fu):List En:=df p++lb 0 0 f.params
def ni (p:Pg)(f:Fu):Pr:=⟨f.name,pI f.params,pL f.params,(bO f.body (qN p f) (pI f.params) 0).2,(bO f.body (qN p f) (pI f.params) 0).1++[.ret]⟩
def lI (p:Pg):Un:=⟨p.gs.map (·.init),p.ms,p.fs.map (ni p),0⟩
def vH (g k:Nat):Ex→Prop
 | .num n=>n<4611686018427387904
 | .loc i=>i<k
 | .ji i=>i<g
 | .un o e=>o<2∧vH g k e
 | .bin o a b=>o<13∧vH g k a∧vH g k b
 | _=>False
def vF (ms:List Mx)(g k L:Nat)(p:Pl):Prop:=
 (p.param=true∧p.index<L∧p.at_=none)∨(p.param=false∧∃ m,ms[p.index]? = some m∧((p.at_=none∧m.size=0)∨∃ e,p.at_=some e∧0<m.size∧vH g k e))
def HI (HM:List (Nat×Nat))(ms:List Mx)(g k L M:Nat):In→Prop
 | .set t gl e=>(if gl=true then t<g else t<k)∧vH g k e
 | .call _ t is ps=>HM[t]? = some (is.length,ps.length)∧(∀ e∈is,vH g k e)∧∀ p∈ps,vF ms g k L p
 | .lock _ p=>vF ms g k L p
 | .branch t e=>t≤M∧vH g k e
 | .jump t=>t≤M
 | .ret=>True
theorem vH.mono {g k k':Nat}(h:k≤k'):∀ {e:Ex},vH g k e→vH g k' e
 | .num _,hx=>hx
 | .loc _,hx=>Nat.lt_of_lt_of_le hx h
 | .ji _,hx=>hx
 | .un _ _,hx=>⟨hx.1,vH.mono h hx.2⟩
 | .bin _ _ _,hx=>⟨hx.1,vH.mono h hx.2.1,vH.mono h hx.2.2⟩
 | .zero,hx=>hx.elim
 | .nm _,hx=>hx.elim
theorem vF.mono {ms:List Mx}{g k k' L:Nat}(h:k≤k'){p:Pl}(hp:vF ms g k L p):vF ms g k' L p:=by
 rcases hp with hp | ⟨h1,m,h2,h3 | ⟨e,h3,h4,h5⟩⟩
 ·exact .inl hp
 ·exact .inr ⟨h1,m,h2,.inl h3⟩
 ·exact .inr ⟨h1,m,h2,.inr ⟨e,h3,h4,h5.mono h⟩⟩
theorem HI.mono {HM:List (Nat×Nat)}{ms:List Mx}{g k k' L M M':Nat}(h:k≤k')(hM:M≤M'){i:In}(hi:HI HM ms g k L M i):HI HM ms g k' L M' i:=by
 cases i with
 | set t gl e=>
  refine⟨?_,hi.2.mono h⟩
  have:=hi.1
  split at this
  ·rename_i hg;rw[if_pos hg];exact this
  ·rename_i hg;rw[if_neg hg];omega
 | call go t is ps=>exact⟨hi.1,fun e he=>(hi.2.1 e he).mono h,fun p hp=>(hi.2.2 p hp).mono h⟩
 | lock u p=>exact vF.mono h hi
 | branch t e=>exact⟨Nat.le_trans hi.1 hM,hi.2.mono h⟩
 | jump t=>exact Nat.le_trans hi hM
 | ret=>trivial
structure EW (g:Nat)(ms:List Mx)(fs:List (ByteArray×List Pm))(ps:List Pm)(V:List ByteArray)(E:List En)(k:Nat):Prop where
 m:∀ m∈ms,∃ j,iZ E m.name=some ⟨m.name,2,j⟩∧ms[j]? = some m
 f:∀ f∈fs,∃ j,iZ E f.1=some ⟨f.1,3,j⟩∧fs[j]? = some f
 p:∀ p∈ps,p.mutex=true→∃ j,iZ E p.name=some ⟨p.name,5,j⟩∧j<pL ps
 v:∀ s∈V,∃ c j,iZ E s=some ⟨s,c,j⟩∧((c=1∧j<g)∨(c=4∧j<k))
 o:∀ s,s∉V→s∉nG++nM++nF++nP→iZ E s=none
theorem EW.add {g:Nat}{ms:List Mx}{fs:List (ByteArray×List Pm)}{ps:List Pm}{V:List ByteArray}{E:List En}{k:Nat}(h:EW g ms fs ps V E k){s:ByteArray}(hs:iZ E s=none):EW g ms fs ps (V++[s]) (E++[⟨s,4,k⟩]) (k+1):=by
 have hk:∀ {t:ByteArray} {x:En},iZ E t=some x→iZ (E++[⟨s,4,k⟩]) t=some x:=fun {t x} ht=>by rw[dC,ht]
 refine⟨fun m hm=>?_,fun f hf=>?_,fun p hp hp2=>?_,fun t ht=>?_,fun t ht ht2=>?_⟩
 ·obtain⟨j,h1,h2⟩:=h.m m hm
  exact⟨j,hk h1,h2⟩
 ·obtain⟨j,h1,h2⟩:=h.f f hf
  exact⟨j,hk h1,h2⟩
 ·obtain⟨j,h1,h2⟩:=h.p p hp hp2
  exact⟨j,hk h1,h2⟩
 ·rcases List.mem_append.1 ht with ht | ht
  ·obtain⟨c,j,h1,h2⟩:=h.v t ht
   exact⟨c,j,hk h1,by omega⟩
  ·rw[List.mem_singleton] at ht
   subst ht
   exact⟨4,k,by rw[dC,hs];simp[iZ],.inr ⟨rfl,by omega⟩⟩
 ·rw[List.mem_append,not_or,List.mem_singleton] at ht
  rw[dC,h.o t ht.1 ht2]
  simp only[iZ]
  rw[if_neg fun e=>ht.2 e.symm]
theorem EW.up {g:Nat}{ms:List Mx}{fs:List (ByteArray×List Pm)}{ps:List Pm}{V:List ByteArray}{E:List En}{k k':Nat}(h:EW g ms fs ps V E k)(hk:k≤k'):EW g ms fs ps V E k':=
 ⟨h.m,h.f,h.p,fun s hs=>by
  obtain⟨c,j,h1,h2⟩:=h.v s hs
  exact⟨c,j,h1,by omega⟩,h.o⟩
section
variable {g:Nat}{ms:List Mx}{fs:List (ByteArray×List Pm)}{ps:List Pm}{V:List ByteArray}{E:List En}{k:Nat}
theorem EW.ex (h:EW g ms fs ps V E k):∀ {d:Nat} {e:Ex},fM V d e→vH g k (dR E e)
 | _,.num n,hx=>by simpa [fM,dR,vH] using hx
 | _,.nm s,hx=>by
  simp only[fM] at hx
  obtain⟨c,j,h1,h2⟩:=h.v s hx
  simp only[dR,ia h1]
  rcases h2 with ⟨rfl,h2⟩ | ⟨rfl,h2⟩
  ·exact h2
  ·exact h2
 | d+1,.un o e,hx=>by
  simp only[fM] at hx
  exact⟨hx.1,h.ex hx.2⟩
 | d+1,.bin o a b,hx=>by
  simp only[fM] at hx
  exact⟨hx.1,h.ex hx.2.1,h.ex hx.2.2⟩
 | 0,.un _ _,hx=>hx.elim
 | 0,.bin _ _ _,hx=>hx.elim
 | 0,.zero,hx=>hx.elim
 | 0,.loc _,hx=>hx.elim
 | 0,.ji _,hx=>hx.elim
 | _+1,.zero,hx=>hx.elim
 | _+1,.loc _,hx=>hx.elim
 | _+1,.ji _,hx=>hx.elim
theorem EW.rf (h:EW g ms fs ps V E k){r:Rf}(hr:EX ms ps V r):vF ms g k (pL ps) (yd E r):=by
 rcases hr with ⟨m,hm,hn,hi⟩ | ⟨p,hp,hp2,hn,hi⟩
 ·obtain⟨j,h1,h2⟩:=h.m m hm
  rw[← hn] at h1
  refine .inr ⟨by simp[yd,ia h1],m,by simpa [yd,ia h1] using h2,?_⟩
  rcases hi with ⟨h3,h4⟩ | ⟨e,h3,h4,h5⟩
  ·exact .inl ⟨by simp[yd,h3],h4⟩
  ·exact .inr ⟨dR E e,by simp[yd,h3],h4,h.ex h5⟩
 ·obtain⟨j,h1,h2⟩:=h.p p hp hp2
  rw[← hn] at h1
  exact .inl ⟨by simp[yd,ia h1],by simpa [yd,ia h1] using h2,by simp[yd,hi]⟩
theorem EW.ars (h:EW g ms fs ps V E k):∀ {gp:List Pm} {l:List Ar},jr ms ps V gp l→(dc E l).length=pI gp∧(eY E l).length=pL gp∧(∀ e∈dc E l,vH g k e)∧∀ p∈eY E l,vF ms g k (pL ps) p
 | [],[],_=>by simp[dc,eY,pI,pL]
 | q::gp,a::l,hx=>by
  simp only[jr] at hx
  obtain⟨i1,i2,i3,i4⟩:=h.ars hx.2
  cases a with
  | uJ r=>
   refine⟨by simp[dc,pI,hx.1.1,i1],by simp[eY,pL,hx.1.1,i2];omega,i3,fun p hp=>?_⟩
   simp only[eY,List.mem_cons] at hp
   rcases hp with rfl | hp
   ·exact h.rf hx.1.2
   ·exact i4 p hp
  | exp e=>
   refine⟨by simp[dc,pI,hx.1.1,i1];omega,by simp[eY,pL,hx.1.1,i2],fun x hp=>?_,i4⟩
   simp only[dc,List.mem_cons] at hp
   rcases hp with rfl | hp
   ·exact h.ex hx.1.2
   ·exact i3 x hp
 | [],_::_,hx=>hx.elim
 | _::_,[],hx=>hx.elim
end
theorem wg (k:Nat)(hk:k<24):fz k∉nG++nM++nF++nP:=by
 obtain⟨h1,h2,h3,h4⟩:=rN k hk
 simp only[List.mem_append,not_or]
 exact⟨⟨⟨h1,h2⟩,h3⟩,h4⟩
def Kg (x:ByteArray×List Pm):Nat×Nat:=(pI x.2,pL x.2)
theorem zC {g:Nat}{ms:List Mx}{fs:List (ByteArray×List Pm)}{ps:List Pm} :
  (∀ s:Sm,∀ d V E k b,EW g ms fs ps V E k→dS ms fs ps d V s→k≤(ef s E k b).2∧(∀ i∈(ef s E k b).1,HI (fs.map Kg) ms g (ef s E k b).2 (pL ps) (b+(ef s E k b).1.length) i)∧EW g ms fs ps (V++dW s) (E++fx k s) (ef s E k b).2∧8*(ef s E k b).1.length≤eA s∧(ef s E k b).2≤k+ox s)∧
  (∀ l:List Sm,∀ d V E k b,EW g ms fs ps V E k→cR ms fs ps d V l→k≤(bO l E k b).2∧(∀ i∈(bO l E k b).1,HI (fs.map Kg) ms g (bO l E k b).2 (pL ps) (b+(bO l E k b).1.length) i)∧8*(bO l E k b).1.length≤bG l∧(bO l E k b).2≤k+fp l):=by
 let M1:Sm→Prop:=fun s=>∀ d V E k b,EW g ms fs ps V E k→dS ms fs ps d V s→k≤(ef s E k b).2∧(∀ i∈(ef s E k b).1,HI (fs.map Kg) ms g (ef s E k b).2 (pL ps) (b+(ef s E k b).1.length) i)∧EW g ms fs ps (V++dW s) (E++fx k s) (ef s E k b).2∧8*(ef s E k b).1.length≤eA s∧(ef s E k b).2≤k+ox s
 let M2:List Sm→Prop:=fun l=>∀ d V E k b,EW g ms fs ps V E k→cR ms fs ps d V l→k≤(bO l E k b).2∧(∀ i∈(bO l E k b).1,HI (fs.map Kg) ms g (bO l E k b).2 (pL ps) (b+(bO l E k b).1.length) i)∧8*(bO l E k b).1.length≤bG l∧(bO l E k b).2≤k+fp l
 have A1:∀ (s:ByteArray) (e:Ex),M1 (.gZ s e):=by
  intro s e d V E k b hE hw
  simp only[dS] at hw
  obtain⟨⟨j,hj,rfl⟩,hv,he⟩:=hw
  have hn:iZ E (fz j)=none:=hE.o _ hv (wg j hj)
  refine⟨by simp[ef],fun i hi=>?_,hE.add hn,by simp[ef,eA],by simp[ef,ox]⟩
  simp only[ef,List.mem_singleton] at hi ⊢
  subst hi
  exact⟨by simp,(hE.ex he).mono yA⟩
 have A2:∀ (s:ByteArray) (e:Ex),M1 (.iF s e):=by
  intro s e d V E k b hE hw
  simp only[dS] at hw
  obtain⟨c,j,h1,h2⟩:=hE.v s hw.1
  refine⟨by simp[ef],fun i hi=>?_,by simpa [dW,fx,ef] using hE,by simp[ef,eA],by simp[ef,ox]⟩
  simp only[ef,List.mem_singleton] at hi ⊢
  subst hi
  refine⟨?_,hE.ex hw.2⟩
  rw[ia h1]
  rcases h2 with ⟨rfl,h2⟩ | ⟨rfl,h2⟩
  ·simpa using h2
  ·simpa using h2
 have A3:∀ (g:Bool) (s:ByteArray) (l:List Ar),M1 (.dY g s l):=by
  intro go s l d V E k b hE hw
  simp only[dS] at hw
  obtain⟨gp,h1,h2⟩:=hw
  obtain⟨j,h3,h4⟩:=hE.f _ h1
  obtain⟨a1,a2,a3,a4⟩:=hE.ars h2
  refine⟨by simp[ef],fun i hi=>?_,by simpa [dW,fx,ef] using hE,by simp[ef,eA],by simp[ef,ox]⟩
  simp only[ef,List.mem_singleton] at hi ⊢
  subst hi
  refine⟨?_,a3,a4⟩
  rw[ia h3,List.getElem?_map,h4]
  simp[Kg,a1,a2]
 have A4:∀ (u:Bool) (r:Rf),M1 (.dB u r):=by
  intro u r d V E k b hE hw
  simp only[dS] at hw
  refine⟨by simp[ef],fun i hi=>?_,by simpa [dW,fx,ef] using hE,by simp[ef,eA],by simp[ef,ox]⟩
  simp only[ef,List.mem_singleton] at hi ⊢
  subst hi
  exact hE.rf hw
 have A5:∀ (e:Ex) (th el:List Sm),M2 th→M2 el→M1 (.lG e th el):=by
  intro e th el i1 i2 d V E k b hE hw
  cases d with
  | zero=>simp[dS] at hw
  | succ d=>
   simp only[dS] at hw
   obtain⟨a1,a2,a3,a4⟩:=i1 d V E k (b+1) hE hw.2.1
   by_cases hel:el.length=0
   ·refine⟨by simpa [ef,hel] using a1,fun i hi=>?_,by simpa [dW,fx,ef,hel] using hE.up a1,by simp[ef,eA,hel];omega,by simp[ef,ox,hel];omega⟩
    simp only[ef,hel,if_true,List.mem_cons,List.length_cons] at hi ⊢
    rcases hi with rfl | hi
    ·exact⟨by omega,(hE.ex hw.1).mono a1⟩
    ·exact (a2 i hi).mono (Nat.le_refl _) yA
   ·obtain⟨b1,b2,b3,b4⟩:=i2 d V E (bO th E k (b+1)).2 (b+2+(bO th E k (b+1)).1.length) (hE.up a1) hw.2.2
    refine⟨by simp only[ef,hel,if_false];omega,fun i hi=>?_,by simpa [dW,fx,ef,hel] using hE.up (Nat.le_trans a1 b1),by simp[ef,eA,hel];omega,by simp only[ef,ox,hel,if_false];omega⟩
    simp only[ef,hel,if_false,List.mem_cons,List.mem_append,List.length_cons,List.length_append] at hi ⊢
    rcases hi with rfl | hi | rfl | hi
    ·exact⟨by omega,(hE.ex hw.1).mono (Nat.le_trans a1 b1)⟩
    ·exact (a2 i hi).mono b1 yA
    ·exact Nat.le_trans (Nat.le_refl _) yA
    ·exact (b2 i hi).mono (Nat.le_refl _) yA
 have A6:∀ (e:Ex) (th:List Sm),M2 th→M1 (.cJ e th):=by
  intro e th i1 d V E k b hE hw
  cases d with
  | zero=>simp[dS] at hw
  | succ d=>
   simp only[dS] at hw
   obtain⟨a1,a2,a3,a4⟩:=i1 d V E k (b+1) hE hw.2
   refine⟨by simpa [ef] using a1,fun i hi=>?_,by simpa [dW,fx,ef] using hE.up a1,by simp[ef,eA];omega,by simp[ef,ox];omega⟩
   simp only[ef,List.mem_cons,List.mem_append,List.length_cons,List.length_append,List.length_nil,List.not_mem_nil,or_false] at hi ⊢
   rcases hi with rfl | hi | rfl
   ·exact⟨by omega,(hE.ex hw.1).mono a1⟩
   ·exact (a2 i hi).mono (Nat.le_refl _) yA
   ·exact Nat.le_trans (Nat.le_refl _) yA
 have A7:M1 .jC:=by
  intro d V E k b hE _
  refine⟨by simp[ef],fun i hi=>?_,by simpa [dW,fx,ef] using hE,by simp[ef,eA],by simp[ef,ox]⟩
  simp only[ef,List.mem_singleton] at hi ⊢
  subst hi
  trivial
 have A0:M2 []:=by
  intro d V E k b hE _
  exact⟨by simp[bO],fun i hi=>by simp[bO] at hi,by simp[bO],by simp[bO,fp]⟩
 have A8:∀ (s:Sm) (r:List Sm),M1 s→M2 r→M2 (s::r):=by
  intro s r i1 i2 d V E k b hE hw
  simp only[cR] at hw
  obtain⟨a1,a2,a3,a4,a5⟩:=i1 d V E k b hE hw.1
  obtain⟨b1,b2,b3,b4⟩:=i2 d (V++dW s) (E++fx k s) (ef s E k b).2 (b+(ef s E k b).1.length) a3 hw.2
  refine⟨by simp only[bO];omega,fun i hi=>?_,by simp only[bO,bG,List.length_append];omega,by simp only[bO,fp];omega⟩
  simp only[bO,List.mem_append,List.length_append] at hi ⊢
  rcases hi with hi | hi
  ·exact (a2 i hi).mono b1 yA
  ·exact (b2 i hi).mono (Nat.le_refl _) yA
 exact⟨fun s=>Sm.rec (motive_1:=M1) (motive_2:=M2) A1 A2 A3 A4 A5 A6 A7 A0 A8 s,fun l=>Sm.rec_1 (motive_1:=M1) (motive_2:=M2) A1 A2 A3 A4 A5 A6 A7 A0 A8 l⟩
theorem x8:(∀ s:Sm,8*ox s≤eA s)∧(∀ l:List Sm,8*fp l≤bG l):=by
 let M1:Sm→Prop:=fun s=>8*ox s≤eA s
 let M2:List Sm→Prop:=fun l=>8*fp l≤bG l
 have A5:∀ (e:Ex) (th el:List Sm),M2 th→M2 el→M1 (.lG e th el):=fun e th el h1 h2=>by
  simp only[M1,M2,ox,eA] at *
  omega
 have A6:∀ (e:Ex) (th:List Sm),M2 th→M1 (.cJ e th):=fun e th h1=>by
  simp only[M1,M2,ox,eA] at *
  omega
 have A8:∀ (s:Sm) (r:List Sm),M1 s→M2 r→M2 (s::r):=fun s r h1 h2=>by
  simp only[M1,M2,fp,bG] at *
  omega
 have A1:∀ (s:ByteArray) (e:Ex),M1 (.gZ s e):=fun s e=>by simp[M1,ox,eA]
 have A2:∀ (s:ByteArray) (e:Ex),M1 (.iF s e):=fun s e=>by simp[M1,ox,eA]
 have A3:∀ (g:Bool) (s:ByteArray) (l:List Ar),M1 (.dY g s l):=fun g s l=>by simp[M1,ox,eA]
 have A4:∀ (u:Bool) (r:Rf),M1 (.dB u r):=fun u r=>by simp[M1,ox,eA]
 have A7:M1 .jC:=by simp[M1,ox,eA]
 have A0:M2 []:=by simp[M2,fp,bG]
 exact⟨fun s=>Sm.rec (motive_1:=M1) (motive_2:=M2) A1 A2 A3 A4 A5 A6 A7 A0 A8 s,fun l=>Sm.rec_1 (motive_1:=M1) (motive_2:=M2) A1 A2 A3 A4 A5 A6 A7 A0 A8 l⟩
theorem qo {c:Nat}:∀ {l:List ByteArray} {i j:Nat} {s:ByteArray},l[j]? = some s→l.Nodup→iZ (Dd c i l) s=some ⟨s,c,i+j⟩
 | [],_,_,_,h,_=>by simp at h
 | x::r,i,0,s,h,_=>by
  simp only[List.getElem?_cons_zero,Option.some.injEq] at h
  subst h
  simp[Dd,iZ]
 | x::r,i,j+1,s,h,hn=>by
  simp only[List.getElem?_cons_succ] at h
  rw[List.nodup_cons] at hn
  have hx:x≠s:=fun e=>hn.1 (by rw[e];exact List.mem_of_getElem? h)
  simp only[Dd,iZ]
  rw[if_neg hx,qo h hn.2]
  congr 2
  omega
theorem lW (c:Nat):∀ (l:List ByteArray) (i:Nat),(Dd c i l).map (·.name)=l
 | [],_=>rfl
 | s::r,i=>by simp[Dd,lW c r]
theorem ez {c i:Nat}{l:List ByteArray}{s:ByteArray}(h:s∉l):iZ (Dd c i l) s=none:=by
 rw[qn,lW]
 exact h
theorem pA:∀ (l:List Pm) (i j:Nat),(lb i j l).map (·.name)=l.map (·.name)
 | [],_,_=>rfl
 | p::r,i,j=>by
  simp only[lb]
  split<;>simp[pA r]
theorem ql:∀ {l:List Pm} {i j:Nat} {p:Pm},(l.map (·.name)).Nodup→p∈l→(p.mutex=true→∃ n,iZ (lb i j l) p.name=some ⟨p.name,5,n⟩∧n<j+pL l)∧(p.mutex=false→∃ n,iZ (lb i j l) p.name=some ⟨p.name,4,n⟩∧n<i+pI l)
 | [],_,_,_,_,h=>by simp at h
 | q::r,i,j,p,hn,hp=>by
  simp only[List.map_cons,List.nodup_cons] at hn
  rcases List.mem_cons.1 hp with rfl | hp
  ·refine⟨fun hm=>⟨j,by simp[lb,hm,iZ],by simp[pL,hm];omega⟩,fun hm=>⟨i,by simp[lb,hm,iZ],by simp[pI,hm];omega⟩⟩
  ·have hx:q.name≠p.name:=fun e=>hn.1 (by rw[e];exact List.mem_map_of_mem hp)
   cases hq:q.mutex with
   | true=>
    obtain⟨h1,h2⟩:=ql (i:=i) (j:=j+1) hn.2 hp
    refine⟨fun hm=>?_,fun hm=>?_⟩
    ·obtain⟨n,h3,h4⟩:=h1 hm
     exact⟨n,by simp[lb,hq,iZ,hx,h3],by simp[pL,hq];omega⟩
    ·obtain⟨n,h3,h4⟩:=h2 hm
     exact⟨n,by simp[lb,hq,iZ,hx,h3],by simp[pI,hq];omega⟩
   | false=>
    obtain⟨h1,h2⟩:=ql (i:=i+1) (j:=j) hn.2 hp
    refine⟨fun hm=>?_,fun hm=>?_⟩
    ·obtain⟨n,h3,h4⟩:=h1 hm
     exact⟨n,by simp[lb,hq,iZ,hx,h3],by simp[pL,hq];omega⟩
    ·obtain⟨n,h3,h4⟩:=h2 hm
     exact⟨n,by simp[lb,hq,iZ,hx,h3],by simp[pI,hq];omega⟩
theorem gP:(∀ s∈nM,s∉nG)∧(∀ s∈nF,s∉nG∧s∉nM)∧(∀ s∈nP,s∉nG∧s∉nM∧s∉nF)∧nG.Nodup∧nM.Nodup∧nF.Nodup∧nP.Nodup:=by
 have h1:∀ s∈nM,∀ t∈nG,s≠t:=by decide
 have h2:∀ s∈nF,∀ t∈nG++nM,s≠t:=by decide
 have h3:∀ s∈nP,∀ t∈nG++nM++nF,s≠t:=by decide
 refine⟨fun s hs hx=>h1 s hs s hx rfl,fun s hs=>⟨fun hx=>h2 s hs s (by simp[hx]) rfl,fun hx=>h2 s hs s (by simp[hx]) rfl⟩,fun s hs=>⟨fun hx=>h3 s hs s (by simp[hx]) rfl,fun hx=>h3 s hs s (by simp[hx]) rfl,fun hx=>h3 s hs s (by simp[hx]) rfl⟩,?_,?_,?_,?_⟩<;>
  simp only[List.Nodup,nG,nM,nF,nP,List.pairwise_cons,List.Pairwise.nil,and_true]<;>decide
theorem pZ {l:List ByteArray}{k:Nat}{s:ByteArray}(h:s∈l.take k):s∈l:=List.mem_of_mem_take h
theorem jx {α β:Type}{l:List α}(f:α→β){a:α}(h:a∈l):∃ j:Nat,l[j]? = some a∧(l.map f)[j]? = some (f a):=by
 obtain⟨j,hj⟩:=List.mem_iff_getElem?.1 h
 exact⟨j,hj,by rw[List.getElem?_map,hj];rfl⟩
section
variable {p:Pg}(h:kD p)
include h
theorem kD.sub:(∀ s∈p.gs.map (·.name),s∈nG)∧(∀ s∈p.ms.map (·.name),s∈nM)∧(∀ s∈p.fs.map (·.name),s∈nF)∧(∀ f∈p.fs,∀ s∈f.params.map (·.name),s∈nP):=by
 obtain⟨k1,_,e1⟩:=h.gn
 obtain⟨k2,_,_,e2⟩:=h.mn
 obtain⟨k3,_,_,e3⟩:=h.fn
 refine⟨fun s hs=>?_,fun s hs=>?_,fun s hs=>?_,fun f hf s hs=>?_⟩
 ·rw[e1] at hs;exact pZ hs
 ·rw[e2] at hs;exact pZ hs
 ·rw[e3] at hs;exact pZ hs
 ·obtain⟨k,_,e⟩:=h.pn f hf
  rw[e,List.mem_reverse] at hs
  exact pZ hs
theorem kD.nd:(p.gs.map (·.name)).Nodup∧(p.ms.map (·.name)).Nodup∧(p.fs.map (·.name)).Nodup∧∀ f∈p.fs,(f.params.map (·.name)).Nodup:=by
 obtain⟨_,_,_,n1,n2,n3,n4⟩:=gP
 obtain⟨k1,_,e1⟩:=h.gn
 obtain⟨k2,_,_,e2⟩:=h.mn
 obtain⟨k3,_,_,e3⟩:=h.fn
 refine⟨?_,?_,?_,fun f hf=>?_⟩
 ·rw[e1];exact n1.sublist (List.take_sublist _ _)
 ·rw[e2];exact n2.sublist (List.take_sublist _ _)
 ·rw[e3];exact n3.sublist (List.take_sublist _ _)
 ·obtain⟨k,_,e⟩:=h.pn f hf
  rw[e]
  exact List.pairwise_reverse.2 ((n4.sublist (List.take_sublist _ _)).imp fun h=>Ne.symm h)
theorem kD.dec:(∀ g∈p.gs,∃ j,iZ (df p) g.name=some ⟨g.name,1,j⟩∧j<p.gs.length)∧(∀ m∈p.ms,∃ j,iZ (df p) m.name=some ⟨m.name,2,j⟩∧p.ms[j]? = some m)∧
  (∀ f∈p.fs,∃ j,iZ (df p) f.name=some ⟨f.name,3,j⟩∧p.fs[j]? = some f)∧(∀ s,s∉nG++nM++nF→iZ (df p) s=none):=by
 obtain⟨a1,a2,_,_⟩:=gP
 obtain⟨s1,s2,s3,_⟩:=h.sub
 obtain⟨d1,d2,d3,_⟩:=h.nd
 refine⟨fun g hg=>?_,fun m hm=>?_,fun f hf=>?_,fun s hs=>?_⟩
 ·obtain⟨j,h1,h2⟩:=jx (·.name) hg
  refine⟨j,?_,(List.getElem?_eq_some_iff.1 h1).1⟩
  rw[df,dC,dC,qo h2 d1]
  simp
 ·obtain⟨j,h1,h2⟩:=jx (·.name) hm
  refine⟨j,?_,h1⟩
  have hmem:=s2 _ (List.mem_map_of_mem (f:=(·.name)) hm)
  rw[df,dC,dC,ez (fun hx=>a1 _ hmem (s1 _ hx)),qo h2 d2]
  simp
 ·obtain⟨j,h1,h2⟩:=jx (·.name) hf
  refine⟨j,?_,h1⟩
  have hmem:=s3 _ (List.mem_map_of_mem (f:=(·.name)) hf)
  rw[df,dC,dC,ez (fun hx=>(a2 _ hmem).1 (s1 _ hx)),ez (fun hx=>(a2 _ hmem).2 (s2 _ hx)),qo h2 d3]
  simp
 ·simp only[List.mem_append,not_or] at hs
  rw[df,dC,dC,ez (fun hx=>hs.1.1 (s1 _ hx)),ez (fun hx=>hs.1.2 (s2 _ hx)),ez (fun hx=>hs.2 (s3 _ hx))]
theorem kD.ew {f:Fu}(hf:f∈p.fs):EW p.gs.length p.ms (p.fs.map fun f=>(f.name,f.params)) f.params (jF p.gs f.params) (qN p f) (pI f.params):=by
 obtain⟨d1,d2,d3,d4⟩:=h.dec
 obtain⟨_,_,a3,_⟩:=gP
 obtain⟨_,_,_,s4⟩:=h.sub
 obtain⟨_,_,_,n4⟩:=h.nd
 have hpn:∀ q∈f.params,iZ (df p) q.name=none:=fun q hq=>by
  have:=s4 f hf _ (List.mem_map_of_mem (f:=(·.name)) hq)
  have:=a3 _ this
  exact d4 _ (by simp only[List.mem_append,not_or];exact⟨⟨this.1,this.2.1⟩,this.2.2⟩)
 refine⟨fun m hm=>?_,fun x hx=>?_,fun q hq hq2=>?_,fun s hs=>?_,fun s hs hs2=>?_⟩
 ·obtain⟨j,h1,h2⟩:=d2 m hm
  exact⟨j,by rw[qN,dC,h1],h2⟩
 ·rw[List.mem_map] at hx
  obtain⟨f',hf',rfl⟩:=hx
  obtain⟨j,h1,h2⟩:=d3 f' hf'
  exact⟨j,by rw[qN,dC,h1],by rw[List.getElem?_map,h2];rfl⟩
 ·obtain⟨n,h1,h2⟩:=(ql (i:=0) (j:=0) (n4 f hf) hq).1 hq2
  exact⟨n,by rw[qN,dC,hpn q hq];exact h1,by omega⟩
 ·simp only[jF,List.mem_append,List.mem_flatMap,List.mem_map] at hs
  rcases hs with ⟨g,hg,rfl⟩ | ⟨q,hq,hs⟩
  ·obtain⟨j,h1,h2⟩:=d1 g hg
   exact⟨1,j,by rw[qN,dC,h1],.inl ⟨rfl,h2⟩⟩
  ·cases hm:q.mutex with
   | true=>simp[hm] at hs
   | false=>
    simp[hm] at hs
    subst hs
    obtain⟨n,h1,h2⟩:=(ql (i:=0) (j:=0) (n4 f hf) hq).2 hm
    exact⟨4,n,by rw[qN,dC,hpn q hq];exact h1,.inr ⟨rfl,by omega⟩⟩
 ·have hs3:=hs2
  simp only[List.mem_append,not_or] at hs3
  rw[qN,dC,d4 s (by simp only[List.mem_append,not_or];exact hs3.1)]
  rw[qn,pA]
  exact fun hx=>hs3.2 (s4 f hf _ hx)
end
theorem pIL:∀ l:List Pm,pI l+pL l=l.length
 | []=>rfl
 | p::r=>by
  have:=pIL r
  simp only[pI,pL,List.length_cons]
  split<;>omega
structure l9 (u:Un):Prop where
 np:1≤u.ps.length∧u.ps.length≤4
 nm:1≤u.ms.length∧u.ms.length≤4
 ng:u.gs.length≤2
 gi:∀ g∈u.gs,-2≤g∧g≤2
 mz:∀ m∈u.ms,m.size≤3∧(m.re=true→m.size=0)
 main:u.main=0
 p0:∀ q,u.ps[0]? = some q→q.ints=0∧q.bf=0
 pr:∀ q∈u.ps,q.ints≤2∧q.bf≤2∧q.ints≤q.locals∧q.locals≤200∧q.code.length≤145
 pc:∀ q∈u.ps,(∃ c,q.code=c++[.ret])∧∀ i∈q.code,HI (u.ps.map fun q=>(q.ints,q.bf)) u.ms u.gs.length q.locals q.bf (q.code.length-1) i
theorem kD.unit {p:Pg}(h:kD p)(hw:∀ f∈p.fs,bG f.body≤1152)(hp:∀ f∈p.fs,f.params.length≤2):l9 (lI p):=by
 obtain⟨k1,hk1,e1⟩:=h.gn
 obtain⟨k2,_,hk2,e2⟩:=h.mn
 obtain⟨k3,_,hk3,e3⟩:=h.fn
 have l1:=congrArg List.length e1
 have l2:=congrArg List.length e2
 have l3:=congrArg List.length e3
 simp[nG] at l1
 simp[nM] at l2
 simp[nF] at l3
 have hs:∀ f∈p.fs,pI f.params≤(bO f.body (qN p f) (pI f.params) 0).2∧(∀ i∈(bO f.body (qN p f) (pI f.params) 0).1,HI ((p.fs.map fun f=>(f.name,f.params)).map Kg) p.ms p.gs.length (bO f.body (qN p f) (pI f.params) 0).2 (pL f.params) (0+(bO f.body (qN p f) (pI f.params) 0).1.length) i)∧8*(bO f.body (qN p f) (pI f.params) 0).1.length≤bG f.body∧(bO f.body (qN p f) (pI f.params) 0).2≤pI f.params+fp f.body:=
  fun f hf=>zC.2 f.body 2 _ _ _ 0 (h.ew hf) (h.bd f hf)
 have hsg:(lI p).ps.map (fun q=>(q.ints,q.bf))=(p.fs.map fun f=>(f.name,f.params)).map Kg:=by
  simp only[lI,List.map_map]
  rfl
 refine⟨by simp only[lI,List.length_map];omega,by simp only[lI];omega,by simp only[lI,List.length_map];omega,fun g hg=>?_,h.mz,rfl,fun q hq=>?_,fun q hq=>?_,fun q hq=>?_⟩
 ·simp only[lI,List.mem_map] at hg
  obtain⟨x,hx,rfl⟩:=hg
  exact h.gi x hx
 ·simp only[lI,List.getElem?_map,Option.map_eq_some_iff] at hq
  obtain⟨f,hf,rfl⟩:=hq
  simp[ni,h.f0 f hf,pI,pL]
 ·simp only[lI,List.mem_map] at hq
  obtain⟨f,hf,rfl⟩:=hq
  obtain⟨b1,b2,b3,b4⟩:=hs f hf
  have b5:=x8.2 f.body
  have b6:=hw f hf
  have b7:=pIL f.params
  have b8:=hp f hf
  refine⟨by simp only[ni];omega,by simp only[ni];omega,b1,by simp only[ni];omega,by simp only[ni,List.length_append,List.length_singleton];omega⟩
 ·rw[hsg]
  simp only[lI,List.mem_map] at hq
  obtain⟨f,hf,rfl⟩:=hq
  obtain⟨b1,b2,b3,b4⟩:=hs f hf
  refine⟨⟨_,rfl⟩,fun i hi=>?_⟩
  simp only[ni,List.mem_append,List.mem_singleton] at hi ⊢
  rcases hi with hi | rfl
  ·have hx:=HI.mono (Nat.le_refl _) (M':=(bO f.body (qN p f) (pI f.params) 0).1.length) yA (b2 i hi)
   simpa [lI] using hx
  ·trivial
end Go.aX
namespace Go.Proofs.YtmnglemlimfpbaaGreat
open Go.Can Go.aX
theorem kP (x:En):(iu x).length=3:=rfl
def J59 (E:List En)(s:ByteArray)(n:Nat)(st:St):Prop:=∃ i:Nat,n=E.length-i∧i≤E.length∧iZ E s=iZ (E.drop i) s∧st=⟨[(6,I i),(5,.bool false),(4,.aw 0 0),(0,.av (E.flatMap iu) E.length),(1,.str s)],[(0,⟨146,0,[.str ⟨#[]⟩,I 0,I 0]⟩)],1⟩
def qp:Option En→CV
 | some x=>.cr [.agg (iu x),.bool true]
 | none=>.cr [.agg [.str ⟨#[]⟩,I 0,I 0],.bool false]
theorem DB (R:Option En):tree (qp R)=true:=by cases R<;>rfl
theorem qt (E:List En)(s:ByteArray)(hl:E.length≤100000):ae Tryz.prog 59 [.av (E.flatMap iu) E.length,.str s] (qp (iZ E s)):=by
 have hfl:=fun (i:Nat) (x:En) (h:E[i]? = some x)=>aE (f:=iu) (n:=3) kP (m:=E) h
 refine ae.aB ag Tryz.func59 rfl yAb (by simp[Tryz.ntmps59]) (DB _) fun C hC hC0=>?_
 rw[Tryz.ntmps59] at hC
 apply au
 simp[hC]
 apply aJ
 simp[hC]
 apply T.block
 refine T.aL (J59 E s) (n:=E.length) ?_ ?_
 ·refine aa.here ⟨0,by omega,by omega,rfl,?_⟩
  simp
 ·rintro n st ⟨i,rfl,hi,hf,rfl⟩
  by_cases hil:i<E.length
  ·obtain⟨a,hia⟩:∃ a,E[i]? = some a:=⟨E[i],List.getElem?_eq_getElem hil⟩
   have hdr:=hfl i a hia
   have wi:=ct ((i:Int)+1) yA yA
   have hd:E.drop i=a::E.drop (i+1):=by
    rw[List.drop_eq_getElem_cons hil,(List.getElem?_eq_some_iff.1 hia).2]
   rw[hd,iZ] at hf
   apply aJ
   simp[hC,hil]
   refine iv ?_
   simp
   apply fq
   apply au
   simp[hC,hil,hdr,iu,iC]
   by_cases hn:a.name=s
   ·rw[if_pos hn] at hf
    simp only[hn,decide_true]
    refine dN ?_
    simp
    apply au
    simp[hC,hil,hdr,iu]
    apply T.ret
    apply aa.here
    simp[Tryz.results59,hf,qp,iu]
   ·rw[if_neg hn] at hf
    simp only[hn,decide_false]
    refine e9 ?_
    simp
    apply aO
    simp[hC,wi]
    refine⟨E.length-(i+1),by omega,?_⟩
    refine aa.trim [6,5,4,0,1] [0] 1 yAa yA ⟨i+1,rfl,by omega,hf,?_⟩
    simp
  ·have hie:i=E.length:=by omega
   rw[hie,List.drop_length,iZ] at hf
   apply aJ
   simp[hC,hil]
   refine bj ?_
   simp
   apply T.exit
   simp
   apply au
   simp[hC]
   apply T.ret
   apply aa.here
   simp[Tryz.results59,hf,qp]
def oO (p:Pg)(E:List En)(k st cl sl:Nat):List CV:=[.av (p.gs.flatMap pd) p.gs.length,.av (p.ms.flatMap cq) p.ms.length,.av (p.fs.flatMap fk) p.fs.length,.av (E.flatMap iu) E.length,I k,I st,I 0,I 0,.bx 1 0 cl,.bx 2 0 sl]
def di (p:Pg)(E:List En)(k st cl sl:Nat):Ob:=⟨196,0,oO p E k st cl sl⟩
theorem rO (p:Pg)(E:List En)(k st cl sl:Nat)(hl:E.length≤100000)(s:ByteArray)(x:En)(hx:iZ E s=some x)(hk:x.kind=1∨x.kind=4)(n:Int) :
  Body Tryz.prog aq 132 [.aw 0 0,.str s,I n] [(0,di p E k st cl sl)] 3 (kk (.agg (iu x)) [(0,di p E k st cl sl)] 3):=by
 have hf:=qt E s hl
 rw[hx] at hf
 refine Body.j5 Tryz.func132 rfl yAb (by simp[Tryz.ntmps132]) fun C hC hC0=>?_
 rw[Tryz.ntmps132] at hC
 apply au
 simp[hC]
 apply au
 simp[hC,di,oO]
 refine cH yAd (hf) ?_
 simp[hC,qp,iu]
 obtain⟨nm,kd,nn⟩:=x
 simp only at hk ⊢
 rcases hk with rfl | rfl
 ·apply fq
  apply au
  simp[hC]
  refine bj ?_
  simp
  apply au
  simp[hC]
  refine e9 ?_
  simp
  apply au
  simp[hC]
  apply T.ret
  refine aa.le (Le.trim [6] [0,3] 4 yBc yA) ?_
  simp
  refine aa.le (Le.nz [] [3]) ?_
  simp
  refine aa.le (Le.cG (o:=3) rfl yBd) ?_
  simp
  refine aa.trim [6] [0] 3 yAa yA ⟨_,?_,rfl,?_,rfl⟩
  ·simp
  ·simp
 ·apply fq
  apply au
  simp[hC]
  refine bj ?_
  simp
  apply au
  simp[hC]
  refine e9 ?_
  simp
  apply au
  simp[hC]
  apply T.ret
  refine aa.le (Le.trim [6] [0,3] 4 yBc yA) ?_
  simp
  refine aa.le (Le.nz [] [3]) ?_
  simp
  refine aa.le (Le.cG (o:=3) rfl yBd) ?_
  simp
  refine aa.trim [6] [0] 3 yAa yA ⟨_,?_,rfl,?_,rfl⟩
  ·simp
  ·simp
def lp (l:List Ex):Ob:=⟨64,4,l.flatMap aZ⟩
def J131 (p:Pg)(E:List En)(k st cl sl:Nat)(e:Ex)(n:Int)(m:Nat)(s:St):Prop:=∃ i:Nat,m=e.args.length-i∧i≤e.args.length∧
 s=⟨[(9,I i),(8,.aw 5 0),(6,.aw 4 0),(4,.aw 3 0),(0,.aw 0 0),(2,I n)],[(0,di p E k st cl sl),(3,⟨64,0,aZ e⟩),(4,⟨64,0,[I 0,I 0,.str ⟨#[]⟩,.ah]⟩),(5,⟨64,0,[I e.op,I e.n,.str ⟨#[]⟩,.bx 6 0 i]⟩),(6,lp ((e.args.take i).map (dR E)))],7⟩
set_option maxHeartbeats 4000000 in
theorem mh (p:Pg)(E:List En)(k st cl sl:Nat)(n:Int)(e e':Ex)(hop:(e.op == 2)=false)(h1:e'.op=e.op)(h2:e'.n=e.n)(h3:e'.name=eS)(h4:e'.args=e.args.map (dR E))(hal:e.args.length≤2)
  (ha:∀ x∈e.args,Body Tryz.prog aq 131 [.aw 0 0,.agg (aZ x),I n] [(0,di p E k st cl sl)] 3 (kk (.agg (aZ (dR E x))) [(0,di p E k st cl sl)] 3)) :
  Body Tryz.prog aq 131 [.aw 0 0,.agg (aZ e),I n] [(0,di p E k st cl sl)] 3 (kk (.agg (aZ e')) [(0,di p E k st cl sl)] 3):=by
 have hfl:=fun (i:Nat) (x:Ex) (h:e.args[i]? = some x)=>aE (f:=aZ) (n:=4) bk (m:=e.args) h
 refine Body.j5 Tryz.func131 rfl yAb (by simp[Tryz.ntmps131]) fun C hC hC0=>?_
 rw[Tryz.ntmps131] at hC
 rw[bL e]
 apply au
 simp[hC]
 apply aJ
 simp[hC,hop]
 refine e9 ?_
 simp
 apply au
 simp[hC]
 apply aJ
 simp[hC]
 apply T.block
 refine T.aL (J131 p E k st cl sl e n) (n:=e.args.length) ?_ ?_
 ·refine aa.le (Le.kz 5 3 64 4 rfl rfl) ?_
  simp
  refine aa.trim [9,8,6,4,0,2] [0,3,4,5,6] 7 (by simp[di,oO]) yA ⟨0,by omega,by omega,?_⟩
  rw[bL e]
  simp[lp]
 ·rintro m s ⟨i,rfl,hi,rfl⟩
  by_cases hil:i<e.args.length
  ·obtain⟨a,hia⟩:∃ a,e.args[i]? = some a:=⟨e.args[i],List.getElem?_eq_getElem hil⟩
   have hdr:=hfl i a hia
   have hb:=ha a (List.mem_of_getElem? hia)
   have wi:=ct ((i:Int)+1) yA yA
   rw[bL e]
   apply aJ
   simp[hC,hil]
   refine iv ?_
   simp
   apply fq
   refine T.rx ag follows [0,1,2,3,4,5,6,7,8,9,10,11,12,13] [(1,9),(1,10)] yAb ?_
   simp[hC,hil,hdr]
   have htk:List.take (i+1) (List.map (dR E) e.args)=List.take i (List.map (dR E) e.args)++[dR E a]:=by
    rw[List.take_add_one,List.getElem?_map,hia]
    rfl
   have hNl:(List.take i (List.map (dR E) e.args)).length=i:=by simp;omega
   generalize hN:List.take i (List.map (dR E) e.args)=N at htk hNl
   have hfl2:=aD (f:=aZ) (n:=4) bk N
   rw[hNl] at hfl2
   have hbd:(i+1)*56≤140737488355328:=by omega
   have hbd2:(i+1)*64≤140737488355328:=by omega
   refine RX.cO [0] [] 3 (hb) rfl yAa rfl rfl rfl rfl yAa yAi yAj rfl rfl rfl yAa ?_
   simp[lp,bk,hfl2,hbd,aI,-List.length_flatMap]
   apply aO
   simp[hC,wi]
   refine⟨e.args.length-(i+1),by omega,?_⟩
   have hN3:(N++[dR E a]).flatMap aZ=N.flatMap aZ++aZ (dR E a):=by simp
   have htr:trees (N.flatMap aZ++aZ (dR E a))=true:=by rw[← hN3];exact ai aN _
   refine aa.le (Le.trim [9,8,6,4,0,2] [0,3,4,5,21] 22 yCq yA) ?_
   simp
   refine aa.le (Le.oP 21 6 rfl rfl yA yAa yAa yCp) ?_
   simp only[di,oO]
   simp[aY (ai aN N)]
   have htk':(e.args.take (i+1)).map (dR E)=N++[dR E a]:=by rw[List.map_take];exact htk
   refine aa.trim [9,8,6,4,0,2] [0,3,4,5,6] 7 yCw yA ⟨i+1,rfl,by omega,?_⟩
   rw[htk',bL e]
   simp[lp,di,oO]
  ·have hie:i=e.args.length:=by omega
   rw[bL e]
   apply aJ
   simp[hC,hil]
   refine bj ?_
   simp
   apply T.exit
   simp
   apply au
   simp[hC]
   apply T.ret
   subst hie
   have htk:List.take e.args.length (List.map (dR E) e.args)=e'.args:=by rw[h4];exact List.take_of_length_le yAa
   have hxl:((e'.args.flatMap aZ).take (e.args.length*4))=e'.args.flatMap aZ:=List.take_of_length_le (by rw[aD (f:=aZ) (n:=4) bk,h4];simp)
   refine aa.le (Le.trim [6] [0,4,6] 7 yCr yA) ?_
   simp
   refine aa.le (Le.cG (o:=6) rfl (ai aN _)) ?_
   simp[lp,htk,hxl]
   refine aa.le (Le.cG (o:=4) rfl (by simp[trees,tree])) ?_
   simp[di,oO]
   refine aa.trim [6] [0] 3 yAa yA ⟨_,?_,rfl,?_,rfl⟩
   ·simp[bL e',h1,h2,h3,h4,eS]
   ·simp
theorem j8 (p:Pg){g:Nat}{ms:List Mx}{fs:List (ByteArray×List Pm)}{ps:List Pm}{V:List ByteArray}(E:List En)(k st cl sl:Nat)(hE:EW g ms fs ps V E k)(hl:E.length≤100000)(n:Int):∀ (d:Nat) (e:Ex),fM V d e →
  Body Tryz.prog aq 131 [.aw 0 0,.agg (aZ e),I n] [(0,di p E k st cl sl)] 3 (kk (.agg (aZ (dR E e))) [(0,di p E k st cl sl)] 3):=by
 have hname:∀ s∈V,Body Tryz.prog aq 131 [.aw 0 0,.agg (aZ (.nm s)),I n] [(0,di p E k st cl sl)] 3 (kk (.agg (aZ (dR E (.nm s)))) [(0,di p E k st cl sl)] 3):=by
  intro s hs
  obtain⟨c,j,h1,h2⟩:=hE.v s hs
  have hv:=rO p E k st cl sl hl s _ h1 (by simp only;omega) n
  simp only[dR,ia h1]
  refine Body.j5 Tryz.func131 rfl yAb (by simp[Tryz.ntmps131]) fun C hC hC0=>?_
  rw[Tryz.ntmps131] at hC
  simp only[di,oO] at hv ⊢
  apply au
  simp[hC,aZ]
  apply aJ
  simp[hC]
  refine dN ?_
  simp
  apply au
  simp[hC]
  refine TL.cO ag [0] 3 (hv) yAc rfl rfl rfl rfl yAa yAi yAj rfl (TL.go' ag ?_)
  simp[hC,iu]
  rcases h2 with ⟨rfl,h2⟩ | ⟨rfl,h2⟩
  ·apply aJ
   simp[hC]
   refine dN ?_
   simp
   apply au
   simp[hC]
   apply T.ret
   refine aa.le (Le.trim [6] [0,4] 5 yBc yA) ?_
   simp
   refine aa.le (Le.nz [] [4]) ?_
   simp
   refine aa.le (Le.cG (o:=4) rfl yBd) ?_
   simp
   refine aa.trim [6] [0] 3 yAa yA ⟨_,?_,rfl,?_,rfl⟩
   ·simp[aZ,eS]
   ·simp
  ·apply aJ
   simp[hC]
   refine e9 ?_
   simp
   apply au
   simp[hC]
   apply T.ret
   refine aa.le (Le.trim [6] [0,4] 5 yBc yA) ?_
   simp
   refine aa.le (Le.nz [] [4]) ?_
   simp
   refine aa.le (Le.cG (o:=4) rfl yBd) ?_
   simp
   refine aa.trim [6] [0] 3 yAa yA ⟨_,?_,rfl,?_,rfl⟩
   ·simp[aZ,eS]
   ·simp
 intro d
 induction d with
 | zero=>
  intro e hw
  match e,hw with
  | .nm s,hw=>exact hname s (by simpa [fM] using hw)
  | .num c,hw=>exact mh p E k st cl sl n (.num c) (.num c) rfl rfl rfl rfl rfl yAv yAv
 | succ d ih=>
  intro e hw
  match e,hw with
  | .nm s,hw=>exact hname s (by simpa [fM] using hw)
  | .num c,hw=>exact mh p E k st cl sl n (.num c) (.num c) rfl rfl rfl rfl rfl yAv yAv
  | .un o x,hw=>
   simp only[fM] at hw
   refine mh p E k st cl sl n (.un o x) (.un o (dR E x)) (by simp[Ex.op];omega) rfl rfl rfl rfl yAv fun y hy=>?_
   simp only[Ex.args,List.mem_singleton] at hy
   subst hy
   exact ih _ hw.2
  | .bin o x y,hw=>
   simp only[fM] at hw
   refine mh p E k st cl sl n (.bin o x y) (.bin o (dR E x) (dR E y)) (by simp[Ex.op];omega) rfl rfl rfl rfl yAv fun z hz=>?_
   simp only[Ex.args,List.mem_cons,List.not_mem_nil,or_false] at hz
   rcases hz with rfl | rfl
   ·exact ih _ hw.2.1
   ·exact ih _ hw.2.2
end Go.Proofs.YtmnglemlimfpbaaGreat
