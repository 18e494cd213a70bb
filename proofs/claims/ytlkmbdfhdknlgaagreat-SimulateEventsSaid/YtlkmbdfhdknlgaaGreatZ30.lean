/- The code of a program: wha -/
import Derived.Test.YtlkmbdfhdknlgaaGreatZ29
namespace Go.aJ
open Go.Can List
structure En where
 name:ByteArray
 kind:Nat
 n:Nat
def iS (x:En):List CV:=[.str x.name,I x.kind,I x.n]
def jm:List En->ByteArray->Option En
 | [],_=>none
 | x::r,s=>if x.name=s then some x else jm r s
def mJ (E:List En)(s:ByteArray):En:=(jm E s).getD ⟨eS,0,0⟩
theorem iF {E:List En}{s:ByteArray}{x:En}(h:jm E s=some x):mJ E s=x:=by simp[mJ,h]
theorem dQ (A B:List En)(s:ByteArray):jm (A++B) s=(match jm A s with
  | some x=>some x
  | none=>jm B s):=by
 induction A with
 | nil=>rfl
 | cons a r ih=>
  simp only[cons_append,jm];split
  ·rfl
  ·exact ih
theorem sh {E:List En}{s:ByteArray}:jm E s=none↔s∉E.map (·.name):=by
 induction E with
 | nil=>simp[jm]
 | cons a r ih=>
  simp only[jm,map_cons,mem_cons,not_or];split
  ·rename_i h;simp[h]
  ·rename_i h;rw[ih];exact⟨λ h2=>⟨λ e=>h e.symm,h2⟩,λ h2=>h2.2⟩
def eB (E:List En):Ex->Ex
 | .nm s=>if (mJ E s).kind=1 then .jk (mJ E s).n else .loc (mJ E s).n
 | .un k e=>.un k (eB E e)
 | .bin k a b=>.bin k (eB E a) (eB E b)
 | e=>e
def Ao (E:List En)(r:Rf):Pl:=⟨decide ((mJ E r.name).kind=5),(mJ E r.name).n,r.index.map (eB E)⟩
def dt (E:List En):List Ar->List Ex
 | []=>[]
 | .exp e::l=>eB E e::dt E l
 | .xf _::l=>dt E l
def fD (E:List En):List Ar->List Pl
 | []=>[]
 | .exp _::l=>fD E l
 | .xf r::l=>Ao E r::fD E l
def fU (k:Nat):Sm->List En
 | .iz s _=>[⟨s,4,k⟩]
 | _=>[]
mutual
/-- The code of a statement that begins at place b, and the number of locals after it. -/
def eM:Sm->List En->Nat->Nat->List In×Nat
 | .iz _ e,E,k,_=>([.set k false (eB E e)],k+1)
 | .jd s e,E,k,_=>([.set (mJ E s).n (decide ((mJ E s).kind=1)) (eB E e)],k)
 | .eJ g s l,E,k,_=>([.call g (mJ E s).n (dt E l) (fD E l)],k)
 | .dP u r,E,k,_=>([.lock u (Ao E r)],k)
 | .mf e th el,E,k,b=>
  if el.length=0 then (.branch (b+1+(cb th E k (b+1)).1.length) (eB E e)::(cb th E k (b+1)).1,(cb th E k (b+1)).2)
  else (.branch (b+2+(cb th E k (b+1)).1.length) (eB E e)::((cb th E k (b+1)).1++.jump (b+2+(cb th E k (b+1)).1.length+(cb el E (cb th E k (b+1)).2 (b+2+(cb th E k (b+1)).1.length)).1.length) ::
   (cb el E (cb th E k (b+1)).2 (b+2+(cb th E k (b+1)).1.length)).1),(cb el E (cb th E k (b+1)).2 (b+2+(cb th E k (b+1)).1.length)).2)
 | .cS e th,E,k,b=>(.branch (b+2+(cb th E k (b+1)).1.length) (eB E e)::((cb th E k (b+1)).1++[.jump b]),(cb th E k (b+1)).2)
 | .jP,_,k,_=>([.ret],k)
def cb:List Sm->List En->Nat->Nat->List In×Nat
 | [],_,k,_=>([],k)
 | s::r,E,k,b=>((eM s E k b).1++(cb r (E++fU k s) (eM s E k b).2 (b+(eM s E k b).1.length)).1,(cb r (E++fU k s) (eM s E k b).2 (b+(eM s E k b).1.length)).2)
end
mutual
/-- The number of statements. -/
def pC:Sm->Nat
 | .mf _ th el=>1+fO th+fO el
 | .cS _ th=>1+fO th
 | _=>1
def fO:List Sm->Nat
 | []=>0
 | s::r=>pC s+fO r
end
mutual
/-- The statements of the instructions; the statement itself is number s. -/
def yg:Sm->Nat->List Nat
 | .mf _ th el,s=>if el.length=0 then s::jc th (s+1) else s::(jc th (s+1)++s::jc el (s+1+fO th))
 | .cS _ th,s=>s::(jc th (s+1)++[s])
 | _,s=>[s]
def jc:List Sm->Nat->List Nat
 | [],_=>[]
 | x::r,s=>yg x s++jc r (s+pC x)
end
def Gw (c:Nat):Nat->List ByteArray->List En
 | _,[]=>[]
 | i,s::r=>⟨s,c,i⟩ :: Gw c (i+1) r
def dv (p:Pg):List En:=Gw 1 0 (p.gs.map (·.name))++Gw 2 0 (p.ms.map (·.name))++Gw 3 0 (p.fs.map (·.name))
def lR:Nat->Nat->List Pm->List En
 | _,_,[]=>[]
 | i,j,p::r=>if p.mutex=true then ⟨p.name,5,j⟩ :: lR i (j+1) r else ⟨p.name,4,i⟩ :: lR (i+1) j r
def pI:List Pm->Nat
 | []=>0
 | p::r=>(if p.mutex=true then 0 else 1)+pI r
def pL:List Pm->Nat
 | []=>0
 | p::r=>(if p.mutex=true then 1 else 0)+pL r
def sV (p:Pg)(f:Fu):List En:=dv p++lR 0 0 f.params
def ou (p:Pg)(f:Fu):Pr:=⟨f.name,pI f.params,pL f.params,(cb f.body (sV p f) (pI f.params) 0).2,(cb f.body (sV p f) (pI f.params) 0).1++[.ret]⟩
def mj (p:Pg):Un:=⟨p.gs.map (·.init),p.ms,p.fs.map (ou p),0⟩
def vf (g k:Nat):Ex->Prop
 | .num n=>n<4611686018427387904
 | .loc i=>i<k
 | .jk i=>i<g
 | .un o e=>o<2/\vf g k e
 | .bin o a b=>o<13/\vf g k a/\vf g k b
 | _=>False
def vW (ms:List Mx)(g k L:Nat)(p:Pl):Prop:=
 (p.param=true/\p.index<L/\p.at_=none)\/(p.param=false/\∃ m,ms[p.index]? = some m/\((p.at_=none/\m.size=0)\/∃ e,p.at_=some e/\0<m.size/\vf g k e))
def IA (LJ:List (Nat×Nat))(ms:List Mx)(g k L M:Nat):In->Prop
 | .set t gl e=>(if gl=true then t<g else t<k)/\vf g k e
 | .call _ t is ps=>LJ[t]? = some (is.length,ps.length)/\(∀ e∈is,vf g k e)/\∀ p∈ps,vW ms g k L p
 | .lock _ p=>vW ms g k L p
 | .branch t e=>t<=M/\vf g k e
 | .jump t=>t<=M
 | .ret=>True
theorem vf.mono {g k k':Nat}(h:k<=k'):∀ {e:Ex},vf g k e->vf g k' e
 | .num _,hx=>hx
 | .loc _,hx=>Nat.lt_of_lt_of_le hx h
 | .jk _,hx=>hx
 | .un _ _,hx=>⟨hx.1,vf.mono h hx.2⟩
 | .bin _ _ _,hx=>⟨hx.1,vf.mono h hx.2.1,vf.mono h hx.2.2⟩
 | .zero,hx=>hx.elim
 | .nm _,hx=>hx.elim
theorem vW.mono {ms:List Mx}{g k k' L:Nat}(h:k<=k'){p:Pl}(hp:vW ms g k L p):vW ms g k' L p:=by
 rcases hp with hp | ⟨h1,m,h2,h3 | ⟨e,h3,h4,h5⟩⟩
 ·exact .inl hp
 ·exact .inr ⟨h1,m,h2,.inl h3⟩
 ·exact .inr ⟨h1,m,h2,.inr ⟨e,h3,h4,h5.mono h⟩⟩
theorem IA.mono {LJ:List (Nat×Nat)}{ms:List Mx}{g k k' L M M':Nat}(h:k<=k')(hM:M<=M'){i:In}(hi:IA LJ ms g k L M i):IA LJ ms g k' L M' i:=by
 cases i with
 | set t gl e=>
  refine⟨?_,hi.2.mono h⟩;have:=hi.1;split at this
  ·rename_i hg;rw[if_pos hg];exact this
  ·rename_i hg;rw[if_neg hg];omega
 | call go t is ps=>exact⟨hi.1,λ e he=>(hi.2.1 e he).mono h,λ p hp=>(hi.2.2 p hp).mono h⟩
 | lock u p=>exact vW.mono h hi
 | branch t e=>exact⟨Nat.le_trans hi.1 hM,hi.2.mono h⟩
 | jump t=>exact Nat.le_trans hi hM
 | ret=>trivial
structure EW (g:Nat)(ms:List Mx)(fs:List (ByteArray×List Pm))(ps:List Pm)(V:List ByteArray)(E:List En)(k:Nat):Prop where
 m:∀ m∈ms,∃ j,jm E m.name=some ⟨m.name,2,j⟩/\ms[j]? = some m
 f:∀ f∈fs,∃ j,jm E f.1=some ⟨f.1,3,j⟩/\fs[j]? = some f
 p:∀ p∈ps,p.mutex=true->∃ j,jm E p.name=some ⟨p.name,5,j⟩/\j<pL ps
 v:∀ s∈V,∃ c j,jm E s=some ⟨s,c,j⟩/\((c=1/\j<g)\/(c=4/\j<k))
 o:∀ s,s∉V->s∉nG++nM++nF++nP->jm E s=none
theorem EW.add {g:Nat}{ms:List Mx}{fs:List (ByteArray×List Pm)}{ps:List Pm}{V:List ByteArray}{E:List En}{k:Nat}(h:EW g ms fs ps V E k){s:ByteArray}(hs:jm E s=none):EW g ms fs ps (V++[s]) (E++[⟨s,4,k⟩]) (k+1):=by
 have hk:∀ {t:ByteArray} {x:En},jm E t=some x->jm (E++[⟨s,4,k⟩]) t=some x:=λ {t x} ht=>by rw[dQ,ht]
 refine⟨λ m hm=>?_,λ f hf=>?_,λ p hp iw=>?_,λ t ht=>?_,λ t ht ht2=>?_⟩
 ·obtain⟨j,h1,h2⟩:=h.m m hm;exact⟨j,hk h1,h2⟩
 ·obtain⟨j,h1,h2⟩:=h.f f hf;exact⟨j,hk h1,h2⟩
 ·obtain⟨j,h1,h2⟩:=h.p p hp iw;exact⟨j,hk h1,h2⟩
 ·rcases mem_append.1 ht with ht | ht
  ·obtain⟨c,j,h1,h2⟩:=h.v t ht;exact⟨c,j,hk h1,by omega⟩
  ·rw[mem_singleton] at ht;subst ht;exact⟨4,k,by rw[dQ,hs];simp[jm],.inr ⟨rfl,by omega⟩⟩
 ·rw[mem_append,not_or,mem_singleton] at ht;rw[dQ,h.o t ht.1 ht2];simp only[jm];rw[if_neg λ e=>ht.2 e.symm]
theorem EW.up {g:Nat}{ms:List Mx}{fs:List (ByteArray×List Pm)}{ps:List Pm}{V:List ByteArray}{E:List En}{k k':Nat}(h:EW g ms fs ps V E k)(hk:k<=k'):EW g ms fs ps V E k':=
 ⟨h.m,h.f,h.p,λ s hs=>by
  obtain⟨c,j,h1,h2⟩:=h.v s hs;exact⟨c,j,h1,by omega⟩,h.o⟩
section
variable {g:Nat}{ms:List Mx}{fs:List (ByteArray×List Pm)}{ps:List Pm}{V:List ByteArray}{E:List En}{k:Nat}
theorem EW.ex (h:EW g ms fs ps V E k):∀ {d:Nat} {e:Ex},gu V d e->vf g k (eB E e)
 | _,.num n,hx=>by simpa [gu,eB,vf] using hx
 | _,.nm s,hx=>by
  simp only[gu] at hx;obtain⟨c,j,h1,h2⟩:=h.v s hx;simp only[eB,iF h1];rcases h2 with ⟨rfl,h2⟩ | ⟨rfl,h2⟩
  ·exact h2
  ·exact h2
 | d+1,.un o e,hx=>by
  simp only[gu] at hx;exact⟨hx.1,h.ex hx.2⟩
 | d+1,.bin o a b,hx=>by
  simp only[gu] at hx;exact⟨hx.1,h.ex hx.2.1,h.ex hx.2.2⟩
 | 0,.un _ _,hx=>hx.elim
 | 0,.bin _ _ _,hx=>hx.elim
 | 0,.zero,hx=>hx.elim
 | 0,.loc _,hx=>hx.elim
 | 0,.jk _,hx=>hx.elim
 | _+1,.zero,hx=>hx.elim
 | _+1,.loc _,hx=>hx.elim
 | _+1,.jk _,hx=>hx.elim
theorem EW.rf (h:EW g ms fs ps V E k){r:Rf}(hr:Iz ms ps V r):vW ms g k (pL ps) (Ao E r):=by
 rcases hr with ⟨m,hm,hn,hi⟩ | ⟨p,hp,iw,hn,hi⟩
 ·obtain⟨j,h1,h2⟩:=h.m m hm;rw[<- hn] at h1;refine .inr ⟨by simp[Ao,iF h1],m,by simpa [Ao,iF h1] using h2,?_⟩;rcases hi with ⟨h3,h4⟩ | ⟨e,h3,h4,h5⟩
  ·exact .inl ⟨by simp[Ao,h3],h4⟩
  ·exact .inr ⟨eB E e,by simp[Ao,h3],h4,h.ex h5⟩
 ·obtain⟨j,h1,h2⟩:=h.p p hp iw;rw[<- hn] at h1;exact .inl ⟨by simp[Ao,iF h1],by simpa [Ao,iF h1] using h2,by simp[Ao,hi]⟩
theorem EW.ars (h:EW g ms fs ps V E k):∀ {gp:List Pm} {l:List Ar},jD ms ps V gp l->(dt E l).length=pI gp/\(fD E l).length=pL gp/\(∀ e∈dt E l,vf g k e)/\∀ p∈fD E l,vW ms g k (pL ps) p
 | [],[],_=>by simp[dt,fD,pI,pL]
 | q::gp,a::l,hx=>by
  simp only[jD] at hx;obtain⟨i1,i2,i3,i4⟩:=h.ars hx.2
  cases a with
  | xf r=>
   refine⟨by simp[dt,pI,hx.1.1,i1],by simp[fD,pL,hx.1.1,i2];omega,i3,λ p hp=>?_⟩;simp only[fD,mem_cons] at hp;rcases hp with rfl | hp
   ·exact h.rf hx.1.2
   ·exact i4 p hp
  | exp e=>
   refine⟨by simp[dt,pI,hx.1.1,i1];omega,by simp[fD,pL,hx.1.1,i2],λ x hp=>?_,i4⟩;simp only[dt,mem_cons] at hp;rcases hp with rfl | hp
   ·exact h.ex hx.1.2
   ·exact i3 x hp
 | [],_::_,hx=>hx.elim
 | _::_,[],hx=>hx.elim
end
theorem yI (k:Nat)(hk:k<24):fY k∉nG++nM++nF++nP:=by
 obtain⟨h1,h2,h3,h4⟩:=uL k hk;simp only[mem_append,not_or];exact⟨⟨⟨h1,h2⟩,h3⟩,h4⟩
def Pe (x:ByteArray×List Pm):Nat×Nat:=(pI x.2,pL x.2)
theorem BW {g:Nat}{ms:List Mx}{fs:List (ByteArray×List Pm)}{ps:List Pm} :
  (∀ s:Sm,∀ d V E k b,EW g ms fs ps V E k->eD ms fs ps d V s->k<=(eM s E k b).2/\(∀ i∈(eM s E k b).1,IA (fs.map Pe) ms g (eM s E k b).2 (pL ps) (b+(eM s E k b).1.length) i)/\EW g ms fs ps (V++eH s) (E++fU k s) (eM s E k b).2/\8*(eM s E k b).1.length<=fc s/\(eM s E k b).2<=k+pC s)/\
  (∀ l:List Sm,∀ d V E k b,EW g ms fs ps V E k->df ms fs ps d V l->k<=(cb l E k b).2/\(∀ i∈(cb l E k b).1,IA (fs.map Pe) ms g (cb l E k b).2 (pL ps) (b+(cb l E k b).1.length) i)/\8*(cb l E k b).1.length<=bV l/\(cb l E k b).2<=k+fO l):=by
 let M1:Sm->Prop:=λ s=>∀ d V E k b,EW g ms fs ps V E k->eD ms fs ps d V s->k<=(eM s E k b).2/\(∀ i∈(eM s E k b).1,IA (fs.map Pe) ms g (eM s E k b).2 (pL ps) (b+(eM s E k b).1.length) i)/\EW g ms fs ps (V++eH s) (E++fU k s) (eM s E k b).2/\8*(eM s E k b).1.length<=fc s/\(eM s E k b).2<=k+pC s
 let M2:List Sm->Prop:=λ l=>∀ d V E k b,EW g ms fs ps V E k->df ms fs ps d V l->k<=(cb l E k b).2/\(∀ i∈(cb l E k b).1,IA (fs.map Pe) ms g (cb l E k b).2 (pL ps) (b+(cb l E k b).1.length) i)/\8*(cb l E k b).1.length<=bV l/\(cb l E k b).2<=k+fO l
 have A1:∀ (s:ByteArray) (e:Ex),M1 (.iz s e):=by
  intro s e d V E k b hE hw;simp only[eD] at hw;obtain⟨⟨j,hj,rfl⟩,hv,he⟩:=hw;have hn:jm E (fY j)=none:=hE.o _ hv (yI j hj);refine⟨by simp[eM],λ i hi=>?_,hE.add hn,by simp[eM,fc],by simp[eM,pC]⟩;simp only[eM,mem_singleton] at hi |-;subst hi;exact⟨by simp,(hE.ex he).mono yA⟩
 have A2:∀ (s:ByteArray) (e:Ex),M1 (.jd s e):=by
  intro s e d V E k b hE hw;simp only[eD] at hw;obtain⟨c,j,h1,h2⟩:=hE.v s hw.1;refine⟨by simp[eM],λ i hi=>?_,by simpa [eH,fU,eM] using hE,by simp[eM,fc],by simp[eM,pC]⟩;simp only[eM,mem_singleton] at hi |-;subst hi;refine⟨?_,hE.ex hw.2⟩;rw[iF h1];rcases h2 with ⟨rfl,h2⟩ | ⟨rfl,h2⟩
  ·simpa using h2
  ·simpa using h2
 have A3:∀ (g:Bool) (s:ByteArray) (l:List Ar),M1 (.eJ g s l):=by
  intro go s l d V E k b hE hw;simp only[eD] at hw;obtain⟨gp,h1,h2⟩:=hw;obtain⟨j,h3,h4⟩:=hE.f _ h1;obtain⟨a1,a2,a3,a4⟩:=hE.ars h2;refine⟨by simp[eM],λ i hi=>?_,by simpa [eH,fU,eM] using hE,by simp[eM,fc],by simp[eM,pC]⟩;simp only[eM,mem_singleton] at hi |-;subst hi;refine⟨?_,a3,a4⟩;rw[iF h3,getElem?_map,h4];simp[Pe,a1,a2]
 have A4:∀ (u:Bool) (r:Rf),M1 (.dP u r):=by
  intro u r d V E k b hE hw;simp only[eD] at hw;refine⟨by simp[eM],λ i hi=>?_,by simpa [eH,fU,eM] using hE,by simp[eM,fc],by simp[eM,pC]⟩;simp only[eM,mem_singleton] at hi |-;subst hi;exact hE.rf hw
 have A5:∀ (e:Ex) (th el:List Sm),M2 th->M2 el->M1 (.mf e th el):=by
  intro e th el i1 i2 d V E k b hE hw
  cases d with
  | zero=>simp[eD] at hw
  | succ d=>
   simp only[eD] at hw;obtain⟨a1,a2,a3,a4⟩:=i1 d V E k (b+1) hE hw.2.1;by_cases R7:el.length=0
   ·refine⟨by simpa [eM,R7] using a1,λ i hi=>?_,by simpa [eH,fU,eM,R7] using hE.up a1,by simp[eM,fc,R7];omega,by simp[eM,pC,R7];omega⟩;simp only[eM,R7,if_true,mem_cons,length_cons] at hi |-;rcases hi with rfl | hi
    ·exact⟨by omega,(hE.ex hw.1).mono a1⟩
    ·exact (a2 i hi).mono (Nat.le_refl _) yA
   ·obtain⟨b1,b2,b3,b4⟩:=i2 d V E (cb th E k (b+1)).2 (b+2+(cb th E k (b+1)).1.length) (hE.up a1) hw.2.2;refine⟨by simp only[eM,R7,if_false];omega,λ i hi=>?_,by simpa [eH,fU,eM,R7] using hE.up (Nat.le_trans a1 b1),by simp[eM,fc,R7];omega,by simp only[eM,pC,R7,if_false];omega⟩;simp only[eM,R7,if_false,mem_cons,mem_append,length_cons,length_append] at hi |-;rcases hi with rfl | hi | rfl | hi
    ·exact⟨by omega,(hE.ex hw.1).mono (Nat.le_trans a1 b1)⟩
    ·exact (a2 i hi).mono b1 yA
    ·exact Nat.le_trans (Nat.le_refl _) yA
    ·exact (b2 i hi).mono (Nat.le_refl _) yA
 have A6:∀ (e:Ex) (th:List Sm),M2 th->M1 (.cS e th):=by
  intro e th i1 d V E k b hE hw
  cases d with
  | zero=>simp[eD] at hw
  | succ d=>
   simp only[eD] at hw;obtain⟨a1,a2,a3,a4⟩:=i1 d V E k (b+1) hE hw.2;refine⟨by simpa [eM] using a1,λ i hi=>?_,by simpa [eH,fU,eM] using hE.up a1,by simp[eM,fc];omega,by simp[eM,pC];omega⟩;simp only[eM,mem_cons,mem_append,length_cons,length_append,length_nil,not_mem_nil,or_false] at hi |-;rcases hi with rfl | hi | rfl
   ·exact⟨by omega,(hE.ex hw.1).mono a1⟩
   ·exact (a2 i hi).mono (Nat.le_refl _) yA
   ·exact Nat.le_trans (Nat.le_refl _) yA
 have A7:M1 .jP:=by
  intro d V E k b hE _;refine⟨by simp[eM],λ i hi=>?_,by simpa [eH,fU,eM] using hE,by simp[eM,fc],by simp[eM,pC]⟩;simp only[eM,mem_singleton] at hi |-;subst hi;trivial
 have A0:M2 []:=by
  intro d V E k b hE _;exact⟨by simp[cb],λ i hi=>by simp[cb] at hi,by simp[cb],by simp[cb,fO]⟩
 have A8:∀ (s:Sm) (r:List Sm),M1 s->M2 r->M2 (s::r):=by
  intro s r i1 i2 d V E k b hE hw;simp only[df] at hw;obtain⟨a1,a2,a3,a4,a5⟩:=i1 d V E k b hE hw.1;obtain⟨b1,b2,b3,b4⟩:=i2 d (V++eH s) (E++fU k s) (eM s E k b).2 (b+(eM s E k b).1.length) a3 hw.2;refine⟨by simp only[cb];omega,λ i hi=>?_,by simp only[cb,bV,length_append];omega,by simp only[cb,fO];omega⟩;simp only[cb,mem_append,length_append] at hi |-;rcases hi with hi | hi
  ·exact (a2 i hi).mono b1 yA
  ·exact (b2 i hi).mono (Nat.le_refl _) yA
 exact⟨λ s=>Sm.rec (motive_1:=M1) (motive_2:=M2) A1 A2 A3 A4 A5 A6 A7 A0 A8 s,λ l=>Sm.rec_1 (motive_1:=M1) (motive_2:=M2) A1 A2 A3 A4 A5 A6 A7 A0 A8 l⟩
theorem Ah:(∀ s:Sm,8*pC s<=fc s)/\(∀ l:List Sm,8*fO l<=bV l):=by
 let M1:Sm->Prop:=λ s=>8*pC s<=fc s
 let M2:List Sm->Prop:=λ l=>8*fO l<=bV l
 have A5:∀ (e:Ex) (th el:List Sm),M2 th->M2 el->M1 (.mf e th el):=λ e th el h1 h2=>by
  simp only[M1,M2,pC,fc] at *;omega
 have A6:∀ (e:Ex) (th:List Sm),M2 th->M1 (.cS e th):=λ e th h1=>by
  simp only[M1,M2,pC,fc] at *;omega
 have A8:∀ (s:Sm) (r:List Sm),M1 s->M2 r->M2 (s::r):=λ s r h1 h2=>by
  simp only[M1,M2,fO,bV] at *;omega
 have A1:∀ (s:ByteArray) (e:Ex),M1 (.iz s e):=λ s e=>by simp[M1,pC,fc]
 have A2:∀ (s:ByteArray) (e:Ex),M1 (.jd s e):=λ s e=>by simp[M1,pC,fc]
 have A3:∀ (g:Bool) (s:ByteArray) (l:List Ar),M1 (.eJ g s l):=λ g s l=>by simp[M1,pC,fc]
 have A4:∀ (u:Bool) (r:Rf),M1 (.dP u r):=λ u r=>by simp[M1,pC,fc]
 have A7:M1 .jP:=by simp[M1,pC,fc]
 have A0:M2 []:=by simp[M2,fO,bV]
 exact⟨λ s=>Sm.rec (motive_1:=M1) (motive_2:=M2) A1 A2 A3 A4 A5 A6 A7 A0 A8 s,λ l=>Sm.rec_1 (motive_1:=M1) (motive_2:=M2) A1 A2 A3 A4 A5 A6 A7 A0 A8 l⟩
theorem sj {c:Nat}:∀ {l:List ByteArray} {i j:Nat} {s:ByteArray},l[j]? = some s->l.Nodup->jm (Gw c i l) s=some ⟨s,c,i+j⟩
 | [],_,_,_,h,_=>by simp at h
 | x::r,i,0,s,h,_=>by
  simp only[getElem?_cons_zero,Option.some.injEq] at h;subst h;simp[Gw,jm]
 | x::r,i,j+1,s,h,hn=>by
  simp only[getElem?_cons_succ] at h;rw[nodup_cons] at hn;have hx:x≠s:=λ e=>hn.1 (by rw[e];exact mem_of_getElem? h);simp only[Gw,jm];rw[if_neg hx,sj h hn.2];congr 2;omega
theorem mM (c:Nat):∀ (l:List ByteArray) (i:Nat),(Gw c i l).map (·.name)=l
 | [],_=>rfl
 | s::r,i=>by simp[Gw,mM c r]
theorem e8 {c i:Nat}{l:List ByteArray}{s:ByteArray}(h:s∉l):jm (Gw c i l) s=none:=by
 rw[sh,mM];exact h
theorem qz:∀ (l:List Pm) (i j:Nat),(lR i j l).map (·.name)=l.map (·.name)
 | [],_,_=>rfl
 | p::r,i,j=>by
  simp only[lR];split<;>simp[qz r]
theorem sf:∀ {l:List Pm} {i j:Nat} {p:Pm},(l.map (·.name)).Nodup->p∈l->(p.mutex=true->∃ n,jm (lR i j l) p.name=some ⟨p.name,5,n⟩/\n<j+pL l)/\(p.mutex=false->∃ n,jm (lR i j l) p.name=some ⟨p.name,4,n⟩/\n<i+pI l)
 | [],_,_,_,_,h=>by simp at h
 | q::r,i,j,p,hn,hp=>by
  simp only[map_cons,nodup_cons] at hn;rcases mem_cons.1 hp with rfl | hp
  ·refine⟨λ hm=>⟨j,by simp[lR,hm,jm],by simp[pL,hm];omega⟩,λ hm=>⟨i,by simp[lR,hm,jm],by simp[pI,hm];omega⟩⟩
  ·have hx:q.name≠p.name:=λ e=>hn.1 (by rw[e];exact mem_map_of_mem hp)
   cases hq:q.mutex with
   | true=>
    obtain⟨h1,h2⟩:=sf (i:=i) (j:=j+1) hn.2 hp;refine⟨λ hm=>?_,λ hm=>?_⟩
    ·obtain⟨n,h3,h4⟩:=h1 hm;exact⟨n,by simp[lR,hq,jm,hx,h3],by simp[pL,hq];omega⟩
    ·obtain⟨n,h3,h4⟩:=h2 hm;exact⟨n,by simp[lR,hq,jm,hx,h3],by simp[pI,hq];omega⟩
   | false=>
    obtain⟨h1,h2⟩:=sf (i:=i+1) (j:=j) hn.2 hp;refine⟨λ hm=>?_,λ hm=>?_⟩
    ·obtain⟨n,h3,h4⟩:=h1 hm;exact⟨n,by simp[lR,hq,jm,hx,h3],by simp[pL,hq];omega⟩
    ·obtain⟨n,h3,h4⟩:=h2 hm;exact⟨n,by simp[lR,hq,jm,hx,h3],by simp[pI,hq];omega⟩
theorem ia:(∀ s∈nM,s∉nG)/\(∀ s∈nF,s∉nG/\s∉nM)/\(∀ s∈nP,s∉nG/\s∉nM/\s∉nF)/\nG.Nodup/\nM.Nodup/\nF.Nodup/\nP.Nodup:=by
 have h1:∀ s∈nM,∀ t∈nG,s≠t:=by decide
 have h2:∀ s∈nF,∀ t∈nG++nM,s≠t:=by decide
 have h3:∀ s∈nP,∀ t∈nG++nM++nF,s≠t:=by decide
 refine⟨λ s hs hx=>h1 s hs s hx rfl,λ s hs=>⟨λ hx=>h2 s hs s ZI rfl,λ hx=>h2 s hs s ZI rfl⟩,λ s hs=>⟨λ hx=>h3 s hs s ZI rfl,λ hx=>h3 s hs s ZI rfl,λ hx=>h3 s hs s ZI rfl⟩,?_,?_,?_,?_⟩<;>
  simp only[List.Nodup,nG,nM,nF,nP,pairwise_cons,List.Pairwise.nil,and_true]<;>decide
theorem q8 {l:List ByteArray}{k:Nat}{s:ByteArray}(h:s∈l.take k):s∈l:=mem_of_mem_take h
theorem jK {α β:Type}{l:List α}(f:α->β){a:α}(h:a∈l):∃ j:Nat,l[j]? = some a/\(l.map f)[j]? = some (f a):=by
 obtain⟨j,hj⟩:=mem_iff_getElem?.1 h;exact⟨j,hj,by rw[getElem?_map,hj];rfl⟩
section
variable {p:Pg}(h:k9 p)
include h
theorem k9.sub:(∀ s∈p.gs.map (·.name),s∈nG)/\(∀ s∈p.ms.map (·.name),s∈nM)/\(∀ s∈p.fs.map (·.name),s∈nF)/\(∀ f∈p.fs,∀ s∈f.params.map (·.name),s∈nP):=by
 obtain⟨k1,_,e1⟩:=h.gn;obtain⟨k2,_,_,e2⟩:=h.mn;obtain⟨k3,_,_,e3⟩:=h.fn;refine⟨λ s hs=>?_,λ s hs=>?_,λ s hs=>?_,λ f hf s hs=>?_⟩
 ·rw[e1] at hs;exact q8 hs
 ·rw[e2] at hs;exact q8 hs
 ·rw[e3] at hs;exact q8 hs
 ·obtain⟨k,_,e⟩:=h.pn f hf;rw[e,mem_reverse] at hs;exact q8 hs
theorem k9.nd:(p.gs.map (·.name)).Nodup/\(p.ms.map (·.name)).Nodup/\(p.fs.map (·.name)).Nodup/\∀ f∈p.fs,(f.params.map (·.name)).Nodup:=by
 obtain⟨_,_,_,n1,n2,n3,n4⟩:=ia;obtain⟨k1,_,e1⟩:=h.gn;obtain⟨k2,_,_,e2⟩:=h.mn;obtain⟨k3,_,_,e3⟩:=h.fn;refine⟨?_,?_,?_,λ f hf=>?_⟩
 ·rw[e1];exact n1.sublist (take_sublist _ _)
 ·rw[e2];exact n2.sublist (take_sublist _ _)
 ·rw[e3];exact n3.sublist (take_sublist _ _)
 ·obtain⟨k,_,e⟩:=h.pn f hf;rw[e];exact pairwise_reverse.2 ((n4.sublist (take_sublist _ _)).imp λ h=>Ne.symm h)
theorem k9.dec:(∀ g∈p.gs,∃ j,jm (dv p) g.name=some ⟨g.name,1,j⟩/\j<p.gs.length)/\(∀ m∈p.ms,∃ j,jm (dv p) m.name=some ⟨m.name,2,j⟩/\p.ms[j]? = some m)/\
  (∀ f∈p.fs,∃ j,jm (dv p) f.name=some ⟨f.name,3,j⟩/\p.fs[j]? = some f)/\(∀ s,s∉nG++nM++nF->jm (dv p) s=none):=by
 obtain⟨a1,a2,_,_⟩:=ia;obtain⟨s1,s2,s3,_⟩:=h.sub;obtain⟨d1,d2,d3,_⟩:=h.nd;refine⟨λ g hg=>?_,λ m hm=>?_,λ f hf=>?_,λ s hs=>?_⟩
 ·obtain⟨j,h1,h2⟩:=jK (·.name) hg;refine⟨j,?_,(List.getElem?_eq_some_iff.1 h1).1⟩;rw[dv,dQ,dQ,sj h2 d1];simp
 ·obtain⟨j,h1,h2⟩:=jK (·.name) hm;refine⟨j,?_,h1⟩;have Tr:=s2 _ (mem_map_of_mem (f:=(·.name)) hm);rw[dv,dQ,dQ,e8 (λ hx=>a1 _ Tr (s1 _ hx)),sj h2 d2];simp
 ·obtain⟨j,h1,h2⟩:=jK (·.name) hf;refine⟨j,?_,h1⟩;have Tr:=s3 _ (mem_map_of_mem (f:=(·.name)) hf);rw[dv,dQ,dQ,e8 (λ hx=>(a2 _ Tr).1 (s1 _ hx)),e8 (λ hx=>(a2 _ Tr).2 (s2 _ hx)),sj h2 d3];simp
 ·simp only[mem_append,not_or] at hs;rw[dv,dQ,dQ,e8 (λ hx=>hs.1.1 (s1 _ hx)),e8 (λ hx=>hs.1.2 (s2 _ hx)),e8 (λ hx=>hs.2 (s3 _ hx))]
theorem k9.ew {f:Fu}(hf:f∈p.fs):EW p.gs.length p.ms (p.fs.map λ f=>(f.name,f.params)) f.params (jS p.gs f.params) (sV p f) (pI f.params):=by
 obtain⟨d1,d2,d3,d4⟩:=h.dec;obtain⟨_,_,a3,_⟩:=ia;obtain⟨_,_,_,s4⟩:=h.sub;obtain⟨_,_,_,n4⟩:=h.nd;have YH:∀ q∈f.params,jm (dv p) q.name=none:=λ q hq=>by
  have:=s4 f hf _ (mem_map_of_mem (f:=(·.name)) hq);have:=a3 _ this;exact d4 _ (by simp only[mem_append,not_or];exact⟨⟨this.1,this.2.1⟩,this.2.2⟩)
 refine⟨λ m hm=>?_,λ x hx=>?_,λ q hq hq2=>?_,λ s hs=>?_,λ s hs ZY=>?_⟩
 ·obtain⟨j,h1,h2⟩:=d2 m hm;exact⟨j,by rw[sV,dQ,h1],h2⟩
 ·rw[mem_map] at hx;obtain⟨f',hf',rfl⟩:=hx;obtain⟨j,h1,h2⟩:=d3 f' hf';exact⟨j,by rw[sV,dQ,h1],by rw[getElem?_map,h2];rfl⟩
 ·obtain⟨n,h1,h2⟩:=(sf (i:=0) (j:=0) (n4 f hf) hq).1 hq2;exact⟨n,by rw[sV,dQ,YH q hq];exact h1,by omega⟩
 ·simp only[jS,mem_append,mem_flatMap,mem_map] at hs;rcases hs with ⟨g,hg,rfl⟩ | ⟨q,hq,hs⟩
  ·obtain⟨j,h1,h2⟩:=d1 g hg;exact⟨1,j,by rw[sV,dQ,h1],.inl ⟨rfl,h2⟩⟩
  ·cases hm:q.mutex with
   | true=>simp[hm] at hs
   | false=>
    simp[hm] at hs;subst hs;obtain⟨n,h1,h2⟩:=(sf (i:=0) (j:=0) (n4 f hf) hq).2 hm;exact⟨4,n,by rw[sV,dQ,YH q hq];exact h1,.inr ⟨rfl,by omega⟩⟩
 ·have hs3:=ZY;simp only[mem_append,not_or] at hs3;rw[sV,dQ,d4 s (by simp only[mem_append,not_or];exact hs3.1)];rw[sh,qz];exact λ hx=>hs3.2 (s4 f hf _ hx)
end
theorem pIL:∀ l:List Pm,pI l+pL l=l.length
 | []=>rfl
 | p::r=>by
  have:=pIL r;simp only[pI,pL,length_cons];split<;>omega
structure fV (u:Un):Prop where
 np:1<=u.ps.length/\u.ps.length<=4
 nm:1<=u.ms.length/\u.ms.length<=4
 ng:u.gs.length<=2
 gi:∀ g∈u.gs,-2<=g/\g<=2
 mz:∀ m∈u.ms,m.size<=3/\(m.re=true->m.size=0)
 main:u.main=0
 p0:∀ q,u.ps[0]? = some q->q.ints=0/\q.bp=0
 pr:∀ q∈u.ps,q.ints<=2/\q.bp<=2/\q.ints<=q.locals/\q.locals<=200/\q.code.length<=145
 pc:∀ q∈u.ps,(∃ c,q.code=c++[.ret])/\∀ i∈q.code,IA (u.ps.map λ q=>(q.ints,q.bp)) u.ms u.gs.length q.locals q.bp (q.code.length-1) i
theorem k9.unit {p:Pg}(h:k9 p)(hw:∀ f∈p.fs,bV f.body<=1152)(hp:∀ f∈p.fs,f.params.length<=2):fV (mj p):=by
 obtain⟨k1,V6,e1⟩:=h.gn;obtain⟨k2,_,Xg,e2⟩:=h.mn;obtain⟨k3,_,hk3,e3⟩:=h.fn;have l1:=congrArg length e1;have l2:=congrArg length e2;have l3:=congrArg length e3;simp[nG] at l1;simp[nM] at l2;simp[nF] at l3;have hs:∀ f∈p.fs,pI f.params<=(cb f.body (sV p f) (pI f.params) 0).2/\(∀ i∈(cb f.body (sV p f) (pI f.params) 0).1,IA ((p.fs.map λ f=>(f.name,f.params)).map Pe) p.ms p.gs.length (cb f.body (sV p f) (pI f.params) 0).2 (pL f.params) (0+(cb f.body (sV p f) (pI f.params) 0).1.length) i)/\8*(cb f.body (sV p f) (pI f.params) 0).1.length<=bV f.body/\(cb f.body (sV p f) (pI f.params) 0).2<=pI f.params+fO f.body:=
  λ f hf=>BW.2 f.body 2 _ _ _ 0 (h.ew hf) (h.bd f hf)
 have WW:(mj p).ps.map (λ q=>(q.ints,q.bp))=(p.fs.map λ f=>(f.name,f.params)).map Pe:=by
  simp only[mj,map_map];rfl
 refine⟨by simp only[mj,length_map];omega,by simp only[mj];omega,by simp only[mj,length_map];omega,λ g hg=>?_,h.mz,rfl,λ q hq=>?_,λ q hq=>?_,λ q hq=>?_⟩
 ·simp only[mj,mem_map] at hg;obtain⟨x,hx,rfl⟩:=hg;exact h.gi x hx
 ·simp only[mj,getElem?_map,Option.map_eq_some_iff] at hq;obtain⟨f,hf,rfl⟩:=hq;simp[ou,h.f0 f hf,pI,pL]
 ·simp only[mj,mem_map] at hq;obtain⟨f,hf,rfl⟩:=hq;obtain⟨b1,b2,b3,b4⟩:=hs f hf;have b5:=Ah.2 f.body;have b6:=hw f hf;have b7:=pIL f.params;have b8:=hp f hf;refine⟨by simp only[ou];omega,by simp only[ou];omega,b1,by simp only[ou];omega,by simp only[ou,length_append,length_singleton];omega⟩
 ·rw[WW];simp only[mj,mem_map] at hq;obtain⟨f,hf,rfl⟩:=hq;obtain⟨b1,b2,b3,b4⟩:=hs f hf;refine⟨⟨_,rfl⟩,λ i hi=>?_⟩;simp only[ou,mem_append,mem_singleton] at hi |-;rcases hi with hi | rfl
  ·have hx:=IA.mono (Nat.le_refl _) (M':=(cb f.body (sV p f) (pI f.params) 0).1.length) yA (b2 i hi)
   simpa [mj] using hx
  ·trivial
end Go.aJ
namespace Go.Proofs.YtlkmbdfhdknlgaaGreat
open Go.Can Go.aJ List Tryz
theorem lv (x:En):(iS x).length=3:=rfl
def J59 (E:List En)(s:ByteArray)(n:Nat)(st:St):Prop:=∃ i:Nat,n=E.length-i/\i<=E.length/\jm E s=jm (E.drop i) s/\st=⟨[(6,I i),(5,.bool false),(4,.aw 0 0),(0,.ax (E.flatMap iS) E.length),(1,.str s)],[(0,⟨145,0,[.str ⟨#[]⟩,I 0,I 0]⟩)],1⟩
def sq:Option En->CV
 | some x=>.cB [.agg (iS x),.bool true]
 | none=>.cB [.agg [.str ⟨#[]⟩,I 0,I 0],.bool false]
theorem G8 (R:Option En):tree (sq R)=true:=by cases R<;>rfl
theorem sr (E:List En)(s:ByteArray)(hl:E.length<=100000):ae prog 69 [.ax (E.flatMap iS) E.length,.str s] (sq (jm E s)):=by
 have SK:=λ (i:Nat) (x:En) (h:E[i]? = some x)=>aI (f:=iS) (n:=3) lv (m:=E) h;refine ae.aE ah Tryz.func69 rfl Ix (by simp[Tryz.ntmps69]) (G8 _) λ C hC RR=>?_;rw[Tryz.ntmps69] at hC;apply aq;simp[hC];apply aW;simp[hC];apply T.block;refine T.aH (J59 E s) (n:=E.length) ?_ ?_
 ·refine aa.here ⟨0,by omega,by omega,rfl,?_⟩;simp
 ·rintro n st ⟨i,rfl,hi,hf,rfl⟩;by_cases Og:i<E.length
  ·obtain⟨a,SH⟩:∃ a,E[i]? = some a:=⟨E[i],getElem?_eq_getElem Og⟩;have Qd:=SK i a SH;have wi:=cF ((i:Int)+1) yA yA;have hd:E.drop i=a::E.drop (i+1):=by
    rw[drop_eq_getElem_cons Og,(List.getElem?_eq_some_iff.1 SH).2]
   rw[hd,jm] at hf;apply aW;simp[hC,Og];refine gw ?_;simp;apply eN;apply aq;simp[hC,Og,Qd,iS,jb];by_cases hn:a.name=s
   ·rw[if_pos hn] at hf;simp only[hn,decide_true];refine dy ?_;simp;apply aq;simp[hC,Og,Qd,iS];apply T.ret;apply aa.here;simp[Tryz.results69,hf,sq,iS]
   ·rw[if_neg hn] at hf;simp only[hn,decide_false];refine fX ?_;simp;apply aN;simp[hC,wi];refine⟨E.length-(i+1),by omega,?_⟩;refine aa.trim [6,5,4,0,1] [0] 1 xr yA ⟨i+1,rfl,by omega,hf,?_⟩;simp
  ·have RU:i=E.length:=by omega
   rw[RU,drop_length,jm] at hf;apply aW;simp[hC,Og];refine a9 ?_;simp;apply T.exit;simp;apply aq;simp[hC];apply T.ret;apply aa.here;simp[Tryz.results69,hf,sq]
def p6 (p:Pg)(E:List En)(k st cl sl:Nat):List CV:=[.ax (p.gs.flatMap qk) p.gs.length,.ax (p.ms.flatMap cH) p.ms.length,.ax (p.fs.flatMap fL) p.fs.length,.ax (E.flatMap iS) E.length,I k,I st,I 0,I 0,.bb 1 0 cl,.bb 2 0 sl]
def dB (p:Pg)(E:List En)(k st cl sl:Nat):Ob:=⟨215,0,p6 p E k st cl sl⟩
theorem uM (p:Pg)(E:List En)(k st cl sl:Nat)(hl:E.length<=100000)(s:ByteArray)(x:En)(hx:jm E s=some x)(hk:x.kind=1\/x.kind=4)(n:Int) :
  Body prog av 168 [.aw 0 0,.str s,I n] [(0,dB p E k st cl sl)] 3 (jC (.agg (iS x)) [(0,dB p E k st cl sl)] 3):=by
 have hf:=sr E s hl;rw[hx] at hf;refine Body.jv Tryz.func168 rfl Ix (by simp[Tryz.ntmps168]) λ C hC RR=>?_;rw[Tryz.ntmps168] at hC;apply aq;simp[hC];apply aq;simp[hC,dB,p6];refine cX R2 (hf) ?_;simp[hC,sq,iS];obtain⟨nm,kd,nn⟩:=x;simp only at hk |-;rcases hk with rfl | rfl
 ·apply eN;apply aq;simp[hC];refine a9 ?_;simp;apply aq;simp[hC];refine fX ?_;simp;apply aq;simp[hC];apply T.ret;refine aa.le (Le.trim [6] [0,3] 4 U2 yA) ?_;simp;refine aa.le (Le.nz [] [3]) ?_;simp;refine aa.le (Le.dn (o:=3) rfl Xp) ?_;simp;refine aa.trim [6] [0] 3 xr yA ⟨_,?_,rfl,?_,rfl⟩
  ·simp
  ·simp
 ·apply eN;apply aq;simp[hC];refine a9 ?_;simp;apply aq;simp[hC];refine fX ?_;simp;apply aq;simp[hC];apply T.ret;refine aa.le (Le.trim [6] [0,3] 4 U2 yA) ?_;simp;refine aa.le (Le.nz [] [3]) ?_;simp;refine aa.le (Le.dn (o:=3) rfl Xp) ?_;simp;refine aa.trim [6] [0] 3 xr yA ⟨_,?_,rfl,?_,rfl⟩
  ·simp
  ·simp
def l7 (l:List Ex):Ob:=⟨85,4,l.flatMap bf⟩
def J131 (p:Pg)(E:List En)(k st cl sl:Nat)(e:Ex)(n:Int)(m:Nat)(s:St):Prop:=∃ i:Nat,m=e.args.length-i/\i<=e.args.length/\
 s=⟨[(9,I i),(8,.aw 5 0),(6,.aw 4 0),(4,.aw 3 0),(0,.aw 0 0),(2,I n)],[(0,dB p E k st cl sl),(3,⟨85,0,bf e⟩),(4,⟨85,0,[I 0,I 0,.str ⟨#[]⟩,.aj]⟩),(5,⟨85,0,[I e.op,I e.n,.str ⟨#[]⟩,.bb 6 0 i]⟩),(6,l7 ((e.args.take i).map (eB E)))],7⟩
set_option maxHeartbeats 4000000 in
theorem nw (p:Pg)(E:List En)(k st cl sl:Nat)(n:Int)(e e':Ex)(R5:(e.op == 2)=false)(h1:e'.op=e.op)(h2:e'.n=e.n)(h3:e'.name=eS)(h4:e'.args=e.args.map (eB E))(WO:e.args.length<=2)
  (ha:∀ x∈e.args,Body prog av 167 [.aw 0 0,.agg (bf x),I n] [(0,dB p E k st cl sl)] 3 (jC (.agg (bf (eB E x))) [(0,dB p E k st cl sl)] 3)) :
  Body prog av 167 [.aw 0 0,.agg (bf e),I n] [(0,dB p E k st cl sl)] 3 (jC (.agg (bf e')) [(0,dB p E k st cl sl)] 3):=by
 have SK:=λ (i:Nat) (x:Ex) (h:e.args[i]? = some x)=>aI (f:=bf) (n:=4) bA (m:=e.args) h;refine Body.jv Tryz.func167 rfl Ix (by simp[Tryz.ntmps167]) λ C hC RR=>?_;rw[Tryz.ntmps167] at hC;rw[bW e];apply aq;simp[hC];apply aW;simp[hC,R5];refine fX ?_;simp;apply aq;simp[hC];apply aW;simp[hC];apply T.block;refine T.aH (J131 p E k st cl sl e n) (n:=e.args.length) ?_ ?_
 ·refine aa.le (Le.nk 5 3 85 4 rfl rfl) ?_;simp;refine aa.trim [9,8,6,4,0,2] [0,3,4,5,6] 7 (by simp[dB,p6]) yA ⟨0,by omega,by omega,?_⟩;rw[bW e];simp[l7]
 ·rintro m s ⟨i,rfl,hi,rfl⟩;by_cases Og:i<e.args.length
  ·obtain⟨a,SH⟩:∃ a,e.args[i]? = some a:=⟨e.args[i],getElem?_eq_getElem Og⟩;have Qd:=SK i a SH;have hb:=ha a (mem_of_getElem? SH);have wi:=cF ((i:Int)+1) yA yA;rw[bW e];apply aW;simp[hC,Og];refine gw ?_;simp;apply eN;refine T.rx ah follows [0,1,2,3,4,5,6,7,8,9,10,11,12,13] [(1,9),(1,10)] Ix ?_;simp[hC,Og,Qd];have R3:take (i+1) (map (eB E) e.args)=take i (map (eB E) e.args)++[eB E a]:=by
    rw[take_add_one,getElem?_map,SH];rfl
   have ZA:(take i (map (eB E) e.args)).length=i:=by simp;omega
   generalize hN:take i (map (eB E) e.args)=N at R3 ZA;have Wn:=aC (f:=bf) (n:=4) bA N;rw[ZA] at Wn;have hbd:(i+1)*56<=140737488355328:=by omega
   have hbd2:(i+1)*64<=140737488355328:=by omega
   refine RX.cU [0] [] 3 (hb) rfl xr rfl rfl rfl rfl xr SZ SY rfl rfl rfl xr ?_;simp[l7,bA,Wn,hbd,aY,-length_flatMap];apply aN;simp[hC,wi];refine⟨e.args.length-(i+1),by omega,?_⟩;have hN3:(N++[eB E a]).flatMap bf=N.flatMap bf++bf (eB E a):=by simp
   have Sa:trees (N.flatMap bf++bf (eB E a))=true:=by rw[<- hN3];exact ak aL _
   refine aa.le (Le.trim [9,8,6,4,0,2] [0,3,4,5,21] 22 yDr yA) ?_;simp;refine aa.le (Le.p7 21 6 rfl rfl yA xr xr yDq) ?_;simp only[dB,p6];simp[bl (ak aL N)];have ZR:(e.args.take (i+1)).map (eB E)=N++[eB E a]:=by rw[map_take];exact R3
   refine aa.trim [9,8,6,4,0,2] [0,3,4,5,6] 7 yEb yA ⟨i+1,rfl,by omega,?_⟩;rw[ZR,bW e];simp[l7,dB,p6]
  ·have RU:i=e.args.length:=by omega
   rw[bW e];apply aW;simp[hC,Og];refine a9 ?_;simp;apply T.exit;simp;apply aq;simp[hC];apply T.ret;subst RU;have R3:take e.args.length (map (eB E) e.args)=e'.args:=by rw[h4];exact take_of_length_le xr
   have Wz:((e'.args.flatMap bf).take (e.args.length*4))=e'.args.flatMap bf:=take_of_length_le (by rw[aC (f:=bf) (n:=4) bA,h4];simp);refine aa.le (Le.trim [6] [0,4,6] 7 yDs yA) ?_;simp;refine aa.le (Le.dn (o:=6) rfl (ak aL _)) ?_;simp[l7,R3,Wz];refine aa.le (Le.dn (o:=4) rfl (by simp[trees,tree])) ?_;simp[dB,p6];refine aa.trim [6] [0] 3 xr yA ⟨_,?_,rfl,?_,rfl⟩
   ·simp[bW e',h1,h2,h3,h4,eS]
   ·simp
theorem kI (p:Pg){g:Nat}{ms:List Mx}{fs:List (ByteArray×List Pm)}{ps:List Pm}{V:List ByteArray}(E:List En)(k st cl sl:Nat)(hE:EW g ms fs ps V E k)(hl:E.length<=100000)(n:Int):∀ (d:Nat) (e:Ex),gu V d e ->
  Body prog av 167 [.aw 0 0,.agg (bf e),I n] [(0,dB p E k st cl sl)] 3 (jC (.agg (bf (eB E e))) [(0,dB p E k st cl sl)] 3):=by
 have WE:∀ s∈V,Body prog av 167 [.aw 0 0,.agg (bf (.nm s)),I n] [(0,dB p E k st cl sl)] 3 (jC (.agg (bf (eB E (.nm s)))) [(0,dB p E k st cl sl)] 3):=by
  intro s hs;obtain⟨c,j,h1,h2⟩:=hE.v s hs;have hv:=uM p E k st cl sl hl s _ h1 ZE n;simp only[eB,iF h1];refine Body.jv Tryz.func167 rfl Ix (by simp[Tryz.ntmps167]) λ C hC RR=>?_;rw[Tryz.ntmps167] at hC;simp only[dB,p6] at hv |-;apply aq;simp[hC,bf];apply aW;simp[hC];refine dy ?_;simp;apply aq;simp[hC];refine TL.cU ah [0] 3 (hv) RT rfl rfl rfl rfl xr SZ SY rfl (TL.go' ah ?_);simp[hC,iS];rcases h2 with ⟨rfl,h2⟩ | ⟨rfl,h2⟩
  ·apply aW;simp[hC];refine dy ?_;simp;apply aq;simp[hC];apply T.ret;refine aa.le (Le.trim [6] [0,4] 5 U2 yA) ?_;simp;refine aa.le (Le.nz [] [4]) ?_;simp;refine aa.le (Le.dn (o:=4) rfl Xp) ?_;simp;refine aa.trim [6] [0] 3 xr yA ⟨_,?_,rfl,?_,rfl⟩
   ·simp[bf,eS]
   ·simp
  ·apply aW;simp[hC];refine fX ?_;simp;apply aq;simp[hC];apply T.ret;refine aa.le (Le.trim [6] [0,4] 5 U2 yA) ?_;simp;refine aa.le (Le.nz [] [4]) ?_;simp;refine aa.le (Le.dn (o:=4) rfl Xp) ?_;simp;refine aa.trim [6] [0] 3 xr yA ⟨_,?_,rfl,?_,rfl⟩
   ·simp[bf,eS]
   ·simp
 intro d
 induction d with
 | zero=>
  intro e hw
  match e,hw with
  | .nm s,hw=>exact WE s (by simpa [gu] using hw)
  | .num c,hw=>exact nw p E k st cl sl n (.num c) (.num c) rfl rfl rfl rfl rfl Vm Vm
 | succ d ih=>
  intro e hw
  match e,hw with
  | .nm s,hw=>exact WE s (by simpa [gu] using hw)
  | .num c,hw=>exact nw p E k st cl sl n (.num c) (.num c) rfl rfl rfl rfl rfl Vm Vm
  | .un o x,hw=>
   simp only[gu] at hw;refine nw p E k st cl sl n (.un o x) (.un o (eB E x)) (by simp[Ex.op];omega) rfl rfl rfl rfl Vm λ y hy=>?_;simp only[Ex.args,mem_singleton] at hy;subst hy;exact ih _ hw.2
  | .bin o x y,hw=>
   simp only[gu] at hw;refine nw p E k st cl sl n (.bin o x y) (.bin o (eB E x) (eB E y)) (by simp[Ex.op];omega) rfl rfl rfl rfl Vm λ z hz=>?_;simp only[Ex.args,mem_cons,not_mem_nil,or_false] at hz;rcases hz with rfl | rfl
   ·exact ih _ hw.2.1
   ·exact ih _ hw.2.2
end Go.Proofs.YtlkmbdfhdknlgaaGreat
