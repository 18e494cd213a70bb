/- The code of a program: wha -/
import Derived.Test.YtlkmbdfhdknlgaaGreatV30
namespace Go.aV
open Go.Can List
structure En where
 name:ByteArray
 kind:Nat
 n:Nat
def iF (x:En):List CV:=[.str x.name,I x.kind,I x.n]
def jh:List En->ByteArray->Option En
 | [],_=>none
 | x::r,s=>if x.name=s then some x else jh r s
def l8 (E:List En)(s:ByteArray):En:=(jh E s).getD ⟨eS,0,0⟩
theorem iu {E:List En}{s:ByteArray}{x:En}(h:jh E s=some x):l8 E s=x:=by simp[l8,h]
theorem dQ (A B:List En)(s:ByteArray):jh (A++B) s=(match jh A s with
  | some x=>some x
  | none=>jh B s):=by
 induction A with
 | nil=>rfl
 | cons a r ih=>
  simp only[cons_append,jh];split
  ·rfl
  ·exact ih
theorem qO {E:List En}{s:ByteArray}:jh E s=none↔s∉E.map (·.name):=by
 induction E with
 | nil=>simp[jh]
 | cons a r ih=>
  simp only[jh,map_cons,mem_cons,not_or];split
  ·rename_i h;simp[h]
  ·rename_i h;rw[ih];exact⟨λ h2=>⟨λ e=>h e.symm,h2⟩,λ h2=>h2.2⟩
def ed (E:List En):Ex->Ex
 | .nm s=>if (l8 E s).kind=1 then .iK (l8 E s).n else .loc (l8 E s).n
 | .un k e=>.un k (ed E e)
 | .bin k a b=>.bin k (ed E a) (ed E b)
 | e=>e
def yP (E:List En)(r:Rf):Pl:=⟨decide ((l8 E r.name).kind=5),(l8 E r.name).n,r.index.map (ed E)⟩
def dx (E:List En):List Ar->List Ex
 | []=>[]
 | .exp e::l=>ed E e::dx E l
 | .vw _::l=>dx E l
def fq (E:List En):List Ar->List Pl
 | []=>[]
 | .exp _::l=>fq E l
 | .vw r::l=>yP E r::fq E l
def fI (k:Nat):Sm->List En
 | .ia s _=>[⟨s,4,k⟩]
 | _=>[]
mutual
/-- The code of a statement that begins at place b, and the number of locals after it. -/
def eB:Sm->List En->Nat->Nat->List In×Nat
 | .ia _ e,E,k,_=>([.set k false (ed E e)],k+1)
 | .iX s e,E,k,_=>([.set (l8 E s).n (decide ((l8 E s).kind=1)) (ed E e)],k)
 | .en g s l,E,k,_=>([.call g (l8 E s).n (dx E l) (fq E l)],k)
 | .dP u r,E,k,_=>([.lock u (yP E r)],k)
 | .lO e th el,E,k,b=>
  if el.length=0 then (.branch (b+1+(cf th E k (b+1)).1.length) (ed E e)::(cf th E k (b+1)).1,(cf th E k (b+1)).2)
  else (.branch (b+2+(cf th E k (b+1)).1.length) (ed E e)::((cf th E k (b+1)).1++.jump (b+2+(cf th E k (b+1)).1.length+(cf el E (cf th E k (b+1)).2 (b+2+(cf th E k (b+1)).1.length)).1.length) ::
   (cf el E (cf th E k (b+1)).2 (b+2+(cf th E k (b+1)).1.length)).1),(cf el E (cf th E k (b+1)).2 (b+2+(cf th E k (b+1)).1.length)).2)
 | .dh e th,E,k,b=>(.branch (b+2+(cf th E k (b+1)).1.length) (ed E e)::((cf th E k (b+1)).1++[.jump b]),(cf th E k (b+1)).2)
 | .jJ,_,k,_=>([.ret],k)
def cf:List Sm->List En->Nat->Nat->List In×Nat
 | [],_,k,_=>([],k)
 | s::r,E,k,b=>((eB s E k b).1++(cf r (E++fI k s) (eB s E k b).2 (b+(eB s E k b).1.length)).1,(cf r (E++fI k s) (eB s E k b).2 (b+(eB s E k b).1.length)).2)
end
mutual
/-- The number of statements. -/
def oP:Sm->Nat
 | .lO _ th el=>1+fG th+fG el
 | .dh _ th=>1+fG th
 | _=>1
def fG:List Sm->Nat
 | []=>0
 | s::r=>oP s+fG r
end
mutual
/-- The statements of the instructions; the statement itself is number s. -/
def wF:Sm->Nat->List Nat
 | .lO _ th el,s=>if el.length=0 then s::iW th (s+1) else s::(iW th (s+1)++s::iW el (s+1+fG th))
 | .dh _ th,s=>s::(iW th (s+1)++[s])
 | _,s=>[s]
def iW:List Sm->Nat->List Nat
 | [],_=>[]
 | x::r,s=>wF x s++iW r (s+oP x)
end
def D7 (c:Nat):Nat->List ByteArray->List En
 | _,[]=>[]
 | i,s::r=>⟨s,c,i⟩ :: D7 c (i+1) r
def dz (p:Pg):List En:=D7 1 0 (p.gs.map (·.name))++D7 2 0 (p.ms.map (·.name))++D7 3 0 (p.fs.map (·.name))
def ll:Nat->Nat->List Pm->List En
 | _,_,[]=>[]
 | i,j,p::r=>if p.mutex=true then ⟨p.name,5,j⟩ :: ll i (j+1) r else ⟨p.name,4,i⟩ :: ll (i+1) j r
def pI:List Pm->Nat
 | []=>0
 | p::r=>(if p.mutex=true then 0 else 1)+pI r
def pL:List Pm->Nat
 | []=>0
 | p::r=>(if p.mutex=true then 1 else 0)+pL r
def rI (p:Pg)(f:Fu):List En:=dz p++ll 0 0 f.params
def nN (p:Pg)(f:Fu):Pr:=⟨f.name,pI f.params,pL f.params,(cf f.body (rI p f) (pI f.params) 0).2,(cf f.body (rI p f) (pI f.params) 0).1++[.ret]⟩
def lQ (p:Pg):Un:=⟨p.gs.map (·.init),p.ms,p.fs.map (nN p),0⟩
def px (g k:Nat):Ex->Prop
 | .num n=>n<4611686018427387904
 | .loc i=>i<k
 | .iK i=>i<g
 | .un o e=>o<2/\px g k e
 | .bin o a b=>o<13/\px g k a/\px g k b
 | _=>False
def pN (ms:List Mx)(g k L:Nat)(p:Pl):Prop:=
 (p.param=true/\p.index<L/\p.at_=none)\/(p.param=false/\∃ m,ms[p.index]? = some m/\((p.at_=none/\m.size=0)\/∃ e,p.at_=some e/\0<m.size/\px g k e))
def IV (I0:List (Nat×Nat))(ms:List Mx)(g k L M:Nat):In->Prop
 | .set t gl e=>(if gl=true then t<g else t<k)/\px g k e
 | .call _ t is ps=>I0[t]? = some (is.length,ps.length)/\(∀ e∈is,px g k e)/\∀ p∈ps,pN ms g k L p
 | .lock _ p=>pN ms g k L p
 | .branch t e=>t<=M/\px g k e
 | .jump t=>t<=M
 | .ret=>True
theorem px.mono {g k k':Nat}(h:k<=k'):∀ {e:Ex},px g k e->px g k' e
 | .num _,hx=>hx
 | .loc _,hx=>Nat.lt_of_lt_of_le hx h
 | .iK _,hx=>hx
 | .un _ _,hx=>⟨hx.1,px.mono h hx.2⟩
 | .bin _ _ _,hx=>⟨hx.1,px.mono h hx.2.1,px.mono h hx.2.2⟩
 | .zero,hx=>hx.elim
 | .nm _,hx=>hx.elim
theorem pN.mono {ms:List Mx}{g k k' L:Nat}(h:k<=k'){p:Pl}(hp:pN ms g k L p):pN ms g k' L p:=by
 rcases hp with hp | ⟨h1,m,h2,h3 | ⟨e,h3,h4,h5⟩⟩
 ·exact .inl hp
 ·exact .inr ⟨h1,m,h2,.inl h3⟩
 ·exact .inr ⟨h1,m,h2,.inr ⟨e,h3,h4,h5.mono h⟩⟩
theorem IV.mono {I0:List (Nat×Nat)}{ms:List Mx}{g k k' L M M':Nat}(h:k<=k')(hM:M<=M'){i:In}(hi:IV I0 ms g k L M i):IV I0 ms g k' L M' i:=by
 cases i with
 | set t gl e=>
  refine⟨?_,hi.2.mono h⟩;have:=hi.1;split at this
  ·rename_i hg;rw[if_pos hg];exact this
  ·rename_i hg;rw[if_neg hg];omega
 | call go t is ps=>exact⟨hi.1,λ e he=>(hi.2.1 e he).mono h,λ p hp=>(hi.2.2 p hp).mono h⟩
 | lock u p=>exact pN.mono h hi
 | branch t e=>exact⟨Nat.le_trans hi.1 hM,hi.2.mono h⟩
 | jump t=>exact Nat.le_trans hi hM
 | ret=>trivial
structure EW (g:Nat)(ms:List Mx)(fs:List (ByteArray×List Pm))(ps:List Pm)(V:List ByteArray)(E:List En)(k:Nat):Prop where
 m:∀ m∈ms,∃ j,jh E m.name=some ⟨m.name,2,j⟩/\ms[j]? = some m
 f:∀ f∈fs,∃ j,jh E f.1=some ⟨f.1,3,j⟩/\fs[j]? = some f
 p:∀ p∈ps,p.mutex=true->∃ j,jh E p.name=some ⟨p.name,5,j⟩/\j<pL ps
 v:∀ s∈V,∃ c j,jh E s=some ⟨s,c,j⟩/\((c=1/\j<g)\/(c=4/\j<k))
 o:∀ s,s∉V->s∉nG++nM++nF++nP->jh E s=none
theorem EW.add {g:Nat}{ms:List Mx}{fs:List (ByteArray×List Pm)}{ps:List Pm}{V:List ByteArray}{E:List En}{k:Nat}(h:EW g ms fs ps V E k){s:ByteArray}(hs:jh E s=none):EW g ms fs ps (V++[s]) (E++[⟨s,4,k⟩]) (k+1):=by
 have hk:∀ {t:ByteArray} {x:En},jh E t=some x->jh (E++[⟨s,4,k⟩]) t=some x:=λ {t x} ht=>by rw[dQ,ht]
 refine⟨λ m hm=>?_,λ f hf=>?_,λ p hp BZ=>?_,λ t ht=>?_,λ t ht ht2=>?_⟩
 ·obtain⟨j,h1,h2⟩:=h.m m hm;exact⟨j,hk h1,h2⟩
 ·obtain⟨j,h1,h2⟩:=h.f f hf;exact⟨j,hk h1,h2⟩
 ·obtain⟨j,h1,h2⟩:=h.p p hp BZ;exact⟨j,hk h1,h2⟩
 ·rcases mem_append.1 ht with ht | ht
  ·obtain⟨c,j,h1,h2⟩:=h.v t ht;exact⟨c,j,hk h1,by omega⟩
  ·rw[mem_singleton] at ht;subst ht;exact⟨4,k,by rw[dQ,hs];simp[jh],.inr ⟨rfl,by omega⟩⟩
 ·rw[mem_append,not_or,mem_singleton] at ht;rw[dQ,h.o t ht.1 ht2];simp only[jh];rw[if_neg λ e=>ht.2 e.symm]
theorem EW.up {g:Nat}{ms:List Mx}{fs:List (ByteArray×List Pm)}{ps:List Pm}{V:List ByteArray}{E:List En}{k k':Nat}(h:EW g ms fs ps V E k)(hk:k<=k'):EW g ms fs ps V E k':=
 ⟨h.m,h.f,h.p,λ s hs=>by
  obtain⟨c,j,h1,h2⟩:=h.v s hs;exact⟨c,j,h1,by omega⟩,h.o⟩
section
variable {g:Nat}{ms:List Mx}{fs:List (ByteArray×List Pm)}{ps:List Pm}{V:List ByteArray}{E:List En}{k:Nat}
theorem EW.ex (h:EW g ms fs ps V E k):∀ {d:Nat} {e:Ex},fV V d e->px g k (ed E e)
 | _,.num n,hx=>by simpa [fV,ed,px] using hx
 | _,.nm s,hx=>by
  simp only[fV] at hx;obtain⟨c,j,h1,h2⟩:=h.v s hx;simp only[ed,iu h1];rcases h2 with ⟨rfl,h2⟩ | ⟨rfl,h2⟩
  ·exact h2
  ·exact h2
 | d+1,.un o e,hx=>by
  simp only[fV] at hx;exact⟨hx.1,h.ex hx.2⟩
 | d+1,.bin o a b,hx=>by
  simp only[fV] at hx;exact⟨hx.1,h.ex hx.2.1,h.ex hx.2.2⟩
 | 0,.un _ _,hx=>hx.elim
 | 0,.bin _ _ _,hx=>hx.elim
 | 0,.zero,hx=>hx.elim
 | 0,.loc _,hx=>hx.elim
 | 0,.iK _,hx=>hx.elim
 | _+1,.zero,hx=>hx.elim
 | _+1,.loc _,hx=>hx.elim
 | _+1,.iK _,hx=>hx.elim
theorem EW.rf (h:EW g ms fs ps V E k){r:Rf}(hr:Gc ms ps V r):pN ms g k (pL ps) (yP E r):=by
 rcases hr with ⟨m,hm,hn,hi⟩ | ⟨p,hp,BZ,hn,hi⟩
 ·obtain⟨j,h1,h2⟩:=h.m m hm;rw[<- hn] at h1;refine .inr ⟨by simp[yP,iu h1],m,by simpa [yP,iu h1] using h2,?_⟩;rcases hi with ⟨h3,h4⟩ | ⟨e,h3,h4,h5⟩
  ·exact .inl ⟨by simp[yP,h3],h4⟩
  ·exact .inr ⟨ed E e,by simp[yP,h3],h4,h.ex h5⟩
 ·obtain⟨j,h1,h2⟩:=h.p p hp BZ;rw[<- hn] at h1;exact .inl ⟨by simp[yP,iu h1],by simpa [yP,iu h1] using h2,by simp[yP,hi]⟩
theorem EW.ars (h:EW g ms fs ps V E k):∀ {gp:List Pm} {l:List Ar},jy ms ps V gp l->(dx E l).length=pI gp/\(fq E l).length=pL gp/\(∀ e∈dx E l,px g k e)/\∀ p∈fq E l,pN ms g k (pL ps) p
 | [],[],_=>by simp[dx,fq,pI,pL]
 | q::gp,a::l,hx=>by
  simp only[jy] at hx;obtain⟨i1,i2,i3,i4⟩:=h.ars hx.2
  cases a with
  | vw r=>
   refine⟨by simp[dx,pI,hx.1.1,i1],by simp[fq,pL,hx.1.1,i2];omega,i3,λ p hp=>?_⟩;simp only[fq,mem_cons] at hp;rcases hp with rfl | hp
   ·exact h.rf hx.1.2
   ·exact i4 p hp
  | exp e=>
   refine⟨by simp[dx,pI,hx.1.1,i1];omega,by simp[fq,pL,hx.1.1,i2],λ x hp=>?_,i4⟩;simp only[dx,mem_cons] at hp;rcases hp with rfl | hp
   ·exact h.ex hx.1.2
   ·exact i3 x hp
 | [],_::_,hx=>hx.elim
 | _::_,[],hx=>hx.elim
end
theorem wZ (k:Nat)(hk:k<24):fJ k∉nG++nM++nF++nP:=by
 obtain⟨h1,h2,h3,h4⟩:=sK k hk;simp only[mem_append,not_or];exact⟨⟨⟨h1,h2⟩,h3⟩,h4⟩
def Ma (x:ByteArray×List Pm):Nat×Nat:=(pI x.2,pL x.2)
theorem Aa {g:Nat}{ms:List Mx}{fs:List (ByteArray×List Pm)}{ps:List Pm} :
  (∀ s:Sm,∀ d V E k b,EW g ms fs ps V E k->ef ms fs ps d V s->k<=(eB s E k b).2/\(∀ i∈(eB s E k b).1,IV (fs.map Ma) ms g (eB s E k b).2 (pL ps) (b+(eB s E k b).1.length) i)/\EW g ms fs ps (V++ek s) (E++fI k s) (eB s E k b).2/\8*(eB s E k b).1.length<=eN s/\(eB s E k b).2<=k+oP s)/\
  (∀ l:List Sm,∀ d V E k b,EW g ms fs ps V E k->dn ms fs ps d V l->k<=(cf l E k b).2/\(∀ i∈(cf l E k b).1,IV (fs.map Ma) ms g (cf l E k b).2 (pL ps) (b+(cf l E k b).1.length) i)/\8*(cf l E k b).1.length<=bZ l/\(cf l E k b).2<=k+fG l):=by
 let M1:Sm->Prop:=λ s=>∀ d V E k b,EW g ms fs ps V E k->ef ms fs ps d V s->k<=(eB s E k b).2/\(∀ i∈(eB s E k b).1,IV (fs.map Ma) ms g (eB s E k b).2 (pL ps) (b+(eB s E k b).1.length) i)/\EW g ms fs ps (V++ek s) (E++fI k s) (eB s E k b).2/\8*(eB s E k b).1.length<=eN s/\(eB s E k b).2<=k+oP s
 let M2:List Sm->Prop:=λ l=>∀ d V E k b,EW g ms fs ps V E k->dn ms fs ps d V l->k<=(cf l E k b).2/\(∀ i∈(cf l E k b).1,IV (fs.map Ma) ms g (cf l E k b).2 (pL ps) (b+(cf l E k b).1.length) i)/\8*(cf l E k b).1.length<=bZ l/\(cf l E k b).2<=k+fG l
 have A1:∀ (s:ByteArray) (e:Ex),M1 (.ia s e):=by
  intro s e d V E k b hE hw;simp only[ef] at hw;obtain⟨⟨j,hj,rfl⟩,hv,he⟩:=hw;have hn:jh E (fJ j)=none:=hE.o _ hv (wZ j hj);refine⟨by simp[eB],λ i hi=>?_,hE.add hn,by simp[eB,eN],by simp[eB,oP]⟩;simp only[eB,mem_singleton] at hi |-;subst hi;exact⟨by simp,(hE.ex he).mono yA⟩
 have A2:∀ (s:ByteArray) (e:Ex),M1 (.iX s e):=by
  intro s e d V E k b hE hw;simp only[ef] at hw;obtain⟨c,j,h1,h2⟩:=hE.v s hw.1;refine⟨by simp[eB],λ i hi=>?_,by simpa [ek,fI,eB] using hE,by simp[eB,eN],by simp[eB,oP]⟩;simp only[eB,mem_singleton] at hi |-;subst hi;refine⟨?_,hE.ex hw.2⟩;rw[iu h1];rcases h2 with ⟨rfl,h2⟩ | ⟨rfl,h2⟩
  ·simpa using h2
  ·simpa using h2
 have A3:∀ (g:Bool) (s:ByteArray) (l:List Ar),M1 (.en g s l):=by
  intro go s l d V E k b hE hw;simp only[ef] at hw;obtain⟨gp,h1,h2⟩:=hw;obtain⟨j,h3,h4⟩:=hE.f _ h1;obtain⟨a1,a2,a3,a4⟩:=hE.ars h2;refine⟨by simp[eB],λ i hi=>?_,by simpa [ek,fI,eB] using hE,by simp[eB,eN],by simp[eB,oP]⟩;simp only[eB,mem_singleton] at hi |-;subst hi;refine⟨?_,a3,a4⟩;rw[iu h3,getElem?_map,h4];simp[Ma,a1,a2]
 have A4:∀ (u:Bool) (r:Rf),M1 (.dP u r):=by
  intro u r d V E k b hE hw;simp only[ef] at hw;refine⟨by simp[eB],λ i hi=>?_,by simpa [ek,fI,eB] using hE,by simp[eB,eN],by simp[eB,oP]⟩;simp only[eB,mem_singleton] at hi |-;subst hi;exact hE.rf hw
 have A5:∀ (e:Ex) (th el:List Sm),M2 th->M2 el->M1 (.lO e th el):=by
  intro e th el i1 i2 d V E k b hE hw
  cases d with
  | zero=>simp[ef] at hw
  | succ d=>
   simp only[ef] at hw;obtain⟨a1,a2,a3,a4⟩:=i1 d V E k (b+1) hE hw.2.1;by_cases O7:el.length=0
   ·refine⟨by simpa [eB,O7] using a1,λ i hi=>?_,by simpa [ek,fI,eB,O7] using hE.up a1,by simp[eB,eN,O7];omega,by simp[eB,oP,O7];omega⟩;simp only[eB,O7,if_true,mem_cons,length_cons] at hi |-;rcases hi with rfl | hi
    ·exact⟨by omega,(hE.ex hw.1).mono a1⟩
    ·exact (a2 i hi).mono (Nat.le_refl _) yA
   ·obtain⟨b1,b2,b3,b4⟩:=i2 d V E (cf th E k (b+1)).2 (b+2+(cf th E k (b+1)).1.length) (hE.up a1) hw.2.2;refine⟨by simp only[eB,O7,if_false];omega,λ i hi=>?_,by simpa [ek,fI,eB,O7] using hE.up (Nat.le_trans a1 b1),by simp[eB,eN,O7];omega,by simp only[eB,oP,O7,if_false];omega⟩;simp only[eB,O7,if_false,mem_cons,mem_append,length_cons,length_append] at hi |-;rcases hi with rfl | hi | rfl | hi
    ·exact⟨by omega,(hE.ex hw.1).mono (Nat.le_trans a1 b1)⟩
    ·exact (a2 i hi).mono b1 yA
    ·exact Nat.le_trans (Nat.le_refl _) yA
    ·exact (b2 i hi).mono (Nat.le_refl _) yA
 have A6:∀ (e:Ex) (th:List Sm),M2 th->M1 (.dh e th):=by
  intro e th i1 d V E k b hE hw
  cases d with
  | zero=>simp[ef] at hw
  | succ d=>
   simp only[ef] at hw;obtain⟨a1,a2,a3,a4⟩:=i1 d V E k (b+1) hE hw.2;refine⟨by simpa [eB] using a1,λ i hi=>?_,by simpa [ek,fI,eB] using hE.up a1,by simp[eB,eN];omega,by simp[eB,oP];omega⟩;simp only[eB,mem_cons,mem_append,length_cons,length_append,length_nil,not_mem_nil,or_false] at hi |-;rcases hi with rfl | hi | rfl
   ·exact⟨by omega,(hE.ex hw.1).mono a1⟩
   ·exact (a2 i hi).mono (Nat.le_refl _) yA
   ·exact Nat.le_trans (Nat.le_refl _) yA
 have A7:M1 .jJ:=by
  intro d V E k b hE _;refine⟨by simp[eB],λ i hi=>?_,by simpa [ek,fI,eB] using hE,by simp[eB,eN],by simp[eB,oP]⟩;simp only[eB,mem_singleton] at hi |-;subst hi;trivial
 have A0:M2 []:=by
  intro d V E k b hE _;exact⟨by simp[cf],λ i hi=>by simp[cf] at hi,by simp[cf],by simp[cf,fG]⟩
 have A8:∀ (s:Sm) (r:List Sm),M1 s->M2 r->M2 (s::r):=by
  intro s r i1 i2 d V E k b hE hw;simp only[dn] at hw;obtain⟨a1,a2,a3,a4,a5⟩:=i1 d V E k b hE hw.1;obtain⟨b1,b2,b3,b4⟩:=i2 d (V++ek s) (E++fI k s) (eB s E k b).2 (b+(eB s E k b).1.length) a3 hw.2;refine⟨by simp only[cf];omega,λ i hi=>?_,by simp only[cf,bZ,length_append];omega,by simp only[cf,fG];omega⟩;simp only[cf,mem_append,length_append] at hi |-;rcases hi with hi | hi
  ·exact (a2 i hi).mono b1 yA
  ·exact (b2 i hi).mono (Nat.le_refl _) yA
 exact⟨λ s=>Sm.rec (motive_1:=M1) (motive_2:=M2) A1 A2 A3 A4 A5 A6 A7 A0 A8 s,λ l=>Sm.rec_1 (motive_1:=M1) (motive_2:=M2) A1 A2 A3 A4 A5 A6 A7 A0 A8 l⟩
theorem yJ:(∀ s:Sm,8*oP s<=eN s)/\(∀ l:List Sm,8*fG l<=bZ l):=by
 let M1:Sm->Prop:=λ s=>8*oP s<=eN s
 let M2:List Sm->Prop:=λ l=>8*fG l<=bZ l
 have A5:∀ (e:Ex) (th el:List Sm),M2 th->M2 el->M1 (.lO e th el):=λ e th el h1 h2=>by
  simp only[M1,M2,oP,eN] at *;omega
 have A6:∀ (e:Ex) (th:List Sm),M2 th->M1 (.dh e th):=λ e th h1=>by
  simp only[M1,M2,oP,eN] at *;omega
 have A8:∀ (s:Sm) (r:List Sm),M1 s->M2 r->M2 (s::r):=λ s r h1 h2=>by
  simp only[M1,M2,fG,bZ] at *;omega
 have A1:∀ (s:ByteArray) (e:Ex),M1 (.ia s e):=λ s e=>by simp[M1,oP,eN]
 have A2:∀ (s:ByteArray) (e:Ex),M1 (.iX s e):=λ s e=>by simp[M1,oP,eN]
 have A3:∀ (g:Bool) (s:ByteArray) (l:List Ar),M1 (.en g s l):=λ g s l=>by simp[M1,oP,eN]
 have A4:∀ (u:Bool) (r:Rf),M1 (.dP u r):=λ u r=>by simp[M1,oP,eN]
 have A7:M1 .jJ:=by simp[M1,oP,eN]
 have A0:M2 []:=by simp[M2,fG,bZ]
 exact⟨λ s=>Sm.rec (motive_1:=M1) (motive_2:=M2) A1 A2 A3 A4 A5 A6 A7 A0 A8 s,λ l=>Sm.rec_1 (motive_1:=M1) (motive_2:=M2) A1 A2 A3 A4 A5 A6 A7 A0 A8 l⟩
theorem qP {c:Nat}:∀ {l:List ByteArray} {i j:Nat} {s:ByteArray},l[j]? = some s->l.Nodup->jh (D7 c i l) s=some ⟨s,c,i+j⟩
 | [],_,_,_,h,_=>by simp at h
 | x::r,i,0,s,h,_=>by
  simp only[getElem?_cons_zero,Option.some.injEq] at h;subst h;simp[D7,jh]
 | x::r,i,j+1,s,h,hn=>by
  simp only[getElem?_cons_succ] at h;rw[nodup_cons] at hn;have hx:x≠s:=λ e=>hn.1 (by rw[e];exact mem_of_getElem? h);simp only[D7,jh];rw[if_neg hx,qP h hn.2];congr 2;omega
theorem mb (c:Nat):∀ (l:List ByteArray) (i:Nat),(D7 c i l).map (·.name)=l
 | [],_=>rfl
 | s::r,i=>by simp[D7,mb c r]
theorem eM {c i:Nat}{l:List ByteArray}{s:ByteArray}(h:s∉l):jh (D7 c i l) s=none:=by
 rw[qO,mb];exact h
theorem pU:∀ (l:List Pm) (i j:Nat),(ll i j l).map (·.name)=l.map (·.name)
 | [],_,_=>rfl
 | p::r,i,j=>by
  simp only[ll];split<;>simp[pU r]
theorem qN:∀ {l:List Pm} {i j:Nat} {p:Pm},(l.map (·.name)).Nodup->p∈l->(p.mutex=true->∃ n,jh (ll i j l) p.name=some ⟨p.name,5,n⟩/\n<j+pL l)/\(p.mutex=false->∃ n,jh (ll i j l) p.name=some ⟨p.name,4,n⟩/\n<i+pI l)
 | [],_,_,_,_,h=>by simp at h
 | q::r,i,j,p,hn,hp=>by
  simp only[map_cons,nodup_cons] at hn;rcases mem_cons.1 hp with rfl | hp
  ·refine⟨λ hm=>⟨j,by simp[ll,hm,jh],by simp[pL,hm];omega⟩,λ hm=>⟨i,by simp[ll,hm,jh],by simp[pI,hm];omega⟩⟩
  ·have hx:q.name≠p.name:=λ e=>hn.1 (by rw[e];exact mem_map_of_mem hp)
   cases hq:q.mutex with
   | true=>
    obtain⟨h1,h2⟩:=qN (i:=i) (j:=j+1) hn.2 hp;refine⟨λ hm=>?_,λ hm=>?_⟩
    ·obtain⟨n,h3,h4⟩:=h1 hm;exact⟨n,by simp[ll,hq,jh,hx,h3],by simp[pL,hq];omega⟩
    ·obtain⟨n,h3,h4⟩:=h2 hm;exact⟨n,by simp[ll,hq,jh,hx,h3],by simp[pI,hq];omega⟩
   | false=>
    obtain⟨h1,h2⟩:=qN (i:=i+1) (j:=j) hn.2 hp;refine⟨λ hm=>?_,λ hm=>?_⟩
    ·obtain⟨n,h3,h4⟩:=h1 hm;exact⟨n,by simp[ll,hq,jh,hx,h3],by simp[pL,hq];omega⟩
    ·obtain⟨n,h3,h4⟩:=h2 hm;exact⟨n,by simp[ll,hq,jh,hx,h3],by simp[pI,hq];omega⟩
theorem gQ:(∀ s∈nM,s∉nG)/\(∀ s∈nF,s∉nG/\s∉nM)/\(∀ s∈nP,s∉nG/\s∉nM/\s∉nF)/\nG.Nodup/\nM.Nodup/\nF.Nodup/\nP.Nodup:=by
 have h1:∀ s∈nM,∀ t∈nG,s≠t:=by decide
 have h2:∀ s∈nF,∀ t∈nG++nM,s≠t:=by decide
 have h3:∀ s∈nP,∀ t∈nG++nM++nF,s≠t:=by decide
 refine⟨λ s hs hx=>h1 s hs s hx rfl,λ s hs=>⟨λ hx=>h2 s hs s Vz rfl,λ hx=>h2 s hs s Vz rfl⟩,λ s hs=>⟨λ hx=>h3 s hs s Vz rfl,λ hx=>h3 s hs s Vz rfl,λ hx=>h3 s hs s Vz rfl⟩,?_,?_,?_,?_⟩<;>
  simp only[List.Nodup,nG,nM,nF,nP,pairwise_cons,List.Pairwise.nil,and_true]<;>decide
theorem qp {l:List ByteArray}{k:Nat}{s:ByteArray}(h:s∈l.take k):s∈l:=mem_of_mem_take h
theorem jD {α β:Type}{l:List α}(f:α->β){a:α}(h:a∈l):∃ j:Nat,l[j]? = some a/\(l.map f)[j]? = some (f a):=by
 obtain⟨j,hj⟩:=mem_iff_getElem?.1 h;exact⟨j,hj,by rw[getElem?_map,hj];rfl⟩
section
variable {p:Pg}(h:kM p)
include h
theorem kM.sub:(∀ s∈p.gs.map (·.name),s∈nG)/\(∀ s∈p.ms.map (·.name),s∈nM)/\(∀ s∈p.fs.map (·.name),s∈nF)/\(∀ f∈p.fs,∀ s∈f.params.map (·.name),s∈nP):=by
 obtain⟨k1,_,e1⟩:=h.gn;obtain⟨k2,_,_,e2⟩:=h.mn;obtain⟨k3,_,_,e3⟩:=h.fn;refine⟨λ s hs=>?_,λ s hs=>?_,λ s hs=>?_,λ f hf s hs=>?_⟩
 ·rw[e1] at hs;exact qp hs
 ·rw[e2] at hs;exact qp hs
 ·rw[e3] at hs;exact qp hs
 ·obtain⟨k,_,e⟩:=h.pn f hf;rw[e,mem_reverse] at hs;exact qp hs
theorem kM.nd:(p.gs.map (·.name)).Nodup/\(p.ms.map (·.name)).Nodup/\(p.fs.map (·.name)).Nodup/\∀ f∈p.fs,(f.params.map (·.name)).Nodup:=by
 obtain⟨_,_,_,n1,n2,n3,n4⟩:=gQ;obtain⟨k1,_,e1⟩:=h.gn;obtain⟨k2,_,_,e2⟩:=h.mn;obtain⟨k3,_,_,e3⟩:=h.fn;refine⟨?_,?_,?_,λ f hf=>?_⟩
 ·rw[e1];exact n1.sublist (take_sublist _ _)
 ·rw[e2];exact n2.sublist (take_sublist _ _)
 ·rw[e3];exact n3.sublist (take_sublist _ _)
 ·obtain⟨k,_,e⟩:=h.pn f hf;rw[e];exact pairwise_reverse.2 ((n4.sublist (take_sublist _ _)).imp λ h=>Ne.symm h)
theorem kM.dec:(∀ g∈p.gs,∃ j,jh (dz p) g.name=some ⟨g.name,1,j⟩/\j<p.gs.length)/\(∀ m∈p.ms,∃ j,jh (dz p) m.name=some ⟨m.name,2,j⟩/\p.ms[j]? = some m)/\
  (∀ f∈p.fs,∃ j,jh (dz p) f.name=some ⟨f.name,3,j⟩/\p.fs[j]? = some f)/\(∀ s,s∉nG++nM++nF->jh (dz p) s=none):=by
 obtain⟨a1,a2,_,_⟩:=gQ;obtain⟨s1,s2,s3,_⟩:=h.sub;obtain⟨d1,d2,d3,_⟩:=h.nd;refine⟨λ g hg=>?_,λ m hm=>?_,λ f hf=>?_,λ s hs=>?_⟩
 ·obtain⟨j,h1,h2⟩:=jD (·.name) hg;refine⟨j,?_,(List.getElem?_eq_some_iff.1 h1).1⟩;rw[dz,dQ,dQ,qP h2 d1];simp
 ·obtain⟨j,h1,h2⟩:=jD (·.name) hm;refine⟨j,?_,h1⟩;have QA:=s2 _ (mem_map_of_mem (f:=(·.name)) hm);rw[dz,dQ,dQ,eM (λ hx=>a1 _ QA (s1 _ hx)),qP h2 d2];simp
 ·obtain⟨j,h1,h2⟩:=jD (·.name) hf;refine⟨j,?_,h1⟩;have QA:=s3 _ (mem_map_of_mem (f:=(·.name)) hf);rw[dz,dQ,dQ,eM (λ hx=>(a2 _ QA).1 (s1 _ hx)),eM (λ hx=>(a2 _ QA).2 (s2 _ hx)),qP h2 d3];simp
 ·simp only[mem_append,not_or] at hs;rw[dz,dQ,dQ,eM (λ hx=>hs.1.1 (s1 _ hx)),eM (λ hx=>hs.1.2 (s2 _ hx)),eM (λ hx=>hs.2 (s3 _ hx))]
theorem kM.ew {f:Fu}(hf:f∈p.fs):EW p.gs.length p.ms (p.fs.map λ f=>(f.name,f.params)) f.params (jO p.gs f.params) (rI p f) (pI f.params):=by
 obtain⟨d1,d2,d3,d4⟩:=h.dec;obtain⟨_,_,a3,_⟩:=gQ;obtain⟨_,_,_,s4⟩:=h.sub;obtain⟨_,_,_,n4⟩:=h.nd;have VO:∀ q∈f.params,jh (dz p) q.name=none:=λ q hq=>by
  have:=s4 f hf _ (mem_map_of_mem (f:=(·.name)) hq);have:=a3 _ this;exact d4 _ (by simp only[mem_append,not_or];exact⟨⟨this.1,this.2.1⟩,this.2.2⟩)
 refine⟨λ m hm=>?_,λ x hx=>?_,λ q hq Vj=>?_,λ s hs=>?_,λ s hs WZ=>?_⟩
 ·obtain⟨j,h1,h2⟩:=d2 m hm;exact⟨j,by rw[rI,dQ,h1],h2⟩
 ·rw[mem_map] at hx;obtain⟨f',Xk,rfl⟩:=hx;obtain⟨j,h1,h2⟩:=d3 f' Xk;exact⟨j,by rw[rI,dQ,h1],by rw[getElem?_map,h2];rfl⟩
 ·obtain⟨n,h1,h2⟩:=(qN (i:=0) (j:=0) (n4 f hf) hq).1 Vj;exact⟨n,by rw[rI,dQ,VO q hq];exact h1,by omega⟩
 ·simp only[jO,mem_append,mem_flatMap,mem_map] at hs;rcases hs with ⟨g,hg,rfl⟩ | ⟨q,hq,hs⟩
  ·obtain⟨j,h1,h2⟩:=d1 g hg;exact⟨1,j,by rw[rI,dQ,h1],.inl ⟨rfl,h2⟩⟩
  ·cases hm:q.mutex with
   | true=>simp[hm] at hs
   | false=>
    simp[hm] at hs;subst hs;obtain⟨n,h1,h2⟩:=(qN (i:=0) (j:=0) (n4 f hf) hq).2 hm;exact⟨4,n,by rw[rI,dQ,VO q hq];exact h1,.inr ⟨rfl,by omega⟩⟩
 ·have hs3:=WZ;simp only[mem_append,not_or] at hs3;rw[rI,dQ,d4 s (by simp only[mem_append,not_or];exact hs3.1)];rw[qO,pU];exact λ hx=>hs3.2 (s4 f hf _ hx)
end
theorem pIL:∀ l:List Pm,pI l+pL l=l.length
 | []=>rfl
 | p::r=>by
  have:=pIL r;simp only[pI,pL,length_cons];split<;>omega
structure jx (u:Un):Prop where
 np:1<=u.ps.length/\u.ps.length<=4
 nm:1<=u.ms.length/\u.ms.length<=4
 ng:u.gs.length<=2
 gi:∀ g∈u.gs,-2<=g/\g<=2
 mz:∀ m∈u.ms,m.size<=3/\(m.re=true->m.size=0)
 main:u.main=0
 p0:∀ q,u.ps[0]? = some q->q.ints=0/\q.bz=0
 pr:∀ q∈u.ps,q.ints<=2/\q.bz<=2/\q.ints<=q.locals/\q.locals<=200/\q.code.length<=145
 pc:∀ q∈u.ps,(∃ c,q.code=c++[.ret])/\∀ i∈q.code,IV (u.ps.map λ q=>(q.ints,q.bz)) u.ms u.gs.length q.locals q.bz (q.code.length-1) i
theorem kM.unit {p:Pg}(h:kM p)(hw:∀ f∈p.fs,bZ f.body<=1152)(hp:∀ f∈p.fs,f.params.length<=2):jx (lQ p):=by
 obtain⟨k1,RU,e1⟩:=h.gn;obtain⟨k2,_,Uo,e2⟩:=h.mn;obtain⟨k3,_,hk3,e3⟩:=h.fn;have l1:=congrArg length e1;have l2:=congrArg length e2;have l3:=congrArg length e3;simp[nG] at l1;simp[nM] at l2;simp[nF] at l3;have hs:∀ f∈p.fs,pI f.params<=(cf f.body (rI p f) (pI f.params) 0).2/\(∀ i∈(cf f.body (rI p f) (pI f.params) 0).1,IV ((p.fs.map λ f=>(f.name,f.params)).map Ma) p.ms p.gs.length (cf f.body (rI p f) (pI f.params) 0).2 (pL f.params) (0+(cf f.body (rI p f) (pI f.params) 0).1.length) i)/\8*(cf f.body (rI p f) (pI f.params) 0).1.length<=bZ f.body/\(cf f.body (rI p f) (pI f.params) 0).2<=pI f.params+fG f.body:=
  λ f hf=>Aa.2 f.body 2 _ _ _ 0 (h.ew hf) (h.bd f hf)
 have T1:(lQ p).ps.map (λ q=>(q.ints,q.bz))=(p.fs.map λ f=>(f.name,f.params)).map Ma:=by
  simp only[lQ,map_map];rfl
 refine⟨by simp only[lQ,length_map];omega,by simp only[lQ];omega,by simp only[lQ,length_map];omega,λ g hg=>?_,h.mz,rfl,λ q hq=>?_,λ q hq=>?_,λ q hq=>?_⟩
 ·simp only[lQ,mem_map] at hg;obtain⟨x,hx,rfl⟩:=hg;exact h.gi x hx
 ·simp only[lQ,getElem?_map,Option.map_eq_some_iff] at hq;obtain⟨f,hf,rfl⟩:=hq;simp[nN,h.f0 f hf,pI,pL]
 ·simp only[lQ,mem_map] at hq;obtain⟨f,hf,rfl⟩:=hq;obtain⟨b1,b2,b3,b4⟩:=hs f hf;have b5:=yJ.2 f.body;have b6:=hw f hf;have b7:=pIL f.params;have b8:=hp f hf;refine⟨by simp only[nN];omega,by simp only[nN];omega,b1,by simp only[nN];omega,by simp only[nN,length_append,length_singleton];omega⟩
 ·rw[T1];simp only[lQ,mem_map] at hq;obtain⟨f,hf,rfl⟩:=hq;obtain⟨b1,b2,b3,b4⟩:=hs f hf;refine⟨⟨_,rfl⟩,λ i hi=>?_⟩;simp only[nN,mem_append,mem_singleton] at hi |-;rcases hi with hi | rfl
  ·have hx:=IV.mono (Nat.le_refl _) (M':=(cf f.body (rI p f) (pI f.params) 0).1.length) yA (b2 i hi)
   simpa [lQ] using hx
  ·trivial
end Go.aV
namespace Go.Proofs.YtlkmbdfhdknlgaaGreat
open Go.Can Go.aV List Tryz
theorem kU (x:En):(iF x).length=3:=rfl
def J59 (E:List En)(s:ByteArray)(n:Nat)(st:St):Prop:=∃ i:Nat,n=E.length-i/\i<=E.length/\jh E s=jh (E.drop i) s/\st=⟨[(6,I i),(5,.bool false),(4,.ax 0 0),(0,.au (E.flatMap iF) E.length),(1,.str s)],[(0,⟨145,0,[.str ⟨#[]⟩,I 0,I 0]⟩)],1⟩
def qQ:Option En->CV
 | some x=>.bY [.agg (iF x),.bool true]
 | none=>.bY [.agg [.str ⟨#[]⟩,I 0,I 0],.bool false]
theorem EG (R:Option En):tree (qQ R)=true:=by cases R<;>rfl
theorem qR (E:List En)(s:ByteArray)(hl:E.length<=100000):af prog 69 [.au (E.flatMap iF) E.length,.str s] (qQ (jh E s)):=by
 have PS:=λ (i:Nat) (x:En) (h:E[i]? = some x)=>aH (f:=iF) (n:=3) kU (m:=E) h;refine af.aC ag Tryz.func69 rfl GK (by simp[Tryz.ntmps69]) (EG _) λ C hC OR=>?_;rw[Tryz.ntmps69] at hC;apply aq;simp[hC];apply aT;simp[hC];apply T.block;refine T.aQ (J59 E s) (n:=E.length) ?_ ?_
 ·refine aa.here ⟨0,by omega,by omega,rfl,?_⟩;simp
 ·rintro n st ⟨i,rfl,hi,hf,rfl⟩;by_cases OP:i<E.length
  ·obtain⟨a,PX⟩:∃ a,E[i]? = some a:=⟨E[i],getElem?_eq_getElem OP⟩;have OS:=PS i a PX;have wi:=cw ((i:Int)+1) yA yA;have hd:E.drop i=a::E.drop (i+1):=by
    rw[drop_eq_getElem_cons OP,(List.getElem?_eq_some_iff.1 PX).2]
   rw[hd,jh] at hf;apply aT;simp[hC,OP];refine iI ?_;simp;apply eZ;apply aq;simp[hC,OP,OS,iF,iV];by_cases hn:a.name=s
   ·rw[if_pos hn] at hf;simp only[hn,decide_true];refine cX ?_;simp;apply aq;simp[hC,OP,OS,iF];apply T.ret;apply aa.here;simp[Tryz.results69,hf,qQ,iF]
   ·rw[if_neg hn] at hf;simp only[hn,decide_false];refine eQ ?_;simp;apply aG;simp[hC,wi];refine⟨E.length-(i+1),by omega,?_⟩;refine aa.trim [6,5,4,0,1] [0] 1 xr yA ⟨i+1,rfl,by omega,hf,?_⟩;simp
  ·have OV:i=E.length:=by omega
   rw[OV,drop_length,jh] at hf;apply aT;simp[hC,OP];refine bh ?_;simp;apply T.exit;simp;apply aq;simp[hC];apply T.ret;apply aa.here;simp[Tryz.results69,hf,qQ]
def pf (p:Pg)(E:List En)(k st cl sl:Nat):List CV:=[.au (p.gs.flatMap pE) p.gs.length,.au (p.ms.flatMap cI) p.ms.length,.au (p.fs.flatMap fD) p.fs.length,.au (E.flatMap iF) E.length,I k,I st,I 0,I 0,.bg 1 0 cl,.bg 2 0 sl]
def dC (p:Pg)(E:List En)(k st cl sl:Nat):Ob:=⟨215,0,pf p E k st cl sl⟩
theorem sL (p:Pg)(E:List En)(k st cl sl:Nat)(hl:E.length<=100000)(s:ByteArray)(x:En)(hx:jh E s=some x)(hk:x.kind=1\/x.kind=4)(n:Int) :
  Body prog av 168 [.ax 0 0,.str s,I n] [(0,dC p E k st cl sl)] 3 (jk (.agg (iF x)) [(0,dC p E k st cl sl)] 3):=by
 have hf:=qR E s hl;rw[hx] at hf;refine Body.jb Tryz.func168 rfl GK (by simp[Tryz.ntmps168]) λ C hC OR=>?_;rw[Tryz.ntmps168] at hC;apply aq;simp[hC];apply aq;simp[hC,dC,pf];refine ct O4 (hf) ?_;simp[hC,qQ,iF];obtain⟨nm,kd,nn⟩:=x;simp only at hk |-;rcases hk with rfl | rfl
 ·apply eZ;apply aq;simp[hC];refine bh ?_;simp;apply aq;simp[hC];refine eQ ?_;simp;apply aq;simp[hC];apply T.ret;refine aa.le (Le.trim [6] [0,3] 4 Ue yA) ?_;simp;refine aa.le (Le.nz [] [3]) ?_;simp;refine aa.le (Le.cF (o:=3) rfl Uu) ?_;simp;refine aa.trim [6] [0] 3 xr yA ⟨_,?_,rfl,?_,rfl⟩
  ·simp
  ·simp
 ·apply eZ;apply aq;simp[hC];refine bh ?_;simp;apply aq;simp[hC];refine eQ ?_;simp;apply aq;simp[hC];apply T.ret;refine aa.le (Le.trim [6] [0,3] 4 Ue yA) ?_;simp;refine aa.le (Le.nz [] [3]) ?_;simp;refine aa.le (Le.cF (o:=3) rfl Uu) ?_;simp;refine aa.trim [6] [0] 3 xr yA ⟨_,?_,rfl,?_,rfl⟩
  ·simp
  ·simp
def lH (l:List Ex):Ob:=⟨85,4,l.flatMap a8⟩
def J131 (p:Pg)(E:List En)(k st cl sl:Nat)(e:Ex)(n:Int)(m:Nat)(s:St):Prop:=∃ i:Nat,m=e.args.length-i/\i<=e.args.length/\
 s=⟨[(9,I i),(8,.ax 5 0),(6,.ax 4 0),(4,.ax 3 0),(0,.ax 0 0),(2,I n)],[(0,dC p E k st cl sl),(3,⟨85,0,a8 e⟩),(4,⟨85,0,[I 0,I 0,.str ⟨#[]⟩,.ak]⟩),(5,⟨85,0,[I e.op,I e.n,.str ⟨#[]⟩,.bg 6 0 i]⟩),(6,lH ((e.args.take i).map (ed E)))],7⟩
set_option maxHeartbeats 4000000 in
theorem mF (p:Pg)(E:List En)(k st cl sl:Nat)(n:Int)(e e':Ex)(Pj:(e.op == 2)=false)(h1:e'.op=e.op)(h2:e'.n=e.n)(h3:e'.name=eS)(h4:e'.args=e.args.map (ed E))(ZW:e.args.length<=2)
  (ha:∀ x∈e.args,Body prog av 167 [.ax 0 0,.agg (a8 x),I n] [(0,dC p E k st cl sl)] 3 (jk (.agg (a8 (ed E x))) [(0,dC p E k st cl sl)] 3)) :
  Body prog av 167 [.ax 0 0,.agg (a8 e),I n] [(0,dC p E k st cl sl)] 3 (jk (.agg (a8 e')) [(0,dC p E k st cl sl)] 3):=by
 have PS:=λ (i:Nat) (x:Ex) (h:e.args[i]? = some x)=>aH (f:=a8) (n:=4) bA (m:=e.args) h;refine Body.jb Tryz.func167 rfl GK (by simp[Tryz.ntmps167]) λ C hC OR=>?_;rw[Tryz.ntmps167] at hC;rw[bV e];apply aq;simp[hC];apply aT;simp[hC,Pj];refine eQ ?_;simp;apply aq;simp[hC];apply aT;simp[hC];apply T.block;refine T.aQ (J131 p E k st cl sl e n) (n:=e.args.length) ?_ ?_
 ·refine aa.le (Le.lq 5 3 85 4 rfl rfl) ?_;simp;refine aa.trim [9,8,6,4,0,2] [0,3,4,5,6] 7 (by simp[dC,pf]) yA ⟨0,by omega,by omega,?_⟩;rw[bV e];simp[lH]
 ·rintro m s ⟨i,rfl,hi,rfl⟩;by_cases OP:i<e.args.length
  ·obtain⟨a,PX⟩:∃ a,e.args[i]? = some a:=⟨e.args[i],getElem?_eq_getElem OP⟩;have OS:=PS i a PX;have hb:=ha a (mem_of_getElem? PX);have wi:=cw ((i:Int)+1) yA yA;rw[bV e];apply aT;simp[hC,OP];refine iI ?_;simp;apply eZ;refine T.rx ag follows [0,1,2,3,4,5,6,7,8,9,10,11,12,13] [(1,9),(1,10)] GK ?_;simp[hC,OP,OS];have Pb:take (i+1) (map (ed E) e.args)=take i (map (ed E) e.args)++[ed E a]:=by
    rw[take_add_one,getElem?_map,PX];rfl
   have WC:(take i (map (ed E) e.args)).length=i:=by simp;omega
   generalize hN:take i (map (ed E) e.args)=N at Pb WC;have Sk:=aA (f:=a8) (n:=4) bA N;rw[WC] at Sk;have hbd:(i+1)*56<=140737488355328:=by omega
   have hbd2:(i+1)*64<=140737488355328:=by omega
   refine RX.di [0] [] 3 (hb) rfl xr rfl rfl rfl rfl xr Qe Qd rfl rfl rfl xr ?_;simp[lH,bA,Sk,hbd,aS,-length_flatMap];apply aG;simp[hC,wi];refine⟨e.args.length-(i+1),by omega,?_⟩;have Yg:(N++[ed E a]).flatMap a8=N.flatMap a8++a8 (ed E a):=by simp
   have O1:trees (N.flatMap a8++a8 (ed E a))=true:=by rw[<- Yg];exact ah aJ _
   refine aa.le (Le.trim [9,8,6,4,0,2] [0,3,4,5,21] 22 yDr yA) ?_;simp;refine aa.le (Le.ph 21 6 rfl rfl yA xr xr yDq) ?_;simp only[dC,pf];simp[bm (ah aJ N)];have WU:(e.args.take (i+1)).map (ed E)=N++[ed E a]:=by rw[map_take];exact Pb
   refine aa.trim [9,8,6,4,0,2] [0,3,4,5,6] 7 yEb yA ⟨i+1,rfl,by omega,?_⟩;rw[WU,bV e];simp[lH,dC,pf]
  ·have OV:i=e.args.length:=by omega
   rw[bV e];apply aT;simp[hC,OP];refine bh ?_;simp;apply T.exit;simp;apply aq;simp[hC];apply T.ret;subst OV;have Pb:take e.args.length (map (ed E) e.args)=e'.args:=by rw[h4];exact take_of_length_le xr
   have Uy:((e'.args.flatMap a8).take (e.args.length*4))=e'.args.flatMap a8:=take_of_length_le (by rw[aA (f:=a8) (n:=4) bA,h4];simp);refine aa.le (Le.trim [6] [0,4,6] 7 yDs yA) ?_;simp;refine aa.le (Le.cF (o:=6) rfl (ah aJ _)) ?_;simp[lH,Pb,Uy];refine aa.le (Le.cF (o:=4) rfl (by simp[trees,tree])) ?_;simp[dC,pf];refine aa.trim [6] [0] 3 xr yA ⟨_,?_,rfl,?_,rfl⟩
   ·simp[bV e',h1,h2,h3,h4,eS]
   ·simp
theorem kk (p:Pg){g:Nat}{ms:List Mx}{fs:List (ByteArray×List Pm)}{ps:List Pm}{V:List ByteArray}(E:List En)(k st cl sl:Nat)(hE:EW g ms fs ps V E k)(hl:E.length<=100000)(n:Int):∀ (d:Nat) (e:Ex),fV V d e ->
  Body prog av 167 [.ax 0 0,.agg (a8 e),I n] [(0,dC p E k st cl sl)] 3 (jk (.agg (a8 (ed E e))) [(0,dC p E k st cl sl)] 3):=by
 have TN:∀ s∈V,Body prog av 167 [.ax 0 0,.agg (a8 (.nm s)),I n] [(0,dC p E k st cl sl)] 3 (jk (.agg (a8 (ed E (.nm s)))) [(0,dC p E k st cl sl)] 3):=by
  intro s hs;obtain⟨c,j,h1,h2⟩:=hE.v s hs;have hv:=sL p E k st cl sl hl s _ h1 WG n;simp only[ed,iu h1];refine Body.jb Tryz.func167 rfl GK (by simp[Tryz.ntmps167]) λ C hC OR=>?_;rw[Tryz.ntmps167] at hC;simp only[dC,pf] at hv |-;apply aq;simp[hC,a8];apply aT;simp[hC];refine cX ?_;simp;apply aq;simp[hC];refine TL.di ag [0] 3 (hv) OU rfl rfl rfl rfl xr Qe Qd rfl (TL.go' ag ?_);simp[hC,iF];rcases h2 with ⟨rfl,h2⟩ | ⟨rfl,h2⟩
  ·apply aT;simp[hC];refine cX ?_;simp;apply aq;simp[hC];apply T.ret;refine aa.le (Le.trim [6] [0,4] 5 Ue yA) ?_;simp;refine aa.le (Le.nz [] [4]) ?_;simp;refine aa.le (Le.cF (o:=4) rfl Uu) ?_;simp;refine aa.trim [6] [0] 3 xr yA ⟨_,?_,rfl,?_,rfl⟩
   ·simp[a8,eS]
   ·simp
  ·apply aT;simp[hC];refine eQ ?_;simp;apply aq;simp[hC];apply T.ret;refine aa.le (Le.trim [6] [0,4] 5 Ue yA) ?_;simp;refine aa.le (Le.nz [] [4]) ?_;simp;refine aa.le (Le.cF (o:=4) rfl Uu) ?_;simp;refine aa.trim [6] [0] 3 xr yA ⟨_,?_,rfl,?_,rfl⟩
   ·simp[a8,eS]
   ·simp
 intro d
 induction d with
 | zero=>
  intro e hw
  match e,hw with
  | .nm s,hw=>exact TN s (by simpa [fV] using hw)
  | .num c,hw=>exact mF p E k st cl sl n (.num c) (.num c) rfl rfl rfl rfl rfl Sz Sz
 | succ d ih=>
  intro e hw
  match e,hw with
  | .nm s,hw=>exact TN s (by simpa [fV] using hw)
  | .num c,hw=>exact mF p E k st cl sl n (.num c) (.num c) rfl rfl rfl rfl rfl Sz Sz
  | .un o x,hw=>
   simp only[fV] at hw;refine mF p E k st cl sl n (.un o x) (.un o (ed E x)) (by simp[Ex.op];omega) rfl rfl rfl rfl Sz λ y hy=>?_;simp only[Ex.args,mem_singleton] at hy;subst hy;exact ih _ hw.2
  | .bin o x y,hw=>
   simp only[fV] at hw;refine mF p E k st cl sl n (.bin o x y) (.bin o (ed E x) (ed E y)) (by simp[Ex.op];omega) rfl rfl rfl rfl Sz λ z hz=>?_;simp only[Ex.args,mem_cons,not_mem_nil,or_false] at hz;rcases hz with rfl | rfl
   ·exact ih _ hw.2.1
   ·exact ih _ hw.2.2
end Go.Proofs.YtlkmbdfhdknlgaaGreat
