/- The code of a program: what lowering makes of it, and its fo -/
import Derived.Test.YtnecpnjdonibmaaGreatZ16
namespace Go.aP
open Go.Can
structure En where
 name:ByteArray
 kind:Nat
 n:Nat
def gN (x:En):List CV:=[.str x.name,I x.kind,I x.n]
def iu:List En→ByteArray→Option En
 | [],_=>none
 | x::r,s=>if x.name=s then some x else iu r s
def kW (E:List En)(s:ByteArray):En:=(iu E s).getD ⟨eS,0,0⟩
theorem gG {E:List En}{s:ByteArray}{x:En}(h:iu E s=some x):kW E s=x:=by simp[kW,h]
theorem dj (A B:List En)(s:ByteArray):iu (A++B) s=(match iu A s with
  | some x=>some x
  | none=>iu B s):=by
 induction A with
 | nil=>rfl
 | cons a r ih=>
  simp only[List.cons_append,iu];split
  ·rfl
  ·exact ih
theorem pj {E:List En}{s:ByteArray}:iu E s=none↔s∉E.map (·.name):=by
 induction E with
 | nil=>simp[iu]
 | cons a r ih=>
  simp only[iu,List.map_cons,List.mem_cons,not_or];split
  ·rename_i h;simp[h]
  ·rename_i h;rw[ih];exact⟨fun h2=>⟨fun e=>h e.symm,h2⟩,fun h2=>h2.2⟩
def dA (E:List En):Ex→Ex
 | .nm s=>if (kW E s).kind=1 then .jE (kW E s).n else .loc (kW E s).n
 | .un k e=>.un k (dA E e)
 | .bin k a b=>.bin k (dA E a) (dA E b)
 | e=>e
def xG (E:List En)(r:Rf):Pl:=⟨decide ((kW E r.name).kind=5),(kW E r.name).n,r.index.map (dA E)⟩
def cR (E:List En):List Ar→List Ex
 | []=>[]
 | .exp e::l=>dA E e::cR E l
 | .ua _::l=>cR E l
def er (E:List En):List Ar→List Pl
 | []=>[]
 | .exp _::l=>er E l
 | .ua r::l=>xG E r::er E l
def eO (k:Nat):Sm→List En
 | .gA s _=>[⟨s,4,k⟩]
 | _=>[]
mutual
/-- The code of a statement that begins at place b, and the number of locals after it. -/
def dJ:Sm→List En→Nat→Nat→List In×Nat
 | .gA _ e,E,k,_=>([.set k false (dA E e)],k+1)
 | .hD s e,E,k,_=>([.set (kW E s).n (decide ((kW E s).kind=1)) (dA E e)],k)
 | .dI g s l,E,k,_=>([.call g (kW E s).n (cR E l) (er E l)],k)
 | .di u r,E,k,_=>([.lock u (xG E r)],k)
 | .kG e th el,E,k,b=>
  if el.length=0 then (.branch (b+1+(bM th E k (b+1)).1.length) (dA E e)::(bM th E k (b+1)).1,(bM th E k (b+1)).2)
  else (.branch (b+2+(bM th E k (b+1)).1.length) (dA E e)::((bM th E k (b+1)).1++.jump (b+2+(bM th E k (b+1)).1.length+(bM el E (bM th E k (b+1)).2 (b+2+(bM th E k (b+1)).1.length)).1.length) ::
   (bM el E (bM th E k (b+1)).2 (b+2+(bM th E k (b+1)).1.length)).1),(bM el E (bM th E k (b+1)).2 (b+2+(bM th E k (b+1)).1.length)).2)
 | .cC e th,E,k,b=>(.branch (b+2+(bM th E k (b+1)).1.length) (dA E e)::((bM th E k (b+1)).1++[.jump b]),(bM th E k (b+1)).2)
 | .jb,_,k,_=>([.ret],k)
def bM:List Sm→List En→Nat→Nat→List In×Nat
 | [],_,k,_=>([],k)
 | s::r,E,k,b=>((dJ s E k b).1++(bM r (E++eO k s) (dJ s E k b).2 (b+(dJ s E k b).1.length)).1,(bM r (E++eO k s) (dJ s E k b).2 (b+(dJ s E k b).1.length)).2)
end
mutual
/-- The number of statements. -/
def mU:Sm→Nat
 | .kG _ th el=>1+eK th+eK el
 | .cC _ th=>1+eK th
 | _=>1
def eK:List Sm→Nat
 | []=>0
 | s::r=>mU s+eK r
end
mutual
/-- The statements of the instructions; the statement itself is number s. -/
def uW:Sm→Nat→List Nat
 | .kG _ th el,s=>if el.length=0 then s::gZ th (s+1) else s::(gZ th (s+1)++s::gZ el (s+1+eK th))
 | .cC _ th,s=>s::(gZ th (s+1)++[s])
 | _,s=>[s]
def gZ:List Sm→Nat→List Nat
 | [],_=>[]
 | x::r,s=>uW x s++gZ r (s+mU x)
end
def Dm (c:Nat):Nat→List ByteArray→List En
 | _,[]=>[]
 | i,s::r=>⟨s,c,i⟩ :: Dm c (i+1) r
def cU (p:Pg):List En:=Dm 1 0 (p.gs.map (·.name))++Dm 2 0 (p.ms.map (·.name))++Dm 3 0 (p.fs.map (·.name))
def kg:Nat→Nat→List Pm→List En
 | _,_,[]=>[]
 | i,j,p::r=>if p.mutex=true then ⟨p.name,5,j⟩ :: kg i (j+1) r else ⟨p.name,4,i⟩ :: kg (i+1) j r
def pI:List Pm→Nat
 | []=>0
 | p::r=>(if p.mutex=true then 0 else 1)+pI r
def pL:List Pm→Nat
 | []=>0
 | p::r=>(if p.mutex=true then 1 else 0)+pL r
def p5 (p:Pg)(f:Fu):List En:=cU p++kg 0 0 f.params
def l8 (p:Pg)(f:Fu):Pr:=⟨f.name,pI f.params,pL f.params,(bM f.body (p5 p f) (pI f.params) 0).2,(bM f.body (p5 p f) (pI f.params) 0).1++[.ret]⟩
def kJ (p:Pg):Un:=⟨p.gs.map (·.init),p.ms,p.fs.map (l8 p),0⟩
def AU (g k:Nat):Ex→Prop
 | .num n=>n<4611686018427387904
 | .loc i=>i<k
 | .jE i=>i<g
 | .un o e=>o<2∧AU g k e
 | .bin o a b=>o<13∧AU g k a∧AU g k b
 | _=>False
def Fl (ms:List Mx)(g k L:Nat)(p:Pl):Prop:=
 (p.param=true∧p.index<L∧p.at_=none)∨(p.param=false∧∃ m,ms[p.index]? = some m∧((p.at_=none∧m.size=0)∨∃ e,p.at_=some e∧0<m.size∧AU g k e))
def FD (IL:List (Nat×Nat))(ms:List Mx)(g k L M:Nat):In→Prop
 | .set t gl e=>(if gl=true then t<g else t<k)∧AU g k e
 | .call _ t is ps=>IL[t]? = some (is.length,ps.length)∧(∀ e∈is,AU g k e)∧∀ p∈ps,Fl ms g k L p
 | .lock _ p=>Fl ms g k L p
 | .branch t e=>t≤M∧AU g k e
 | .jump t=>t≤M
 | .ret=>True
theorem AU.mono {g k k':Nat}(h:k≤k'):∀ {e:Ex},AU g k e→AU g k' e
 | .num _,hx=>hx
 | .loc _,hx=>Nat.lt_of_lt_of_le hx h
 | .jE _,hx=>hx
 | .un _ _,hx=>⟨hx.1,AU.mono h hx.2⟩
 | .bin _ _ _,hx=>⟨hx.1,AU.mono h hx.2.1,AU.mono h hx.2.2⟩
 | .zero,hx=>hx.elim
 | .nm _,hx=>hx.elim
theorem Fl.mono {ms:List Mx}{g k k' L:Nat}(h:k≤k'){p:Pl}(hp:Fl ms g k L p):Fl ms g k' L p:=by
 rcases hp with hp | ⟨h1,m,h2,h3 | ⟨e,h3,h4,h5⟩⟩
 ·exact .inl hp
 ·exact .inr ⟨h1,m,h2,.inl h3⟩
 ·exact .inr ⟨h1,m,h2,.inr ⟨e,h3,h4,h5.mono h⟩⟩
theorem FD.mono {IL:List (Nat×Nat)}{ms:List Mx}{g k k' L M M':Nat}(h:k≤k')(hM:M≤M'){i:In}(hi:FD IL ms g k L M i):FD IL ms g k' L M' i:=by
 cases i with
 | set t gl e=>
  refine⟨?_,hi.2.mono h⟩;have:=hi.1;split at this
  ·rename_i hg;rw[if_pos hg];exact this
  ·rename_i hg;rw[if_neg hg];omega
 | call go t is ps=>exact⟨hi.1,fun e he=>(hi.2.1 e he).mono h,fun p hp=>(hi.2.2 p hp).mono h⟩
 | lock u p=>exact Fl.mono h hi
 | branch t e=>exact⟨Nat.le_trans hi.1 hM,hi.2.mono h⟩
 | jump t=>exact Nat.le_trans hi hM
 | ret=>trivial
structure EW (g:Nat)(ms:List Mx)(fs:List (ByteArray×List Pm))(ps:List Pm)(V:List ByteArray)(E:List En)(k:Nat):Prop where
 m:∀ m∈ms,∃ j,iu E m.name=some ⟨m.name,2,j⟩∧ms[j]? = some m
 f:∀ f∈fs,∃ j,iu E f.1=some ⟨f.1,3,j⟩∧fs[j]? = some f
 p:∀ p∈ps,p.mutex=true→∃ j,iu E p.name=some ⟨p.name,5,j⟩∧j<pL ps
 v:∀ s∈V,∃ c j,iu E s=some ⟨s,c,j⟩∧((c=1∧j<g)∨(c=4∧j<k))
 o:∀ s,s∉V→s∉nG++nM++nF++nP→iu E s=none
theorem EW.add {g:Nat}{ms:List Mx}{fs:List (ByteArray×List Pm)}{ps:List Pm}{V:List ByteArray}{E:List En}{k:Nat}(h:EW g ms fs ps V E k){s:ByteArray}(hs:iu E s=none):EW g ms fs ps (V++[s]) (E++[⟨s,4,k⟩]) (k+1):=by
 have hk:∀ {t:ByteArray} {x:En},iu E t=some x→iu (E++[⟨s,4,k⟩]) t=some x:=fun {t x} ht=>by rw[dj,ht]
 refine⟨fun m hm=>?_,fun f hf=>?_,fun p hp ir=>?_,fun t ht=>?_,fun t ht ht2=>?_⟩
 ·obtain⟨j,h1,h2⟩:=h.m m hm;exact⟨j,hk h1,h2⟩
 ·obtain⟨j,h1,h2⟩:=h.f f hf;exact⟨j,hk h1,h2⟩
 ·obtain⟨j,h1,h2⟩:=h.p p hp ir;exact⟨j,hk h1,h2⟩
 ·rcases List.mem_append.1 ht with ht | ht
  ·obtain⟨c,j,h1,h2⟩:=h.v t ht;exact⟨c,j,hk h1,by omega⟩
  ·rw[List.mem_singleton] at ht;subst ht;exact⟨4,k,by rw[dj,hs];simp[iu],.inr ⟨rfl,by omega⟩⟩
 ·rw[List.mem_append,not_or,List.mem_singleton] at ht;rw[dj,h.o t ht.1 ht2];simp only[iu];rw[if_neg fun e=>ht.2 e.symm]
theorem EW.up {g:Nat}{ms:List Mx}{fs:List (ByteArray×List Pm)}{ps:List Pm}{V:List ByteArray}{E:List En}{k k':Nat}(h:EW g ms fs ps V E k)(hk:k≤k'):EW g ms fs ps V E k':=
 ⟨h.m,h.f,h.p,fun s hs=>by
  obtain⟨c,j,h1,h2⟩:=h.v s hs;exact⟨c,j,h1,by omega⟩,h.o⟩
section
variable {g:Nat}{ms:List Mx}{fs:List (ByteArray×List Pm)}{ps:List Pm}{V:List ByteArray}{E:List En}{k:Nat}
theorem EW.ex (h:EW g ms fs ps V E k):∀ {d:Nat} {e:Ex},fc V d e→AU g k (dA E e)
 | _,.num n,hx=>by simpa [fc,dA,AU] using hx
 | _,.nm s,hx=>by
  simp only[fc] at hx;obtain⟨c,j,h1,h2⟩:=h.v s hx;simp only[dA,gG h1];rcases h2 with ⟨rfl,h2⟩ | ⟨rfl,h2⟩
  ·exact h2
  ·exact h2
 | d+1,.un o e,hx=>by
  simp only[fc] at hx;exact⟨hx.1,h.ex hx.2⟩
 | d+1,.bin o a b,hx=>by
  simp only[fc] at hx;exact⟨hx.1,h.ex hx.2.1,h.ex hx.2.2⟩
 | 0,.un _ _,hx=>hx.elim
 | 0,.bin _ _ _,hx=>hx.elim
 | 0,.zero,hx=>hx.elim
 | 0,.loc _,hx=>hx.elim
 | 0,.jE _,hx=>hx.elim
 | _+1,.zero,hx=>hx.elim
 | _+1,.loc _,hx=>hx.elim
 | _+1,.jE _,hx=>hx.elim
theorem EW.rf (h:EW g ms fs ps V E k){r:Rf}(hr:FC ms ps V r):Fl ms g k (pL ps) (xG E r):=by
 rcases hr with ⟨m,hm,hn,hi⟩ | ⟨p,hp,ir,hn,hi⟩
 ·obtain⟨j,h1,h2⟩:=h.m m hm;rw[← hn] at h1;refine .inr ⟨by simp[xG,gG h1],m,by simpa [xG,gG h1] using h2,?_⟩;rcases hi with ⟨h3,h4⟩ | ⟨e,h3,h4,h5⟩
  ·exact .inl ⟨by simp[xG,h3],h4⟩
  ·exact .inr ⟨dA E e,by simp[xG,h3],h4,h.ex h5⟩
 ·obtain⟨j,h1,h2⟩:=h.p p hp ir;rw[← hn] at h1;exact .inl ⟨by simp[xG,gG h1],by simpa [xG,gG h1] using h2,by simp[xG,hi]⟩
theorem EW.ars (h:EW g ms fs ps V E k):∀ {gp:List Pm} {l:List Ar},iR ms ps V gp l→(cR E l).length=pI gp∧(er E l).length=pL gp∧(∀ e∈cR E l,AU g k e)∧∀ p∈er E l,Fl ms g k (pL ps) p
 | [],[],_=>by simp[cR,er,pI,pL]
 | q::gp,a::l,hx=>by
  simp only[iR] at hx;obtain⟨i1,i2,i3,i4⟩:=h.ars hx.2
  cases a with
  | ua r=>
   refine⟨by simp[cR,pI,hx.1.1,i1],by simp[er,pL,hx.1.1,i2];omega,i3,fun p hp=>?_⟩;simp only[er,List.mem_cons] at hp;rcases hp with rfl | hp
   ·exact h.rf hx.1.2
   ·exact i4 p hp
  | exp e=>
   refine⟨by simp[cR,pI,hx.1.1,i1];omega,by simp[er,pL,hx.1.1,i2],fun x hp=>?_,i4⟩;simp only[cR,List.mem_cons] at hp;rcases hp with rfl | hp
   ·exact h.ex hx.1.2
   ·exact i3 x hp
 | [],_::_,hx=>hx.elim
 | _::_,[],hx=>hx.elim
end
theorem vu (k:Nat)(hk:k<24):eR k∉nG++nM++nF++nP:=by
 obtain⟨h1,h2,h3,h4⟩:=qE k hk;simp only[List.mem_append,not_or];exact⟨⟨⟨h1,h2⟩,h3⟩,h4⟩
def LS (x:ByteArray×List Pm):Nat×Nat:=(pI x.2,pL x.2)
theorem y9 {g:Nat}{ms:List Mx}{fs:List (ByteArray×List Pm)}{ps:List Pm} :
  (∀ s:Sm,∀ d V E k b,EW g ms fs ps V E k→dB ms fs ps d V s→k≤(dJ s E k b).2∧(∀ i∈(dJ s E k b).1,FD (fs.map LS) ms g (dJ s E k b).2 (pL ps) (b+(dJ s E k b).1.length) i)∧EW g ms fs ps (V++dE s) (E++eO k s) (dJ s E k b).2∧8*(dJ s E k b).1.length≤dO s∧(dJ s E k b).2≤k+mU s)∧
  (∀ l:List Sm,∀ d V E k b,EW g ms fs ps V E k→cI ms fs ps d V l→k≤(bM l E k b).2∧(∀ i∈(bM l E k b).1,FD (fs.map LS) ms g (bM l E k b).2 (pL ps) (b+(bM l E k b).1.length) i)∧8*(bM l E k b).1.length≤bH l∧(bM l E k b).2≤k+eK l):=by
 let M1:Sm→Prop:=fun s=>∀ d V E k b,EW g ms fs ps V E k→dB ms fs ps d V s→k≤(dJ s E k b).2∧(∀ i∈(dJ s E k b).1,FD (fs.map LS) ms g (dJ s E k b).2 (pL ps) (b+(dJ s E k b).1.length) i)∧EW g ms fs ps (V++dE s) (E++eO k s) (dJ s E k b).2∧8*(dJ s E k b).1.length≤dO s∧(dJ s E k b).2≤k+mU s
 let M2:List Sm→Prop:=fun l=>∀ d V E k b,EW g ms fs ps V E k→cI ms fs ps d V l→k≤(bM l E k b).2∧(∀ i∈(bM l E k b).1,FD (fs.map LS) ms g (bM l E k b).2 (pL ps) (b+(bM l E k b).1.length) i)∧8*(bM l E k b).1.length≤bH l∧(bM l E k b).2≤k+eK l
 have A1:∀ (s:ByteArray) (e:Ex),M1 (.gA s e):=by
  intro s e d V E k b hE hw;simp only[dB] at hw;obtain⟨⟨j,hj,rfl⟩,hv,he⟩:=hw;have hn:iu E (eR j)=none:=hE.o _ hv (vu j hj);refine⟨by simp[dJ],fun i hi=>?_,hE.add hn,by simp[dJ,dO],by simp[dJ,mU]⟩;simp only[dJ,List.mem_singleton] at hi ⊢;subst hi;exact⟨by simp,(hE.ex he).mono yA⟩
 have A2:∀ (s:ByteArray) (e:Ex),M1 (.hD s e):=by
  intro s e d V E k b hE hw;simp only[dB] at hw;obtain⟨c,j,h1,h2⟩:=hE.v s hw.1;refine⟨by simp[dJ],fun i hi=>?_,by simpa [dE,eO,dJ] using hE,by simp[dJ,dO],by simp[dJ,mU]⟩;simp only[dJ,List.mem_singleton] at hi ⊢;subst hi;refine⟨?_,hE.ex hw.2⟩;rw[gG h1];rcases h2 with ⟨rfl,h2⟩ | ⟨rfl,h2⟩
  ·simpa using h2
  ·simpa using h2
 have A3:∀ (g:Bool) (s:ByteArray) (l:List Ar),M1 (.dI g s l):=by
  intro go s l d V E k b hE hw;simp only[dB] at hw;obtain⟨gp,h1,h2⟩:=hw;obtain⟨j,h3,h4⟩:=hE.f _ h1;obtain⟨a1,a2,a3,a4⟩:=hE.ars h2;refine⟨by simp[dJ],fun i hi=>?_,by simpa [dE,eO,dJ] using hE,by simp[dJ,dO],by simp[dJ,mU]⟩;simp only[dJ,List.mem_singleton] at hi ⊢;subst hi;refine⟨?_,a3,a4⟩;rw[gG h3,List.getElem?_map,h4];simp[LS,a1,a2]
 have A4:∀ (u:Bool) (r:Rf),M1 (.di u r):=by
  intro u r d V E k b hE hw;simp only[dB] at hw;refine⟨by simp[dJ],fun i hi=>?_,by simpa [dE,eO,dJ] using hE,by simp[dJ,dO],by simp[dJ,mU]⟩;simp only[dJ,List.mem_singleton] at hi ⊢;subst hi;exact hE.rf hw
 have A5:∀ (e:Ex) (th el:List Sm),M2 th→M2 el→M1 (.kG e th el):=by
  intro e th el i1 i2 d V E k b hE hw
  cases d with
  | zero=>simp[dB] at hw
  | succ d=>
   simp only[dB] at hw;obtain⟨a1,a2,a3,a4⟩:=i1 d V E k (b+1) hE hw.2.1;by_cases Qq:el.length=0
   ·refine⟨by simpa [dJ,Qq] using a1,fun i hi=>?_,by simpa [dE,eO,dJ,Qq] using hE.up a1,by simp[dJ,dO,Qq];omega,by simp[dJ,mU,Qq];omega⟩;simp only[dJ,Qq,if_true,List.mem_cons,List.length_cons] at hi ⊢;rcases hi with rfl | hi
    ·exact⟨by omega,(hE.ex hw.1).mono a1⟩
    ·exact (a2 i hi).mono (Nat.le_refl _) yA
   ·obtain⟨b1,b2,b3,b4⟩:=i2 d V E (bM th E k (b+1)).2 (b+2+(bM th E k (b+1)).1.length) (hE.up a1) hw.2.2;refine⟨by simp only[dJ,Qq,if_false];omega,fun i hi=>?_,by simpa [dE,eO,dJ,Qq] using hE.up (Nat.le_trans a1 b1),by simp[dJ,dO,Qq];omega,by simp only[dJ,mU,Qq,if_false];omega⟩;simp only[dJ,Qq,if_false,List.mem_cons,List.mem_append,List.length_cons,List.length_append] at hi ⊢;rcases hi with rfl | hi | rfl | hi
    ·exact⟨by omega,(hE.ex hw.1).mono (Nat.le_trans a1 b1)⟩
    ·exact (a2 i hi).mono b1 yA
    ·exact Nat.le_trans (Nat.le_refl _) yA
    ·exact (b2 i hi).mono (Nat.le_refl _) yA
 have A6:∀ (e:Ex) (th:List Sm),M2 th→M1 (.cC e th):=by
  intro e th i1 d V E k b hE hw
  cases d with
  | zero=>simp[dB] at hw
  | succ d=>
   simp only[dB] at hw;obtain⟨a1,a2,a3,a4⟩:=i1 d V E k (b+1) hE hw.2;refine⟨by simpa [dJ] using a1,fun i hi=>?_,by simpa [dE,eO,dJ] using hE.up a1,by simp[dJ,dO];omega,by simp[dJ,mU];omega⟩;simp only[dJ,List.mem_cons,List.mem_append,List.length_cons,List.length_append,List.length_nil,List.not_mem_nil,or_false] at hi ⊢;rcases hi with rfl | hi | rfl
   ·exact⟨by omega,(hE.ex hw.1).mono a1⟩
   ·exact (a2 i hi).mono (Nat.le_refl _) yA
   ·exact Nat.le_trans (Nat.le_refl _) yA
 have A7:M1 .jb:=by
  intro d V E k b hE _;refine⟨by simp[dJ],fun i hi=>?_,by simpa [dE,eO,dJ] using hE,by simp[dJ,dO],by simp[dJ,mU]⟩;simp only[dJ,List.mem_singleton] at hi ⊢;subst hi;trivial
 have A0:M2 []:=by
  intro d V E k b hE _;exact⟨by simp[bM],fun i hi=>by simp[bM] at hi,by simp[bM],by simp[bM,eK]⟩
 have A8:∀ (s:Sm) (r:List Sm),M1 s→M2 r→M2 (s::r):=by
  intro s r i1 i2 d V E k b hE hw;simp only[cI] at hw;obtain⟨a1,a2,a3,a4,a5⟩:=i1 d V E k b hE hw.1;obtain⟨b1,b2,b3,b4⟩:=i2 d (V++dE s) (E++eO k s) (dJ s E k b).2 (b+(dJ s E k b).1.length) a3 hw.2;refine⟨by simp only[bM];omega,fun i hi=>?_,by simp only[bM,bH,List.length_append];omega,by simp only[bM,eK];omega⟩;simp only[bM,List.mem_append,List.length_append] at hi ⊢;rcases hi with hi | hi
  ·exact (a2 i hi).mono b1 yA
  ·exact (b2 i hi).mono (Nat.le_refl _) yA
 exact⟨fun s=>Sm.rec (motive_1:=M1) (motive_2:=M2) A1 A2 A3 A4 A5 A6 A7 A0 A8 s,fun l=>Sm.rec_1 (motive_1:=M1) (motive_2:=M2) A1 A2 A3 A4 A5 A6 A7 A0 A8 l⟩
theorem xB:(∀ s:Sm,8*mU s≤dO s)∧(∀ l:List Sm,8*eK l≤bH l):=by
 let M1:Sm→Prop:=fun s=>8*mU s≤dO s
 let M2:List Sm→Prop:=fun l=>8*eK l≤bH l
 have A5:∀ (e:Ex) (th el:List Sm),M2 th→M2 el→M1 (.kG e th el):=fun e th el h1 h2=>by
  simp only[M1,M2,mU,dO] at *;omega
 have A6:∀ (e:Ex) (th:List Sm),M2 th→M1 (.cC e th):=fun e th h1=>by
  simp only[M1,M2,mU,dO] at *;omega
 have A8:∀ (s:Sm) (r:List Sm),M1 s→M2 r→M2 (s::r):=fun s r h1 h2=>by
  simp only[M1,M2,eK,bH] at *;omega
 have A1:∀ (s:ByteArray) (e:Ex),M1 (.gA s e):=fun s e=>by simp[M1,mU,dO]
 have A2:∀ (s:ByteArray) (e:Ex),M1 (.hD s e):=fun s e=>by simp[M1,mU,dO]
 have A3:∀ (g:Bool) (s:ByteArray) (l:List Ar),M1 (.dI g s l):=fun g s l=>by simp[M1,mU,dO]
 have A4:∀ (u:Bool) (r:Rf),M1 (.di u r):=fun u r=>by simp[M1,mU,dO]
 have A7:M1 .jb:=by simp[M1,mU,dO]
 have A0:M2 []:=by simp[M2,eK,bH]
 exact⟨fun s=>Sm.rec (motive_1:=M1) (motive_2:=M2) A1 A2 A3 A4 A5 A6 A7 A0 A8 s,fun l=>Sm.rec_1 (motive_1:=M1) (motive_2:=M2) A1 A2 A3 A4 A5 A6 A7 A0 A8 l⟩
theorem pt {c:Nat}:∀ {l:List ByteArray} {i j:Nat} {s:ByteArray},l[j]? = some s→l.Nodup→iu (Dm c i l) s=some ⟨s,c,i+j⟩
 | [],_,_,_,h,_=>by simp at h
 | x::r,i,0,s,h,_=>by
  simp only[List.getElem?_cons_zero,Option.some.injEq] at h;subst h;simp[Dm,iu]
 | x::r,i,j+1,s,h,hn=>by
  simp only[List.getElem?_cons_succ] at h;rw[List.nodup_cons] at hn;have hx:x≠s:=fun e=>hn.1 (by rw[e];exact List.mem_of_getElem? h);simp only[Dm,iu];rw[if_neg hx,pt h hn.2];congr 2;omega
theorem k8 (c:Nat):∀ (l:List ByteArray) (i:Nat),(Dm c i l).map (·.name)=l
 | [],_=>rfl
 | s::r,i=>by simp[Dm,k8 c r]
theorem dN {c i:Nat}{l:List ByteArray}{s:ByteArray}(h:s∉l):iu (Dm c i l) s=none:=by
 rw[pj,k8];exact h
theorem om:∀ (l:List Pm) (i j:Nat),(kg i j l).map (·.name)=l.map (·.name)
 | [],_,_=>rfl
 | p::r,i,j=>by
  simp only[kg];split<;>simp[om r]
theorem ph:∀ {l:List Pm} {i j:Nat} {p:Pm},(l.map (·.name)).Nodup→p∈l→(p.mutex=true→∃ n,iu (kg i j l) p.name=some ⟨p.name,5,n⟩∧n<j+pL l)∧(p.mutex=false→∃ n,iu (kg i j l) p.name=some ⟨p.name,4,n⟩∧n<i+pI l)
 | [],_,_,_,_,h=>by simp at h
 | q::r,i,j,p,hn,hp=>by
  simp only[List.map_cons,List.nodup_cons] at hn;rcases List.mem_cons.1 hp with rfl | hp
  ·refine⟨fun hm=>⟨j,by simp[kg,hm,iu],by simp[pL,hm];omega⟩,fun hm=>⟨i,by simp[kg,hm,iu],by simp[pI,hm];omega⟩⟩
  ·have hx:q.name≠p.name:=fun e=>hn.1 (by rw[e];exact List.mem_map_of_mem hp)
   cases hq:q.mutex with
   | true=>
    obtain⟨h1,h2⟩:=ph (i:=i) (j:=j+1) hn.2 hp;refine⟨fun hm=>?_,fun hm=>?_⟩
    ·obtain⟨n,h3,h4⟩:=h1 hm;exact⟨n,by simp[kg,hq,iu,hx,h3],by simp[pL,hq];omega⟩
    ·obtain⟨n,h3,h4⟩:=h2 hm;exact⟨n,by simp[kg,hq,iu,hx,h3],by simp[pI,hq];omega⟩
   | false=>
    obtain⟨h1,h2⟩:=ph (i:=i+1) (j:=j) hn.2 hp;refine⟨fun hm=>?_,fun hm=>?_⟩
    ·obtain⟨n,h3,h4⟩:=h1 hm;exact⟨n,by simp[kg,hq,iu,hx,h3],by simp[pL,hq];omega⟩
    ·obtain⟨n,h3,h4⟩:=h2 hm;exact⟨n,by simp[kg,hq,iu,hx,h3],by simp[pI,hq];omega⟩
theorem gg:(∀ s∈nM,s∉nG)∧(∀ s∈nF,s∉nG∧s∉nM)∧(∀ s∈nP,s∉nG∧s∉nM∧s∉nF)∧nG.Nodup∧nM.Nodup∧nF.Nodup∧nP.Nodup:=by
 have h1:∀ s∈nM,∀ t∈nG,s≠t:=by decide
 have h2:∀ s∈nF,∀ t∈nG++nM,s≠t:=by decide
 have h3:∀ s∈nP,∀ t∈nG++nM++nF,s≠t:=by decide
 refine⟨fun s hs hx=>h1 s hs s hx rfl,fun s hs=>⟨fun hx=>h2 s hs s (by simp[hx]) rfl,fun hx=>h2 s hs s (by simp[hx]) rfl⟩,fun s hs=>⟨fun hx=>h3 s hs s (by simp[hx]) rfl,fun hx=>h3 s hs s (by simp[hx]) rfl,fun hx=>h3 s hs s (by simp[hx]) rfl⟩,?_,?_,?_,?_⟩<;>
  simp only[List.Nodup,nG,nM,nF,nP,List.pairwise_cons,List.Pairwise.nil,and_true]<;>decide
theorem oO {l:List ByteArray}{k:Nat}{s:ByteArray}(h:s∈l.take k):s∈l:=List.mem_of_mem_take h
theorem iX {α β:Type}{l:List α}(f:α→β){a:α}(h:a∈l):∃ j:Nat,l[j]? = some a∧(l.map f)[j]? = some (f a):=by
 obtain⟨j,hj⟩:=List.mem_iff_getElem?.1 h;exact⟨j,hj,by rw[List.getElem?_map,hj];rfl⟩
section
variable {p:Pg}(h:jP p)
include h
theorem jP.sub:(∀ s∈p.gs.map (·.name),s∈nG)∧(∀ s∈p.ms.map (·.name),s∈nM)∧(∀ s∈p.fs.map (·.name),s∈nF)∧(∀ f∈p.fs,∀ s∈f.params.map (·.name),s∈nP):=by
 obtain⟨k1,_,e1⟩:=h.gn;obtain⟨k2,_,_,e2⟩:=h.mn;obtain⟨k3,_,_,e3⟩:=h.fn;refine⟨fun s hs=>?_,fun s hs=>?_,fun s hs=>?_,fun f hf s hs=>?_⟩
 ·rw[e1] at hs;exact oO hs
 ·rw[e2] at hs;exact oO hs
 ·rw[e3] at hs;exact oO hs
 ·obtain⟨k,_,e⟩:=h.pn f hf;rw[e,List.mem_reverse] at hs;exact oO hs
theorem jP.nd:(p.gs.map (·.name)).Nodup∧(p.ms.map (·.name)).Nodup∧(p.fs.map (·.name)).Nodup∧∀ f∈p.fs,(f.params.map (·.name)).Nodup:=by
 obtain⟨_,_,_,n1,n2,n3,n4⟩:=gg;obtain⟨k1,_,e1⟩:=h.gn;obtain⟨k2,_,_,e2⟩:=h.mn;obtain⟨k3,_,_,e3⟩:=h.fn;refine⟨?_,?_,?_,fun f hf=>?_⟩
 ·rw[e1];exact n1.sublist (List.take_sublist _ _)
 ·rw[e2];exact n2.sublist (List.take_sublist _ _)
 ·rw[e3];exact n3.sublist (List.take_sublist _ _)
 ·obtain⟨k,_,e⟩:=h.pn f hf;rw[e];exact List.pairwise_reverse.2 ((n4.sublist (List.take_sublist _ _)).imp fun h=>Ne.symm h)
theorem jP.dec:(∀ g∈p.gs,∃ j,iu (cU p) g.name=some ⟨g.name,1,j⟩∧j<p.gs.length)∧(∀ m∈p.ms,∃ j,iu (cU p) m.name=some ⟨m.name,2,j⟩∧p.ms[j]? = some m)∧
  (∀ f∈p.fs,∃ j,iu (cU p) f.name=some ⟨f.name,3,j⟩∧p.fs[j]? = some f)∧(∀ s,s∉nG++nM++nF→iu (cU p) s=none):=by
 obtain⟨a1,a2,_,_⟩:=gg;obtain⟨s1,s2,s3,_⟩:=h.sub;obtain⟨d1,d2,d3,_⟩:=h.nd;refine⟨fun g hg=>?_,fun m hm=>?_,fun f hf=>?_,fun s hs=>?_⟩
 ·obtain⟨j,h1,h2⟩:=iX (·.name) hg;refine⟨j,?_,(List.getElem?_eq_some_iff.1 h1).1⟩;rw[cU,dj,dj,pt h2 d1];simp
 ·obtain⟨j,h1,h2⟩:=iX (·.name) hm;refine⟨j,?_,h1⟩;have Q1:=s2 _ (List.mem_map_of_mem (f:=(·.name)) hm);rw[cU,dj,dj,dN (fun hx=>a1 _ Q1 (s1 _ hx)),pt h2 d2];simp
 ·obtain⟨j,h1,h2⟩:=iX (·.name) hf;refine⟨j,?_,h1⟩;have Q1:=s3 _ (List.mem_map_of_mem (f:=(·.name)) hf);rw[cU,dj,dj,dN (fun hx=>(a2 _ Q1).1 (s1 _ hx)),dN (fun hx=>(a2 _ Q1).2 (s2 _ hx)),pt h2 d3];simp
 ·simp only[List.mem_append,not_or] at hs;rw[cU,dj,dj,dN (fun hx=>hs.1.1 (s1 _ hx)),dN (fun hx=>hs.1.2 (s2 _ hx)),dN (fun hx=>hs.2 (s3 _ hx))]
theorem jP.ew {f:Fu}(hf:f∈p.fs):EW p.gs.length p.ms (p.fs.map fun f=>(f.name,f.params)) f.params (jf p.gs f.params) (p5 p f) (pI f.params):=by
 obtain⟨d1,d2,d3,d4⟩:=h.dec;obtain⟨_,_,a3,_⟩:=gg;obtain⟨_,_,_,s4⟩:=h.sub;obtain⟨_,_,_,n4⟩:=h.nd;have XM:∀ q∈f.params,iu (cU p) q.name=none:=fun q hq=>by
  have:=s4 f hf _ (List.mem_map_of_mem (f:=(·.name)) hq);have:=a3 _ this;exact d4 _ (by simp only[List.mem_append,not_or];exact⟨⟨this.1,this.2.1⟩,this.2.2⟩)
 refine⟨fun m hm=>?_,fun x hx=>?_,fun q hq hq2=>?_,fun s hs=>?_,fun s hs XG=>?_⟩
 ·obtain⟨j,h1,h2⟩:=d2 m hm;exact⟨j,by rw[p5,dj,h1],h2⟩
 ·rw[List.mem_map] at hx;obtain⟨f',Yb,rfl⟩:=hx;obtain⟨j,h1,h2⟩:=d3 f' Yb;exact⟨j,by rw[p5,dj,h1],by rw[List.getElem?_map,h2];rfl⟩
 ·obtain⟨n,h1,h2⟩:=(ph (i:=0) (j:=0) (n4 f hf) hq).1 hq2;exact⟨n,by rw[p5,dj,XM q hq];exact h1,by omega⟩
 ·simp only[jf,List.mem_append,List.mem_flatMap,List.mem_map] at hs;rcases hs with ⟨g,hg,rfl⟩ | ⟨q,hq,hs⟩
  ·obtain⟨j,h1,h2⟩:=d1 g hg;exact⟨1,j,by rw[p5,dj,h1],.inl ⟨rfl,h2⟩⟩
  ·cases hm:q.mutex with
   | true=>simp[hm] at hs
   | false=>
    simp[hm] at hs;subst hs;obtain⟨n,h1,h2⟩:=(ph (i:=0) (j:=0) (n4 f hf) hq).2 hm;exact⟨4,n,by rw[p5,dj,XM q hq];exact h1,.inr ⟨rfl,by omega⟩⟩
 ·have hs3:=XG;simp only[List.mem_append,not_or] at hs3;rw[p5,dj,d4 s (by simp only[List.mem_append,not_or];exact hs3.1)];rw[pj,om];exact fun hx=>hs3.2 (s4 f hf _ hx)
end
theorem pIL:∀ l:List Pm,pI l+pL l=l.length
 | []=>rfl
 | p::r=>by
  have:=pIL r;simp only[pI,pL,List.length_cons];split<;>omega
structure ik (u:Un):Prop where
 np:1≤u.ps.length∧u.ps.length≤4
 nm:1≤u.ms.length∧u.ms.length≤4
 ng:u.gs.length≤2
 gi:∀ g∈u.gs,-2≤g∧g≤2
 mz:∀ m∈u.ms,m.size≤3∧(m.re=true→m.size=0)
 main:u.main=0
 p0:∀ q,u.ps[0]? = some q→q.ints=0∧q.bx=0
 pr:∀ q∈u.ps,q.ints≤2∧q.bx≤2∧q.ints≤q.locals∧q.locals≤200∧q.code.length≤145
 pc:∀ q∈u.ps,(∃ c,q.code=c++[.ret])∧∀ i∈q.code,FD (u.ps.map fun q=>(q.ints,q.bx)) u.ms u.gs.length q.locals q.bx (q.code.length-1) i
theorem jP.unit {p:Pg}(h:jP p)(hw:∀ f∈p.fs,bH f.body≤1152)(hp:∀ f∈p.fs,f.params.length≤2):ik (kJ p):=by
 obtain⟨k1,VC,e1⟩:=h.gn;obtain⟨k2,_,UX,e2⟩:=h.mn;obtain⟨k3,_,hk3,e3⟩:=h.fn;have l1:=congrArg List.length e1;have l2:=congrArg List.length e2;have l3:=congrArg List.length e3;simp[nG] at l1;simp[nM] at l2;simp[nF] at l3;have hs:∀ f∈p.fs,pI f.params≤(bM f.body (p5 p f) (pI f.params) 0).2∧(∀ i∈(bM f.body (p5 p f) (pI f.params) 0).1,FD ((p.fs.map fun f=>(f.name,f.params)).map LS) p.ms p.gs.length (bM f.body (p5 p f) (pI f.params) 0).2 (pL f.params) (0+(bM f.body (p5 p f) (pI f.params) 0).1.length) i)∧8*(bM f.body (p5 p f) (pI f.params) 0).1.length≤bH f.body∧(bM f.body (p5 p f) (pI f.params) 0).2≤pI f.params+eK f.body:=
  fun f hf=>y9.2 f.body 2 _ _ _ 0 (h.ew hf) (h.bd f hf)
 have UA:(kJ p).ps.map (fun q=>(q.ints,q.bx))=(p.fs.map fun f=>(f.name,f.params)).map LS:=by
  simp only[kJ,List.map_map];rfl
 refine⟨by simp only[kJ,List.length_map];omega,by simp only[kJ];omega,by simp only[kJ,List.length_map];omega,fun g hg=>?_,h.mz,rfl,fun q hq=>?_,fun q hq=>?_,fun q hq=>?_⟩
 ·simp only[kJ,List.mem_map] at hg;obtain⟨x,hx,rfl⟩:=hg;exact h.gi x hx
 ·simp only[kJ,List.getElem?_map,Option.map_eq_some_iff] at hq;obtain⟨f,hf,rfl⟩:=hq;simp[l8,h.f0 f hf,pI,pL]
 ·simp only[kJ,List.mem_map] at hq;obtain⟨f,hf,rfl⟩:=hq;obtain⟨b1,b2,b3,b4⟩:=hs f hf;have b5:=xB.2 f.body;have b6:=hw f hf;have b7:=pIL f.params;have b8:=hp f hf;refine⟨by simp only[l8];omega,by simp only[l8];omega,b1,by simp only[l8];omega,by simp only[l8,List.length_append,List.length_singleton];omega⟩
 ·rw[UA];simp only[kJ,List.mem_map] at hq;obtain⟨f,hf,rfl⟩:=hq;obtain⟨b1,b2,b3,b4⟩:=hs f hf;refine⟨⟨_,rfl⟩,fun i hi=>?_⟩;simp only[l8,List.mem_append,List.mem_singleton] at hi ⊢;rcases hi with hi | rfl
  ·have hx:=FD.mono (Nat.le_refl _) (M':=(bM f.body (p5 p f) (pI f.params) 0).1.length) yA (b2 i hi)
   simpa [kJ] using hx
  ·trivial
deriving instance DecidableEq for Is
def ma (is:Is)(q:Pl):Nat:=if q.param=true then is.bx.getD q.index 0 else q.index
def qj:In→Int
 | .set _ _ _=>1
 | .call g _ _ _=>if g=true then 3 else 2
 | .lock u _=>if u=true then 5 else 4
 | .branch _ _=>6
 | .jump _=>7
 | .ret=>8
def jn (is:Is):In→Option Is
 | .call _ t _ ps=>some ⟨t,ps.map (ma is)⟩
 | _=>none
def aq (u:Un)(is:Is):List In:=match u.ps[is.proc]? with
 | some q=>q.code
 | none=>[]
def qz (u:Un)(is:Is)(pc:Int):Option Is:=if pc<0 then none else match (aq u is)[pc.toNat]? with
 | some i=>jn is i
 | none=>none
def yx:Option Is→CV
 | some x=>.dH [.agg (df x),.bool true]
 | none=>.dH [.agg [I 0,.az [] 0],.bool false]
theorem ku (i:In):∃ cs,dd i=I (qj i)::cs∧cs.length=11:=by
 have h:∃ cs,dd i=I (qj i)::cs:=by cases i<;>exact⟨_,rfl⟩
 obtain⟨cs,h⟩:=h;have:=fo i;rw[h] at this;exact⟨cs,h,by simpa using this⟩
structure pV (u:Un)(is:Is):Prop where
 q:∃ q,u.ps[is.proc]? = some q∧is.bx.length=q.bx
 m:∀ l∈is.bx,l<u.ms.length
theorem G7 {u:Un}{is:Is}{g k L:Nat}{q:Pl}(hm:∀ l∈is.bx,l<u.ms.length)(hL:is.bx.length=L)(h:Fl u.ms g k L q):ma is q<u.ms.length:=by
 rcases h with ⟨h1,h2,_⟩ | ⟨h1,m,h2,_⟩
 ·simp only[ma,h1,if_true];rw[List.getD_eq_getElem?_getD,List.getElem?_eq_getElem yA];exact hm _ (List.getElem_mem yA)
 ·simp only[ma,h1,Bool.false_eq_true,if_false];exact (List.getElem?_eq_some_iff.1 h2).1
theorem BY {u:Un}(hu:ik u){is:Is}(hi:pV u is){i:In}(hm:i∈aq u is){x:Is}(hx:jn is i=some x):pV u x:=by
 obtain⟨⟨q,hq,hl⟩,hlm⟩:=hi;simp only[aq,hq] at hm;have hv:=(hu.pc q (List.mem_of_getElem? hq)).2 i hm
 cases i with
 | call g t is' ps=>
  simp only[jn,Option.some.injEq] at hx;subst hx;obtain⟨h1,_,h3⟩:=hv;rw[List.getElem?_map,Option.map_eq_some_iff] at h1;obtain⟨q',h4,h5⟩:=h1;simp only[Prod.mk.injEq] at h5;refine⟨⟨q',h4,?_⟩,fun l T8=>?_⟩
  ·simp only[List.length_map];omega
  ·simp only[List.mem_map] at T8;obtain⟨pl,Qy,rfl⟩:=T8;exact G7 hlm hl (h3 pl Qy)
 | _=>simp[jn] at hx
def qq:In→Bool
 | .call g _ _ _=>g
 | _=>false
def cz (l:List Nat)(n:Nat):Nat:=(l.takeWhile (· < n)).length
def gz (l:List Nat)(n:Nat):List Nat:=if n∈l then l else l.take (cz l n)++n::l.drop (cz l n)
def ec (l:List Is)(x:Is):List Is:=if x∈l then l else l++[x]
def fJ (l:List Is)(x:Is):Nat:=l.findIdx fun y=>decide (y=x)
def gw (is:Is):List In→List Is→List Nat→List Is×List Int×List Nat
 | [],l,r=>(l,[],r)
 | i::c,l,r=>match jn is i with
  | none=>((gw is c l r).1,-1::(gw is c l r).2.1,(gw is c l r).2.2)
  | some x=>((gw is c (ec l x) (if qq i=true then gz r (fJ (ec l x) x) else r)).1,(fJ (ec l x) x:Int)::(gw is c (ec l x) (if qq i=true then gz r (fJ (ec l x) x) else r)).2.1,(gw is c (ec l x) (if qq i=true then gz r (fJ (ec l x) x) else r)).2.2)
def lE (u:Un):Nat→Nat→List Is→List (List Int)→List Nat→Cl
 | 0,_,l,cs,r=>⟨l,cs,r⟩
 | f+1,i,l,cs,r=>match l[i]? with
  | none=>⟨l,cs,r⟩
  | some x=>lE u f (i+1) (gw x (aq u x) l r).1 (cs++[(gw x (aq u x) l r).2.1]) (gw x (aq u x) l r).2.2
def ak (u:Un):Cl:=lE u 100 0 [⟨u.main,[]⟩] [] [0]
def comb (n:Nat):Nat→List (List Nat)
 | 0=>[[]]
 | k+1=>(List.range n).flatMap fun a=>(comb n k).map (a :: ·)
theorem zG (n:Nat):∀ (l:List Nat),(∀ x∈l,x<n)→l∈comb n l.length
 | [],_=>by simp[comb]
 | a::r,h=>by
  simp only[List.length_cons,comb,List.mem_flatMap,List.mem_range,List.mem_map];exact⟨a,h a List.mem_cons_self,r,zG n r fun x hx=>h x (List.mem_cons_of_mem _ hx),rfl⟩
theorem y5 (c:Nat):∀ l:List Nat,(∀ x∈l,x≤c)→l.sum≤l.length*c
 | [],_=>by simp
 | a::r,h=>by
  have h1:=h a List.mem_cons_self;have h2:=y5 c r fun x hx=>h x (List.mem_cons_of_mem _ hx);rw[List.sum_cons,List.length_cons,Nat.succ_mul];omega
theorem Ao (n:Nat):∀ k,(comb n k).length=n ^ k
 | 0=>by simp[comb]
 | k+1=>by
  simp only[comb,List.length_flatMap,List.length_map,Ao n k];rw[List.map_const',List.sum_replicate_nat,List.length_range,Nat.pow_succ,Nat.mul_comm]
def uR (n:Nat):Nat→List Pr→List Is
 | _,[]=>[]
 | t,q::r=>(comb n q.bx).map (fun ls=>⟨t,ls⟩)++uR n (t+1) r
theorem zH (n:Nat):∀ (l:List Pr) (t j:Nat) (q:Pr) (x:Is),l[j]? = some q→x.proc=t+j→x.bx.length=q.bx→(∀ a∈x.bx,a<n)→x∈uR n t l
 | [],_,_,_,_,h,_,_,_=>by simp at h
 | p::r,t,0,q,x,h,hp,hl,ha=>by
  simp only[List.getElem?_cons_zero,Option.some.injEq] at h;subst h;simp only[uR,List.mem_append,List.mem_map];refine .inl ⟨x.bx,by rw[← hl];exact zG n _ ha,?_⟩;cases x;simp only at hp;simp[hp]
 | p::r,t,j+1,q,x,h,hp,hl,ha=>by
  simp only[List.getElem?_cons_succ] at h;simp only[uR,List.mem_append];exact .inr (zH n r (t+1) j q x h yA hl ha)
theorem vX {α:Type}(w:α→Nat):∀ (l m:List α),l.Nodup→(∀ x∈l,x∈m)→(l.map w).sum≤(m.map w).sum
 | [],_,_,_=>by simp
 | a::r,m,hn,hs=>by
  obtain⟨m1,m2,rfl⟩:=List.append_of_mem (hs a List.mem_cons_self);rw[List.nodup_cons] at hn;have ih:=vX w r (m1++m2) hn.2 fun x hx=>by
   have h1:=hs x (List.mem_cons_of_mem _ hx);have P3:x≠a:=fun e=>hn.1 (e ▸ hx);simp only[List.mem_append,List.mem_cons] at h1 ⊢;rcases h1 with h | h | h
   ·exact .inl h
   ·exact (P3 h).elim
   ·exact .inr h
  simp only[List.map_append,List.sum_append,List.map_cons,List.sum_cons] at ih ⊢;omega
theorem AF {u:Un}(w:Is→Nat)(c:Nat)(n:Nat)(hw:∀ x,w x≤c)(hn:n≤4):∀ (l:List Pr) (t:Nat),(∀ q∈l,q.bx≤2)→((uR n t l).map w).sum≤l.length*(16*c)
 | [],_,_=>by simp[uR]
 | q::r,t,h=>by
  have h1:=AF (u:=u) w c n hw hn r (t+1) fun x hx=>h x (List.mem_cons_of_mem _ hx);have h2:=h q List.mem_cons_self;have h3:(comb n q.bx).length≤16:=by
   rw[Ao]
   calc n ^ q.bx≤4 ^ q.bx:=Nat.pow_le_pow_left hn _
    _≤4 ^ 2:=Nat.pow_le_pow_right yA h2
  have h4:(((comb n q.bx).map fun ls=>(⟨t,ls⟩:Is)).map w).sum≤16*c:=by
   refine Nat.le_trans (y5 c _ fun x hx=>?_) (Nat.mul_le_mul_right c (by simpa using h3));simp only[List.mem_map] at hx;obtain⟨y,_,rfl⟩:=hx;exact hw y
  have h5:(r.length+1)*(16*c)=r.length*(16*c)+16*c:=Nat.succ_mul _ _;simp only[uR,List.map_append,List.sum_append,List.length_cons];omega
theorem zS {u:Un}(hu:ik u)(w:Is→Nat)(c:Nat)(hw:∀ x,w x≤c){l:List Is}(hn:l.Nodup)(hv:∀ x∈l,pV u x):(l.map w).sum≤c+48*c:=by
 have UU:=hu.np;have QH:=hu.nm;have h1:=vX w l (uR u.ms.length 0 u.ps) hn fun x hx=>by
  obtain⟨⟨q,hq,hl⟩,hm⟩:=hv x hx;exact zH _ _ 0 x.proc q x hq yA hl hm
 refine Nat.le_trans h1 ?_
 cases Rc:u.ps with
 | nil=>rw[Rc] at UU;simp at UU
 | cons q0 r=>
  have h0:=hu.p0 q0 (by rw[Rc];rfl);have hr:r.length≤3:=by rw[Rc] at UU;simp at UU;omega
  have h2:=AF (u:=u) w c u.ms.length hw QH.2 r 1 fun q hq=>(hu.pr q (by rw[Rc];exact List.mem_cons_of_mem _ hq)).2.1;have h3:(uR u.ms.length 0 (q0::r))=⟨0,[]⟩ :: uR u.ms.length 1 r:=by simp[uR,h0.2,comb]
  rw[h3,List.map_cons,List.sum_cons];have h4:=hw ⟨0,[]⟩;have h5:r.length*(16*c)≤48*c:=by
   calc r.length*(16*c)≤3*(16*c):=Nat.mul_le_mul_right _ hr
    _=48*c:=by omega
  omega
theorem jD {u:Un}(hu:ik u){l:List Is}(hn:l.Nodup)(hv:∀ x∈l,pV u x):l.length≤49:=by
 have:=zS hu (fun _=>1) 1 (fun _=>Nat.le_refl _) hn hv;rw[List.map_const',List.sum_replicate_nat] at this;omega
theorem eZ {u:Un}(hu:ik u)(x:Is):(aq u x).length≤145:=by
 unfold aq
 cases h:u.ps[x.proc]? with
 | none=>simp
 | some q=>exact (hu.pr q (List.mem_of_getElem? h)).2.2.2.2
theorem BH {u:Un}(hu:ik u){l:List Is}(hn:l.Nodup)(hv:∀ x∈l,pV u x):(l.map fun x=>(aq u x).length).sum≤7105:=
 zS hu _ 145 (eZ hu) hn hv
theorem lN {l:List Is}{x:Is}(h:l.Nodup):(ec l x).Nodup:=by
 unfold ec;split
 ·exact h
 ·rename_i hx;refine List.nodup_append.2 ⟨h,by simp,fun a ha b hb e=>?_⟩;rw[List.mem_singleton] at hb;subst hb;subst e;exact hx ha
theorem B8 {u:Un}{l:List Is}{x:Is}(h:∀ y∈l,pV u y)(hx:pV u x):∀ y∈ec l x,pV u y:=by
 unfold ec;split
 ·exact h
 ·intro y hy;rcases List.mem_append.1 hy with hy | hy
  ·exact h y hy
  ·rw[List.mem_singleton] at hy;subst hy;exact hx
theorem KD {l:List Is}{x y:Is}{i:Nat}(h:l[i]? = some y):(ec l x)[i]? = some y:=by
 unfold ec;split
 ·exact h
 ·rw[List.getElem?_append_left (List.getElem?_eq_some_iff.1 h).1];exact h
theorem AH (l:List Is)(x:Is):x∈ec l x:=by
 unfold ec;split
 ·assumption
 ·simp
theorem AG (l:List Is)(x:Is):∃ t,ec l x=l++t:=by
 unfold ec;split
 ·exact⟨[],by simp⟩
 ·exact⟨[x],rfl⟩
theorem rV (x:Is):∀ (c:List In) (l:List Is) (r:List Nat),∃ t,(gw x c l r).1=l++t
 | [],l,r=>⟨[],by simp[gw]⟩
 | i::c,l,r=>by
  simp only[gw]
  cases jn x i with
  | none=>exact rV x c l r
  | some y=>
   simp only;obtain⟨t1,h1⟩:=AG l y;obtain⟨t2,h2⟩:=rV x c (ec l y) (if qq i=true then gz r (fJ (ec l y) y) else r);exact⟨t1++t2,by rw[h2,h1,List.append_assoc]⟩
theorem De {l:List Is}{x:Is}(h:x∈l):fJ l x<l.length:=by
 unfold fJ;exact List.findIdx_lt_length_of_exists ⟨x,h,by simp⟩
end Go.aP
