/- Canonical values and their relation to the model's values and memory. No function of the program is mentioned here. -/
import Derived.StillTail
import Derived.ScopeJumps
import Derived.Laws.AppendOwn
import Derived.Laws.CopyOwn
import Derived.Laws.MakeOwn
import Derived.Laws.OwnMore
import Derived.Below
import Derived.IntWalk
namespace Go.Can
open Go.RowKit
inductive CV where
 | int (k:IntKind) (n:Int)
 | bool (b:Bool)
 | str (s:ByteArray)
 | agg (cs:List CV)
 | ax (cs:List CV) (n:Nat)
 | ai
 | cq (cs:List CV)
 | br
 | fn (f:FuncId) (caps:List CV)
 | b9
 | iface (t:TypeId) (cs:List CV)
 | iter (k:Nat) (s:ByteArray) (p:Nat)
 | mp (k:Nat) (es:List (Value×Value))
 | df (vs:List CV)
 | bw (o off n:Nat)
 | aq (o off:Nat)
 | any
instance : Inhabited CV := ⟨.br⟩
def one:CV→Bool
 | .agg _=>false
 | .df _=>false
 | .iter _ _ _=>false
 | _=>true
def CV.cells:CV→List CV
 | .agg cs=>cs
 | c=>[c]
mutual
/-- The immutable ones: the value v reads as c; no cell of it lies in a block of F. -/
def bM (w:World)(F:Nat→Prop):CV→Value→Prop
 | .int k n,v=>v=.int k n
 | .bool b,v=>v=.bool b
 | .str s,v=>v=.string s
 | .agg cs,v=>∃ vs:List Value,v=.agg vs.toArray∧bx w F cs vs∧cs.all one=true
 | .ax cs n,v=>∃ A cap,v=.slice A n cap∧n≤cap∧cap≤maxLen∧((n=0∧cs=[])∨∃ ad,A=some ad∧eX w F cs ad)
 | .ai,v=>v=.slice none 0 0
 | .cq cs,v=>∃ ad,v=.pointer (some ad)∧eX w F cs ad
 | .br,v=>v=.pointer none
 | .fn f caps,v=>∃ vs:List Value,v=.func (.func f) #[] vs.toArray∧bx w F caps vs
 | .iface f caps,v=>∃ vs:List Value,v=.iface f (vs.headD (.tuple #[]))∧bx w F caps vs
 | .b9,v=>v=.nilFunc
 | .iter _ _ _,_=>False
 | .mp _ _,_=>False
 | .df cs,v=>∃ vs:List Value,v=.tuple vs.toArray∧bx w F cs vs
 | .bw _ _ _,_=>False
 | .aq _ _,_=>False
 | .any,v=>v.oneCell'=true
def bx (w:World)(F:Nat→Prop):List CV→List Value→Prop
 | [],vs=>vs=[]
 | c::cs,vs=>∃ v r,vs=v::r∧bM w F c v∧bx w F cs r
/-- The cells from an address on. -/
def eX (w:World)(F:Nat→Prop):List CV→Addr→Prop
 | [],_=>True
 | c::cs,ad=>(∃ u,w.cell? ad=some u∧¬ F ad.block∧bM w F c u)∧one c=true∧eX w F cs (ad.add 1)
end
theorem Cz (a:Addr)(n:Nat):(a.add n).block=a.block:=by unfold Addr.add;split<;>rfl
theorem add_add (a:Addr)(i j:Nat):(a.add i).add j=a.add (i+j):=by
 unfold Addr.add
 by_cases hi:i=0<;>by_cases hj:j=0<;>simp[hi,hj,Nat.add_assoc]
theorem add_zero (a:Addr):a.add 0=a:=by simp[Addr.add]
theorem add_lit (b i j:Nat):(⟨b,i,none⟩:Addr).add j=⟨b,i+j,none⟩:=by
 unfold Addr.add;split<;>simp_all
def jC (w w':World)(F F':Nat→Prop):Prop:=∀ ad u,¬ F ad.block→w.cell? ad=some u→w'.cell? ad=some u∧¬ F' ad.block
def bO (w w':World)(F F':Nat→Prop):Prop:=jC w w' F F'∧
 ∀ r x,¬ F r→w.heap[r]? = some x→(∀ c e f,x≠.cells c e f)→w'.heap[r]? = some x∧¬ F' r
theorem bO.same {w:World}{F F':Nat→Prop}(h:∀ b,F' b→F b):bO w w F F':=⟨fun _ _ hf hu=>⟨hu,fun k=>hf (h _ k)⟩,fun _ _ hf hu _=>⟨hu,fun k=>hf (h _ k)⟩⟩
mutual
theorem bM.keep {w w':World}{F F':Nat→Prop}(h:jC w w' F F'):∀ (c:CV) (v:Value),bM w F c v→bM w' F' c v
 | .int _ _,_,hv=>by simpa [bM] using hv
 | .bool _,_,hv=>by simpa [bM] using hv
 | .str _,_,hv=>by simpa [bM] using hv
 | .agg cs,v,hv=>by
  simp only[bM] at hv ⊢
  obtain⟨vs,e,r,h1⟩:=hv
  exact⟨vs,e,bx.keep h cs vs r,h1⟩
 | .ai,_,hv=>by simpa [bM] using hv
 | .ax cs n,v,hv=>by
  simp only[bM] at hv ⊢
  obtain⟨A,cap,e,h1,h2,h4⟩:=hv
  refine⟨A,cap,e,h1,h2,?_⟩
  rcases h4 with h4 | ⟨ad,ea,hm⟩
  ·exact .inl h4
  ·exact .inr ⟨ad,ea,eX.keep h cs ad hm⟩
 | .cq cs,v,hv=>by
  simp only[bM] at hv ⊢
  obtain⟨ad,e,hm⟩:=hv
  exact⟨ad,e,eX.keep h cs ad hm⟩
 | .br,_,hv=>by simpa [bM] using hv
 | .fn f caps,v,hv=>by
  simp only[bM] at hv ⊢
  obtain⟨vs,e,r⟩:=hv
  exact⟨vs,e,bx.keep h caps vs r⟩
 | .iface f caps,v,hv=>by
  simp only[bM] at hv ⊢
  obtain⟨vs,e,r⟩:=hv
  exact⟨vs,e,bx.keep h caps vs r⟩
 | .b9,_,hv=>by simpa [bM] using hv
 | .iter _ _ _,_,hv=>by simp[bM] at hv
 | .mp _ _,_,hv=>by simp[bM] at hv
 | .df cs,v,hv=>by
  simp only[bM] at hv ⊢
  obtain⟨vs,e,r⟩:=hv
  exact⟨vs,e,bx.keep h cs vs r⟩
 | .bw _ _ _,_,hv=>by simp[bM] at hv
 | .aq _ _,_,hv=>by simp[bM] at hv
 | .any,_,hv=>by simpa [bM] using hv
theorem bx.keep {w w':World}{F F':Nat→Prop}(h:jC w w' F F'):∀ (cs:List CV) (vs:List Value),bx w F cs vs→bx w' F' cs vs
 | [],_,hv=>by simpa [bx] using hv
 | c::cs,vs,hv=>by
  simp only[bx] at hv ⊢
  obtain⟨v,r,e,h1,h2⟩:=hv
  exact⟨v,r,e,bM.keep h c v h1,bx.keep h cs r h2⟩
theorem eX.keep {w w':World}{F F':Nat→Prop}(h:jC w w' F F'):∀ (cs:List CV) (ad:Addr),eX w F cs ad→eX w' F' cs ad
 | [],_,_=>by simp[eX]
 | c::cs,ad,hv=>by
  simp only[eX] at hv ⊢
  obtain⟨⟨u,h1,h2,h3⟩,ho,h4⟩:=hv
  obtain⟨k1,k2⟩:=h ad u h2 h1
  exact⟨⟨u,k1,k2,bM.keep h c u h3⟩,ho,eX.keep h cs _ h4⟩
end
theorem eX.drop {w:World}{F:Nat→Prop}:∀ (k:Nat) (cs:List CV) (ad:Addr),eX w F cs ad→eX w F (cs.drop k) (ad.add k)
 | 0,cs,ad,h=>by simpa [add_zero] using h
 | k+1,[],ad,_=>by simp[eX]
 | k+1,c::cs,ad,h=>by
  simp only[eX] at h
  have:=eX.drop k cs _ h.2.2
  rw[add_add] at this
  simpa [Nat.add_comm] using this
theorem eX.take {w:World}{F:Nat→Prop}:∀ (k:Nat) (cs:List CV) (ad:Addr),eX w F cs ad→eX w F (cs.take k) ad
 | 0,_,_,_=>by simp[eX]
 | k+1,[],_,_=>by simp[eX]
 | k+1,c::cs,ad,h=>by
  simp only[eX] at h
  simp only[List.take_succ_cons,eX]
  exact⟨h.1,h.2.1,eX.take k cs _ h.2.2⟩
theorem eX.cells {w:World}{F:Nat→Prop}:∀ (cs:List CV) (ad:Addr),eX w F cs ad→∃ us:List Value,bx w F cs us∧us.length=cs.length∧∀ j u,us[j]? = some u→w.cell? (ad.add j)=some u
 | [],ad,_=>⟨[],by simp[bx],rfl,by simp⟩
 | c::cs,ad,h=>by
  simp only[eX] at h
  obtain⟨⟨u,h1,h2,h3⟩,_,h4⟩:=h
  obtain⟨us,k1,k2,k3⟩:=eX.cells cs _ h4
  refine⟨u::us,by simp only[bx];exact⟨u,us,rfl,h3,k1⟩,by simp[k2],?_⟩
  intro j x hx
  cases j with
  | zero=>simp at hx;subst hx;rw[add_zero];exact h1
  | succ j=>
   have:=k3 j x (by simpa using hx)
   rw[add_add] at this
   rwa [Nat.add_comm] at this
theorem bx.length {w:World}{F:Nat→Prop}:∀ (cs:List CV) (vs:List Value),bx w F cs vs→vs.length=cs.length
 | [],vs,h=>by simp only[bx] at h;subst h;rfl
 | c::cs,vs,h=>by
  simp only[bx] at h
  obtain⟨v,r,rfl,_,h2⟩:=h
  simp[bx.length cs r h2]
theorem bx.get {w:World}{F:Nat→Prop}:∀ (cs:List CV) (vs:List Value),bx w F cs vs→∀ (i:Nat) (c:CV),cs[i]? = some c→∃ v,vs[i]? = some v∧bM w F c v
 | [],vs,_,i,c,hi=>by simp at hi
 | c::cs,vs,h,i,d,hi=>by
  simp only[bx] at h
  obtain⟨v,r,rfl,h1,h2⟩:=h
  cases i with
  | zero=>simp at hi;subst hi;exact⟨v,rfl,h1⟩
  | succ i=>simpa using bx.get cs r h2 i d (by simpa using hi)
structure OB where
 gK:Option Nat
 room:Nat
 sz:Nat
mutual
/-- The values of a frame and of the objects' cells. -/
def VR (w:World)(F:Nat→Prop)(σ:Nat→Option OB):CV→Value→Prop
 | .bw o off n,v=>∃ B,σ o=some B∧match B.gK with
   | none=>v=.slice none 0 0∧off=0∧n=0
   | some b=>∃ cap,v=.slice (some ⟨b,off,none⟩) n cap∧n≤cap∧cap≤maxLen∧off+cap*B.sz≤B.room∧(off=0→cap*B.sz=B.room)
 | .aq o off,v=>∃ B b,σ o=some B∧B.gK=some b∧v=.pointer (some ⟨b,off,none⟩)
 | .agg cs,v=>∃ vs:List Value,v=.agg vs.toArray∧aQ w F σ cs vs∧cs.all one=true
 | .fn f caps,v=>∃ vs:List Value,v=.func (.func f) #[] vs.toArray∧aQ w F σ caps vs
 | .iface f caps,v=>∃ vs:List Value,v=.iface f (vs.headD (.tuple #[]))∧aQ w F σ caps vs
 | .df cs,v=>∃ vs:List Value,v=.tuple vs.toArray∧aQ w F σ cs vs
 | .int k n,v=>v=.int k n
 | .bool b,v=>v=.bool b
 | .str s,v=>v=.string s
 | .ax cs n,v=>bM w F (.ax cs n) v
 | .ai,v=>v=.slice none 0 0
 | .cq cs,v=>bM w F (.cq cs) v
 | .br,v=>v=.pointer none
 | .b9,v=>v=.nilFunc
 | .iter k s p,v=>∃ B r,σ k=some B∧B.gK=some r∧v=.pointer (some ⟨r,0,none⟩)∧w.heap[r]? = some (.stringIter s p)∧¬ F r
 | .mp k es,v=>∃ B r arr clock,σ k=some B∧B.gK=some r∧v=.map (some r)∧w.heap[r]? = some (.map arr clock)∧arr.toList.map (fun e=>(e.key,e.val))=es∧(es.map (·.1)).Nodup∧¬ F r
 | .any,v=>v.oneCell'=true
def aQ (w:World)(F:Nat→Prop)(σ:Nat→Option OB):List CV→List Value→Prop
 | [],vs=>vs=[]
 | c::cs,vs=>∃ v r,vs=v::r∧VR w F σ c v∧aQ w F σ cs r
end
mutual
/-- No object of one's own in it, on the surface. -/
def tree:CV→Bool
 | .bw _ _ _=>false
 | .aq _ _=>false
 | .iter _ _ _=>false
 | .mp _ _=>false
 | .agg cs=>trees cs
 | .fn _ cs=>trees cs
 | .iface _ cs=>trees cs
 | .df cs=>trees cs
 | _=>true
def trees:List CV→Bool
 | []=>true
 | c::cs=>tree c && trees cs
end
mutual
theorem VR.cb {w:World}{F:Nat→Prop}{σ:Nat→Option OB}:∀ (c:CV) (v:Value),bM w F c v→VR w F σ c v
 | .int _ _,_,h=>by simpa [VR,bM] using h
 | .bool _,_,h=>by simpa [VR,bM] using h
 | .str _,_,h=>by simpa [VR,bM] using h
 | .agg cs,v,h=>by
  simp only[VR,bM] at h ⊢
  obtain⟨vs,e,r,h1⟩:=h
  exact⟨vs,e,aQ.cb cs vs r,h1⟩
 | .ai,_,h=>by simpa [VR,bM] using h
 | .ax _ _,_,h=>by simpa only[VR] using h
 | .cq _,_,h=>by simpa only[VR] using h
 | .br,_,h=>by simpa [VR,bM] using h
 | .fn _ cs,v,h=>by
  simp only[VR,bM] at h ⊢
  obtain⟨vs,e,r⟩:=h
  exact⟨vs,e,aQ.cb cs vs r⟩
 | .iface _ cs,v,h=>by
  simp only[VR,bM] at h ⊢
  obtain⟨vs,e,r⟩:=h
  exact⟨vs,e,aQ.cb cs vs r⟩
 | .b9,_,h=>by simpa [VR,bM] using h
 | .iter _ _ _,_,h=>by simp[bM] at h
 | .mp _ _,_,h=>by simp[bM] at h
 | .df cs,v,h=>by
  simp only[VR,bM] at h ⊢
  obtain⟨vs,e,r⟩:=h
  exact⟨vs,e,aQ.cb cs vs r⟩
 | .bw _ _ _,_,h=>by simp[bM] at h
 | .aq _ _,_,h=>by simp[bM] at h
 | .any,_,h=>by simpa [VR,bM] using h
theorem aQ.cb {w:World}{F:Nat→Prop}{σ:Nat→Option OB}:∀ (cs:List CV) (vs:List Value),bx w F cs vs→aQ w F σ cs vs
 | [],_,h=>by simpa [aQ,bx] using h
 | c::cs,vs,h=>by
  simp only[aQ,bx] at h ⊢
  obtain⟨v,r,e,h1,h2⟩:=h
  exact⟨v,r,e,VR.cb c v h1,aQ.cb cs r h2⟩
end
mutual
theorem VR.dN {w:World}{F:Nat→Prop}{σ:Nat→Option OB}:∀ (c:CV) (v:Value),tree c=true→VR w F σ c v→bM w F c v
 | .int _ _,_,_,h=>by simpa [VR,bM] using h
 | .bool _,_,_,h=>by simpa [VR,bM] using h
 | .str _,_,_,h=>by simpa [VR,bM] using h
 | .agg cs,v,ht,h=>by
  simp only[VR,bM,tree] at h ht ⊢
  obtain⟨vs,e,r,h1⟩:=h
  exact⟨vs,e,aQ.dN cs vs ht r,h1⟩
 | .ai,_,_,h=>by simpa [VR,bM] using h
 | .ax _ _,_,_,h=>by simpa only[VR] using h
 | .cq _,_,_,h=>by simpa only[VR] using h
 | .br,_,_,h=>by simpa [VR,bM] using h
 | .fn _ cs,v,ht,h=>by
  simp only[VR,bM,tree] at h ht ⊢
  obtain⟨vs,e,r⟩:=h
  exact⟨vs,e,aQ.dN cs vs ht r⟩
 | .iface _ cs,v,ht,h=>by
  simp only[VR,bM,tree] at h ht ⊢
  obtain⟨vs,e,r⟩:=h
  exact⟨vs,e,aQ.dN cs vs ht r⟩
 | .b9,_,_,h=>by simpa [VR,bM] using h
 | .iter _ _ _,_,ht,_=>by simp[tree] at ht
 | .mp _ _,_,ht,_=>by simp[tree] at ht
 | .df cs,v,ht,h=>by
  simp only[VR,bM,tree] at h ht ⊢
  obtain⟨vs,e,r⟩:=h
  exact⟨vs,e,aQ.dN cs vs ht r⟩
 | .bw _ _ _,_,ht,_=>by simp[tree] at ht
 | .aq _ _,_,ht,_=>by simp[tree] at ht
 | .any,_,_,h=>by simpa [VR,bM] using h
theorem aQ.dN {w:World}{F:Nat→Prop}{σ:Nat→Option OB}:∀ (cs:List CV) (vs:List Value),trees cs=true→aQ w F σ cs vs→bx w F cs vs
 | [],_,_,h=>by simpa [aQ,bx] using h
 | c::cs,vs,ht,h=>by
  simp only[aQ,bx,trees,Bool.and_eq_true] at h ht ⊢
  obtain⟨v,r,e,h1,h2⟩:=h
  exact⟨v,r,e,VR.dN c v ht.1 h1,aQ.dN cs r ht.2 h2⟩
end
mutual
/-- The value names the object o. -/
def aL (o:Nat):CV→Bool
 | .bw p _ _=>p != o
 | .aq p _=>p != o
 | .iter p _ _=>p != o
 | .mp p _=>p != o
 | .agg cs=>dw o cs
 | .fn _ cs=>dw o cs
 | .iface _ cs=>dw o cs
 | .df cs=>dw o cs
 | _=>true
def dw (o:Nat):List CV→Bool
 | []=>true
 | c::cs=>aL o c && dw o cs
end
mutual
/-- A reading is kept when the world turns as 'Keeps' says and the places of all objects that it names stay. -/
theorem VR.keep {w w':World}{F F':Nat→Prop}{σ σ':Nat→Option OB}(h:bO w w' F F'):∀ (c:CV) (v:Value),(∀ o,aL o c=false→σ' o=σ o)→VR w F σ c v→VR w' F' σ' c v
 | .int _ _,_,_,hv=>by simpa [VR] using hv
 | .bool _,_,_,hv=>by simpa [VR] using hv
 | .str _,_,_,hv=>by simpa [VR] using hv
 | .agg cs,v,hr,hv=>by
  simp only[VR] at hv ⊢
  obtain⟨vs,e,r,h1⟩:=hv
  exact⟨vs,e,aQ.keep h cs vs (fun o ho=>hr o (by simpa [aL] using ho)) r,h1⟩
 | .ai,_,_,hv=>by simpa [VR] using hv
 | .ax _ _,_,_,hv=>by simp only[VR] at hv ⊢;exact bM.keep h.1 _ _ hv
 | .cq _,_,_,hv=>by simp only[VR] at hv ⊢;exact bM.keep h.1 _ _ hv
 | .br,_,_,hv=>by simpa [VR] using hv
 | .fn _ cs,v,hr,hv=>by
  simp only[VR] at hv ⊢
  obtain⟨vs,e,r⟩:=hv
  exact⟨vs,e,aQ.keep h cs vs (fun o ho=>hr o (by simpa [aL] using ho)) r⟩
 | .iface _ cs,v,hr,hv=>by
  simp only[VR] at hv ⊢
  obtain⟨vs,e,r⟩:=hv
  exact⟨vs,e,aQ.keep h cs vs (fun o ho=>hr o (by simpa [aL] using ho)) r⟩
 | .b9,_,_,hv=>by simpa [VR] using hv
 | .iter k s p,v,hr,hv=>by
  have hs:=hr k (by simp[aL])
  simp only[VR] at hv ⊢
  obtain⟨B,r,e1,e2,e3,h1,h2⟩:=hv
  obtain⟨k1,k2⟩:=h.2 r _ h2 h1 (fun _ _ _ he=>by cases he)
  exact⟨B,r,hs.trans e1,e2,e3,k1,k2⟩
 | .mp k es,v,hr,hv=>by
  have hs:=hr k (by simp[aL])
  simp only[VR] at hv ⊢
  obtain⟨B,r,arr,clock,e1,e2,e3,h1,h3,h4,h2⟩:=hv
  obtain⟨k1,k2⟩:=h.2 r _ h2 h1 (fun _ _ _ he=>by cases he)
  exact⟨B,r,arr,clock,hs.trans e1,e2,e3,k1,h3,h4,k2⟩
 | .df cs,v,hr,hv=>by
  simp only[VR] at hv ⊢
  obtain⟨vs,e,r⟩:=hv
  exact⟨vs,e,aQ.keep h cs vs (fun o ho=>hr o (by simpa [aL] using ho)) r⟩
 | .bw o off n,v,hr,hv=>by
  have:=hr o (by simp[aL])
  simp only[VR] at hv ⊢
  rw[this];exact hv
 | .aq o off,v,hr,hv=>by
  have:=hr o (by simp[aL])
  simp only[VR] at hv ⊢
  rw[this];exact hv
 | .any,_,_,hv=>by simpa [VR] using hv
theorem aQ.keep {w w':World}{F F':Nat→Prop}{σ σ':Nat→Option OB}(h:bO w w' F F'):∀ (cs:List CV) (vs:List Value),(∀ o,dw o cs=false→σ' o=σ o)→aQ w F σ cs vs→aQ w' F' σ' cs vs
 | [],_,_,hv=>by simpa [aQ] using hv
 | c::cs,vs,hr,hv=>by
  simp only[aQ] at hv ⊢
  obtain⟨v,r,e,h1,h2⟩:=hv
  exact⟨v,r,e,VR.keep h c v (fun o ho=>hr o (by simp[dw,ho])) h1,aQ.keep h cs r (fun o ho=>hr o (by simp[dw,ho])) h2⟩
end
mutual
/-- No iterator in it, on the surface. -/
def cE:CV→Bool
 | .iter _ _ _=>false
 | .mp _ _=>false
 | .agg cs=>cZ cs
 | .fn _ cs=>cZ cs
 | .iface _ cs=>cZ cs
 | .df cs=>cZ cs
 | _=>true
def cZ:List CV→Bool
 | []=>true
 | c::cs=>cE c && cZ cs
end
mutual
/-- A reading without iterators is kept when the cells are. -/
theorem VR.jP {w w':World}{F F':Nat→Prop}{σ:Nat→Option OB}(h:jC w w' F F'):∀ (c:CV) (v:Value),cE c=true→VR w F σ c v→VR w' F' σ c v
 | .int _ _,_,_,hv=>by simpa [VR] using hv
 | .bool _,_,_,hv=>by simpa [VR] using hv
 | .str _,_,_,hv=>by simpa [VR] using hv
 | .ai,_,_,hv=>by simpa [VR] using hv
 | .ax _ _,_,_,hv=>by simp only[VR] at hv ⊢;exact bM.keep h _ _ hv
 | .cq _,_,_,hv=>by simp only[VR] at hv ⊢;exact bM.keep h _ _ hv
 | .br,_,_,hv=>by simpa [VR] using hv
 | .b9,_,_,hv=>by simpa [VR] using hv
 | .any,_,_,hv=>by simpa [VR] using hv
 | .bw _ _ _,_,_,hv=>by simpa only[VR] using hv
 | .aq _ _,_,_,hv=>by simpa only[VR] using hv
 | .iter _ _ _,_,hn,_=>by simp[cE] at hn
 | .mp _ _,_,hn,_=>by simp[cE] at hn
 | .agg cs,v,hn,hv=>by
  simp only[VR] at hv ⊢
  obtain⟨vs,e,r,h1⟩:=hv
  exact⟨vs,e,aQ.jP h cs vs (by simpa [cE] using hn) r,h1⟩
 | .fn _ cs,v,hn,hv=>by
  simp only[VR] at hv ⊢
  obtain⟨vs,e,r⟩:=hv
  exact⟨vs,e,aQ.jP h cs vs (by simpa [cE] using hn) r⟩
 | .iface _ cs,v,hn,hv=>by
  simp only[VR] at hv ⊢
  obtain⟨vs,e,r⟩:=hv
  exact⟨vs,e,aQ.jP h cs vs (by simpa [cE] using hn) r⟩
 | .df cs,v,hn,hv=>by
  simp only[VR] at hv ⊢
  obtain⟨vs,e,r⟩:=hv
  exact⟨vs,e,aQ.jP h cs vs (by simpa [cE] using hn) r⟩
theorem aQ.jP {w w':World}{F F':Nat→Prop}{σ:Nat→Option OB}(h:jC w w' F F'):∀ (cs:List CV) (vs:List Value),cZ cs=true→aQ w F σ cs vs→aQ w' F' σ cs vs
 | [],_,_,hv=>by simpa [aQ] using hv
 | c::cs,vs,hn,hv=>by
  simp only[cZ,Bool.and_eq_true] at hn
  simp only[aQ] at hv ⊢
  obtain⟨v,r,e,h1,h2⟩:=hv
  exact⟨v,r,e,VR.jP h c v hn.1 h1,aQ.jP h cs r hn.2 h2⟩
end
theorem aQ.length {w:World}{F:Nat→Prop}{σ:Nat→Option OB}:∀ (cs:List CV) (vs:List Value),aQ w F σ cs vs→vs.length=cs.length
 | [],vs,h=>by simp only[aQ] at h;subst h;rfl
 | c::cs,vs,h=>by
  simp only[aQ] at h
  obtain⟨v,r,rfl,_,h2⟩:=h
  simp[aQ.length cs r h2]
theorem aQ.get {w:World}{F:Nat→Prop}{σ:Nat→Option OB}:∀ (cs:List CV) (vs:List Value),aQ w F σ cs vs→∀ (i:Nat) (c:CV),cs[i]? = some c→∃ v,vs[i]? = some v∧VR w F σ c v
 | [],vs,_,i,c,hi=>by simp at hi
 | c::cs,vs,h,i,d,hi=>by
  simp only[aQ] at h
  obtain⟨v,r,rfl,h1,h2⟩:=h
  cases i with
  | zero=>simp at hi;subst hi;exact⟨v,rfl,h1⟩
  | succ i=>simpa using aQ.get cs r h2 i d (by simpa using hi)
theorem aQ.vS {w:World}{F:Nat→Prop}{σ:Nat→Option OB}:∀ (cs:List CV) (vs:List Value),vs.length=cs.length→(∀ (i:Nat) (c:CV),cs[i]? = some c→∃ v,vs[i]? = some v∧VR w F σ c v)→aQ w F σ cs vs
 | [],vs,hl,_=>by simp only[aQ];exact List.eq_nil_of_length_eq_zero hl
 | c::cs,[],hl,_=>by simp at hl
 | c::cs,v::vs,hl,h=>by
  simp only[aQ]
  refine⟨v,vs,rfl,?_,aQ.vS cs vs (by simpa using hl) fun i d hi=>?_⟩
  ·obtain⟨u,hu,hr⟩:=h 0 c rfl
   simp at hu;subst hu;exact hr
  ·simpa using h (i+1) d (by simpa using hi)
theorem aQ.take {w:World}{F:Nat→Prop}{σ:Nat→Option OB}(k:Nat)(cs:List CV)(vs:List Value)(h:aQ w F σ cs vs):aQ w F σ (cs.take k) (vs.take k):=by
 refine aQ.vS _ _ (by simp[aQ.length cs vs h]) fun i c hi=>?_
 rw[List.getElem?_take] at hi ⊢
 split at hi
 ·rename_i hk;rw[if_pos hk];exact aQ.get cs vs h i c hi
 ·cases hi
theorem aQ.drop {w:World}{F:Nat→Prop}{σ:Nat→Option OB}(k:Nat)(cs:List CV)(vs:List Value)(h:aQ w F σ cs vs):aQ w F σ (cs.drop k) (vs.drop k):=by
 refine aQ.vS _ _ (by simp[aQ.length cs vs h]) fun i c hi=>?_
 rw[List.getElem?_drop] at hi ⊢
 exact aQ.get cs vs h _ c hi
theorem aQ.append {w:World}{F:Nat→Prop}{σ:Nat→Option OB}:∀ (cs ds:List CV) (vs us:List Value),aQ w F σ cs vs→aQ w F σ ds us→aQ w F σ (cs++ds) (vs++us)
 | [],ds,vs,us,h,k=>by simp only[aQ] at h;subst h;simpa using k
 | c::cs,ds,vs,us,h,k=>by
  simp only[aQ] at h
  obtain⟨v,r,rfl,h1,h2⟩:=h
  simp only[List.cons_append,aQ]
  exact⟨v,r++us,rfl,h1,aQ.append cs ds r us h2 k⟩
theorem VR.one_cell {w:World}{F:Nat→Prop}{σ:Nat→Option OB}(c:CV)(v:Value)(h1:one c=true)(h:VR w F σ c v):v.oneCell'=true:=by
 cases c<;>simp only[VR,bM,one,Bool.false_eq_true] at h h1
 case ax=>obtain⟨A,cap,rfl,_⟩:=h;rfl
 case cq=>obtain⟨ad,rfl,_⟩:=h;rfl
 case fn=>obtain⟨vs,rfl,_⟩:=h;rfl
 case iface=>obtain⟨vs,rfl,_⟩:=h;rfl
 case bw o off n=>
  obtain⟨B,_,h⟩:=h
  split at h
  ·obtain⟨rfl,_⟩:=h;rfl
  ·obtain⟨cap,rfl,_⟩:=h;rfl
 case aq=>obtain⟨B,b,_,_,rfl⟩:=h;rfl
 case any=>exact h
 case mp=>obtain⟨B,r,arr,clock,_,_,rfl,_⟩:=h;rfl
 all_goals (subst h;rfl)
theorem aQ.gX {w:World}{F:Nat→Prop}{σ:Nat→Option OB}:∀ (cs:List CV) (vs:List Value),cs.all one=true→aQ w F σ cs vs→∀ u∈vs,u.oneCell'=true
 | [],vs,_,h=>by simp only[aQ] at h;subst h;simp
 | c::cs,vs,ha,h=>by
  simp only[aQ] at h
  obtain⟨v,r,rfl,h1,h2⟩:=h
  simp only[List.all_cons,Bool.and_eq_true] at ha
  intro u hu
  rcases List.mem_cons.1 hu with rfl | hu
  ·exact VR.one_cell c _ ha.1 h1
  ·exact aQ.gX cs r ha.2 h2 u hu
theorem vN {v:Value}(h:v.oneCell'=true):v.cells=#[v]:=by
 cases v<;>simp_all [Value.oneCell',Value.cells]
theorem VR.flat {w:World}{F:Nat→Prop}{σ:Nat→Option OB}(c:CV)(v:Value)(hc:∀ cs,c≠.df cs)(hi:∀ k s p,c≠.iter k s p)(h:VR w F σ c v):aQ w F σ c.cells v.cells.toList∧c.cells.all one=true:=by
 by_cases ha:∃ cs,c=.agg cs
 ·obtain⟨cs,rfl⟩:=ha
  simp only[VR] at h
  obtain⟨vs,rfl,r,h1⟩:=h
  exact⟨by simpa [CV.cells,Value.cells] using r,h1⟩
 ·have h1:one c=true:=by
   cases c<;>simp_all [one]
  have h2:c.cells=[c]:=by
   cases c<;>simp_all [CV.cells]
  rw[h2,vN (VR.one_cell c v h1 h)]
  exact⟨by simp only[aQ];exact⟨v,[],rfl,h,rfl⟩,by simp[h1]⟩
theorem eX.Ig {w:World}{F:Nat→Prop}:∀ (cs:List CV) (ad:Addr),eX w F cs ad→cs.all one=true
 | [],_,_=>rfl
 | c::cs,ad,h=>by
  simp only[eX] at h
  simp[h.2.1,eX.Ig cs _ h.2.2]
end Go.Can
/- Canonical states, their relation to the real frame and world, and the operations that turn nothing in memory. No function of the program is mentioned here. -/
namespace Go.Can
open Go.RowKit
def assoc {α:Type}:List (Nat×α)→Nat→Option α
 | [],_=>none
 | (k,v)::r,t=>if k=t then some v else assoc r t
def gD {α:Type}:List (Nat×α)→Nat→List (Nat×α)
 | [],_=>[]
 | (k,v)::r,t=>if k=t then gD r t else (k,v)::gD r t
def ou {α:Type}:List (Nat×α)→Nat→α→List (Nat×α)
 | [],_,_=>[]
 | (k,v)::r,t,x=>if k=t then (k,x)::r else (k,v)::ou r t x
theorem eI {α:Type}(l:List (Nat×α))(t u:Nat):assoc (gD l t) u=if t=u then none else assoc l u:=by
 induction l with
 | nil=>simp[gD,assoc]
 | cons x r ih=>
  obtain⟨k,v⟩:=x
  simp only[gD]
  split
  ·rename_i hk;subst hk;rw[ih];split
   ·rfl
   ·rename_i hu;simp[assoc,hu]
  ·rename_i hk;simp only[assoc];split
   ·rename_i hu;subst hu;simp[Ne.symm hk]
   ·exact ih
theorem eD {α:Type}(l:List (Nat×α))(t u:Nat)(x:α):assoc (ou l t x) u=if t=u then (assoc l t).map fun _=>x else assoc l u:=by
 induction l with
 | nil=>simp[ou,assoc]
 | cons y r ih=>
  obtain⟨k,v⟩:=y
  simp only[ou]
  split
  ·rename_i hk;subst hk;simp only[assoc,if_true];split
   ·rename_i hu;simp
   ·rfl
  ·rename_i hk;simp only[assoc,hk,if_false];rw[ih];split
   ·rename_i hu;subst hu;simp[Ne.symm hk]
   ·rfl
structure Ob where
 elem:TypeId
 sz:Nat
 cells:List CV
structure St where
 env:List (Nat×CV)
 heap:List (Nat×Ob)
 nx:Nat
def St.put (s:St)(d:Option Tmp)(c:CV):St:=
 match d with
 | some t=>{ s with env:=(t,c)::gD s.env t }
 | none=>s
def St.del (s:St)(d:Option Tmp):St:=
 match d with
 | some t=>{ s with env:=gD s.env t }
 | none=>s
structure Cx where
 w0:World
 F:Nat→Prop
 own:Nat→Prop
 hF:∀ b,F b→b<w0.heap.size
 nt:Nat
 σ0:Nat→Option OB
 n0:Nat
def aJ (σ:Nat→Option OB)(o:Nat):Option Nat:=(σ o).bind (·.gK)
def FB (C:Cx)(σ:Nat→Option OB)(H:List (Nat×Ob))(b:Nat):Prop:=C.F b∨∃ o ob,assoc H o=some ob∧aJ σ o=some b
def ObR (C:Cx)(w:World)(σ:Nat→Option OB)(H:List (Nat×Ob))(o:Nat)(ob:Ob):Prop:=
 ∃ B,σ o=some B∧B.sz=ob.sz∧(B.gK=none→ob.cells=[])∧ob.cells.all one=true∧
  ∀ b,B.gK=some b→∃ cur:Array Value,w.heap[b]? = some (.cells cur ob.elem (0,0))∧cur.size=B.room∧¬ C.F b∧(C.own b∨C.w0.heap.size≤b)∧
   ob.cells.length≤cur.size∧aQ w (FB C σ H) σ ob.cells (cur.toList.take ob.cells.length)
structure aH (C:Cx)(σ:Nat→Option OB)(s:St)(a:Act)(w:World):Prop where
 kO:a.defers=[]
 tm:a.tmps.size=C.nt
 os:w.os=C.w0.os
 tape:w.tape=C.w0.tape
 output:w.output=C.w0.output
 size:C.w0.heap.size≤w.heap.size
 frame:∀ b,b<C.w0.heap.size→¬ C.own b→w.heap[b]? = C.w0.heap[b]?
 env:∀ t c,assoc s.env t=some c→∃ v,a.tmps[t]? = some v∧VR w (FB C σ s.heap) σ c v
 obj:∀ o ob,assoc s.heap o=some ob→ObR C w σ s.heap o ob
 inj:∀ o o' ob ob' b,assoc s.heap o=some ob→assoc s.heap o'=some ob'→aJ σ o=some b→aJ σ o'=some b→o=o'
 nx:∀ o,s.nx≤o→σ o=none
 ek:∀ o,o<C.n0→σ o=C.σ0 o
 low:C.n0≤s.nx
 new:∀ o B b,C.n0≤o→σ o=some B→B.gK=some b→C.own b∨C.w0.heap.size≤b
def Rel (C:Cx)(s:St)(a:Act)(w:World):Prop:=∃ σ,aH C σ s a w
section
variable {C:Cx}{σ:Nat→Option OB}{s:St}{a:Act}{w:World}
theorem AO {a:Act}{d t:Nat}{v:Value}:(a.put (some d) v).tmps[t]? = if d=t then (if t<a.tmps.size then some v else none) else a.tmps[t]?:=by
 simp only[Act.put]
 rw[Array.getElem?_setIfInBounds]
 split
 ·rename_i h;subst h;rfl
 ·rfl
theorem aH.put (h:aH C σ s a w){d:Option Tmp}{c:CV}{v:Value}(hd:∀ t,d=some t→t<a.tmps.size)(hv:VR w (FB C σ s.heap) σ c v):aH C σ (s.put d c) (a.put d v) w:=by
 cases d with
 | none=>exact h
 | some d=>
  refine⟨h.kO,by simpa [Act.put] using h.tm,h.os,h.tape,h.output,h.size,h.frame,?_,h.obj,h.inj,h.nx,h.ek,h.low,h.new⟩
  intro t c' hc
  rw[AO]
  simp only[St.put,assoc] at hc
  split at hc
  ·rename_i e;subst e;cases hc
   rw[if_pos rfl,if_pos (hd _ rfl)]
   exact⟨v,rfl,hv⟩
  ·rename_i e
   rw[eI,if_neg e] at hc
   rw[if_neg e]
   exact h.env t c' hc
theorem aH.del (h:aH C σ s a w){d:Option Tmp}(v:Value):aH C σ (s.del d) (a.put d v) w:=by
 cases d with
 | none=>exact h
 | some d=>
  refine⟨h.kO,by simpa [Act.put] using h.tm,h.os,h.tape,h.output,h.size,h.frame,?_,h.obj,h.inj,h.nx,h.ek,h.low,h.new⟩
  intro t c' hc
  rw[AO]
  simp only[St.del] at hc
  rw[eI] at hc
  split at hc
  ·cases hc
  ·rename_i e
   rw[if_neg e]
   exact h.env t c' hc
def eB:Value→Option CV
 | .int k n=>some (.int k n)
 | .bool b=>some (.bool b)
 | .string s=>some (.str s)
 | .pointer none=>some .br
 | .slice none 0 0=>some .ai
 | .nilFunc=>some .b9
 | .nilIface=>some .any
 | .map none=>some .any
 | _=>none
def iC:List Value→Option (List CV)
 | []=>some []
 | v::r=>match eB v,iC r with
  | some c,some cs=>some (c::cs)
  | _,_=>none
def rq:Value→Option CV
 | .agg cs=>(iC cs.toList).map CV.agg
 | .tuple vs=>if vs.isEmpty then some (.df []) else none
 | v=>eB v
theorem jU {F:Nat→Prop}{v:Value}{c:CV}(h:eB v=some c):bM w F c v∧one c=true:=by
 unfold eB at h
 split at h<;>first | (cases h;simp[bM,one,Value.oneCell'];done) | (cases h)
theorem cJ {F:Nat→Prop}:∀ (vs:List Value) (cs:List CV),iC vs=some cs→bx w F cs vs∧cs.all one=true
 | [],cs,h=>by simp only[iC] at h;cases h;simp[bx]
 | v::r,cs,h=>by
  simp only[iC] at h
  split at h
  ·rename_i c cs' h1 h2
   cases h
   obtain⟨k1,k2⟩:=jU (w:=w) (F:=F) h1
   obtain⟨k3,k4⟩:=cJ (F:=F) r cs' h2
   simp only[bx]
   exact⟨⟨v,r,rfl,k1,k3⟩,by simp[k2,k4]⟩
  ·cases h
theorem n8 {F:Nat→Prop}{v:Value}{c:CV}(h:rq v=some c):bM w F c v:=by
 unfold rq at h
 split at h
 ·rename_i cs
  obtain⟨x,h1,h2⟩:=Option.map_eq_some_iff.1 h
  subst h2
  obtain⟨k1,k2⟩:=cJ (w:=w) (F:=F) _ _ h1
  simp only[bM]
  exact⟨cs.toList,by simp,k1,k2⟩
 ·rename_i vs
  split at h
  ·rename_i he
   cases h
   simp only[bM,bx]
   exact⟨[],by simpa using he,rfl⟩
  ·cases h
 ·exact (jU h).1
def ev (s:St):Operand→Option CV
 | .tmp t=>assoc s.env t
 | .const v=>rq v
 | .func f=>some (.fn f [])
 | .global _=>none
def ym (s:St):List Operand→Option (List CV)
 | []=>some []
 | x::r=>match ev s x,ym s r with
  | some c,some cs=>some (c::cs)
  | _,_=>none
theorem bq (h:aH C σ s a w){x:Operand}{c:CV}(he:ev s x=some c):VR w (FB C σ s.heap) σ c (a.eval x):=by
 cases x with
 | tmp t=>
  obtain⟨v,h1,h2⟩:=h.env t c he
  simp only[Act.eval]
  have:a.tmps.getD t undef=v:=by simp[Array.getD_eq_getD_getElem?,h1]
  rw[this];exact h2
 | const v=>exact VR.cb _ _ (n8 he)
 | func f=>cases he;simp only[VR];exact⟨[],rfl,rfl⟩
 | global g=>cases he
theorem nZ (h:aH C σ s a w):∀ (xs:List Operand) (cs:List CV),ym s xs=some cs→aQ w (FB C σ s.heap) σ cs (xs.map a.eval)
 | [],cs,he=>by simp only[ym] at he;cases he;rfl
 | x::r,cs,he=>by
  simp only[ym] at he
  split at he
  ·rename_i c cs' h1 h2
   cases he
   simp only[aQ]
   exact⟨_,_,rfl,bq h h1,nZ h r cs' h2⟩
  ·cases he
end
inductive TD where
 | int (k:IntKind)
 | bool
 | str
 | sl (e:TypeId)
 | bX (fs:List (Nat×TypeId))
 | arr (n:Nat) (e:TypeId)
 | ptr (e:TypeId)
 | func
 | Ie
def qH:TypeDesc→TD
 | .int k=>.int k
 | .bool=>.bool
 | .string=>.str
 | .slice e=>.sl e
 | .struct fs=>.bX (fs.toList.map fun f=>(f.offset,f.type))
 | .array n e=>.arr n e
 | .pointer e=>.ptr e
 | .func _ _ _=>.func
 | _=>.Ie
structure TI where
 d:TD
 size:Nat
 bytes:Nat
 zero:List CV
def TI.agg (i:TI):Bool:=match i.d with
 | .bX _=>true
 | .arr _ _=>true
 | _=>false
structure ct (P:Program)(t:TypeId)(i:TI):Prop where
 info:∃ f z,P.info? t=some f∧f.size=i.size∧f.bytes=i.bytes∧f.zero=some z∧iC z.cells.toList=some i.zero
 uy:∃ d,P.underlying t=some d∧qH d=i.d
 len:i.zero.length=i.size
def aF (P:Program)(aj:List (Nat×TI)):Prop:=∀ t i,assoc aj t=some i→ct P t i
theorem ct.mk' {P:Program}{t:TypeId}{i:TI}(h1:(P.info? t).map (fun f=>(f.size,f.bytes,f.zero.map fun z=>iC z.cells.toList))=some (i.size,i.bytes,some (some i.zero)))
  (h2:(P.underlying t).map qH=some i.d) (h3:i.zero.length=i.size):ct P t i:=by
 obtain⟨f,e1,e2⟩:=Option.map_eq_some_iff.1 h1
 obtain⟨d,e3,e4⟩:=Option.map_eq_some_iff.1 h2
 simp only[Prod.mk.injEq] at e2
 obtain⟨z,e5,e6⟩:=Option.map_eq_some_iff.1 e2.2.2
 exact⟨⟨f,z,e1,e2.1,e2.2.1,e5,e6⟩,⟨d,e3,e4⟩,h3⟩
theorem aF.nil {P:Program}:aF P []:=fun _ _ h=>by cases h
theorem aF.cons {P:Program}{t:Nat}{i:TI}{r:List (Nat×TI)}(h:ct P t i)(hr:aF P r):aF P ((t,i)::r):=fun u j hj=>by
 simp only[assoc] at hj
 split at hj
 ·rename_i e;subst e;cases hj;exact h
 ·exact hr u j hj
theorem bj {P:Program}{t:TypeId}{d:TypeDesc}(h:P.underlying t=some d)(w:World):(underlying t).run P w=.ok d w:=run_underlying h w
theorem rS {P:Program}{t:TypeId}{f:TypeInfo}(h:P.info? t=some f)(w:World):(typeInfo t).run P w=.ok f w:=by
 simp[typeInfo,h]
theorem cz {P:Program}{t:TypeId}{f:TypeInfo}(h:P.info? t=some f)(w:World):(sizeOf t).run P w=.ok f.size w:=by
 simp[sizeOf,rS h]
def arith (op:BinOp)(k:IntKind)(a b:Int):Option CV:=
 match op with
 | .add=>some (.int k (k.wrap (a+b)))
 | .sub=>some (.int k (k.wrap (a-b)))
 | .mul=>some (.int k (k.wrap (a*b)))
 | .quo=>if b=0 then none else some (.int k (k.wrap (a.tdiv b)))
 | .rem=>if b=0 then none else some (.int k (a.tmod b))
 | .and=>some (.int k (k.wrap (BitVec.ofInt k.bits a &&& BitVec.ofInt k.bits b).toNat))
 | .or=>some (.int k (k.wrap (BitVec.ofInt k.bits a ||| BitVec.ofInt k.bits b).toNat))
 | .xor=>some (.int k (k.wrap (BitVec.ofInt k.bits a ^^^ BitVec.ofInt k.bits b).toNat))
 | .andNot=>some (.int k (k.wrap (BitVec.ofInt k.bits a &&& ~~~ BitVec.ofInt k.bits b).toNat))
 | .eql=>some (.bool (a == b))
 | .neq=>some (.bool (a != b))
 | .lss=>some (.bool (decide (a<b)))
 | .leq=>some (.bool (decide (a≤b)))
 | .gtr=>some (.bool (decide (a > b)))
 | .geq=>some (.bool (decide (a≥b)))
 | _=>none
def kC (op:BinOp)(x y:ByteArray):Option CV:=
 match op with
 | .add=>if x.size+y.size≤9223372036854775807 then some (.str (x++y)) else none
 | .eql=>some (.bool (x.toList == y.toList))
 | .neq=>some (.bool (!(x.toList == y.toList)))
 | .lss=>some (.bool (Op.bytesLess x.toList y.toList))
 | .leq=>some (.bool (Op.bytesLess x.toList y.toList || x.toList == y.toList))
 | .gtr=>some (.bool (!(Op.bytesLess x.toList y.toList || x.toList == y.toList)))
 | .geq=>some (.bool (!Op.bytesLess x.toList y.toList))
 | _=>none
def zZ (op:BinOp)(d:TD):CV→CV→Option CV
 | .int k a,.int k' b=>match op with
  | .shl=>if b<0 then none else some (.int k (k.wrap (a*2 ^ (min b.toNat k.bits))))
  | .shr=>if b<0 then none else some (.int k (a.fdiv (2 ^ (min b.toNat k.bits))))
  | op=>if k=k' then arith op k a b else none
 | .str x,.str y=>kC op x y
 | .bool a,.bool b=>match d,op with
  | .bool,.eql=>some (.bool (a == b))
  | .bool,.neq=>some (.bool (!(a == b)))
  | _,_=>none
 | _,_=>none
theorem dp {w:World}{F:Nat→Prop}{σ:Nat→Option OB}(k:IntKind)(n:Int):VR w F σ (.int k n) (.int k n):=by simp[VR]
theorem dk {w:World}{F:Nat→Prop}{σ:Nat→Option OB}(b:Bool):VR w F σ (.bool b) (.bool b):=by simp[VR]
theorem wV {w:World}{F:Nat→Prop}{σ:Nat→Option OB}(b:ByteArray):VR w F σ (.str b) (.string b):=by simp[VR]
theorem Fi {P:Program}{w:World}{op:BinOp}{k:IntKind}{xt:TypeId}{a b:Int}{c:CV}(hs1:op≠.shl)(hs2:op≠.shr)(h:arith op k a b=some c){F:Nat→Prop}{σ:Nat→Option OB} :
  ∃ v,(binOp op xt (.int k a) (.int k b)).run P w=.ok v w∧VR w F σ c v:=by
 cases op<;>simp only[arith] at h
 case add=>cases h;exact⟨_,by simp[binOp,Op.intArith],dp _ _⟩
 case sub=>cases h;exact⟨_,by simp[binOp,Op.intArith],dp _ _⟩
 case mul=>cases h;exact⟨_,by simp[binOp,Op.intArith],dp _ _⟩
 case quo=>
  split at h
  ·cases h
  ·cases h;rename_i hb;exact⟨_,by simp[binOp,Op.intDiv,hb],dp _ _⟩
 case rem=>
  split at h
  ·cases h
  ·cases h;rename_i hb;exact⟨_,by simp[binOp,Op.intDiv,hb],dp _ _⟩
 case and=>cases h;exact⟨_,by simp[binOp,Op.intBits],dp _ _⟩
 case or=>cases h;exact⟨_,by simp[binOp,Op.intBits],dp _ _⟩
 case xor=>cases h;exact⟨_,by simp[binOp,Op.intBits],dp _ _⟩
 case andNot=>cases h;exact⟨_,by simp[binOp,Op.intBits],dp _ _⟩
 case eql=>cases h;exact⟨_,by simp[binOp,Op.intCmp],dk _⟩
 case neq=>cases h;exact⟨_,by simp[binOp,Op.intCmp],dk _⟩
 case lss=>cases h;exact⟨_,by simp[binOp,Op.intCmp],dk _⟩
 case leq=>cases h;exact⟨_,by simp[binOp,Op.intCmp],dk _⟩
 case gtr=>cases h;exact⟨_,by simp[binOp,Op.intCmp],dk _⟩
 case geq=>cases h;exact⟨_,by simp[binOp,Op.intCmp],dk _⟩
 all_goals first | cases h | exact absurd rfl hs1 | exact absurd rfl hs2
theorem Dd {P:Program}{w:World}{op:BinOp}{xt:TypeId}{a b:ByteArray}{c:CV}(h:kC op a b=some c){F:Nat→Prop}{σ:Nat→Option OB} :
  ∃ v,(binOp op xt (.string a) (.string b)).run P w=.ok v w∧VR w F σ c v:=by
 cases op<;>simp only[kC] at h
 case add=>
  split at h
  ·rename_i hb
   cases h
   refine⟨_,?_,wV _⟩
   have hm:IntKind.i64.max=9223372036854775807:=by simp[IntKind.max,IntKind.signed,IntKind.bits]
   simp only[binOp,Op.stringOp,hm]
   rw[if_neg (by omega)];rfl
  ·cases h
 case eql=>cases h;exact⟨_,by simp[binOp,Op.stringOp],dk _⟩
 case neq=>cases h;exact⟨_,by simp[binOp,Op.stringOp],dk _⟩
 case lss=>cases h;exact⟨_,by simp[binOp,Op.stringOp],dk _⟩
 case leq=>cases h;exact⟨_,by simp[binOp,Op.stringOp],dk _⟩
 case gtr=>cases h;exact⟨_,by simp[binOp,Op.stringOp],dk _⟩
 case geq=>cases h;exact⟨_,by simp[binOp,Op.stringOp],dk _⟩
 all_goals cases h
end Go.Can
