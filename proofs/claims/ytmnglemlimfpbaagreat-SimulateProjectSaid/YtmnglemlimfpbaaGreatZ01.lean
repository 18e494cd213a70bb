/- Canonical values and their relation to the model's values an -/
import Derived.StillTail
import Derived.ScopeJumps
import Derived.Laws.AppendOwn
import Derived.Laws.CopyOwn
import Derived.Laws.MakeOwn
import Derived.Laws.OwnMore
import Derived.Below
import Derived.IntWalk
namespace Go.Can
theorem yA {p:Prop}(h:p:=by omega):p:=h
theorem yAa {p:Prop}(h:p:=by simp):p:=h
theorem yAb {p:Prop}(h:p:=by kernel_rfl):p:=h
theorem yAc {p:Prop}(h:p:=by simp[hC]):p:=h
theorem yAd {p:Prop}(h:p:=by first | rfl | simp only[List.cons_append,List.nil_append,List.append_nil,trees,tree,aN,wy,Bool.and_self,Bool.and_true,Bool.true_and]):p:=h
theorem yAe {p:Prop}(h:p:=by decide):p:=h
theorem yAf {p:Prop}(h:p:=by simp[ev,assoc]):p:=h
theorem yAg {p:Prop}(h:p:=by simp;omega):p:=h
theorem yAh {p:Prop}(h:p:=by (try simp only[ByteArray.size_append]);omega):p:=h
theorem yAi {p:Prop}(h:p:=by first | rfl | simp[aQ,a8,a7,gv,-List.all_eq_true]):p:=h
theorem yAj {p:Prop}(h:p:=by first | rfl | simp[aA,ints]):p:=h
theorem yAk {p:Prop}(h:p:=by first | rfl | simp[bT,ca,bu,dU,cI,aQ,a8,de,lF,dZ,assoc,dx,jy,-List.all_eq_true,-List.all_flatMap,gv]):p:=h
theorem yAl {p:Prop}(h:p:=by first | rfl | decide):p:=h
theorem yAm {p:Prop}(h:p:=by simp[assoc]):p:=h
theorem yAn {p:Prop}(h:p:=by simp[Op.operands]):p:=h
theorem yAo {p:Prop}(h:p:=by first | exact cc _ | exact wz _ (by first | rfl | assumption | simp[trees,tree, *])):p:=h
theorem yAp {p:Prop}(h:p:=by first | rfl | assumption | simp[trees,tree, *]):p:=h
theorem yAq {p:Prop}(h:p:=by first | rfl | simp only[List.all_cons,List.all_nil,okW,tree, *];rfl | simp[okW,tree,trees, *]):p:=h
theorem yAr {p:Prop}(h:p:=by first | rfl | assumption | simp[tree,trees, *]):p:=h
theorem yAs {p:Prop}(h:p:=by first | rfl | simp[bl,ev,assoc]):p:=h
theorem yAt {p:Prop}(h:p:=by simp[-List.all_eq_true,-List.all_flatMap,-List.all_map]):p:=h
theorem yAu {p:Prop}(h:p:=by simp[-List.all_eq_true,-List.all_flatMap]):p:=h
theorem yAv {p:Prop}(h:p:=by simp[Ex.args]):p:=h
theorem yAw {p:Prop}(h:p:=by simp[lJ,aj htr]):p:=h
theorem yAx {p:Prop}(h:p:=by simp[aA]):p:=h
theorem yAy {p:Prop}(h:p:=by simpa using h):p:=h
theorem yAz {p:Prop}(h:p:=by simp[eH]):p:=h
theorem yB {p:Prop}(h:p:=by simp only[trees,tree];rfl):p:=h
theorem yBa {p:Prop}(h:p:=by first | rfl | exact aN _ | exact wy _):p:=h
theorem yBb {p:Prop}(h:p:=by simp only[ByteArray.size_append];omega):p:=h
theorem yBc {p:Prop}(h:p:=by simp[-List.all_eq_true]):p:=h
theorem yBd {p:Prop}(h:p:=by first | rfl | exact aN _):p:=h
theorem yBe {p:Prop}(h:p:=by simp only[Bm];omega):p:=h
theorem yBf {p:Prop}(h:p:=by simp[-List.all_eq_true,-List.all_flatMap,-List.all_map,aj tG,aj tT,aj tL,aj tV,aj tA1,aj tA2]):p:=h
theorem yBg {p:Prop}(h:p:=by simp[aA,dH,lO]):p:=h
theorem yBh {p:Prop}(h:p:=by simp[mE,BR,tree]):p:=h
theorem yBi {p:Prop}(h:p:=by simp[Tryz.ntmps63]):p:=h
theorem yBj {p:Prop}(h:p:=by simp[aA,lO]):p:=h
theorem yBk {p:Prop}(h:p:=by first | assumption | rfl | simp[bT,ca,bu,dU,cI,aQ,a8,de,lF,dZ,assoc,dx,jy,-List.all_eq_true,-List.all_flatMap,gv]):p:=h
theorem yBl {p:Prop}(h:p:=by simp[gD,CA,-List.all_eq_true,-List.all_flatMap]):p:=h
theorem yBm {p:Prop}(h:p:=by simp only[tree,trees,Bool.and_self]):p:=h
theorem yBn {p:Prop}(h:p:=by rw[aD eJ];omega):p:=h
theorem yBo {p:Prop}(h:p:=by simpa using hx):p:=h
theorem yBp {p:Prop}(h:p:=by first | rfl | simp only[List.append_nil,trees,tree,aN,Bool.and_self]):p:=h
theorem yBq {p:Prop}(h:p:=by simp[eC,vV,sh,tree,assoc,-List.all_eq_true,-List.all_flatMap,aH tBa]):p:=h
theorem yBr {p:Prop}(h:p:=by simp[lO,dj,-List.all_eq_true,-List.all_flatMap]):p:=h
theorem yBs {p:Prop}(h:p:=by simp only[List.length_cons];omega):p:=h
theorem yBt {p:Prop}(h:p:=by simpa [aV,m1] using hb):p:=h
theorem yBu {p:Prop}(h:p:=by simpa [aF] using ho):p:=h
theorem yBv {p:Prop}(h:p:=by simp[eC,vV,sh,tree,assoc,-List.all_eq_true,-List.all_flatMap,hin]):p:=h
theorem yBw {p:Prop}(h:p:=by simp only[List.all_cons,List.all_nil,okW,tree];rfl):p:=h
theorem yBx {p:Prop}(h:p:=by simp[-List.all_eq_true,-List.all_flatMap,gv]):p:=h
theorem yBy {p:Prop}(h:p:=by simp[gD,-List.all_eq_true,-List.all_flatMap]):p:=h
theorem yBz {p:Prop}(h:p:=by simp[aA,-List.all_eq_true,gv]):p:=h
theorem yC {p:Prop}(h:p:=by rwa [getD_set_ne false hij] at hl):p:=h
theorem yCa {p:Prop}(h:p:=by simp[-List.all_eq_true,-List.all_flatMap,a6 2 _ hX,a6 2 _ hY,a6 2 _ tls]):p:=h
theorem yCb {p:Prop}(h:p:=by simp[eC,vV,sh,tree,assoc,-List.all_eq_true,-List.all_flatMap]):p:=h
theorem yCc {p:Prop}(h:p:=by simp[aA,lO,-List.all_eq_true,-List.all_flatMap]):p:=h
theorem yCd {p:Prop}(h:p:=by simp only;rw[CP (Gk nx) hargs];exact hca):p:=h
theorem yCe {p:Prop}(h:p:=by simp[aA,-List.all_eq_true]):p:=h
theorem yCf {p:Prop}(h:p:=by simp[-List.all_eq_true,-List.all_flatMap,a6 4 _ hY,aj (ai bP l),a6 4 _ tls,aj hcob]):p:=h
theorem yCg {p:Prop}(h:p:=by simp[aA,ints,lO,-List.all_eq_true,-List.all_flatMap]):p:=h
theorem yCh {p:Prop}(h:p:=by simp[-List.all_eq_true,-List.all_flatMap,aj tst]):p:=h
theorem yCi {p:Prop}(h:p:=by rw[← Array.toArray_toList (xs:=cl.argTypes),hts]):p:=h
theorem yCj {p:Prop}(h:p:=by have:(⟨#[9]⟩:ByteArray).size=1:=rfl;omega):p:=h
theorem yCk {p:Prop}(h:p:=by rw[← Array.toArray_toList (xs:=cl.args),ha]):p:=h
theorem yCl {p:Prop}(h:p:=by rw[aD (f:=cW) (n:=2) eJ];simp):p:=h
theorem yCm {p:Prop}(h:p:=by simp[-List.all_eq_true,-List.all_flatMap,-List.all_map,aj tG,aj tT,aj tL,aj tV,aW,aj tA1,aj tA2]):p:=h
theorem yCn {p:Prop}(h:p:=by simp[-List.all_eq_true,-List.all_flatMap,-List.all_map,aj tG,aj tT,aj tL,aj tA1,aj tA2]):p:=h
theorem yCo {p:Prop}(h:p:=by simp[-List.all_eq_true,-List.all_flatMap,-List.all_map,aj tG,aj tL,aj tV,aj tA1,aj tA2]):p:=h
theorem yCp {p:Prop}(h:p:=by simp only[di,oO];simp[-List.all_eq_true,-List.all_flatMap,bh (ai aN N),yp]):p:=h
theorem yCq {p:Prop}(h:p:=by simp only[di,oO];simp[-List.all_eq_true,-List.all_flatMap,gv,aj (ai aN N)]):p:=h
theorem yCr {p:Prop}(h:p:=by simp only[di,oO,lp];simp[-List.all_eq_true,-List.all_flatMap,aj (ai aN _)]):p:=h
theorem yCs {p:Prop}(h:p:=by simp[-List.all_eq_true,-List.all_flatMap,aj (bC out),aj (bC th.1)]):p:=h
theorem yCt {p:Prop}(h:p:=by have:(js ⟨#[9]⟩ bd).size=(js p6 bd).size:=rfl;simp only[ByteArray.size_append];omega):p:=h
theorem yCu {p:Prop}(h:p:=by simp[eC,vV,sh,tree,assoc,-List.all_eq_true,-List.all_flatMap,aH tp1]):p:=h
theorem yCv {p:Prop}(h:p:=by simp only[Op.operands];simp only[List.mem_toArray,List.mem_map];exact⟨x,hx,rfl⟩):p:=h
theorem yCw {p:Prop}(h:p:=by simp[-List.all_eq_true,-List.all_flatMap,gv,aj (ai aN N)]):p:=h
open Go.RowKit
inductive CV where
 | int (k:IntKind) (n:Int)
 | bool (b:Bool)
 | str (s:ByteArray)
 | agg (cs:List CV)
 | av (cs:List CV) (n:Nat)
 | ah
 | cM (cs:List CV)
 | bm
 | fn (f:FuncId) (caps:List CV)
 | cw
 | iface (t:TypeId) (cs:List CV)
 | iter (k:Nat) (s:ByteArray) (p:Nat)
 | mp (k:Nat) (es:List (Value×Value))
 | cr (vs:List CV)
 | bx (o off n:Nat)
 | aw (o off:Nat)
 | any
instance : Inhabited CV := ⟨.bm⟩
def one:CV→Bool
 | .agg _=>false
 | .cr _=>false
 | .iter _ _ _=>false
 | _=>true
def CV.cells:CV→List CV
 | .agg cs=>cs
 | c=>[c]
def Mo (t:TypeId):List Value→Value
 | []=>.nilIface
 | v::_=>.iface t v
mutual
/-- The immutable ones: the value v reads as c; no cell of it lies in a block of F. -/
def bY (w:World)(F:Nat→Prop):CV→Value→Prop
 | .int k n,v=>v=.int k n
 | .bool b,v=>v=.bool b
 | .str s,v=>v=.string s
 | .agg cs,v=>∃ vs:List Value,v=.agg vs.toArray∧bJ w F cs vs∧cs.all one=true
 | .av cs n,v=>∃ A cap,v=.slice A n cap∧n≤cap∧cap≤maxLen∧((n=0∧cs=[])∨∃ ad,A=some ad∧fw w F cs ad)
 | .ah,v=>v=.slice none 0 0
 | .cM cs,v=>∃ ad,v=.pointer (some ad)∧fw w F cs ad
 | .bm,v=>v=.pointer none
 | .fn f caps,v=>∃ vs:List Value,v=.func (.func f) #[] vs.toArray∧bJ w F caps vs
 | .iface f caps,v=>∃ vs:List Value,v=Mo f vs∧bJ w F caps vs
 | .cw,v=>v=.nilFunc
 | .iter _ _ _,_=>False
 | .mp _ _,_=>False
 | .cr cs,v=>∃ vs:List Value,v=.tuple vs.toArray∧bJ w F cs vs
 | .bx _ _ _,_=>False
 | .aw _ _,_=>False
 | .any,v=>v.oneCell'=true
def bJ (w:World)(F:Nat→Prop):List CV→List Value→Prop
 | [],vs=>vs=[]
 | c::cs,vs=>∃ v r,vs=v::r∧bY w F c v∧bJ w F cs r
/-- The cells from an address on. -/
def fw (w:World)(F:Nat→Prop):List CV→Addr→Prop
 | [],_=>True
 | c::cs,ad=>(∃ u,w.cell? ad=some u∧¬ F ad.block∧bY w F c u)∧one c=true∧fw w F cs (ad.add 1)
end
theorem EM (a:Addr)(n:Nat):(a.add n).block=a.block:=by unfold Addr.add;split<;>rfl
theorem add_add (a:Addr)(i j:Nat):(a.add i).add j=a.add (i+j):=by
 unfold Addr.add
 by_cases hi:i=0<;>by_cases hj:j=0<;>simp[hi,hj,Nat.add_assoc]
theorem add_zero (a:Addr):a.add 0=a:=by simp[Addr.add]
theorem add_lit (b i j:Nat):(⟨b,i,none⟩:Addr).add j=⟨b,i+j,none⟩:=by
 unfold Addr.add;split<;>simp_all
def mP (w w':World)(F F':Nat→Prop):Prop:=∀ ad u,¬ F ad.block→w.cell? ad=some u→w'.cell? ad=some u∧¬ F' ad.block
def cF (w w':World)(F F':Nat→Prop):Prop:=mP w w' F F'∧
 ∀ r x,¬ F r→w.heap[r]? = some x→(∀ c e f,x≠.cells c e f)→w'.heap[r]? = some x∧¬ F' r
theorem cF.same {w:World}{F F':Nat→Prop}(h:∀ b,F' b→F b):cF w w F F':=⟨fun _ _ hf hu=>⟨hu,fun k=>hf (h _ k)⟩,fun _ _ hf hu _=>⟨hu,fun k=>hf (h _ k)⟩⟩
mutual
theorem bY.bp {w w':World}{F F':Nat→Prop}(h:mP w w' F F'):∀ (c:CV) (v:Value),bY w F c v→bY w' F' c v
 | .int _ _,_,hv=>by simpa [bY] using hv
 | .bool _,_,hv=>by simpa [bY] using hv
 | .str _,_,hv=>by simpa [bY] using hv
 | .agg cs,v,hv=>by
  simp only[bY] at hv ⊢
  obtain⟨vs,e,r,h1⟩:=hv
  exact⟨vs,e,bJ.bp h cs vs r,h1⟩
 | .ah,_,hv=>by simpa [bY] using hv
 | .av cs n,v,hv=>by
  simp only[bY] at hv ⊢
  obtain⟨A,cap,e,h1,h2,h4⟩:=hv
  refine⟨A,cap,e,h1,h2,?_⟩
  rcases h4 with h4 | ⟨ad,ea,hm⟩
  ·exact .inl h4
  ·exact .inr ⟨ad,ea,fw.bp h cs ad hm⟩
 | .cM cs,v,hv=>by
  simp only[bY] at hv ⊢
  obtain⟨ad,e,hm⟩:=hv
  exact⟨ad,e,fw.bp h cs ad hm⟩
 | .bm,_,hv=>by simpa [bY] using hv
 | .fn f caps,v,hv=>by
  simp only[bY] at hv ⊢
  obtain⟨vs,e,r⟩:=hv
  exact⟨vs,e,bJ.bp h caps vs r⟩
 | .iface f caps,v,hv=>by
  simp only[bY] at hv ⊢
  obtain⟨vs,e,r⟩:=hv
  exact⟨vs,e,bJ.bp h caps vs r⟩
 | .cw,_,hv=>by simpa [bY] using hv
 | .iter _ _ _,_,hv=>by simp[bY] at hv
 | .mp _ _,_,hv=>by simp[bY] at hv
 | .cr cs,v,hv=>by
  simp only[bY] at hv ⊢
  obtain⟨vs,e,r⟩:=hv
  exact⟨vs,e,bJ.bp h cs vs r⟩
 | .bx _ _ _,_,hv=>by simp[bY] at hv
 | .aw _ _,_,hv=>by simp[bY] at hv
 | .any,_,hv=>by simpa [bY] using hv
theorem bJ.bp {w w':World}{F F':Nat→Prop}(h:mP w w' F F'):∀ (cs:List CV) (vs:List Value),bJ w F cs vs→bJ w' F' cs vs
 | [],_,hv=>by simpa [bJ] using hv
 | c::cs,vs,hv=>by
  simp only[bJ] at hv ⊢
  obtain⟨v,r,e,h1,h2⟩:=hv
  exact⟨v,r,e,bY.bp h c v h1,bJ.bp h cs r h2⟩
theorem fw.bp {w w':World}{F F':Nat→Prop}(h:mP w w' F F'):∀ (cs:List CV) (ad:Addr),fw w F cs ad→fw w' F' cs ad
 | [],_,_=>by simp[fw]
 | c::cs,ad,hv=>by
  simp only[fw] at hv ⊢
  obtain⟨⟨u,h1,h2,h3⟩,ho,h4⟩:=hv
  obtain⟨k1,k2⟩:=h ad u h2 h1
  exact⟨⟨u,k1,k2,bY.bp h c u h3⟩,ho,fw.bp h cs _ h4⟩
end
theorem fw.drop {w:World}{F:Nat→Prop}:∀ (k:Nat) (cs:List CV) (ad:Addr),fw w F cs ad→fw w F (cs.drop k) (ad.add k)
 | 0,cs,ad,h=>by simpa [add_zero] using h
 | k+1,[],ad,_=>by simp[fw]
 | k+1,c::cs,ad,h=>by
  simp only[fw] at h
  have:=fw.drop k cs _ h.2.2
  rw[add_add] at this
  simpa [Nat.add_comm] using this
theorem fw.take {w:World}{F:Nat→Prop}:∀ (k:Nat) (cs:List CV) (ad:Addr),fw w F cs ad→fw w F (cs.take k) ad
 | 0,_,_,_=>by simp[fw]
 | k+1,[],_,_=>by simp[fw]
 | k+1,c::cs,ad,h=>by
  simp only[fw] at h
  simp only[List.take_succ_cons,fw]
  exact⟨h.1,h.2.1,fw.take k cs _ h.2.2⟩
theorem fw.cells {w:World}{F:Nat→Prop}:∀ (cs:List CV) (ad:Addr),fw w F cs ad→∃ us:List Value,bJ w F cs us∧us.length=cs.length∧∀ j u,us[j]? = some u→w.cell? (ad.add j)=some u
 | [],ad,_=>⟨[],by simp[bJ],rfl,by simp⟩
 | c::cs,ad,h=>by
  simp only[fw] at h
  obtain⟨⟨u,h1,h2,h3⟩,_,h4⟩:=h
  obtain⟨us,k1,k2,k3⟩:=fw.cells cs _ h4
  refine⟨u::us,by simp only[bJ];exact⟨u,us,rfl,h3,k1⟩,by simp[k2],?_⟩
  intro j x hx
  cases j with
  | zero=>simp at hx;subst hx;rw[add_zero];exact h1
  | succ j=>
   have:=k3 j x yBo
   rw[add_add] at this
   rwa [Nat.add_comm] at this
theorem bJ.length {w:World}{F:Nat→Prop}:∀ (cs:List CV) (vs:List Value),bJ w F cs vs→vs.length=cs.length
 | [],vs,h=>by simp only[bJ] at h;subst h;rfl
 | c::cs,vs,h=>by
  simp only[bJ] at h
  obtain⟨v,r,rfl,_,h2⟩:=h
  simp[bJ.length cs r h2]
theorem bJ.get {w:World}{F:Nat→Prop}:∀ (cs:List CV) (vs:List Value),bJ w F cs vs→∀ (i:Nat) (c:CV),cs[i]? = some c→∃ v,vs[i]? = some v∧bY w F c v
 | [],vs,_,i,c,hi=>by simp at hi
 | c::cs,vs,h,i,d,hi=>by
  simp only[bJ] at h
  obtain⟨v,r,rfl,h1,h2⟩:=h
  cases i with
  | zero=>simp at hi;subst hi;exact⟨v,rfl,h1⟩
  | succ i=>simpa using bJ.get cs r h2 i d (by simpa using hi)
structure OB where
 jX:Option Nat
 room:Nat
 sz:Nat
mutual
/-- The values of a frame and of the objects' cells. -/
def VR (w:World)(F:Nat→Prop)(σ:Nat→Option OB):CV→Value→Prop
 | .bx o off n,v=>∃ B,σ o=some B∧match B.jX with
   | none=>v=.slice none 0 0∧off=0∧n=0
   | some b=>∃ cap,v=.slice (some ⟨b,off,none⟩) n cap∧n≤cap∧cap≤maxLen∧off+cap*B.sz≤B.room∧(off=0→cap*B.sz=B.room)
 | .aw o off,v=>∃ B b,σ o=some B∧B.jX=some b∧v=.pointer (some ⟨b,off,none⟩)
 | .agg cs,v=>∃ vs:List Value,v=.agg vs.toArray∧aS w F σ cs vs∧cs.all one=true
 | .fn f caps,v=>∃ vs:List Value,v=.func (.func f) #[] vs.toArray∧aS w F σ caps vs
 | .iface f caps,v=>∃ vs:List Value,v=Mo f vs∧aS w F σ caps vs
 | .cr cs,v=>∃ vs:List Value,v=.tuple vs.toArray∧aS w F σ cs vs
 | .int k n,v=>v=.int k n
 | .bool b,v=>v=.bool b
 | .str s,v=>v=.string s
 | .av cs n,v=>bY w F (.av cs n) v
 | .ah,v=>v=.slice none 0 0
 | .cM cs,v=>bY w F (.cM cs) v
 | .bm,v=>v=.pointer none
 | .cw,v=>v=.nilFunc
 | .iter k s p,v=>∃ B r,σ k=some B∧B.jX=some r∧v=.pointer (some ⟨r,0,none⟩)∧w.heap[r]? = some (.stringIter s p)∧¬ F r
 | .mp k es,v=>∃ B r arr clock,σ k=some B∧B.jX=some r∧v=.map (some r)∧w.heap[r]? = some (.map arr clock)∧arr.toList.map (fun e=>(e.key,e.val))=es∧(es.map (·.1)).Nodup∧¬ F r
 | .any,v=>v.oneCell'=true
def aS (w:World)(F:Nat→Prop)(σ:Nat→Option OB):List CV→List Value→Prop
 | [],vs=>vs=[]
 | c::cs,vs=>∃ v r,vs=v::r∧VR w F σ c v∧aS w F σ cs r
end
mutual
/-- No object of one's own in it, on the surface. -/
def tree:CV→Bool
 | .bx _ _ _=>false
 | .aw _ _=>false
 | .iter _ _ _=>false
 | .mp _ _=>false
 | .agg cs=>trees cs
 | .fn _ cs=>trees cs
 | .iface _ cs=>trees cs
 | .cr cs=>trees cs
 | _=>true
def trees:List CV→Bool
 | []=>true
 | c::cs=>tree c && trees cs
end
mutual
theorem VR.cu {w:World}{F:Nat→Prop}{σ:Nat→Option OB}:∀ (c:CV) (v:Value),bY w F c v→VR w F σ c v
 | .int _ _,_,h=>by simpa [VR,bY] using h
 | .bool _,_,h=>by simpa [VR,bY] using h
 | .str _,_,h=>by simpa [VR,bY] using h
 | .agg cs,v,h=>by
  simp only[VR,bY] at h ⊢
  obtain⟨vs,e,r,h1⟩:=h
  exact⟨vs,e,aS.cu cs vs r,h1⟩
 | .ah,_,h=>by simpa [VR,bY] using h
 | .av _ _,_,h=>by simpa only[VR] using h
 | .cM _,_,h=>by simpa only[VR] using h
 | .bm,_,h=>by simpa [VR,bY] using h
 | .fn _ cs,v,h=>by
  simp only[VR,bY] at h ⊢
  obtain⟨vs,e,r⟩:=h
  exact⟨vs,e,aS.cu cs vs r⟩
 | .iface _ cs,v,h=>by
  simp only[VR,bY] at h ⊢
  obtain⟨vs,e,r⟩:=h
  exact⟨vs,e,aS.cu cs vs r⟩
 | .cw,_,h=>by simpa [VR,bY] using h
 | .iter _ _ _,_,h=>by simp[bY] at h
 | .mp _ _,_,h=>by simp[bY] at h
 | .cr cs,v,h=>by
  simp only[VR,bY] at h ⊢
  obtain⟨vs,e,r⟩:=h
  exact⟨vs,e,aS.cu cs vs r⟩
 | .bx _ _ _,_,h=>by simp[bY] at h
 | .aw _ _,_,h=>by simp[bY] at h
 | .any,_,h=>by simpa [VR,bY] using h
theorem aS.cu {w:World}{F:Nat→Prop}{σ:Nat→Option OB}:∀ (cs:List CV) (vs:List Value),bJ w F cs vs→aS w F σ cs vs
 | [],_,h=>by simpa [aS,bJ] using h
 | c::cs,vs,h=>by
  simp only[aS,bJ] at h ⊢
  obtain⟨v,r,e,h1,h2⟩:=h
  exact⟨v,r,e,VR.cu c v h1,aS.cu cs r h2⟩
end
mutual
theorem VR.ek {w:World}{F:Nat→Prop}{σ:Nat→Option OB}:∀ (c:CV) (v:Value),tree c=true→VR w F σ c v→bY w F c v
 | .int _ _,_,_,h=>by simpa [VR,bY] using h
 | .bool _,_,_,h=>by simpa [VR,bY] using h
 | .str _,_,_,h=>by simpa [VR,bY] using h
 | .agg cs,v,ht,h=>by
  simp only[VR,bY,tree] at h ht ⊢
  obtain⟨vs,e,r,h1⟩:=h
  exact⟨vs,e,aS.ek cs vs ht r,h1⟩
 | .ah,_,_,h=>by simpa [VR,bY] using h
 | .av _ _,_,_,h=>by simpa only[VR] using h
 | .cM _,_,_,h=>by simpa only[VR] using h
 | .bm,_,_,h=>by simpa [VR,bY] using h
 | .fn _ cs,v,ht,h=>by
  simp only[VR,bY,tree] at h ht ⊢
  obtain⟨vs,e,r⟩:=h
  exact⟨vs,e,aS.ek cs vs ht r⟩
 | .iface _ cs,v,ht,h=>by
  simp only[VR,bY,tree] at h ht ⊢
  obtain⟨vs,e,r⟩:=h
  exact⟨vs,e,aS.ek cs vs ht r⟩
 | .cw,_,_,h=>by simpa [VR,bY] using h
 | .iter _ _ _,_,ht,_=>by simp[tree] at ht
 | .mp _ _,_,ht,_=>by simp[tree] at ht
 | .cr cs,v,ht,h=>by
  simp only[VR,bY,tree] at h ht ⊢
  obtain⟨vs,e,r⟩:=h
  exact⟨vs,e,aS.ek cs vs ht r⟩
 | .bx _ _ _,_,ht,_=>by simp[tree] at ht
 | .aw _ _,_,ht,_=>by simp[tree] at ht
 | .any,_,_,h=>by simpa [VR,bY] using h
theorem aS.ek {w:World}{F:Nat→Prop}{σ:Nat→Option OB}:∀ (cs:List CV) (vs:List Value),trees cs=true→aS w F σ cs vs→bJ w F cs vs
 | [],_,_,h=>by simpa [aS,bJ] using h
 | c::cs,vs,ht,h=>by
  simp only[aS,bJ,trees,Bool.and_eq_true] at h ht ⊢
  obtain⟨v,r,e,h1,h2⟩:=h
  exact⟨v,r,e,VR.ek c v ht.1 h1,aS.ek cs r ht.2 h2⟩
end
mutual
/-- The value names the object o. -/
def aF (o:Nat):CV→Bool
 | .bx p _ _=>p != o
 | .aw p _=>p != o
 | .iter p _ _=>p != o
 | .mp p _=>p != o
 | .agg cs=>dJ o cs
 | .fn _ cs=>dJ o cs
 | .iface _ cs=>dJ o cs
 | .cr cs=>dJ o cs
 | _=>true
def dJ (o:Nat):List CV→Bool
 | []=>true
 | c::cs=>aF o c && dJ o cs
end
mutual
/-- A reading is kept when the world turns as 'Keeps' says and the places of all objects that it names stay. -/
theorem VR.bp {w w':World}{F F':Nat→Prop}{σ σ':Nat→Option OB}(h:cF w w' F F'):∀ (c:CV) (v:Value),(∀ o,aF o c=false→σ' o=σ o)→VR w F σ c v→VR w' F' σ' c v
 | .int _ _,_,_,hv=>by simpa [VR] using hv
 | .bool _,_,_,hv=>by simpa [VR] using hv
 | .str _,_,_,hv=>by simpa [VR] using hv
 | .agg cs,v,hr,hv=>by
  simp only[VR] at hv ⊢
  obtain⟨vs,e,r,h1⟩:=hv
  exact⟨vs,e,aS.bp h cs vs (fun o ho=>hr o yBu) r,h1⟩
 | .ah,_,_,hv=>by simpa [VR] using hv
 | .av _ _,_,_,hv=>by simp only[VR] at hv ⊢;exact bY.bp h.1 _ _ hv
 | .cM _,_,_,hv=>by simp only[VR] at hv ⊢;exact bY.bp h.1 _ _ hv
 | .bm,_,_,hv=>by simpa [VR] using hv
 | .fn _ cs,v,hr,hv=>by
  simp only[VR] at hv ⊢
  obtain⟨vs,e,r⟩:=hv
  exact⟨vs,e,aS.bp h cs vs (fun o ho=>hr o yBu) r⟩
 | .iface _ cs,v,hr,hv=>by
  simp only[VR] at hv ⊢
  obtain⟨vs,e,r⟩:=hv
  exact⟨vs,e,aS.bp h cs vs (fun o ho=>hr o yBu) r⟩
 | .cw,_,_,hv=>by simpa [VR] using hv
 | .iter k s p,v,hr,hv=>by
  have hs:=hr k (by simp[aF])
  simp only[VR] at hv ⊢
  obtain⟨B,r,e1,e2,e3,h1,h2⟩:=hv
  obtain⟨k1,k2⟩:=h.2 r _ h2 h1 (fun _ _ _ he=>by cases he)
  exact⟨B,r,hs.trans e1,e2,e3,k1,k2⟩
 | .mp k es,v,hr,hv=>by
  have hs:=hr k (by simp[aF])
  simp only[VR] at hv ⊢
  obtain⟨B,r,arr,clock,e1,e2,e3,h1,h3,h4,h2⟩:=hv
  obtain⟨k1,k2⟩:=h.2 r _ h2 h1 (fun _ _ _ he=>by cases he)
  exact⟨B,r,arr,clock,hs.trans e1,e2,e3,k1,h3,h4,k2⟩
 | .cr cs,v,hr,hv=>by
  simp only[VR] at hv ⊢
  obtain⟨vs,e,r⟩:=hv
  exact⟨vs,e,aS.bp h cs vs (fun o ho=>hr o yBu) r⟩
 | .bx o off n,v,hr,hv=>by
  have:=hr o (by simp[aF])
  simp only[VR] at hv ⊢
  rw[this];exact hv
 | .aw o off,v,hr,hv=>by
  have:=hr o (by simp[aF])
  simp only[VR] at hv ⊢
  rw[this];exact hv
 | .any,_,_,hv=>by simpa [VR] using hv
theorem aS.bp {w w':World}{F F':Nat→Prop}{σ σ':Nat→Option OB}(h:cF w w' F F'):∀ (cs:List CV) (vs:List Value),(∀ o,dJ o cs=false→σ' o=σ o)→aS w F σ cs vs→aS w' F' σ' cs vs
 | [],_,_,hv=>by simpa [aS] using hv
 | c::cs,vs,hr,hv=>by
  simp only[aS] at hv ⊢
  obtain⟨v,r,e,h1,h2⟩:=hv
  exact⟨v,r,e,VR.bp h c v (fun o ho=>hr o (by simp[dJ,ho])) h1,aS.bp h cs r (fun o ho=>hr o (by simp[dJ,ho])) h2⟩
end
mutual
/-- No iterator in it, on the surface. -/
def lh:CV→Bool
 | .iter _ _ _=>false
 | .mp _ _=>false
 | .agg cs=>jG cs
 | .fn _ cs=>jG cs
 | .iface _ cs=>jG cs
 | .cr cs=>jG cs
 | _=>true
def jG:List CV→Bool
 | []=>true
 | c::cs=>lh c && jG cs
end
mutual
/-- A reading without iterators is kept when the cells are. -/
theorem VR.nQ {w w':World}{F F':Nat→Prop}{σ:Nat→Option OB}(h:mP w w' F F'):∀ (c:CV) (v:Value),lh c=true→VR w F σ c v→VR w' F' σ c v
 | .int _ _,_,_,hv=>by simpa [VR] using hv
 | .bool _,_,_,hv=>by simpa [VR] using hv
 | .str _,_,_,hv=>by simpa [VR] using hv
 | .ah,_,_,hv=>by simpa [VR] using hv
 | .av _ _,_,_,hv=>by simp only[VR] at hv ⊢;exact bY.bp h _ _ hv
 | .cM _,_,_,hv=>by simp only[VR] at hv ⊢;exact bY.bp h _ _ hv
 | .bm,_,_,hv=>by simpa [VR] using hv
 | .cw,_,_,hv=>by simpa [VR] using hv
 | .any,_,_,hv=>by simpa [VR] using hv
 | .bx _ _ _,_,_,hv=>by simpa only[VR] using hv
 | .aw _ _,_,_,hv=>by simpa only[VR] using hv
 | .iter _ _ _,_,hn,_=>by simp[lh] at hn
 | .mp _ _,_,hn,_=>by simp[lh] at hn
 | .agg cs,v,hn,hv=>by
  simp only[VR] at hv ⊢
  obtain⟨vs,e,r,h1⟩:=hv
  exact⟨vs,e,aS.nQ h cs vs (by simpa [lh] using hn) r,h1⟩
 | .fn _ cs,v,hn,hv=>by
  simp only[VR] at hv ⊢
  obtain⟨vs,e,r⟩:=hv
  exact⟨vs,e,aS.nQ h cs vs (by simpa [lh] using hn) r⟩
 | .iface _ cs,v,hn,hv=>by
  simp only[VR] at hv ⊢
  obtain⟨vs,e,r⟩:=hv
  exact⟨vs,e,aS.nQ h cs vs (by simpa [lh] using hn) r⟩
 | .cr cs,v,hn,hv=>by
  simp only[VR] at hv ⊢
  obtain⟨vs,e,r⟩:=hv
  exact⟨vs,e,aS.nQ h cs vs (by simpa [lh] using hn) r⟩
theorem aS.nQ {w w':World}{F F':Nat→Prop}{σ:Nat→Option OB}(h:mP w w' F F'):∀ (cs:List CV) (vs:List Value),jG cs=true→aS w F σ cs vs→aS w' F' σ cs vs
 | [],_,_,hv=>by simpa [aS] using hv
 | c::cs,vs,hn,hv=>by
  simp only[jG,Bool.and_eq_true] at hn
  simp only[aS] at hv ⊢
  obtain⟨v,r,e,h1,h2⟩:=hv
  exact⟨v,r,e,VR.nQ h c v hn.1 h1,aS.nQ h cs r hn.2 h2⟩
end
theorem aS.length {w:World}{F:Nat→Prop}{σ:Nat→Option OB}:∀ (cs:List CV) (vs:List Value),aS w F σ cs vs→vs.length=cs.length
 | [],vs,h=>by simp only[aS] at h;subst h;rfl
 | c::cs,vs,h=>by
  simp only[aS] at h
  obtain⟨v,r,rfl,_,h2⟩:=h
  simp[aS.length cs r h2]
theorem aS.get {w:World}{F:Nat→Prop}{σ:Nat→Option OB}:∀ (cs:List CV) (vs:List Value),aS w F σ cs vs→∀ (i:Nat) (c:CV),cs[i]? = some c→∃ v,vs[i]? = some v∧VR w F σ c v
 | [],vs,_,i,c,hi=>by simp at hi
 | c::cs,vs,h,i,d,hi=>by
  simp only[aS] at h
  obtain⟨v,r,rfl,h1,h2⟩:=h
  cases i with
  | zero=>simp at hi;subst hi;exact⟨v,rfl,h1⟩
  | succ i=>simpa using aS.get cs r h2 i d (by simpa using hi)
theorem aS.yq {w:World}{F:Nat→Prop}{σ:Nat→Option OB}:∀ (cs:List CV) (vs:List Value),vs.length=cs.length→(∀ (i:Nat) (c:CV),cs[i]? = some c→∃ v,vs[i]? = some v∧VR w F σ c v)→aS w F σ cs vs
 | [],vs,hl,_=>by simp only[aS];exact List.eq_nil_of_length_eq_zero hl
 | c::cs,[],hl,_=>by simp at hl
 | c::cs,v::vs,hl,h=>by
  simp only[aS]
  refine⟨v,vs,rfl,?_,aS.yq cs vs (by simpa using hl) fun i d hi=>?_⟩
  ·obtain⟨u,hu,hr⟩:=h 0 c rfl
   simp at hu;subst hu;exact hr
  ·simpa using h (i+1) d (by simpa using hi)
theorem aS.take {w:World}{F:Nat→Prop}{σ:Nat→Option OB}(k:Nat)(cs:List CV)(vs:List Value)(h:aS w F σ cs vs):aS w F σ (cs.take k) (vs.take k):=by
 refine aS.yq _ _ (by simp[aS.length cs vs h]) fun i c hi=>?_
 rw[List.getElem?_take] at hi ⊢
 split at hi
 ·rename_i hk;rw[if_pos hk];exact aS.get cs vs h i c hi
 ·cases hi
theorem aS.drop {w:World}{F:Nat→Prop}{σ:Nat→Option OB}(k:Nat)(cs:List CV)(vs:List Value)(h:aS w F σ cs vs):aS w F σ (cs.drop k) (vs.drop k):=by
 refine aS.yq _ _ (by simp[aS.length cs vs h]) fun i c hi=>?_
 rw[List.getElem?_drop] at hi ⊢
 exact aS.get cs vs h _ c hi
theorem aS.append {w:World}{F:Nat→Prop}{σ:Nat→Option OB}:∀ (cs ds:List CV) (vs us:List Value),aS w F σ cs vs→aS w F σ ds us→aS w F σ (cs++ds) (vs++us)
 | [],ds,vs,us,h,k=>by simp only[aS] at h;subst h;simpa using k
 | c::cs,ds,vs,us,h,k=>by
  simp only[aS] at h
  obtain⟨v,r,rfl,h1,h2⟩:=h
  simp only[List.cons_append,aS]
  exact⟨v,r++us,rfl,h1,aS.append cs ds r us h2 k⟩
theorem VR.zU {w:World}{F:Nat→Prop}{σ:Nat→Option OB}(c:CV)(v:Value)(h1:one c=true)(h:VR w F σ c v):v.oneCell'=true:=by
 cases c<;>simp only[VR,bY,one,Bool.false_eq_true] at h h1
 case av=>obtain⟨A,cap,rfl,_⟩:=h;rfl
 case cM=>obtain⟨ad,rfl,_⟩:=h;rfl
 case fn=>obtain⟨vs,rfl,_⟩:=h;rfl
 case iface=>obtain⟨vs,rfl,_⟩:=h;cases vs<;>rfl
 case bx o off n=>
  obtain⟨B,_,h⟩:=h
  split at h
  ·obtain⟨rfl,_⟩:=h;rfl
  ·obtain⟨cap,rfl,_⟩:=h;rfl
 case aw=>obtain⟨B,b,_,_,rfl⟩:=h;rfl
 case any=>exact h
 case mp=>obtain⟨B,r,arr,clock,_,_,rfl,_⟩:=h;rfl
 all_goals (subst h;rfl)
theorem aS.iJ {w:World}{F:Nat→Prop}{σ:Nat→Option OB}:∀ (cs:List CV) (vs:List Value),cs.all one=true→aS w F σ cs vs→∀ u∈vs,u.oneCell'=true
 | [],vs,_,h=>by simp only[aS] at h;subst h;simp
 | c::cs,vs,ha,h=>by
  simp only[aS] at h
  obtain⟨v,r,rfl,h1,h2⟩:=h
  simp only[List.all_cons,Bool.and_eq_true] at ha
  intro u hu
  rcases List.mem_cons.1 hu with rfl | hu
  ·exact VR.zU c _ ha.1 h1
  ·exact aS.iJ cs r ha.2 h2 u hu
theorem yk {v:Value}(h:v.oneCell'=true):v.cells=#[v]:=by
 cases v<;>simp_all [Value.oneCell',Value.cells]
theorem VR.flat {w:World}{F:Nat→Prop}{σ:Nat→Option OB}(c:CV)(v:Value)(hc:∀ cs,c≠.cr cs)(hi:∀ k s p,c≠.iter k s p)(h:VR w F σ c v):aS w F σ c.cells v.cells.toList∧c.cells.all one=true:=by
 by_cases ha:∃ cs,c=.agg cs
 ·obtain⟨cs,rfl⟩:=ha
  simp only[VR] at h
  obtain⟨vs,rfl,r,h1⟩:=h
  exact⟨by simpa [CV.cells,Value.cells] using r,h1⟩
 ·have h1:one c=true:=by
   cases c<;>simp_all [one]
  have h2:c.cells=[c]:=by
   cases c<;>simp_all [CV.cells]
  rw[h2,yk (VR.zU c v h1 h)]
  exact⟨by simp only[aS];exact⟨v,[],rfl,h,rfl⟩,by simp[h1]⟩
theorem fw.KE {w:World}{F:Nat→Prop}:∀ (cs:List CV) (ad:Addr),fw w F cs ad→cs.all one=true
 | [],_,_=>rfl
 | c::cs,ad,h=>by
  simp only[fw] at h
  simp[h.2.1,fw.KE cs _ h.2.2]
end Go.Can
/- Canonical states, their relation to the real frame and world, and the operations that turn nothing in memory. No function of the program is mentioned here. -/
namespace Go.Can
open Go.RowKit
def assoc {α:Type}:List (Nat×α)→Nat→Option α
 | [],_=>none
 | (k,v)::r,t=>if k=t then some v else assoc r t
def jy {α:Type}:List (Nat×α)→Nat→List (Nat×α)
 | [],_=>[]
 | (k,v)::r,t=>if k=t then jy r t else (k,v)::jy r t
def qQ {α:Type}:List (Nat×α)→Nat→α→List (Nat×α)
 | [],_,_=>[]
 | (k,v)::r,t,x=>if k=t then (k,x)::r else (k,v)::qQ r t x
theorem eZ {α:Type}(l:List (Nat×α))(t u:Nat):assoc (jy l t) u=if t=u then none else assoc l u:=by
 induction l with
 | nil=>simp[jy,assoc]
 | cons x r ih=>
  obtain⟨k,v⟩:=x
  simp only[jy]
  split
  ·rename_i hk;subst hk;rw[ih];split
   ·rfl
   ·rename_i hu;simp[assoc,hu]
  ·rename_i hk;simp only[assoc];split
   ·rename_i hu;subst hu;simp[Ne.symm hk]
   ·exact ih
theorem eP {α:Type}(l:List (Nat×α))(t u:Nat)(x:α):assoc (qQ l t x) u=if t=u then (assoc l t).map fun _=>x else assoc l u:=by
 induction l with
 | nil=>simp[qQ,assoc]
 | cons y r ih=>
  obtain⟨k,v⟩:=y
  simp only[qQ]
  split
  ·rename_i hk;subst hk;simp only[assoc,if_true];split
   ·rename_i hu;simp
   ·rfl
  ·rename_i hk;simp only[assoc,hk,if_false];rw[ih];split
   ·rename_i hu;subst hu;simp[Ne.symm hk]
   ·rfl
structure Ob where
 elem:TypeId
 sz:Nat
 cells:List CV
structure St where
 env:List (Nat×CV)
 heap:List (Nat×Ob)
 nx:Nat
def St.put (s:St)(d:Option Tmp)(c:CV):St:=
 match d with
 | some t=>{ s with env:=(t,c)::jy s.env t }
 | none=>s
def St.del (s:St)(d:Option Tmp):St:=
 match d with
 | some t=>{ s with env:=jy s.env t }
 | none=>s
structure Cx where
 w0:World
 F:Nat→Prop
 own:Nat→Prop
 hF:∀ b,F b→b<w0.heap.size
 nt:Nat
 σ0:Nat→Option OB
 n0:Nat
def aV (σ:Nat→Option OB)(o:Nat):Option Nat:=(σ o).bind (·.jX)
def FB (C:Cx)(σ:Nat→Option OB)(H:List (Nat×Ob))(b:Nat):Prop:=C.F b∨∃ o ob,assoc H o=some ob∧aV σ o=some b
def ObR (C:Cx)(w:World)(σ:Nat→Option OB)(H:List (Nat×Ob))(o:Nat)(ob:Ob):Prop:=
 ∃ B,σ o=some B∧B.sz=ob.sz∧(B.jX=none→ob.cells=[])∧ob.cells.all one=true∧
  ∀ b,B.jX=some b→∃ cur:Array Value,w.heap[b]? = some (.cells cur ob.elem (0,0))∧cur.size=B.room∧¬ C.F b∧(C.own b∨C.w0.heap.size≤b)∧
   ob.cells.length≤cur.size∧aS w (FB C σ H) σ ob.cells (cur.toList.take ob.cells.length)
structure aG (C:Cx)(σ:Nat→Option OB)(s:St)(a:Act)(w:World):Prop where
 nq:a.defers=[]
 tm:a.tmps.size=C.nt
 os:w.os=C.w0.os
 tape:w.tape=C.w0.tape
 output:w.output=C.w0.output
 size:C.w0.heap.size≤w.heap.size
 frame:∀ b,b<C.w0.heap.size→¬ C.own b→w.heap[b]? = C.w0.heap[b]?
 env:∀ t c,assoc s.env t=some c→∃ v,a.tmps[t]? = some v∧VR w (FB C σ s.heap) σ c v
 obj:∀ o ob,assoc s.heap o=some ob→ObR C w σ s.heap o ob
 inj:∀ o o' ob ob' b,assoc s.heap o=some ob→assoc s.heap o'=some ob'→aV σ o=some b→aV σ o'=some b→o=o'
 nx:∀ o,s.nx≤o→σ o=none
 fj:∀ o,o<C.n0→σ o=C.σ0 o
 low:C.n0≤s.nx
 new:∀ o B b,C.n0≤o→σ o=some B→B.jX=some b→C.own b∨C.w0.heap.size≤b
def Rel (C:Cx)(s:St)(a:Act)(w:World):Prop:=∃ σ,aG C σ s a w
section
variable {C:Cx}{σ:Nat→Option OB}{s:St}{a:Act}{w:World}
theorem C7 {a:Act}{d t:Nat}{v:Value}:(a.put (some d) v).tmps[t]? = if d=t then (if t<a.tmps.size then some v else none) else a.tmps[t]?:=by
 simp only[Act.put]
 rw[Array.getElem?_setIfInBounds]
 split
 ·rename_i h;subst h;rfl
 ·rfl
theorem aG.put (h:aG C σ s a w){d:Option Tmp}{c:CV}{v:Value}(hd:∀ t,d=some t→t<a.tmps.size)(hv:VR w (FB C σ s.heap) σ c v):aG C σ (s.put d c) (a.put d v) w:=by
 cases d with
 | none=>exact h
 | some d=>
  refine⟨h.nq,by simpa [Act.put] using h.tm,h.os,h.tape,h.output,h.size,h.frame,?_,h.obj,h.inj,h.nx,h.fj,h.low,h.new⟩
  intro t c' hc
  rw[C7]
  simp only[St.put,assoc] at hc
  split at hc
  ·rename_i e;subst e;cases hc
   rw[if_pos rfl,if_pos (hd _ rfl)]
   exact⟨v,rfl,hv⟩
  ·rename_i e
   rw[eZ,if_neg e] at hc
   rw[if_neg e]
   exact h.env t c' hc
theorem aG.del (h:aG C σ s a w){d:Option Tmp}(v:Value):aG C σ (s.del d) (a.put d v) w:=by
 cases d with
 | none=>exact h
 | some d=>
  refine⟨h.nq,by simpa [Act.put] using h.tm,h.os,h.tape,h.output,h.size,h.frame,?_,h.obj,h.inj,h.nx,h.fj,h.low,h.new⟩
  intro t c' hc
  rw[C7]
  simp only[St.del] at hc
  rw[eZ] at hc
  split at hc
  ·cases hc
  ·rename_i e
   rw[if_neg e]
   exact h.env t c' hc
def gr:Value→Option CV
 | .int k n=>some (.int k n)
 | .bool b=>some (.bool b)
 | .string s=>some (.str s)
 | .pointer none=>some .bm
 | .slice none 0 0=>some .ah
 | .nilFunc=>some .cw
 | .nilIface=>some (.iface 0 [])
 | .map none=>some .any
 | _=>none
def jm:List Value→Option (List CV)
 | []=>some []
 | v::r=>match gr v,jm r with
  | some c,some cs=>some (c::cs)
  | _,_=>none
def qA:Value→Option CV
 | .agg cs=>(jm cs.toList).map CV.agg
 | .tuple vs=>if vs.isEmpty then some (.cr []) else none
 | v=>gr v
theorem nY {F:Nat→Prop}{v:Value}{c:CV}(h:gr v=some c):bY w F c v∧one c=true:=by
 unfold gr at h
 split at h<;>first | (cases h;simp[bY,bJ,Mo,one,Value.oneCell'];done) | (cases h)
theorem cY {F:Nat→Prop}:∀ (vs:List Value) (cs:List CV),jm vs=some cs→bJ w F cs vs∧cs.all one=true
 | [],cs,h=>by simp only[jm] at h;cases h;simp[bJ]
 | v::r,cs,h=>by
  simp only[jm] at h
  split at h
  ·rename_i c cs' h1 h2
   cases h
   obtain⟨k1,k2⟩:=nY (w:=w) (F:=F) h1
   obtain⟨k3,k4⟩:=cY (F:=F) r cs' h2
   simp only[bJ]
   exact⟨⟨v,r,rfl,k1,k3⟩,by simp[k2,k4]⟩
  ·cases h
theorem mD {F:Nat→Prop}{v:Value}{c:CV}(h:qA v=some c):bY w F c v:=by
 unfold qA at h
 split at h
 ·rename_i cs
  obtain⟨x,h1,h2⟩:=Option.map_eq_some_iff.1 h
  subst h2
  obtain⟨k1,k2⟩:=cY (w:=w) (F:=F) _ _ h1
  simp only[bY]
  exact⟨cs.toList,by simp,k1,k2⟩
 ·rename_i vs
  split at h
  ·rename_i he
   cases h
   simp only[bY,bJ]
   exact⟨[],by simpa using he,rfl⟩
  ·cases h
 ·exact (nY h).1
def ev (s:St):Operand→Option CV
 | .tmp t=>assoc s.env t
 | .const v=>qA v
 | .func f=>some (.fn f [])
 | .global _=>none
def Aw (s:St):List Operand→Option (List CV)
 | []=>some []
 | x::r=>match ev s x,Aw s r with
  | some c,some cs=>some (c::cs)
  | _,_=>none
theorem bz (h:aG C σ s a w){x:Operand}{c:CV}(he:ev s x=some c):VR w (FB C σ s.heap) σ c (a.eval x):=by
 cases x with
 | tmp t=>
  obtain⟨v,h1,h2⟩:=h.env t c he
  simp only[Act.eval]
  have:a.tmps.getD t undef=v:=by simp[Array.getD_eq_getD_getElem?,h1]
  rw[this];exact h2
 | const v=>exact VR.cu _ _ (mD he)
 | func f=>cases he;simp only[VR];exact⟨[],rfl,rfl⟩
 | global g=>cases he
theorem pJ (h:aG C σ s a w):∀ (xs:List Operand) (cs:List CV),Aw s xs=some cs→aS w (FB C σ s.heap) σ cs (xs.map a.eval)
 | [],cs,he=>by simp only[Aw] at he;cases he;rfl
 | x::r,cs,he=>by
  simp only[Aw] at he
  split at he
  ·rename_i c cs' h1 h2
   cases he
   simp only[aS]
   exact⟨_,_,rfl,bz h h1,pJ h r cs' h2⟩
  ·cases he
end
inductive TD where
 | int (k:IntKind)
 | bool
 | str
 | sl (e:TypeId)
 | bK (fs:List (Nat×TypeId))
 | arr (n:Nat) (e:TypeId)
 | ptr (e:TypeId)
 | func
 | KD
def sD:TypeDesc→TD
 | .int k=>.int k
 | .bool=>.bool
 | .string=>.str
 | .slice e=>.sl e
 | .struct fs=>.bK (fs.toList.map fun f=>(f.offset,f.type))
 | .array n e=>.arr n e
 | .pointer e=>.ptr e
 | .func _ _ _=>.func
 | _=>.KD
structure TI where
 d:TD
 size:Nat
 bytes:Nat
 zero:List CV
def TI.agg (i:TI):Bool:=match i.d with
 | .bK _=>true
 | .arr _ _=>true
 | _=>false
structure cD (P:Program)(t:TypeId)(i:TI):Prop where
 info:∃ f z,P.info? t=some f∧f.size=i.size∧f.bytes=i.bytes∧f.zero=some z∧jm z.cells.toList=some i.zero
 y7:∃ d,P.underlying t=some d∧sD d=i.d
 len:i.zero.length=i.size
def ay (P:Program)(aq:List (Nat×TI)):Prop:=∀ t i,assoc aq t=some i→cD P t i
theorem cD.mk' {P:Program}{t:TypeId}{i:TI}(h1:(P.info? t).map (fun f=>(f.size,f.bytes,f.zero.map fun z=>jm z.cells.toList))=some (i.size,i.bytes,some (some i.zero)))
  (h2:(P.underlying t).map sD=some i.d) (h3:i.zero.length=i.size):cD P t i:=by
 obtain⟨f,e1,e2⟩:=Option.map_eq_some_iff.1 h1
 obtain⟨d,e3,e4⟩:=Option.map_eq_some_iff.1 h2
 simp only[Prod.mk.injEq] at e2
 obtain⟨z,e5,e6⟩:=Option.map_eq_some_iff.1 e2.2.2
 exact⟨⟨f,z,e1,e2.1,e2.2.1,e5,e6⟩,⟨d,e3,e4⟩,h3⟩
theorem ay.nil {P:Program}:ay P []:=fun _ _ h=>by cases h
theorem ay.cons {P:Program}{t:Nat}{i:TI}{r:List (Nat×TI)}(h:cD P t i)(hr:ay P r):ay P ((t,i)::r):=fun u j hj=>by
 simp only[assoc] at hj
 split at hj
 ·rename_i e;subst e;cases hj;exact h
 ·exact hr u j hj
theorem bq {P:Program}{t:TypeId}{d:TypeDesc}(h:P.underlying t=some d)(w:World):(underlying t).run P w=.ok d w:=run_underlying h w
theorem uj {P:Program}{t:TypeId}{f:TypeInfo}(h:P.info? t=some f)(w:World):(typeInfo t).run P w=.ok f w:=by
 simp[typeInfo,h]
theorem cN {P:Program}{t:TypeId}{f:TypeInfo}(h:P.info? t=some f)(w:World):(sizeOf t).run P w=.ok f.size w:=by
 simp[sizeOf,uj h]
def arith (op:BinOp)(k:IntKind)(a b:Int):Option CV:=
 match op with
 | .add=>some (.int k (k.wrap (a+b)))
 | .sub=>some (.int k (k.wrap (a-b)))
 | .mul=>some (.int k (k.wrap (a*b)))
 | .quo=>if b=0 then none else some (.int k (k.wrap (a.tdiv b)))
 | .rem=>if b=0 then none else some (.int k (a.tmod b))
 | .and=>some (.int k (k.wrap (BitVec.ofInt k.bits a &&& BitVec.ofInt k.bits b).toNat))
 | .or=>some (.int k (k.wrap (BitVec.ofInt k.bits a ||| BitVec.ofInt k.bits b).toNat))
 | .xor=>some (.int k (k.wrap (BitVec.ofInt k.bits a ^^^ BitVec.ofInt k.bits b).toNat))
 | .andNot=>some (.int k (k.wrap (BitVec.ofInt k.bits a &&& ~~~ BitVec.ofInt k.bits b).toNat))
 | .eql=>some (.bool (a == b))
 | .neq=>some (.bool (a != b))
 | .lss=>some (.bool (decide (a<b)))
 | .leq=>some (.bool (decide (a≤b)))
 | .gtr=>some (.bool (decide (a > b)))
 | .geq=>some (.bool (decide (a≥b)))
 | _=>none
def lK (op:BinOp)(x y:ByteArray):Option CV:=
 match op with
 | .add=>if x.size+y.size≤9223372036854775807 then some (.str (x++y)) else none
 | .eql=>some (.bool (x.toList == y.toList))
 | .neq=>some (.bool (!(x.toList == y.toList)))
 | .lss=>some (.bool (Op.bytesLess x.toList y.toList))
 | .leq=>some (.bool (Op.bytesLess x.toList y.toList || x.toList == y.toList))
 | .gtr=>some (.bool (!(Op.bytesLess x.toList y.toList || x.toList == y.toList)))
 | .geq=>some (.bool (!Op.bytesLess x.toList y.toList))
 | _=>none
def Ci (op:BinOp)(d:TD):CV→CV→Option CV
 | .int k a,.int k' b=>match op with
  | .shl=>if b<0 then none else some (.int k (k.wrap (a*2 ^ (min b.toNat k.bits))))
  | .shr=>if b<0 then none else some (.int k (a.fdiv (2 ^ (min b.toNat k.bits))))
  | op=>if k=k' then arith op k a b else none
 | .str x,.str y=>lK op x y
 | .bool a,.bool b=>match d,op with
  | .bool,.eql=>some (.bool (a == b))
  | .bool,.neq=>some (.bool (!(a == b)))
  | _,_=>none
 | _,_=>none
theorem dO {w:World}{F:Nat→Prop}{σ:Nat→Option OB}(k:IntKind)(n:Int):VR w F σ (.int k n) (.int k n):=by simp[VR]
theorem dP {w:World}{F:Nat→Prop}{σ:Nat→Option OB}(b:Bool):VR w F σ (.bool b) (.bool b):=by simp[VR]
theorem y4 {w:World}{F:Nat→Prop}{σ:Nat→Option OB}(b:ByteArray):VR w F σ (.str b) (.string b):=by simp[VR]
theorem Hz {P:Program}{w:World}{op:BinOp}{k:IntKind}{xt:TypeId}{a b:Int}{c:CV}(hs1:op≠.shl)(hs2:op≠.shr)(h:arith op k a b=some c){F:Nat→Prop}{σ:Nat→Option OB} :
  ∃ v,(binOp op xt (.int k a) (.int k b)).run P w=.ok v w∧VR w F σ c v:=by
 cases op<;>simp only[arith] at h
 case add=>cases h;exact⟨_,by simp[binOp,Op.intArith],dO _ _⟩
 case sub=>cases h;exact⟨_,by simp[binOp,Op.intArith],dO _ _⟩
 case mul=>cases h;exact⟨_,by simp[binOp,Op.intArith],dO _ _⟩
 case quo=>
  split at h
  ·cases h
  ·cases h;rename_i hb;exact⟨_,by simp[binOp,Op.intDiv,hb],dO _ _⟩
 case rem=>
  split at h
  ·cases h
  ·cases h;rename_i hb;exact⟨_,by simp[binOp,Op.intDiv,hb],dO _ _⟩
 case and=>cases h;exact⟨_,by simp[binOp,Op.intBits],dO _ _⟩
 case or=>cases h;exact⟨_,by simp[binOp,Op.intBits],dO _ _⟩
 case xor=>cases h;exact⟨_,by simp[binOp,Op.intBits],dO _ _⟩
 case andNot=>cases h;exact⟨_,by simp[binOp,Op.intBits],dO _ _⟩
 case eql=>cases h;exact⟨_,by simp[binOp,Op.intCmp],dP _⟩
 case neq=>cases h;exact⟨_,by simp[binOp,Op.intCmp],dP _⟩
 case lss=>cases h;exact⟨_,by simp[binOp,Op.intCmp],dP _⟩
 case leq=>cases h;exact⟨_,by simp[binOp,Op.intCmp],dP _⟩
 case gtr=>cases h;exact⟨_,by simp[binOp,Op.intCmp],dP _⟩
 case geq=>cases h;exact⟨_,by simp[binOp,Op.intCmp],dP _⟩
 all_goals first | cases h | exact absurd rfl hs1 | exact absurd rfl hs2
theorem Fo {P:Program}{w:World}{op:BinOp}{xt:TypeId}{a b:ByteArray}{c:CV}(h:lK op a b=some c){F:Nat→Prop}{σ:Nat→Option OB} :
  ∃ v,(binOp op xt (.string a) (.string b)).run P w=.ok v w∧VR w F σ c v:=by
 cases op<;>simp only[lK] at h
 case add=>
  split at h
  ·rename_i hb
   cases h
   refine⟨_,?_,y4 _⟩
   have hm:IntKind.i64.max=9223372036854775807:=by simp[IntKind.max,IntKind.signed,IntKind.bits]
   simp only[binOp,Op.stringOp,hm]
   rw[if_neg yA];rfl
  ·cases h
 case eql=>cases h;exact⟨_,by simp[binOp,Op.stringOp],dP _⟩
 case neq=>cases h;exact⟨_,by simp[binOp,Op.stringOp],dP _⟩
 case lss=>cases h;exact⟨_,by simp[binOp,Op.stringOp],dP _⟩
 case leq=>cases h;exact⟨_,by simp[binOp,Op.stringOp],dP _⟩
 case gtr=>cases h;exact⟨_,by simp[binOp,Op.stringOp],dP _⟩
 case geq=>cases h;exact⟨_,by simp[binOp,Op.stringOp],dP _⟩
 all_goals cases h
end Go.Can
