/- The package variables of the program that are known: their b -/
import Derived.ProofKit
import Derived.StillTail
import Derived.ScopeJumps
import Derived.Laws.AppendOwn
import Derived.Laws.CopyOwn
import Derived.Laws.MakeOwn
import Derived.Laws.OwnMore
import Derived.Below
import Derived.IntWalk
namespace Go.Can
def IM:List (Nat×List Value):=[(0,[.bool false,.bool false,.bool true,.bool false,.bool false,.bool false,.bool false,.bool false,.bool false])]
theorem yA {p:Prop}(h:p:=by omega):p:=h
theorem N3 {p:Prop}(h:p:=by simp):p:=h
theorem N4 {p:Prop}(h:p:=by kernel_rfl):p:=h
theorem Od {p:Prop}(h:p:=by first | rfl | simp only[List.cons_append,List.nil_append,List.append_nil,trees,tree,bz,wF,Bool.and_self,Bool.and_true,Bool.true_and]):p:=h
theorem Oc {p:Prop}(h:p:=by simp[hC]):p:=h
theorem Oi {p:Prop}(h:p:=by decide):p:=h
theorem OP {p:Prop}(h:p:=by first | rfl | simp[a6,ba,ch,iM,-List.all_eq_true]):p:=h
theorem OO {p:Prop}(h:p:=by first | rfl | simp[aA,ints]):p:=h
theorem O3 {p:Prop}(h:p:=by (try simp only[ByteArray.size_append]);omega):p:=h
theorem Pn {p:Prop}(h:p:=by first | rfl | decide):p:=h
theorem Pk {p:Prop}(h:p:=by simp[assoc]):p:=h
theorem PX {p:Prop}(h:p:=by simp;omega):p:=h
theorem Qt {p:Prop}(h:p:=by simp[-List.all_eq_true,-List.all_flatMap]):p:=h
theorem Qs {p:Prop}(h:p:=by simp[Op.operands]):p:=h
theorem QB {p:Prop}(h:p:=by first | exact cb _ | exact wG _ (by first | rfl | assumption | simp[trees,tree, *])):p:=h
theorem yAo {p:Prop}(h:p:=by first | rfl | assumption | simp[trees,tree, *]):p:=h
theorem QA {p:Prop}(h:p:=by simp[-List.all_eq_true]):p:=h
theorem QZ {p:Prop}(h:p:=by first | rfl | simp only[List.all_cons,List.all_nil,okW,tree, *];rfl | simp[okW,tree,trees, *]):p:=h
theorem QY {p:Prop}(h:p:=by first | rfl | assumption | simp[tree,trees, *]):p:=h
theorem QX {p:Prop}(h:p:=by first | rfl | simp[bB,ev,assoc]):p:=h
theorem QW {p:Prop}(h:p:=by simpa using h):p:=h
theorem RJ {p:Prop}(h:p:=by simp[Ex.args]):p:=h
theorem Sg {p:Prop}(h:p:=by simp[lD,ah Qh]):p:=h
theorem Sf {p:Prop}(h:p:=by simp[aA]):p:=h
theorem Sr {p:Prop}(h:p:=by simp[-List.all_eq_true,-List.all_flatMap,ah Rj]):p:=h
theorem Sq {p:Prop}(h:p:=by simp[eC]):p:=h
theorem SP {p:Prop}(h:p:=by first | rfl | exact bz _ | exact wF _):p:=h
theorem yB {p:Prop}(h:p:=by simp only[trees,tree];rfl):p:=h
theorem Ti {p:Prop}(h:p:=by simp[-List.all_eq_true,a9 _ _ (aE _)]):p:=h
theorem Th {p:Prop}(h:p:=by simp only[ByteArray.size_append];omega):p:=h
theorem TV {p:Prop}(h:p:=by first | rfl | exact bz _):p:=h
theorem TU {p:Prop}(h:p:=by simp only[BB];omega):p:=h
theorem TS {p:Prop}(h:p:=by simp[hx]):p:=h
theorem U5 {p:Prop}(h:p:=by simp[aA,dF,lY]):p:=h
theorem U4 {p:Prop}(h:p:=by simp[mE,Ck,tree]):p:=h
theorem U3 {p:Prop}(h:p:=by simp[aA,lY]):p:=h
theorem VA {p:Prop}(h:p:=by simp[gz,C2,-List.all_eq_true,-List.all_flatMap]):p:=h
theorem Vz {p:Prop}(h:p:=by simp[ev,assoc]):p:=h
theorem Wc {p:Prop}(h:p:=by first | rfl | simp only[List.append_nil,trees,tree,bz,Bool.and_self]):p:=h
theorem Wb {p:Prop}(h:p:=by simpa [aU,m1] using hb):p:=h
theorem Wa {p:Prop}(h:p:=by simpa using hi):p:=h
theorem Xq {p:Prop}(h:p:=by simp[-List.all_eq_true,-List.all_flatMap,ah Tj,a9 _ _ (aE _)]):p:=h
theorem Xp {p:Prop}(h:p:=by simp[-List.all_eq_true,-List.all_flatMap,ah Oj,ah Ox]):p:=h
theorem Xo {p:Prop}(h:p:=by simp[lY,dg,-List.all_eq_true,-List.all_flatMap]):p:=h
theorem Xn {p:Prop}(h:p:=by simp[-List.all_eq_true,ah Oj,ah Ox]):p:=h
theorem Xm {p:Prop}(h:p:=by simp only[List.length_cons];omega):p:=h
theorem Xl {p:Prop}(h:p:=by simpa [aJ] using ho):p:=h
theorem X5 {p:Prop}(h:p:=by simp[cw,aA,ints,eV,-List.all_eq_true,-List.all_flatMap,ah Rj,ah (fN _)]):p:=h
theorem X4 {p:Prop}(h:p:=by simp[-List.all_eq_true,ah Oj,ah Ox,a9 _ _ (aE _)]):p:=h
theorem X3 {p:Prop}(h:p:=by simp[cX,qx,ox,tree,assoc,-List.all_eq_true,-List.all_flatMap,Oo]):p:=h
theorem X2 {p:Prop}(h:p:=by simp[aA,ints,cw,-List.all_eq_true,-List.all_flatMap,ah Rj]):p:=h
theorem X1 {p:Prop}(h:p:=by simp[-List.all_eq_true,-List.all_flatMap,ah Tj]):p:=h
theorem X0 {p:Prop}(h:p:=by simp only[List.all_cons,List.all_nil,okW,tree];rfl):p:=h
theorem XY {p:Prop}(h:p:=by simp[-List.all_eq_true,-List.all_flatMap,iM]):p:=h
theorem yC {p:Prop}(h:p:=by simp[gz,-List.all_eq_true,-List.all_flatMap]):p:=h
theorem XW {p:Prop}(h:p:=by simp[aA,-List.all_eq_true,iM]):p:=h
theorem XU {p:Prop}(h:p:=by rw[List.length_map];omega):p:=h
theorem Z0 {p:Prop}(h:p:=by simp[cw,aA,ints,eV,-List.all_eq_true,-List.all_flatMap,ah Rj,ah Oj,ah Ox,ah (fN _)]):p:=h
theorem ZZ {p:Prop}(h:p:=by simp[-List.all_eq_true,-List.all_flatMap,a9 2 _ hX,a9 2 _ hY,a9 2 _ Xt]):p:=h
theorem ZY {p:Prop}(h:p:=by simp[-List.all_eq_true,ah Oj,ah Ox,ah tI,ah tS2]):p:=h
theorem ZX {p:Prop}(h:p:=by simp[cX,qx,ox,tree,assoc,-List.all_eq_true,-List.all_flatMap]):p:=h
theorem ZW {p:Prop}(h:p:=by simp[aA,lY,-List.all_eq_true,-List.all_flatMap]):p:=h
theorem ZV {p:Prop}(h:p:=by simp only;rw[Dj (Hf nx) Of];exact OG):p:=h
theorem ZU {p:Prop}(h:p:=by simp[aA,-List.all_eq_true]):p:=h
theorem yCj {p:Prop}(h:p:=by simp[-List.all_eq_true,-List.all_flatMap,a9 4 _ hY,ah (aO bD l),a9 4 _ Xt,ah Vr]):p:=h
theorem yCk {p:Prop}(h:p:=by simp[cX,qx,ox,tree,assoc,-List.all_eq_true,-List.all_flatMap,aC P3,aC Rj,cw,aA,ints]):p:=h
theorem yCl {p:Prop}(h:p:=by simp[cX,qx,ox,tree,assoc,-List.all_eq_true,-List.all_flatMap,aC Tk,aC Oj,aC Ox]):p:=h
theorem yCm {p:Prop}(h:p:=by simp[-List.all_eq_true,ah (zw U7 i).1,ah (zw U7 (i+1)).2]):p:=h
theorem yCn {p:Prop}(h:p:=by simp[-List.all_eq_true,-List.all_flatMap,ah Tj,a9 _ _ (nS _)]):p:=h
theorem yCo {p:Prop}(h:p:=by simp only[oX,Bool.and_eq_true,Bool.not_eq_true'] at hp;exact hp.1):p:=h
theorem yCp {p:Prop}(h:p:=by simp[aA,ints,lY,-List.all_eq_true,-List.all_flatMap]):p:=h
theorem yCq {p:Prop}(h:p:=by rw[← Array.toArray_toList (xs:=cl.argTypes),PJ]):p:=h
theorem yCr {p:Prop}(h:p:=by have:(⟨#[9]⟩:ByteArray).size=1:=rfl;omega):p:=h
theorem yCs {p:Prop}(h:p:=by rw[← Array.toArray_toList (xs:=cl.args),ha]):p:=h
theorem yCt {p:Prop}(h:p:=by rw[aM cI,Xb];exact Nat.le_refl _):p:=h
theorem yCu {p:Prop}(h:p:=by simp[cX,qx,ox,tree,assoc,-List.all_eq_true,-List.all_flatMap,aC Oj,aC UL,aA,ints,cw]):p:=h
theorem yCv {p:Prop}(h:p:=by simp only[de,oI];simp[-List.all_eq_true,-List.all_flatMap,bh (aO bz N),yu]):p:=h
theorem yCw {p:Prop}(h:p:=by simp only[de,oI];simp[-List.all_eq_true,-List.all_flatMap,iM,ah (aO bz N)]):p:=h
theorem yCx {p:Prop}(h:p:=by simp[cX,qx,ox,tree,assoc,-List.all_eq_true,-List.all_flatMap,aC Oj,aC Ox,df]):p:=h
theorem yCy {p:Prop}(h:p:=by simp only[de,oI,k8];simp[-List.all_eq_true,-List.all_flatMap,ah (aO bz _)]):p:=h
theorem yCz {p:Prop}(h:p:=by simp[-List.all_eq_true,-List.all_flatMap,ah Oj,ah Ox,a9 _ _ (nS _)]):p:=h
theorem yD {p:Prop}(h:p:=by simp[-List.all_eq_true,ah Oj,ah Ox,ah TY,ah tS,a9 _ _ tst]):p:=h
theorem yDa {p:Prop}(h:p:=by simp[-List.all_eq_true,-List.all_flatMap,ah (bA out),ah (bA th.1)]):p:=h
theorem yDb {p:Prop}(h:p:=by simp[cX,qx,ox,tree,assoc,-List.all_eq_true,-List.all_flatMap,aC (P3 false)]):p:=h
theorem yDc {p:Prop}(h:p:=by have:(jc ⟨#[9]⟩ bd).size=(jc qd bd).size:=rfl;simp only[ByteArray.size_append];omega):p:=h
theorem yDd {p:Prop}(h:p:=by simp only[Op.operands];simp only[List.mem_toArray,List.mem_map];exact⟨x,hx,rfl⟩):p:=h
theorem yDe {p:Prop}(h:p:=by simp[-List.all_eq_true,-List.all_flatMap,iM,ah (aO bz N)]):p:=h
open Go.RowKit
inductive CV where
 | int (k:IntKind) (n:Int)
 | bool (b:Bool)
 | str (s:ByteArray)
 | agg (cs:List CV)
 | az (cs:List CV) (n:Nat)
 | aj
 | cF (cs:List CV)
 | bw
 | fn (f:FuncId) (PQ:List CV)
 | cr
 | iface (t:TypeId) (cs:List CV)
 | iter (k:Nat) (s:ByteArray) (p:Nat)
 | mp (k:Nat) (es:List (Value×Value))
 | dI (vs:List CV)
 | bp (o off n:Nat)
 | aq (o off:Nat)
 | any
instance : Inhabited CV := ⟨.bw⟩
def one:CV→Bool
 | .agg _=>false
 | .dI _=>false
 | .iter _ _ _=>false
 | _=>true
def CV.cells:CV→List CV
 | .agg cs=>cs
 | c=>[c]
def ifv (t:TypeId):List Value→Value
 | []=>.nilIface
 | v::_=>.iface t v
mutual
/-- The immutable ones: the value v reads as c; no cell of it lies in a block of F. -/
def bZ (w:World)(F:Nat→Prop):CV→Value→Prop
 | .int k n,v=>v=.int k n
 | .bool b,v=>v=.bool b
 | .str s,v=>v=.string s
 | .agg cs,v=>∃ vs:List Value,v=.agg vs.toArray∧bP w F cs vs∧cs.all one=true
 | .az cs n,v=>∃ A cap,v=.slice A n cap∧n≤cap∧cap≤maxLen∧((n=0∧cs=[])∨∃ ad,A=some ad∧fa w F cs ad)
 | .aj,v=>v=.slice none 0 0
 | .cF cs,v=>∃ ad,v=.pointer (some ad)∧fa w F cs ad
 | .bw,v=>v=.pointer none
 | .fn f PQ,v=>∃ vs:List Value,v=.func (.func f) #[] vs.toArray∧bP w F PQ vs
 | .iface f PQ,v=>∃ vs:List Value,v=ifv f vs∧bP w F PQ vs
 | .cr,v=>v=.nilFunc
 | .iter _ _ _,_=>False
 | .mp _ _,_=>False
 | .dI cs,v=>∃ vs:List Value,v=.tuple vs.toArray∧bP w F cs vs
 | .bp _ _ _,_=>False
 | .aq _ _,_=>False
 | .any,v=>v.oneCell'=true
def bP (w:World)(F:Nat→Prop):List CV→List Value→Prop
 | [],vs=>vs=[]
 | c::cs,vs=>∃ v r,vs=v::r∧bZ w F c v∧bP w F cs r
/-- The cells from an address on. -/
def fa (w:World)(F:Nat→Prop):List CV→Addr→Prop
 | [],_=>True
 | c::cs,ad=>(∃ u,w.cell? ad=some u∧¬ F ad.block∧bZ w F c u)∧one c=true∧fa w F cs (ad.add 1)
end
theorem FG (a:Addr)(n:Nat):(a.add n).block=a.block:=by unfold Addr.add;split<;>rfl
theorem add_add (a:Addr)(i j:Nat):(a.add i).add j=a.add (i+j):=by
 unfold Addr.add;by_cases hi:i=0<;>by_cases hj:j=0<;>simp[hi,hj,Nat.add_assoc]
theorem add_zero (a:Addr):a.add 0=a:=by simp[Addr.add]
theorem add_lit (b i j:Nat):(⟨b,i,none⟩:Addr).add j=⟨b,i+j,none⟩:=by
 unfold Addr.add;split<;>simp_all
def mD (w w':World)(F F':Nat→Prop):Prop:=∀ ad u,¬ F ad.block→w.cell? ad=some u→w'.cell? ad=some u∧¬ F' ad.block
def cz (w w':World)(F F':Nat→Prop):Prop:=mD w w' F F'∧
 ∀ r x,¬ F r→w.heap[r]? = some x→(∀ c e f,x≠.cells c e f)→w'.heap[r]? = some x∧¬ F' r
theorem cz.same {w:World}{F F':Nat→Prop}(h:∀ b,F' b→F b):cz w w F F':=⟨fun _ _ hf hu=>⟨hu,fun k=>hf (h _ k)⟩,fun _ _ hf hu _=>⟨hu,fun k=>hf (h _ k)⟩⟩
mutual
theorem bZ.bl {w w':World}{F F':Nat→Prop}(h:mD w w' F F'):∀ (c:CV) (v:Value),bZ w F c v→bZ w' F' c v
 | .int _ _,_,hv=>by simpa [bZ] using hv
 | .bool _,_,hv=>by simpa [bZ] using hv
 | .str _,_,hv=>by simpa [bZ] using hv
 | .agg cs,v,hv=>by
  simp only[bZ] at hv ⊢;obtain⟨vs,e,r,h1⟩:=hv;exact⟨vs,e,bP.bl h cs vs r,h1⟩
 | .aj,_,hv=>by simpa [bZ] using hv
 | .az cs n,v,hv=>by
  simp only[bZ] at hv ⊢;obtain⟨A,cap,e,h1,h2,h4⟩:=hv;refine⟨A,cap,e,h1,h2,?_⟩;rcases h4 with h4 | ⟨ad,ea,hm⟩
  ·exact .inl h4
  ·exact .inr ⟨ad,ea,fa.bl h cs ad hm⟩
 | .cF cs,v,hv=>by
  simp only[bZ] at hv ⊢;obtain⟨ad,e,hm⟩:=hv;exact⟨ad,e,fa.bl h cs ad hm⟩
 | .bw,_,hv=>by simpa [bZ] using hv
 | .fn f PQ,v,hv=>by
  simp only[bZ] at hv ⊢;obtain⟨vs,e,r⟩:=hv;exact⟨vs,e,bP.bl h PQ vs r⟩
 | .iface f PQ,v,hv=>by
  simp only[bZ] at hv ⊢;obtain⟨vs,e,r⟩:=hv;exact⟨vs,e,bP.bl h PQ vs r⟩
 | .cr,_,hv=>by simpa [bZ] using hv
 | .iter _ _ _,_,hv=>by simp[bZ] at hv
 | .mp _ _,_,hv=>by simp[bZ] at hv
 | .dI cs,v,hv=>by
  simp only[bZ] at hv ⊢;obtain⟨vs,e,r⟩:=hv;exact⟨vs,e,bP.bl h cs vs r⟩
 | .bp _ _ _,_,hv=>by simp[bZ] at hv
 | .aq _ _,_,hv=>by simp[bZ] at hv
 | .any,_,hv=>by simpa [bZ] using hv
theorem bP.bl {w w':World}{F F':Nat→Prop}(h:mD w w' F F'):∀ (cs:List CV) (vs:List Value),bP w F cs vs→bP w' F' cs vs
 | [],_,hv=>by simpa [bP] using hv
 | c::cs,vs,hv=>by
  simp only[bP] at hv ⊢;obtain⟨v,r,e,h1,h2⟩:=hv;exact⟨v,r,e,bZ.bl h c v h1,bP.bl h cs r h2⟩
theorem fa.bl {w w':World}{F F':Nat→Prop}(h:mD w w' F F'):∀ (cs:List CV) (ad:Addr),fa w F cs ad→fa w' F' cs ad
 | [],_,_=>by simp[fa]
 | c::cs,ad,hv=>by
  simp only[fa] at hv ⊢;obtain⟨⟨u,h1,h2,h3⟩,ho,h4⟩:=hv;obtain⟨k1,k2⟩:=h ad u h2 h1;exact⟨⟨u,k1,k2,bZ.bl h c u h3⟩,ho,fa.bl h cs _ h4⟩
end
theorem fa.drop {w:World}{F:Nat→Prop}:∀ (k:Nat) (cs:List CV) (ad:Addr),fa w F cs ad→fa w F (cs.drop k) (ad.add k)
 | 0,cs,ad,h=>by simpa [add_zero] using h
 | k+1,[],ad,_=>by simp[fa]
 | k+1,c::cs,ad,h=>by
  simp only[fa] at h;have:=fa.drop k cs _ h.2.2;rw[add_add] at this
  simpa [Nat.add_comm] using this
theorem fa.take {w:World}{F:Nat→Prop}:∀ (k:Nat) (cs:List CV) (ad:Addr),fa w F cs ad→fa w F (cs.take k) ad
 | 0,_,_,_=>by simp[fa]
 | k+1,[],_,_=>by simp[fa]
 | k+1,c::cs,ad,h=>by
  simp only[fa] at h;simp only[List.take_succ_cons,fa];exact⟨h.1,h.2.1,fa.take k cs _ h.2.2⟩
theorem fa.cells {w:World}{F:Nat→Prop}:∀ (cs:List CV) (ad:Addr),fa w F cs ad→∃ us:List Value,bP w F cs us∧us.length=cs.length∧∀ j u,us[j]? = some u→w.cell? (ad.add j)=some u
 | [],ad,_=>⟨[],by simp[bP],rfl,by simp⟩
 | c::cs,ad,h=>by
  simp only[fa] at h;obtain⟨⟨u,h1,h2,h3⟩,_,h4⟩:=h;obtain⟨us,k1,k2,k3⟩:=fa.cells cs _ h4;refine⟨u::us,by simp only[bP];exact⟨u,us,rfl,h3,k1⟩,by simp[k2],?_⟩;intro j x hx
  cases j with
  | zero=>simp at hx;subst hx;rw[add_zero];exact h1
  | succ j=>
   have:=k3 j x (by simpa using hx);rw[add_add] at this;rwa [Nat.add_comm] at this
theorem bP.length {w:World}{F:Nat→Prop}:∀ (cs:List CV) (vs:List Value),bP w F cs vs→vs.length=cs.length
 | [],vs,h=>by simp only[bP] at h;subst h;rfl
 | c::cs,vs,h=>by
  simp only[bP] at h;obtain⟨v,r,rfl,_,h2⟩:=h;simp[bP.length cs r h2]
theorem bP.get {w:World}{F:Nat→Prop}:∀ (cs:List CV) (vs:List Value),bP w F cs vs→∀ (i:Nat) (c:CV),cs[i]? = some c→∃ v,vs[i]? = some v∧bZ w F c v
 | [],vs,_,i,c,hi=>by simp at hi
 | c::cs,vs,h,i,d,hi=>by
  simp only[bP] at h;obtain⟨v,r,rfl,h1,h2⟩:=h
  cases i with
  | zero=>simp at hi;subst hi;exact⟨v,rfl,h1⟩
  | succ i=>simpa using bP.get cs r h2 i d Wa
structure OB where
 jI:Option Nat
 room:Nat
 sz:Nat
mutual
/-- The values of a frame and of the objects' cells. -/
def VR (w:World)(F:Nat→Prop)(σ:Nat→Option OB):CV→Value→Prop
 | .bp o off n,v=>∃ B,σ o=some B∧match B.jI with
   | none=>v=.slice none 0 0∧off=0∧n=0
   | some b=>∃ cap,v=.slice (some ⟨b,off,none⟩) n cap∧n≤cap∧cap≤maxLen∧off+cap*B.sz≤B.room∧(off=0→cap*B.sz=B.room)
 | .aq o off,v=>∃ B b,σ o=some B∧B.jI=some b∧v=.pointer (some ⟨b,off,none⟩)
 | .agg cs,v=>∃ vs:List Value,v=.agg vs.toArray∧aT w F σ cs vs∧cs.all one=true
 | .fn f PQ,v=>∃ vs:List Value,v=.func (.func f) #[] vs.toArray∧aT w F σ PQ vs
 | .iface f PQ,v=>∃ vs:List Value,v=ifv f vs∧aT w F σ PQ vs
 | .dI cs,v=>∃ vs:List Value,v=.tuple vs.toArray∧aT w F σ cs vs
 | .int k n,v=>v=.int k n
 | .bool b,v=>v=.bool b
 | .str s,v=>v=.string s
 | .az cs n,v=>bZ w F (.az cs n) v
 | .aj,v=>v=.slice none 0 0
 | .cF cs,v=>bZ w F (.cF cs) v
 | .bw,v=>v=.pointer none
 | .cr,v=>v=.nilFunc
 | .iter k s p,v=>∃ B r,σ k=some B∧B.jI=some r∧v=.pointer (some ⟨r,0,none⟩)∧w.heap[r]? = some (.stringIter s p)∧¬ F r
 | .mp k es,v=>∃ B r arr clock,σ k=some B∧B.jI=some r∧v=.map (some r)∧w.heap[r]? = some (.map arr clock)∧arr.toList.map (fun e=>(e.key,e.val))=es∧(es.map (·.1)).Nodup∧¬ F r
 | .any,v=>v.oneCell'=true
def aT (w:World)(F:Nat→Prop)(σ:Nat→Option OB):List CV→List Value→Prop
 | [],vs=>vs=[]
 | c::cs,vs=>∃ v r,vs=v::r∧VR w F σ c v∧aT w F σ cs r
end
mutual
/-- No object of one's own in it, on the surface. -/
def tree:CV→Bool
 | .bp _ _ _=>false
 | .aq _ _=>false
 | .iter _ _ _=>false
 | .mp _ _=>false
 | .agg cs=>trees cs
 | .fn _ cs=>trees cs
 | .iface _ cs=>trees cs
 | .dI cs=>trees cs
 | _=>true
def trees:List CV→Bool
 | []=>true
 | c::cs=>tree c && trees cs
end
mutual
theorem VR.cA {w:World}{F:Nat→Prop}{σ:Nat→Option OB}:∀ (c:CV) (v:Value),bZ w F c v→VR w F σ c v
 | .int _ _,_,h=>by simpa [VR,bZ] using h
 | .bool _,_,h=>by simpa [VR,bZ] using h
 | .str _,_,h=>by simpa [VR,bZ] using h
 | .agg cs,v,h=>by
  simp only[VR,bZ] at h ⊢;obtain⟨vs,e,r,h1⟩:=h;exact⟨vs,e,aT.cA cs vs r,h1⟩
 | .aj,_,h=>by simpa [VR,bZ] using h
 | .az _ _,_,h=>by simpa only[VR] using h
 | .cF _,_,h=>by simpa only[VR] using h
 | .bw,_,h=>by simpa [VR,bZ] using h
 | .fn _ cs,v,h=>by
  simp only[VR,bZ] at h ⊢;obtain⟨vs,e,r⟩:=h;exact⟨vs,e,aT.cA cs vs r⟩
 | .iface _ cs,v,h=>by
  simp only[VR,bZ] at h ⊢;obtain⟨vs,e,r⟩:=h;exact⟨vs,e,aT.cA cs vs r⟩
 | .cr,_,h=>by simpa [VR,bZ] using h
 | .iter _ _ _,_,h=>by simp[bZ] at h
 | .mp _ _,_,h=>by simp[bZ] at h
 | .dI cs,v,h=>by
  simp only[VR,bZ] at h ⊢;obtain⟨vs,e,r⟩:=h;exact⟨vs,e,aT.cA cs vs r⟩
 | .bp _ _ _,_,h=>by simp[bZ] at h
 | .aq _ _,_,h=>by simp[bZ] at h
 | .any,_,h=>by simpa [VR,bZ] using h
theorem aT.cA {w:World}{F:Nat→Prop}{σ:Nat→Option OB}:∀ (cs:List CV) (vs:List Value),bP w F cs vs→aT w F σ cs vs
 | [],_,h=>by simpa [aT,bP] using h
 | c::cs,vs,h=>by
  simp only[aT,bP] at h ⊢;obtain⟨v,r,e,h1,h2⟩:=h;exact⟨v,r,e,VR.cA c v h1,aT.cA cs r h2⟩
end
mutual
theorem VR.ec {w:World}{F:Nat→Prop}{σ:Nat→Option OB}:∀ (c:CV) (v:Value),tree c=true→VR w F σ c v→bZ w F c v
 | .int _ _,_,_,h=>by simpa [VR,bZ] using h
 | .bool _,_,_,h=>by simpa [VR,bZ] using h
 | .str _,_,_,h=>by simpa [VR,bZ] using h
 | .agg cs,v,ht,h=>by
  simp only[VR,bZ,tree] at h ht ⊢;obtain⟨vs,e,r,h1⟩:=h;exact⟨vs,e,aT.ec cs vs ht r,h1⟩
 | .aj,_,_,h=>by simpa [VR,bZ] using h
 | .az _ _,_,_,h=>by simpa only[VR] using h
 | .cF _,_,_,h=>by simpa only[VR] using h
 | .bw,_,_,h=>by simpa [VR,bZ] using h
 | .fn _ cs,v,ht,h=>by
  simp only[VR,bZ,tree] at h ht ⊢;obtain⟨vs,e,r⟩:=h;exact⟨vs,e,aT.ec cs vs ht r⟩
 | .iface _ cs,v,ht,h=>by
  simp only[VR,bZ,tree] at h ht ⊢;obtain⟨vs,e,r⟩:=h;exact⟨vs,e,aT.ec cs vs ht r⟩
 | .cr,_,_,h=>by simpa [VR,bZ] using h
 | .iter _ _ _,_,ht,_=>by simp[tree] at ht
 | .mp _ _,_,ht,_=>by simp[tree] at ht
 | .dI cs,v,ht,h=>by
  simp only[VR,bZ,tree] at h ht ⊢;obtain⟨vs,e,r⟩:=h;exact⟨vs,e,aT.ec cs vs ht r⟩
 | .bp _ _ _,_,ht,_=>by simp[tree] at ht
 | .aq _ _,_,ht,_=>by simp[tree] at ht
 | .any,_,_,h=>by simpa [VR,bZ] using h
theorem aT.ec {w:World}{F:Nat→Prop}{σ:Nat→Option OB}:∀ (cs:List CV) (vs:List Value),trees cs=true→aT w F σ cs vs→bP w F cs vs
 | [],_,_,h=>by simpa [aT,bP] using h
 | c::cs,vs,ht,h=>by
  simp only[aT,bP,trees,Bool.and_eq_true] at h ht ⊢;obtain⟨v,r,e,h1,h2⟩:=h;exact⟨v,r,e,VR.ec c v ht.1 h1,aT.ec cs r ht.2 h2⟩
end
mutual
/-- The value names the object o. -/
def aJ (o:Nat):CV→Bool
 | .bp p _ _=>p != o
 | .aq p _=>p != o
 | .iter p _ _=>p != o
 | .mp p _=>p != o
 | .agg cs=>dL o cs
 | .fn _ cs=>dL o cs
 | .iface _ cs=>dL o cs
 | .dI cs=>dL o cs
 | _=>true
def dL (o:Nat):List CV→Bool
 | []=>true
 | c::cs=>aJ o c && dL o cs
end
mutual
/-- A reading is kept when the world turns as 'Keeps' says and the places of all objects that it names stay. -/
theorem VR.bl {w w':World}{F F':Nat→Prop}{σ σ':Nat→Option OB}(h:cz w w' F F'):∀ (c:CV) (v:Value),(∀ o,aJ o c=false→σ' o=σ o)→VR w F σ c v→VR w' F' σ' c v
 | .int _ _,_,_,hv=>by simpa [VR] using hv
 | .bool _,_,_,hv=>by simpa [VR] using hv
 | .str _,_,_,hv=>by simpa [VR] using hv
 | .agg cs,v,hr,hv=>by
  simp only[VR] at hv ⊢;obtain⟨vs,e,r,h1⟩:=hv;exact⟨vs,e,aT.bl h cs vs (fun o ho=>hr o Xl) r,h1⟩
 | .aj,_,_,hv=>by simpa [VR] using hv
 | .az _ _,_,_,hv=>by simp only[VR] at hv ⊢;exact bZ.bl h.1 _ _ hv
 | .cF _,_,_,hv=>by simp only[VR] at hv ⊢;exact bZ.bl h.1 _ _ hv
 | .bw,_,_,hv=>by simpa [VR] using hv
 | .fn _ cs,v,hr,hv=>by
  simp only[VR] at hv ⊢;obtain⟨vs,e,r⟩:=hv;exact⟨vs,e,aT.bl h cs vs (fun o ho=>hr o Xl) r⟩
 | .iface _ cs,v,hr,hv=>by
  simp only[VR] at hv ⊢;obtain⟨vs,e,r⟩:=hv;exact⟨vs,e,aT.bl h cs vs (fun o ho=>hr o Xl) r⟩
 | .cr,_,_,hv=>by simpa [VR] using hv
 | .iter k s p,v,hr,hv=>by
  have hs:=hr k (by simp[aJ]);simp only[VR] at hv ⊢;obtain⟨B,r,e1,e2,e3,h1,h2⟩:=hv;obtain⟨k1,k2⟩:=h.2 r _ h2 h1 (fun _ _ _ he=>by cases he);exact⟨B,r,hs.trans e1,e2,e3,k1,k2⟩
 | .mp k es,v,hr,hv=>by
  have hs:=hr k (by simp[aJ]);simp only[VR] at hv ⊢;obtain⟨B,r,arr,clock,e1,e2,e3,h1,h3,h4,h2⟩:=hv;obtain⟨k1,k2⟩:=h.2 r _ h2 h1 (fun _ _ _ he=>by cases he);exact⟨B,r,arr,clock,hs.trans e1,e2,e3,k1,h3,h4,k2⟩
 | .dI cs,v,hr,hv=>by
  simp only[VR] at hv ⊢;obtain⟨vs,e,r⟩:=hv;exact⟨vs,e,aT.bl h cs vs (fun o ho=>hr o Xl) r⟩
 | .bp o off n,v,hr,hv=>by
  have:=hr o (by simp[aJ]);simp only[VR] at hv ⊢;rw[this];exact hv
 | .aq o off,v,hr,hv=>by
  have:=hr o (by simp[aJ]);simp only[VR] at hv ⊢;rw[this];exact hv
 | .any,_,_,hv=>by simpa [VR] using hv
theorem aT.bl {w w':World}{F F':Nat→Prop}{σ σ':Nat→Option OB}(h:cz w w' F F'):∀ (cs:List CV) (vs:List Value),(∀ o,dL o cs=false→σ' o=σ o)→aT w F σ cs vs→aT w' F' σ' cs vs
 | [],_,_,hv=>by simpa [aT] using hv
 | c::cs,vs,hr,hv=>by
  simp only[aT] at hv ⊢;obtain⟨v,r,e,h1,h2⟩:=hv;exact⟨v,r,e,VR.bl h c v (fun o ho=>hr o (by simp[dL,ho])) h1,aT.bl h cs r (fun o ho=>hr o (by simp[dL,ho])) h2⟩
end
mutual
/-- No iterator in it, on the surface. -/
def kW:CV→Bool
 | .iter _ _ _=>false
 | .mp _ _=>false
 | .agg cs=>jr cs
 | .fn _ cs=>jr cs
 | .iface _ cs=>jr cs
 | .dI cs=>jr cs
 | _=>true
def jr:List CV→Bool
 | []=>true
 | c::cs=>kW c && jr cs
end
mutual
/-- A reading without iterators is kept when the cells are. -/
theorem VR.nw {w w':World}{F F':Nat→Prop}{σ:Nat→Option OB}(h:mD w w' F F'):∀ (c:CV) (v:Value),kW c=true→VR w F σ c v→VR w' F' σ c v
 | .int _ _,_,_,hv=>by simpa [VR] using hv
 | .bool _,_,_,hv=>by simpa [VR] using hv
 | .str _,_,_,hv=>by simpa [VR] using hv
 | .aj,_,_,hv=>by simpa [VR] using hv
 | .az _ _,_,_,hv=>by simp only[VR] at hv ⊢;exact bZ.bl h _ _ hv
 | .cF _,_,_,hv=>by simp only[VR] at hv ⊢;exact bZ.bl h _ _ hv
 | .bw,_,_,hv=>by simpa [VR] using hv
 | .cr,_,_,hv=>by simpa [VR] using hv
 | .any,_,_,hv=>by simpa [VR] using hv
 | .bp _ _ _,_,_,hv=>by simpa only[VR] using hv
 | .aq _ _,_,_,hv=>by simpa only[VR] using hv
 | .iter _ _ _,_,hn,_=>by simp[kW] at hn
 | .mp _ _,_,hn,_=>by simp[kW] at hn
 | .agg cs,v,hn,hv=>by
  simp only[VR] at hv ⊢;obtain⟨vs,e,r,h1⟩:=hv;exact⟨vs,e,aT.nw h cs vs (by simpa [kW] using hn) r,h1⟩
 | .fn _ cs,v,hn,hv=>by
  simp only[VR] at hv ⊢;obtain⟨vs,e,r⟩:=hv;exact⟨vs,e,aT.nw h cs vs (by simpa [kW] using hn) r⟩
 | .iface _ cs,v,hn,hv=>by
  simp only[VR] at hv ⊢;obtain⟨vs,e,r⟩:=hv;exact⟨vs,e,aT.nw h cs vs (by simpa [kW] using hn) r⟩
 | .dI cs,v,hn,hv=>by
  simp only[VR] at hv ⊢;obtain⟨vs,e,r⟩:=hv;exact⟨vs,e,aT.nw h cs vs (by simpa [kW] using hn) r⟩
theorem aT.nw {w w':World}{F F':Nat→Prop}{σ:Nat→Option OB}(h:mD w w' F F'):∀ (cs:List CV) (vs:List Value),jr cs=true→aT w F σ cs vs→aT w' F' σ cs vs
 | [],_,_,hv=>by simpa [aT] using hv
 | c::cs,vs,hn,hv=>by
  simp only[jr,Bool.and_eq_true] at hn;simp only[aT] at hv ⊢;obtain⟨v,r,e,h1,h2⟩:=hv;exact⟨v,r,e,VR.nw h c v hn.1 h1,aT.nw h cs r hn.2 h2⟩
end
theorem aT.length {w:World}{F:Nat→Prop}{σ:Nat→Option OB}:∀ (cs:List CV) (vs:List Value),aT w F σ cs vs→vs.length=cs.length
 | [],vs,h=>by simp only[aT] at h;subst h;rfl
 | c::cs,vs,h=>by
  simp only[aT] at h;obtain⟨v,r,rfl,_,h2⟩:=h;simp[aT.length cs r h2]
theorem aT.get {w:World}{F:Nat→Prop}{σ:Nat→Option OB}:∀ (cs:List CV) (vs:List Value),aT w F σ cs vs→∀ (i:Nat) (c:CV),cs[i]? = some c→∃ v,vs[i]? = some v∧VR w F σ c v
 | [],vs,_,i,c,hi=>by simp at hi
 | c::cs,vs,h,i,d,hi=>by
  simp only[aT] at h;obtain⟨v,r,rfl,h1,h2⟩:=h
  cases i with
  | zero=>simp at hi;subst hi;exact⟨v,rfl,h1⟩
  | succ i=>simpa using aT.get cs r h2 i d Wa
theorem aT.yv {w:World}{F:Nat→Prop}{σ:Nat→Option OB}:∀ (cs:List CV) (vs:List Value),vs.length=cs.length→(∀ (i:Nat) (c:CV),cs[i]? = some c→∃ v,vs[i]? = some v∧VR w F σ c v)→aT w F σ cs vs
 | [],vs,hl,_=>by simp only[aT];exact List.eq_nil_of_length_eq_zero hl
 | c::cs,[],hl,_=>by simp at hl
 | c::cs,v::vs,hl,h=>by
  simp only[aT];refine⟨v,vs,rfl,?_,aT.yv cs vs (by simpa using hl) fun i d hi=>?_⟩
  ·obtain⟨u,hu,hr⟩:=h 0 c rfl;simp at hu;subst hu;exact hr
  ·simpa using h (i+1) d Wa
theorem aT.take {w:World}{F:Nat→Prop}{σ:Nat→Option OB}(k:Nat)(cs:List CV)(vs:List Value)(h:aT w F σ cs vs):aT w F σ (cs.take k) (vs.take k):=by
 refine aT.yv _ _ (by simp[aT.length cs vs h]) fun i c hi=>?_;rw[List.getElem?_take] at hi ⊢;split at hi
 ·rename_i hk;rw[if_pos hk];exact aT.get cs vs h i c hi
 ·cases hi
theorem aT.drop {w:World}{F:Nat→Prop}{σ:Nat→Option OB}(k:Nat)(cs:List CV)(vs:List Value)(h:aT w F σ cs vs):aT w F σ (cs.drop k) (vs.drop k):=by
 refine aT.yv _ _ (by simp[aT.length cs vs h]) fun i c hi=>?_;rw[List.getElem?_drop] at hi ⊢;exact aT.get cs vs h _ c hi
theorem aT.append {w:World}{F:Nat→Prop}{σ:Nat→Option OB}:∀ (cs ds:List CV) (vs us:List Value),aT w F σ cs vs→aT w F σ ds us→aT w F σ (cs++ds) (vs++us)
 | [],ds,vs,us,h,k=>by simp only[aT] at h;subst h;simpa using k
 | c::cs,ds,vs,us,h,k=>by
  simp only[aT] at h;obtain⟨v,r,rfl,h1,h2⟩:=h;simp only[List.cons_append,aT];exact⟨v,r++us,rfl,h1,aT.append cs ds r us h2 k⟩
theorem VR.Ac {w:World}{F:Nat→Prop}{σ:Nat→Option OB}(c:CV)(v:Value)(h1:one c=true)(h:VR w F σ c v):v.oneCell'=true:=by
 cases c<;>simp only[VR,bZ,one,Bool.false_eq_true] at h h1
 case az=>obtain⟨A,cap,rfl,_⟩:=h;rfl
 case cF=>obtain⟨ad,rfl,_⟩:=h;rfl
 case fn=>obtain⟨vs,rfl,_⟩:=h;rfl
 case iface=>obtain⟨vs,rfl,_⟩:=h;cases vs<;>rfl
 case bp o off n=>
  obtain⟨B,_,h⟩:=h;split at h
  ·obtain⟨rfl,_⟩:=h;rfl
  ·obtain⟨cap,rfl,_⟩:=h;rfl
 case aq=>obtain⟨B,b,_,_,rfl⟩:=h;rfl
 case any=>exact h
 case mp=>obtain⟨B,r,arr,clock,_,_,rfl,_⟩:=h;rfl
 all_goals (subst h;rfl)
theorem aT.iA {w:World}{F:Nat→Prop}{σ:Nat→Option OB}:∀ (cs:List CV) (vs:List Value),cs.all one=true→aT w F σ cs vs→∀ u∈vs,u.oneCell'=true
 | [],vs,_,h=>by simp only[aT] at h;subst h;simp
 | c::cs,vs,ha,h=>by
  simp only[aT] at h;obtain⟨v,r,rfl,h1,h2⟩:=h;simp only[List.all_cons,Bool.and_eq_true] at ha;intro u hu;rcases List.mem_cons.1 hu with rfl | hu
  ·exact VR.Ac c _ ha.1 h1
  ·exact aT.iA cs r ha.2 h2 u hu
theorem yo {v:Value}(h:v.oneCell'=true):v.cells=#[v]:=by
 cases v<;>simp_all [Value.oneCell',Value.cells]
theorem VR.flat {w:World}{F:Nat→Prop}{σ:Nat→Option OB}(c:CV)(v:Value)(hc:∀ cs,c≠.dI cs)(hi:∀ k s p,c≠.iter k s p)(h:VR w F σ c v):aT w F σ c.cells v.cells.toList∧c.cells.all one=true:=by
 by_cases ha:∃ cs,c=.agg cs
 ·obtain⟨cs,rfl⟩:=ha;simp only[VR] at h;obtain⟨vs,rfl,r,h1⟩:=h;exact⟨by simpa [CV.cells,Value.cells] using r,h1⟩
 ·have h1:one c=true:=by
   cases c<;>simp_all [one]
  have h2:c.cells=[c]:=by
   cases c<;>simp_all [CV.cells]
  rw[h2,yo (VR.Ac c v h1 h)];exact⟨by simp only[aT];exact⟨v,[],rfl,h,rfl⟩,by simp[h1]⟩
theorem fa.LX {w:World}{F:Nat→Prop}:∀ (cs:List CV) (ad:Addr),fa w F cs ad→cs.all one=true
 | [],_,_=>rfl
 | c::cs,ad,h=>by
  simp only[fa] at h;simp[h.2.1,fa.LX cs _ h.2.2]
end Go.Can
/- Canonical states, their relation to the real frame and world, and the operations that turn nothing in memory. No function of the program is mentioned here. -/
namespace Go.Can
open Go.RowKit
def assoc {α:Type}:List (Nat×α)→Nat→Option α
 | [],_=>none
 | (k,v)::r,t=>if k=t then some v else assoc r t
def j5 {α:Type}:List (Nat×α)→Nat→List (Nat×α)
 | [],_=>[]
 | (k,v)::r,t=>if k=t then j5 r t else (k,v)::j5 r t
def sy {α:Type}:List (Nat×α)→Nat→α→List (Nat×α)
 | [],_,_=>[]
 | (k,v)::r,t,x=>if k=t then (k,x)::r else (k,v)::sy r t x
theorem eT {α:Type}(l:List (Nat×α))(t u:Nat):assoc (j5 l t) u=if t=u then none else assoc l u:=by
 induction l with
 | nil=>simp[j5,assoc]
 | cons x r ih=>
  obtain⟨k,v⟩:=x;simp only[j5];split
  ·rename_i hk;subst hk;rw[ih];split
   ·rfl
   ·rename_i hu;simp[assoc,hu]
  ·rename_i hk;simp only[assoc];split
   ·rename_i hu;subst hu;simp[Ne.symm hk]
   ·exact ih
theorem e9 {α:Type}(l:List (Nat×α))(t u:Nat)(x:α):assoc (sy l t x) u=if t=u then (assoc l t).map fun _=>x else assoc l u:=by
 induction l with
 | nil=>simp[sy,assoc]
 | cons y r ih=>
  obtain⟨k,v⟩:=y;simp only[sy];split
  ·rename_i hk;subst hk;simp only[assoc,if_true];split
   ·rename_i hu;simp
   ·rfl
  ·rename_i hk;simp only[assoc,hk,if_false];rw[ih];split
   ·rename_i hu;subst hu;simp[Ne.symm hk]
   ·rfl
structure Ob where
 elem:TypeId
 sz:Nat
 cells:List CV
structure St where
 env:List (Nat×CV)
 heap:List (Nat×Ob)
 nx:Nat
def St.put (s:St)(d:Option Tmp)(c:CV):St:=
 match d with
 | some t=>{ s with env:=(t,c)::j5 s.env t }
 | none=>s
def St.del (s:St)(d:Option Tmp):St:=
 match d with
 | some t=>{ s with env:=j5 s.env t }
 | none=>s
def Lb (w:World)(F:Nat→Prop):Prop:=∀ x∈IM,x.1<w.heap.size∧¬ F x.1∧∀ (j:Nat) (v:Value),x.2[j]? = some v→w.cell? ⟨x.1,j,none⟩=some v
def IX (w:World)(F own:Nat→Prop):Prop:=(∀ b,F b→b<w.heap.size)∧Lb w (fun b=>F b∨own b)
def FOk (w:World)(F:Nat→Prop):Prop:=IX w F (fun _=>False)
structure Cx where
 w0:World
 F:Nat→Prop
 own:Nat→Prop
 hF:IX w0 F own
 nt:Nat
 σ0:Nat→Option OB
 n0:Nat
def aU (σ:Nat→Option OB)(o:Nat):Option Nat:=(σ o).bind (·.jI)
def FB (C:Cx)(σ:Nat→Option OB)(H:List (Nat×Ob))(b:Nat):Prop:=C.F b∨∃ o ob,assoc H o=some ob∧aU σ o=some b
def ObR (C:Cx)(w:World)(σ:Nat→Option OB)(H:List (Nat×Ob))(o:Nat)(ob:Ob):Prop:=
 ∃ B,σ o=some B∧B.sz=ob.sz∧(B.jI=none→ob.cells=[])∧ob.cells.all one=true∧
  ∀ b,B.jI=some b→∃ cur:Array Value,w.heap[b]? = some (.cells cur ob.elem (0,0))∧cur.size=B.room∧¬ C.F b∧(C.own b∨C.w0.heap.size≤b)∧
   ob.cells.length≤cur.size∧aT w (FB C σ H) σ ob.cells (cur.toList.take ob.cells.length)
structure aK (C:Cx)(σ:Nat→Option OB)(s:St)(a:Act)(w:World):Prop where
 oA:a.defers=[]
 tm:a.tmps.size=C.nt
 os:w.os=C.w0.os
 tape:w.tape=C.w0.tape
 output:w.output=C.w0.output
 size:C.w0.heap.size≤w.heap.size
 frame:∀ b,b<C.w0.heap.size→¬ C.own b→w.heap[b]? = C.w0.heap[b]?
 env:∀ t c,assoc s.env t=some c→∃ v,a.tmps[t]? = some v∧VR w (FB C σ s.heap) σ c v
 obj:∀ o ob,assoc s.heap o=some ob→ObR C w σ s.heap o ob
 inj:∀ o o' ob Ov b,assoc s.heap o=some ob→assoc s.heap o'=some Ov→aU σ o=some b→aU σ o'=some b→o=o'
 nx:∀ o,s.nx≤o→σ o=none
 gO:∀ o,o<C.n0→σ o=C.σ0 o
 low:C.n0≤s.nx
 new:∀ o B b,C.n0≤o→σ o=some B→B.jI=some b→C.own b∨C.w0.heap.size≤b
def Rel (C:Cx)(s:St)(a:Act)(w:World):Prop:=∃ σ,aK C σ s a w
section
variable {C:Cx}{σ:Nat→Option OB}{s:St}{a:Act}{w:World}
theorem DH {a:Act}{d t:Nat}{v:Value}:(a.put (some d) v).tmps[t]? = if d=t then (if t<a.tmps.size then some v else none) else a.tmps[t]?:=by
 simp only[Act.put];rw[Array.getElem?_setIfInBounds];split
 ·rename_i h;subst h;rfl
 ·rfl
theorem aK.put (h:aK C σ s a w){d:Option Tmp}{c:CV}{v:Value}(hd:∀ t,d=some t→t<a.tmps.size)(hv:VR w (FB C σ s.heap) σ c v):aK C σ (s.put d c) (a.put d v) w:=by
 cases d with
 | none=>exact h
 | some d=>
  refine⟨h.oA,by simpa [Act.put] using h.tm,h.os,h.tape,h.output,h.size,h.frame,?_,h.obj,h.inj,h.nx,h.gO,h.low,h.new⟩;intro t c' hc;rw[DH];simp only[St.put,assoc] at hc;split at hc
  ·rename_i e;subst e;cases hc;rw[if_pos rfl,if_pos (hd _ rfl)];exact⟨v,rfl,hv⟩
  ·rename_i e;rw[eT,if_neg e] at hc;rw[if_neg e];exact h.env t c' hc
theorem aK.del (h:aK C σ s a w){d:Option Tmp}(v:Value):aK C σ (s.del d) (a.put d v) w:=by
 cases d with
 | none=>exact h
 | some d=>
  refine⟨h.oA,by simpa [Act.put] using h.tm,h.os,h.tape,h.output,h.size,h.frame,?_,h.obj,h.inj,h.nx,h.gO,h.low,h.new⟩;intro t c' hc;rw[DH];simp only[St.del] at hc;rw[eT] at hc;split at hc
  ·cases hc
  ·rename_i e;rw[if_neg e];exact h.env t c' hc
def fF:Value→Option CV
 | .int k n=>some (.int k n)
 | .bool b=>some (.bool b)
 | .string s=>some (.str s)
 | .pointer none=>some .bw
 | .slice none 0 0=>some .aj
 | .nilFunc=>some .cr
 | .nilIface=>some (.iface 0 [])
 | .map none=>some .any
 | _=>none
def eJ:List Value→Option (List CV)
 | []=>some []
 | v::r=>match fF v,eJ r with
  | some c,some cs=>some (c::cs)
  | _,_=>none
def ub:Value→Option CV
 | .agg cs=>(eJ cs.toList).map CV.agg
 | .tuple vs=>if vs.isEmpty then some (.dI []) else none
 | v=>fF v
theorem kF {F:Nat→Prop}{v:Value}{c:CV}(h:fF v=some c):bZ w F c v∧one c=true:=by
 unfold fF at h;split at h<;>first | (cases h;simp[bZ,bP,ifv,one,Value.oneCell'];done) | (cases h)
theorem cS {F:Nat→Prop}:∀ (vs:List Value) (cs:List CV),eJ vs=some cs→bP w F cs vs∧cs.all one=true
 | [],cs,h=>by simp only[eJ] at h;cases h;simp[bP]
 | v::r,cs,h=>by
  simp only[eJ] at h;split at h
  ·rename_i c PO h1 h2;cases h;obtain⟨k1,k2⟩:=kF (w:=w) (F:=F) h1;obtain⟨k3,k4⟩:=cS (F:=F) r PO h2;simp only[bP];exact⟨⟨v,r,rfl,k1,k3⟩,by simp[k2,k4]⟩
  ·cases h
theorem pM {F:Nat→Prop}{v:Value}{c:CV}(h:ub v=some c):bZ w F c v:=by
 unfold ub at h;split at h
 ·rename_i cs;obtain⟨x,h1,h2⟩:=Option.map_eq_some_iff.1 h;subst h2;obtain⟨k1,k2⟩:=cS (w:=w) (F:=F) _ _ h1;simp only[bZ];exact⟨cs.toList,by simp,k1,k2⟩
 ·rename_i vs;split at h
  ·rename_i he;cases h;simp only[bZ,bP];exact⟨[],by simpa using he,rfl⟩
  ·cases h
 ·exact (kF h).1
theorem xP {F:Nat→Prop}{g:Nat}(hg:¬ F g):∀ (vs:List Value) (cs:List CV) (k:Nat),eJ vs=some cs→(∀ (j:Nat) (v:Value),vs[j]? = some v→w.cell? ⟨g,k+j,none⟩=some v)→fa w F cs ⟨g,k,none⟩
 | [],cs,k,h,_=>by simp only[eJ] at h;cases h;simp[fa]
 | v::r,cs,k,h,hc=>by
  simp only[eJ] at h;split at h
  ·rename_i c PO h1 h2;cases h;obtain⟨k1,k2⟩:=kF (w:=w) (F:=F) h1;simp only[fa];refine⟨⟨v,hc 0 v rfl,hg,k1⟩,k2,?_⟩;rw[add_lit];exact xP hg r PO (k+1) h2 fun j u hj=>by rw[Nat.add_assoc,Nat.add_comm 1 j];exact hc (j+1) u (by simpa using hj)
  ·cases h
theorem vE {α:Type}:∀ (l:List (Nat×α)) (t:Nat) (v:α),assoc l t=some v→(t,v)∈l
 | [],_,_,h=>by simp[assoc] at h
 | (k,u)::r,t,v,h=>by
  simp only[assoc] at h;split at h
  ·rename_i e;subst e;cases h;exact List.mem_cons_self
  ·exact List.mem_cons_of_mem _ (vE r t v h)
theorem aK.gok (h:aK C σ s a w):Lb w (FB C σ s.heap):=fun x hx=>by
 obtain⟨h0,h1,h2⟩:=C.hF.2 x hx;refine⟨Nat.lt_of_lt_of_le h0 h.size,?_,fun j v hj=>?_⟩
 ·rintro (hf | ⟨o,ob,ho,hb⟩)
  ·exact h1 (.inl hf)
  ·obtain⟨B,m1,_,_,_,m5⟩:=h.obj o ob ho;obtain⟨cur,_,_,_,n4,_⟩:=m5 _ Wb;rcases n4 with n4 | n4
   ·exact h1 (.inr n4)
   ·omega
 ·rw[World.cell?_of_block (w:=C.w0) (h.frame x.1 h0 fun ho=>h1 (.inr ho))];exact h2 j v hj
theorem Lb.mono {w:World}{F F':Nat→Prop}(h:Lb w F)(hF:∀ b,F' b→F b):Lb w F':=fun x hx=>⟨(h x hx).1,fun hf=>(h x hx).2.1 (hF _ hf),(h x hx).2.2⟩
def ev (s:St):Operand→Option CV
 | .tmp t=>assoc s.env t
 | .const v=>ub v
 | .func f=>some (.fn f [])
 | .global g=>(assoc IM g).bind fun vs=>(eJ vs).map .cF
def zk (s:St):List Operand→Option (List CV)
 | []=>some []
 | x::r=>match ev s x,zk s r with
  | some c,some cs=>some (c::cs)
  | _,_=>none
theorem bO (h:aK C σ s a w){x:Operand}{c:CV}(he:ev s x=some c):VR w (FB C σ s.heap) σ c (a.eval x):=by
 cases x with
 | tmp t=>
  obtain⟨v,h1,h2⟩:=h.env t c he;simp only[Act.eval];have:a.tmps.getD t undef=v:=by simp[Array.getD_eq_getD_getElem?,h1]
  rw[this];exact h2
 | const v=>exact VR.cA _ _ (pM he)
 | func f=>cases he;simp only[VR];exact⟨[],rfl,rfl⟩
 | global g=>
  simp only[ev] at he;obtain⟨vs,h1,h2⟩:=Option.bind_eq_some_iff.1 he;obtain⟨cs,h3,rfl⟩:=Option.map_eq_some_iff.1 h2;obtain⟨_,k1,k2⟩:=h.gok _ (vE _ _ _ h1);simp only[VR,bZ,Act.eval];exact⟨_,rfl,xP k1 vs cs 0 h3 fun j v hj=>by rw[Nat.zero_add];exact k2 j v hj⟩
theorem pG (h:aK C σ s a w):∀ (xs:List Operand) (cs:List CV),zk s xs=some cs→aT w (FB C σ s.heap) σ cs (xs.map a.eval)
 | [],cs,he=>by simp only[zk] at he;cases he;rfl
 | x::r,cs,he=>by
  simp only[zk] at he;split at he
  ·rename_i c PO h1 h2;cases he;simp only[aT];exact⟨_,_,rfl,bO h h1,pG h r PO h2⟩
  ·cases he
end
inductive TD where
 | int (k:IntKind)
 | bool
 | str
 | sl (e:TypeId)
 | bk (fs:List (Nat×TypeId))
 | arr (n:Nat) (e:TypeId)
 | ptr (e:TypeId)
 | func
 | oth
def sT:TypeDesc→TD
 | .int k=>.int k
 | .bool=>.bool
 | .string=>.str
 | .slice e=>.sl e
 | .struct fs=>.bk (fs.toList.map fun f=>(f.offset,f.type))
 | .array n e=>.arr n e
 | .pointer e=>.ptr e
 | .func _ _ _=>.func
 | _=>.oth
structure TI where
 d:TD
 size:Nat
 bytes:Nat
 zero:List CV
def TI.agg (i:TI):Bool:=match i.d with
 | .bk _=>true
 | .arr _ _=>true
 | _=>false
structure cm (P:Program)(t:TypeId)(i:TI):Prop where
 info:∃ f z,P.info? t=some f∧f.size=i.size∧f.bytes=i.bytes∧f.zero=some z∧eJ z.cells.toList=some i.zero
 Bw:∃ d,P.underlying t=some d∧sT d=i.d
 len:i.zero.length=i.size
def aF (P:Program)(av:List (Nat×TI)):Prop:=∀ t i,assoc av t=some i→cm P t i
theorem cm.mk' {P:Program}{t:TypeId}{i:TI}(h1:(P.info? t).map (fun f=>(f.size,f.bytes,f.zero.map fun z=>eJ z.cells.toList))=some (i.size,i.bytes,some (some i.zero)))
  (h2:(P.underlying t).map sT=some i.d) (h3:i.zero.length=i.size):cm P t i:=by
 obtain⟨f,e1,e2⟩:=Option.map_eq_some_iff.1 h1;obtain⟨d,e3,e4⟩:=Option.map_eq_some_iff.1 h2;simp only[Prod.mk.injEq] at e2;obtain⟨z,e5,e6⟩:=Option.map_eq_some_iff.1 e2.2.2;exact⟨⟨f,z,e1,e2.1,e2.2.1,e5,e6⟩,⟨d,e3,e4⟩,h3⟩
theorem aF.nil {P:Program}:aF P []:=fun _ _ h=>by cases h
theorem aF.cons {P:Program}{t:Nat}{i:TI}{r:List (Nat×TI)}(h:cm P t i)(hr:aF P r):aF P ((t,i)::r):=fun u j hj=>by
 simp only[assoc] at hj;split at hj
 ·rename_i e;subst e;cases hj;exact h
 ·exact hr u j hj
theorem bC {P:Program}{t:TypeId}{d:TypeDesc}(h:P.underlying t=some d)(w:World):(underlying t).run P w=.ok d w:=run_underlying h w
theorem uB {P:Program}{t:TypeId}{f:TypeInfo}(h:P.info? t=some f)(w:World):(typeInfo t).run P w=.ok f w:=by
 simp[typeInfo,h]
theorem cL {P:Program}{t:TypeId}{f:TypeInfo}(h:P.info? t=some f)(w:World):(sizeOf t).run P w=.ok f.size w:=by
 simp[sizeOf,uB h]
def arith (op:BinOp)(k:IntKind)(a b:Int):Option CV:=
 match op with
 | .add=>some (.int k (k.wrap (a+b)))
 | .sub=>some (.int k (k.wrap (a-b)))
 | .mul=>some (.int k (k.wrap (a*b)))
 | .quo=>if b=0 then none else some (.int k (k.wrap (a.tdiv b)))
 | .rem=>if b=0 then none else some (.int k (a.tmod b))
 | .and=>some (.int k (k.wrap (BitVec.ofInt k.bits a &&& BitVec.ofInt k.bits b).toNat))
 | .or=>some (.int k (k.wrap (BitVec.ofInt k.bits a ||| BitVec.ofInt k.bits b).toNat))
 | .xor=>some (.int k (k.wrap (BitVec.ofInt k.bits a ^^^ BitVec.ofInt k.bits b).toNat))
 | .andNot=>some (.int k (k.wrap (BitVec.ofInt k.bits a &&& ~~~ BitVec.ofInt k.bits b).toNat))
 | .eql=>some (.bool (a == b))
 | .neq=>some (.bool (a != b))
 | .lss=>some (.bool (decide (a<b)))
 | .leq=>some (.bool (decide (a≤b)))
 | .gtr=>some (.bool (decide (a > b)))
 | .geq=>some (.bool (decide (a≥b)))
 | _=>none
def lE (op:BinOp)(x y:ByteArray):Option CV:=
 match op with
 | .add=>if x.size+y.size≤9223372036854775807 then some (.str (x++y)) else none
 | .eql=>some (.bool (x.toList == y.toList))
 | .neq=>some (.bool (!(x.toList == y.toList)))
 | .lss=>some (.bool (Op.bytesLess x.toList y.toList))
 | .leq=>some (.bool (Op.bytesLess x.toList y.toList || x.toList == y.toList))
 | .gtr=>some (.bool (!(Op.bytesLess x.toList y.toList || x.toList == y.toList)))
 | .geq=>some (.bool (!Op.bytesLess x.toList y.toList))
 | _=>none
def CK (op:BinOp)(d:TD):CV→CV→Option CV
 | .int k a,.int k' b=>match op with
  | .shl=>if b<0 then none else some (.int k (k.wrap (a*2 ^ (min b.toNat k.bits))))
  | .shr=>if b<0 then none else some (.int k (a.fdiv (2 ^ (min b.toNat k.bits))))
  | op=>if k=k' then arith op k a b else none
 | .str x,.str y=>lE op x y
 | .bool a,.bool b=>match d,op with
  | .bool,.eql=>some (.bool (a == b))
  | .bool,.neq=>some (.bool (!(a == b)))
  | _,_=>none
 | _,_=>none
theorem dO {w:World}{F:Nat→Prop}{σ:Nat→Option OB}(k:IntKind)(n:Int):VR w F σ (.int k n) (.int k n):=by simp[VR]
theorem dA {w:World}{F:Nat→Prop}{σ:Nat→Option OB}(b:Bool):VR w F σ (.bool b) (.bool b):=by simp[VR]
theorem zf {w:World}{F:Nat→Prop}{σ:Nat→Option OB}(b:ByteArray):VR w F σ (.str b) (.string b):=by simp[VR]
theorem IB {P:Program}{w:World}{op:BinOp}{k:IntKind}{xt:TypeId}{a b:Int}{c:CV}(hs1:op≠.shl)(Wt:op≠.shr)(h:arith op k a b=some c){F:Nat→Prop}{σ:Nat→Option OB} :
  ∃ v,(binOp op xt (.int k a) (.int k b)).run P w=.ok v w∧VR w F σ c v:=by
 cases op<;>simp only[arith] at h
 case add=>cases h;exact⟨_,by simp[binOp,Op.intArith],dO _ _⟩
 case sub=>cases h;exact⟨_,by simp[binOp,Op.intArith],dO _ _⟩
 case mul=>cases h;exact⟨_,by simp[binOp,Op.intArith],dO _ _⟩
 case quo=>
  split at h
  ·cases h
  ·cases h;rename_i hb;exact⟨_,by simp[binOp,Op.intDiv,hb],dO _ _⟩
 case rem=>
  split at h
  ·cases h
  ·cases h;rename_i hb;exact⟨_,by simp[binOp,Op.intDiv,hb],dO _ _⟩
 case and=>cases h;exact⟨_,by simp[binOp,Op.intBits],dO _ _⟩
 case or=>cases h;exact⟨_,by simp[binOp,Op.intBits],dO _ _⟩
 case xor=>cases h;exact⟨_,by simp[binOp,Op.intBits],dO _ _⟩
 case andNot=>cases h;exact⟨_,by simp[binOp,Op.intBits],dO _ _⟩
 case eql=>cases h;exact⟨_,by simp[binOp,Op.intCmp],dA _⟩
 case neq=>cases h;exact⟨_,by simp[binOp,Op.intCmp],dA _⟩
 case lss=>cases h;exact⟨_,by simp[binOp,Op.intCmp],dA _⟩
 case leq=>cases h;exact⟨_,by simp[binOp,Op.intCmp],dA _⟩
 case gtr=>cases h;exact⟨_,by simp[binOp,Op.intCmp],dA _⟩
 case geq=>cases h;exact⟨_,by simp[binOp,Op.intCmp],dA _⟩
 all_goals first | cases h | exact absurd rfl hs1 | exact absurd rfl Wt
theorem Gn {P:Program}{w:World}{op:BinOp}{xt:TypeId}{a b:ByteArray}{c:CV}(h:lE op a b=some c){F:Nat→Prop}{σ:Nat→Option OB} :
  ∃ v,(binOp op xt (.string a) (.string b)).run P w=.ok v w∧VR w F σ c v:=by
 cases op<;>simp only[lE] at h
 case add=>
  split at h
  ·rename_i hb;cases h;refine⟨_,?_,zf _⟩;have hm:IntKind.i64.max=9223372036854775807:=by simp[IntKind.max,IntKind.signed,IntKind.bits]
   simp only[binOp,Op.stringOp,hm];rw[if_neg yA];rfl
  ·cases h
 case eql=>cases h;exact⟨_,by simp[binOp,Op.stringOp],dA _⟩
 case neq=>cases h;exact⟨_,by simp[binOp,Op.stringOp],dA _⟩
 case lss=>cases h;exact⟨_,by simp[binOp,Op.stringOp],dA _⟩
 case leq=>cases h;exact⟨_,by simp[binOp,Op.stringOp],dA _⟩
 case gtr=>cases h;exact⟨_,by simp[binOp,Op.stringOp],dA _⟩
 case geq=>cases h;exact⟨_,by simp[binOp,Op.stringOp],dA _⟩
 all_goals cases h
end Go.Can
