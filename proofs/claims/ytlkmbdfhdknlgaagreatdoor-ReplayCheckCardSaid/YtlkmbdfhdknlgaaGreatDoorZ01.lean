/- The package variables of the program that are known: their b -/
import Derived.ProofKit
import Derived.StillTail
import Derived.ScopeJumps
import Derived.Laws.AppendOwn
import Derived.Laws.CopyOwn
import Derived.Laws.MakeOwn
import Derived.Laws.OwnMore
import Derived.Below
import Derived.IntWalk
namespace Go.Can
def EG:List (Nat×List Value):=[(0,[.bool false,.bool false,.bool true,.bool false,.bool false,.bool false,.bool false,.bool false,.bool false])]
theorem yA {p:Prop}(h:p:=by omega):p:=h
theorem j5 {p:Prop}(h:p:=by simp):p:=h
theorem lz {p:Prop}(h:p:=by kernel_rfl):p:=h
theorem yI {p:Prop}(h:p:=by simp[hC]):p:=h
theorem zK {p:Prop}(h:p:=by first | rfl | simp only[List.cons_append,List.nil_append,List.append_nil,trees,tree,bj,sU,Bool.and_self,Bool.and_true,Bool.true_and]):p:=h
theorem Fk {p:Prop}(h:p:=by decide):p:=h
theorem KI {p:Prop}(h:p:=by (try simp only[ByteArray.size_append]);omega):p:=h
theorem Ku {p:Prop}(h:p:=by first | rfl | simp[aO,aZ,bU,gL,-List.all_eq_true]):p:=h
theorem Kt {p:Prop}(h:p:=by first | rfl | simp[ax,ints]):p:=h
theorem Lv {p:Prop}(h:p:=by simp;omega):p:=h
theorem L2 {p:Prop}(h:p:=by simp[Op.operands]):p:=h
theorem L7 {p:Prop}(h:p:=by first | exact bP _ | exact sV _ (by first | rfl | assumption | simp[trees,tree, *])):p:=h
theorem yAl {p:Prop}(h:p:=by first | rfl | assumption | simp[trees,tree, *]):p:=h
theorem Mn {p:Prop}(h:p:=by first | rfl | simp only[List.all_cons,List.all_nil,okW,tree, *];rfl | simp[okW,tree,trees, *]):p:=h
theorem Mm {p:Prop}(h:p:=by first | rfl | assumption | simp[tree,trees, *]):p:=h
theorem Ml {p:Prop}(h:p:=by first | rfl | simp[bl,ev,assoc]):p:=h
theorem LR {p:Prop}(h:p:=by simp[-List.all_eq_true,-List.all_flatMap]):p:=h
theorem Lb {p:Prop}(h:p:=by first | rfl | decide):p:=h
theorem M9 {p:Prop}(h:p:=by simp[Ex.args]):p:=h
theorem La {p:Prop}(h:p:=by simp[assoc]):p:=h
theorem Nk {p:Prop}(h:p:=by simp[-List.all_eq_true]):p:=h
theorem NK {p:Prop}(h:p:=by simp[jX,aj LN]):p:=h
theorem NJ {p:Prop}(h:p:=by simp[ax]):p:=h
theorem NW {p:Prop}(h:p:=by simp[dH]):p:=h
theorem Of {p:Prop}(h:p:=by first | rfl | exact bj _ | exact sU _):p:=h
theorem Oe {p:Prop}(h:p:=by simp only[trees,tree];rfl):p:=h
theorem Ox {p:Prop}(h:p:=by simp[-List.all_eq_true,bq _ _ (aP _)]):p:=h
theorem yB {p:Prop}(h:p:=by simp only[ByteArray.size_append];omega):p:=h
theorem ON {p:Prop}(h:p:=by simpa using h):p:=h
theorem O3 {p:Prop}(h:p:=by first | rfl | exact bj _):p:=h
theorem O2 {p:Prop}(h:p:=by simp only[yi];omega):p:=h
theorem P9 {p:Prop}(h:p:=by simp[ax,cX,ko]):p:=h
theorem P8 {p:Prop}(h:p:=by simp[mE,yX,tree]):p:=h
theorem P7 {p:Prop}(h:p:=by simp[ax,ko]):p:=h
theorem Qx {p:Prop}(h:p:=by simp[fy,zx,-List.all_eq_true,-List.all_flatMap]):p:=h
theorem QR {p:Prop}(h:p:=by first | rfl | simp only[List.append_nil,trees,tree,bj,Bool.and_self]):p:=h
theorem Qw {p:Prop}(h:p:=by simp[-List.all_eq_true,-List.all_flatMap,aj Kd,aj KN]):p:=h
theorem QQ {p:Prop}(h:p:=by simpa [aH,m1] using hb):p:=h
theorem RT {p:Prop}(h:p:=by simp[-List.all_eq_true,-List.all_flatMap,aj Kd,aj KN,bq _ _ (lO _)]):p:=h
theorem RS {p:Prop}(h:p:=by simp[-List.all_eq_true,-List.all_flatMap,aj Oy,bq _ _ (aP _)]):p:=h
theorem RQ {p:Prop}(h:p:=by simp[ko,cH,-List.all_eq_true,-List.all_flatMap]):p:=h
theorem RP {p:Prop}(h:p:=by simp only[List.length_cons];omega):p:=h
theorem RO {p:Prop}(h:p:=by simpa [aA] using ho):p:=h
theorem Sq {p:Prop}(h:p:=by simp[e8,yf,sI,tree,assoc,-List.all_eq_true,-List.all_flatMap,Kz]):p:=h
theorem Sp {p:Prop}(h:p:=by simp[-List.all_eq_true,-List.all_flatMap,aj Oy]):p:=h
theorem So {p:Prop}(h:p:=by simp only[List.all_cons,List.all_nil,okW,tree];rfl):p:=h
theorem Sn {p:Prop}(h:p:=by simp[-List.all_eq_true,-List.all_flatMap,gL]):p:=h
theorem Sl {p:Prop}(h:p:=by simp[fy,-List.all_eq_true,-List.all_flatMap]):p:=h
theorem Sk {p:Prop}(h:p:=by simp[ax,-List.all_eq_true,gL]):p:=h
theorem Uj {p:Prop}(h:p:=by simp[-List.all_eq_true,-List.all_flatMap,bq 2 _ hX,bq 2 _ hY,bq 2 _ RV]):p:=h
theorem Ui {p:Prop}(h:p:=by simp[e8,yf,sI,tree,assoc,-List.all_eq_true,-List.all_flatMap]):p:=h
theorem Uh {p:Prop}(h:p:=by simp[ax,ko,-List.all_eq_true,-List.all_flatMap]):p:=h
theorem Ug {p:Prop}(h:p:=by simp only;rw[zN (Dj nx) AW];exact Kj):p:=h
theorem Uf {p:Prop}(h:p:=by simp[ax,-List.all_eq_true]):p:=h
theorem yC {p:Prop}(h:p:=by simp[-List.all_eq_true,-List.all_flatMap,bq 4 _ hY,aj (aE bL l),bq 4 _ RV,aj Qo]):p:=h
theorem U2 {p:Prop}(h:p:=by simp[-List.all_eq_true,-List.all_flatMap,aj Oy,bq _ _ (lO _)]):p:=h
theorem U1 {p:Prop}(h:p:=by simp only[mJ,Bool.and_eq_true,Bool.not_eq_true'] at hp;exact hp.1):p:=h
theorem U0 {p:Prop}(h:p:=by simp[ax,ints,ko,-List.all_eq_true,-List.all_flatMap]):p:=h
theorem UZ {p:Prop}(h:p:=by rw[← Array.toArray_toList (xs:=cl.argTypes),Lg]):p:=h
theorem UY {p:Prop}(h:p:=by have:(⟨#[9]⟩:ByteArray).size=1:=rfl;omega):p:=h
theorem UX {p:Prop}(h:p:=by rw[← Array.toArray_toList (xs:=cl.args),ha]):p:=h
theorem Xu {p:Prop}(h:p:=by simp only[cG,mo];simp[-List.all_eq_true,-List.all_flatMap,aY (aE bj N),uW]):p:=h
theorem Xt {p:Prop}(h:p:=by simp only[cG,mo];simp[-List.all_eq_true,-List.all_flatMap,gL,aj (aE bj N)]):p:=h
theorem Xs {p:Prop}(h:p:=by simp only[cG,mo,jH];simp[-List.all_eq_true,-List.all_flatMap,aj (aE bj _)]):p:=h
theorem Xr {p:Prop}(h:p:=by simp[-List.all_eq_true,-List.all_flatMap,aj (bk out),aj (bk th.1)]):p:=h
theorem Xq {p:Prop}(h:p:=by have:(g6 ⟨#[9]⟩ bd).size=(g6 nN bd).size:=rfl;simp only[ByteArray.size_append];omega):p:=h
theorem Xp {p:Prop}(h:p:=by simp only[Op.operands];simp only[List.mem_toArray,List.mem_map];exact⟨x,hx,rfl⟩):p:=h
theorem Xo {p:Prop}(h:p:=by simp[-List.all_eq_true,-List.all_flatMap,gL,aj (aE bj N)]):p:=h
open Go.RowKit
inductive CV where
 | int (k:IntKind) (n:Int)
 | bool (b:Bool)
 | str (s:ByteArray)
 | agg (cs:List CV)
 | au (cs:List CV) (n:Nat)
 | ag
 | cc (cs:List CV)
 | bg
 | fn (f:FuncId) (Ll:List CV)
 | bT
 | iface (t:TypeId) (cs:List CV)
 | iter (k:Nat) (s:ByteArray) (p:Nat)
 | mp (k:Nat) (es:List (Value×Value))
 | db (vs:List CV)
 | bw (o off n:Nat)
 | ai (o off:Nat)
 | any
instance : Inhabited CV := ⟨.bg⟩
def one:CV→Bool
 | .agg _=>false
 | .db _=>false
 | .iter _ _ _=>false
 | _=>true
def CV.cells:CV→List CV
 | .agg cs=>cs
 | c=>[c]
def ifv (t:TypeId):List Value→Value
 | []=>.nilIface
 | v::_=>.iface t v
mutual
/-- The immutable ones: the value v reads as c; no cell of it lies in a block of F. -/
def bK (w:World)(F:Nat→Prop):CV→Value→Prop
 | .int k n,v=>v=.int k n
 | .bool b,v=>v=.bool b
 | .str s,v=>v=.string s
 | .agg cs,v=>∃ vs:List Value,v=.agg vs.toArray∧bt w F cs vs∧cs.all one=true
 | .au cs n,v=>∃ A cap,v=.slice A n cap∧n≤cap∧cap≤maxLen∧((n=0∧cs=[])∨∃ ad,A=some ad∧ej w F cs ad)
 | .ag,v=>v=.slice none 0 0
 | .cc cs,v=>∃ ad,v=.pointer (some ad)∧ej w F cs ad
 | .bg,v=>v=.pointer none
 | .fn f Ll,v=>∃ vs:List Value,v=.func (.func f) #[] vs.toArray∧bt w F Ll vs
 | .iface f Ll,v=>∃ vs:List Value,v=ifv f vs∧bt w F Ll vs
 | .bT,v=>v=.nilFunc
 | .iter _ _ _,_=>False
 | .mp _ _,_=>False
 | .db cs,v=>∃ vs:List Value,v=.tuple vs.toArray∧bt w F cs vs
 | .bw _ _ _,_=>False
 | .ai _ _,_=>False
 | .any,v=>v.oneCell'=true
def bt (w:World)(F:Nat→Prop):List CV→List Value→Prop
 | [],vs=>vs=[]
 | c::cs,vs=>∃ v r,vs=v::r∧bK w F c v∧bt w F cs r
/-- The cells from an address on. -/
def ej (w:World)(F:Nat→Prop):List CV→Addr→Prop
 | [],_=>True
 | c::cs,ad=>(∃ u,w.cell? ad=some u∧¬ F ad.block∧bK w F c u)∧one c=true∧ej w F cs (ad.add 1)
end
theorem BO (a:Addr)(n:Nat):(a.add n).block=a.block:=by unfold Addr.add;split<;>rfl
theorem add_add (a:Addr)(i j:Nat):(a.add i).add j=a.add (i+j):=by
 unfold Addr.add;by_cases hi:i=0<;>by_cases hj:j=0<;>simp[hi,hj,Nat.add_assoc]
theorem add_zero (a:Addr):a.add 0=a:=by simp[Addr.add]
theorem add_lit (b i j:Nat):(⟨b,i,none⟩:Addr).add j=⟨b,i+j,none⟩:=by
 unfold Addr.add;split<;>simp_all
def kP (w w':World)(F F':Nat→Prop):Prop:=∀ ad u,¬ F ad.block→w.cell? ad=some u→w'.cell? ad=some u∧¬ F' ad.block
def b9 (w w':World)(F F':Nat→Prop):Prop:=kP w w' F F'∧
 ∀ r x,¬ F r→w.heap[r]? = some x→(∀ c e f,x≠.cells c e f)→w'.heap[r]? = some x∧¬ F' r
theorem b9.same {w:World}{F F':Nat→Prop}(h:∀ b,F' b→F b):b9 w w F F':=⟨fun _ _ hf hu=>⟨hu,fun k=>hf (h _ k)⟩,fun _ _ hf hu _=>⟨hu,fun k=>hf (h _ k)⟩⟩
mutual
theorem bK.a7 {w w':World}{F F':Nat→Prop}(h:kP w w' F F'):∀ (c:CV) (v:Value),bK w F c v→bK w' F' c v
 | .int _ _,_,hv=>by simpa [bK] using hv
 | .bool _,_,hv=>by simpa [bK] using hv
 | .str _,_,hv=>by simpa [bK] using hv
 | .agg cs,v,hv=>by
  simp only[bK] at hv ⊢;obtain⟨vs,e,r,h1⟩:=hv;exact⟨vs,e,bt.a7 h cs vs r,h1⟩
 | .ag,_,hv=>by simpa [bK] using hv
 | .au cs n,v,hv=>by
  simp only[bK] at hv ⊢;obtain⟨A,cap,e,h1,h2,h4⟩:=hv;refine⟨A,cap,e,h1,h2,?_⟩;rcases h4 with h4 | ⟨ad,ea,hm⟩
  ·exact .inl h4
  ·exact .inr ⟨ad,ea,ej.a7 h cs ad hm⟩
 | .cc cs,v,hv=>by
  simp only[bK] at hv ⊢;obtain⟨ad,e,hm⟩:=hv;exact⟨ad,e,ej.a7 h cs ad hm⟩
 | .bg,_,hv=>by simpa [bK] using hv
 | .fn f Ll,v,hv=>by
  simp only[bK] at hv ⊢;obtain⟨vs,e,r⟩:=hv;exact⟨vs,e,bt.a7 h Ll vs r⟩
 | .iface f Ll,v,hv=>by
  simp only[bK] at hv ⊢;obtain⟨vs,e,r⟩:=hv;exact⟨vs,e,bt.a7 h Ll vs r⟩
 | .bT,_,hv=>by simpa [bK] using hv
 | .iter _ _ _,_,hv=>by simp[bK] at hv
 | .mp _ _,_,hv=>by simp[bK] at hv
 | .db cs,v,hv=>by
  simp only[bK] at hv ⊢;obtain⟨vs,e,r⟩:=hv;exact⟨vs,e,bt.a7 h cs vs r⟩
 | .bw _ _ _,_,hv=>by simp[bK] at hv
 | .ai _ _,_,hv=>by simp[bK] at hv
 | .any,_,hv=>by simpa [bK] using hv
theorem bt.a7 {w w':World}{F F':Nat→Prop}(h:kP w w' F F'):∀ (cs:List CV) (vs:List Value),bt w F cs vs→bt w' F' cs vs
 | [],_,hv=>by simpa [bt] using hv
 | c::cs,vs,hv=>by
  simp only[bt] at hv ⊢;obtain⟨v,r,e,h1,h2⟩:=hv;exact⟨v,r,e,bK.a7 h c v h1,bt.a7 h cs r h2⟩
theorem ej.a7 {w w':World}{F F':Nat→Prop}(h:kP w w' F F'):∀ (cs:List CV) (ad:Addr),ej w F cs ad→ej w' F' cs ad
 | [],_,_=>by simp[ej]
 | c::cs,ad,hv=>by
  simp only[ej] at hv ⊢;obtain⟨⟨u,h1,h2,h3⟩,ho,h4⟩:=hv;obtain⟨k1,k2⟩:=h ad u h2 h1;exact⟨⟨u,k1,k2,bK.a7 h c u h3⟩,ho,ej.a7 h cs _ h4⟩
end
theorem ej.drop {w:World}{F:Nat→Prop}:∀ (k:Nat) (cs:List CV) (ad:Addr),ej w F cs ad→ej w F (cs.drop k) (ad.add k)
 | 0,cs,ad,h=>by simpa [add_zero] using h
 | k+1,[],ad,_=>by simp[ej]
 | k+1,c::cs,ad,h=>by
  simp only[ej] at h;have:=ej.drop k cs _ h.2.2;rw[add_add] at this
  simpa [Nat.add_comm] using this
theorem ej.take {w:World}{F:Nat→Prop}:∀ (k:Nat) (cs:List CV) (ad:Addr),ej w F cs ad→ej w F (cs.take k) ad
 | 0,_,_,_=>by simp[ej]
 | k+1,[],_,_=>by simp[ej]
 | k+1,c::cs,ad,h=>by
  simp only[ej] at h;simp only[List.take_succ_cons,ej];exact⟨h.1,h.2.1,ej.take k cs _ h.2.2⟩
theorem ej.cells {w:World}{F:Nat→Prop}:∀ (cs:List CV) (ad:Addr),ej w F cs ad→∃ us:List Value,bt w F cs us∧us.length=cs.length∧∀ j u,us[j]? = some u→w.cell? (ad.add j)=some u
 | [],ad,_=>⟨[],by simp[bt],rfl,by simp⟩
 | c::cs,ad,h=>by
  simp only[ej] at h;obtain⟨⟨u,h1,h2,h3⟩,_,h4⟩:=h;obtain⟨us,k1,k2,k3⟩:=ej.cells cs _ h4;refine⟨u::us,by simp only[bt];exact⟨u,us,rfl,h3,k1⟩,by simp[k2],?_⟩;intro j x hx
  cases j with
  | zero=>simp at hx;subst hx;rw[add_zero];exact h1
  | succ j=>
   have:=k3 j x (by simpa using hx);rw[add_add] at this;rwa [Nat.add_comm] at this
theorem bt.length {w:World}{F:Nat→Prop}:∀ (cs:List CV) (vs:List Value),bt w F cs vs→vs.length=cs.length
 | [],vs,h=>by simp only[bt] at h;subst h;rfl
 | c::cs,vs,h=>by
  simp only[bt] at h;obtain⟨v,r,rfl,_,h2⟩:=h;simp[bt.length cs r h2]
theorem bt.get {w:World}{F:Nat→Prop}:∀ (cs:List CV) (vs:List Value),bt w F cs vs→∀ (i:Nat) (c:CV),cs[i]? = some c→∃ v,vs[i]? = some v∧bK w F c v
 | [],vs,_,i,c,hi=>by simp at hi
 | c::cs,vs,h,i,d,hi=>by
  simp only[bt] at h;obtain⟨v,r,rfl,h1,h2⟩:=h
  cases i with
  | zero=>simp at hi;subst hi;exact⟨v,rfl,h1⟩
  | succ i=>simpa using bt.get cs r h2 i d (by simpa using hi)
structure OB where
 iI:Option Nat
 room:Nat
 sz:Nat
mutual
/-- The values of a frame and of the objects' cells. -/
def VR (w:World)(F:Nat→Prop)(σ:Nat→Option OB):CV→Value→Prop
 | .bw o off n,v=>∃ B,σ o=some B∧match B.iI with
   | none=>v=.slice none 0 0∧off=0∧n=0
   | some b=>∃ cap,v=.slice (some ⟨b,off,none⟩) n cap∧n≤cap∧cap≤maxLen∧off+cap*B.sz≤B.room∧(off=0→cap*B.sz=B.room)
 | .ai o off,v=>∃ B b,σ o=some B∧B.iI=some b∧v=.pointer (some ⟨b,off,none⟩)
 | .agg cs,v=>∃ vs:List Value,v=.agg vs.toArray∧aG w F σ cs vs∧cs.all one=true
 | .fn f Ll,v=>∃ vs:List Value,v=.func (.func f) #[] vs.toArray∧aG w F σ Ll vs
 | .iface f Ll,v=>∃ vs:List Value,v=ifv f vs∧aG w F σ Ll vs
 | .db cs,v=>∃ vs:List Value,v=.tuple vs.toArray∧aG w F σ cs vs
 | .int k n,v=>v=.int k n
 | .bool b,v=>v=.bool b
 | .str s,v=>v=.string s
 | .au cs n,v=>bK w F (.au cs n) v
 | .ag,v=>v=.slice none 0 0
 | .cc cs,v=>bK w F (.cc cs) v
 | .bg,v=>v=.pointer none
 | .bT,v=>v=.nilFunc
 | .iter k s p,v=>∃ B r,σ k=some B∧B.iI=some r∧v=.pointer (some ⟨r,0,none⟩)∧w.heap[r]? = some (.stringIter s p)∧¬ F r
 | .mp k es,v=>∃ B r arr clock,σ k=some B∧B.iI=some r∧v=.map (some r)∧w.heap[r]? = some (.map arr clock)∧arr.toList.map (fun e=>(e.key,e.val))=es∧(es.map (·.1)).Nodup∧¬ F r
 | .any,v=>v.oneCell'=true
def aG (w:World)(F:Nat→Prop)(σ:Nat→Option OB):List CV→List Value→Prop
 | [],vs=>vs=[]
 | c::cs,vs=>∃ v r,vs=v::r∧VR w F σ c v∧aG w F σ cs r
end
mutual
/-- No object of one's own in it, on the surface. -/
def tree:CV→Bool
 | .bw _ _ _=>false
 | .ai _ _=>false
 | .iter _ _ _=>false
 | .mp _ _=>false
 | .agg cs=>trees cs
 | .fn _ cs=>trees cs
 | .iface _ cs=>trees cs
 | .db cs=>trees cs
 | _=>true
def trees:List CV→Bool
 | []=>true
 | c::cs=>tree c && trees cs
end
mutual
theorem VR.ca {w:World}{F:Nat→Prop}{σ:Nat→Option OB}:∀ (c:CV) (v:Value),bK w F c v→VR w F σ c v
 | .int _ _,_,h=>by simpa [VR,bK] using h
 | .bool _,_,h=>by simpa [VR,bK] using h
 | .str _,_,h=>by simpa [VR,bK] using h
 | .agg cs,v,h=>by
  simp only[VR,bK] at h ⊢;obtain⟨vs,e,r,h1⟩:=h;exact⟨vs,e,aG.ca cs vs r,h1⟩
 | .ag,_,h=>by simpa [VR,bK] using h
 | .au _ _,_,h=>by simpa only[VR] using h
 | .cc _,_,h=>by simpa only[VR] using h
 | .bg,_,h=>by simpa [VR,bK] using h
 | .fn _ cs,v,h=>by
  simp only[VR,bK] at h ⊢;obtain⟨vs,e,r⟩:=h;exact⟨vs,e,aG.ca cs vs r⟩
 | .iface _ cs,v,h=>by
  simp only[VR,bK] at h ⊢;obtain⟨vs,e,r⟩:=h;exact⟨vs,e,aG.ca cs vs r⟩
 | .bT,_,h=>by simpa [VR,bK] using h
 | .iter _ _ _,_,h=>by simp[bK] at h
 | .mp _ _,_,h=>by simp[bK] at h
 | .db cs,v,h=>by
  simp only[VR,bK] at h ⊢;obtain⟨vs,e,r⟩:=h;exact⟨vs,e,aG.ca cs vs r⟩
 | .bw _ _ _,_,h=>by simp[bK] at h
 | .ai _ _,_,h=>by simp[bK] at h
 | .any,_,h=>by simpa [VR,bK] using h
theorem aG.ca {w:World}{F:Nat→Prop}{σ:Nat→Option OB}:∀ (cs:List CV) (vs:List Value),bt w F cs vs→aG w F σ cs vs
 | [],_,h=>by simpa [aG,bt] using h
 | c::cs,vs,h=>by
  simp only[aG,bt] at h ⊢;obtain⟨v,r,e,h1,h2⟩:=h;exact⟨v,r,e,VR.ca c v h1,aG.ca cs r h2⟩
end
mutual
theorem VR.dx {w:World}{F:Nat→Prop}{σ:Nat→Option OB}:∀ (c:CV) (v:Value),tree c=true→VR w F σ c v→bK w F c v
 | .int _ _,_,_,h=>by simpa [VR,bK] using h
 | .bool _,_,_,h=>by simpa [VR,bK] using h
 | .str _,_,_,h=>by simpa [VR,bK] using h
 | .agg cs,v,ht,h=>by
  simp only[VR,bK,tree] at h ht ⊢;obtain⟨vs,e,r,h1⟩:=h;exact⟨vs,e,aG.dx cs vs ht r,h1⟩
 | .ag,_,_,h=>by simpa [VR,bK] using h
 | .au _ _,_,_,h=>by simpa only[VR] using h
 | .cc _,_,_,h=>by simpa only[VR] using h
 | .bg,_,_,h=>by simpa [VR,bK] using h
 | .fn _ cs,v,ht,h=>by
  simp only[VR,bK,tree] at h ht ⊢;obtain⟨vs,e,r⟩:=h;exact⟨vs,e,aG.dx cs vs ht r⟩
 | .iface _ cs,v,ht,h=>by
  simp only[VR,bK,tree] at h ht ⊢;obtain⟨vs,e,r⟩:=h;exact⟨vs,e,aG.dx cs vs ht r⟩
 | .bT,_,_,h=>by simpa [VR,bK] using h
 | .iter _ _ _,_,ht,_=>by simp[tree] at ht
 | .mp _ _,_,ht,_=>by simp[tree] at ht
 | .db cs,v,ht,h=>by
  simp only[VR,bK,tree] at h ht ⊢;obtain⟨vs,e,r⟩:=h;exact⟨vs,e,aG.dx cs vs ht r⟩
 | .bw _ _ _,_,ht,_=>by simp[tree] at ht
 | .ai _ _,_,ht,_=>by simp[tree] at ht
 | .any,_,_,h=>by simpa [VR,bK] using h
theorem aG.dx {w:World}{F:Nat→Prop}{σ:Nat→Option OB}:∀ (cs:List CV) (vs:List Value),trees cs=true→aG w F σ cs vs→bt w F cs vs
 | [],_,_,h=>by simpa [aG,bt] using h
 | c::cs,vs,ht,h=>by
  simp only[aG,bt,trees,Bool.and_eq_true] at h ht ⊢;obtain⟨v,r,e,h1,h2⟩:=h;exact⟨v,r,e,VR.dx c v ht.1 h1,aG.dx cs r ht.2 h2⟩
end
mutual
/-- The value names the object o. -/
def aA (o:Nat):CV→Bool
 | .bw p _ _=>p != o
 | .ai p _=>p != o
 | .iter p _ _=>p != o
 | .mp p _=>p != o
 | .agg cs=>dc o cs
 | .fn _ cs=>dc o cs
 | .iface _ cs=>dc o cs
 | .db cs=>dc o cs
 | _=>true
def dc (o:Nat):List CV→Bool
 | []=>true
 | c::cs=>aA o c && dc o cs
end
mutual
/-- A reading is kept when the world turns as 'Keeps' says and the places of all objects that it names stay. -/
theorem VR.a7 {w w':World}{F F':Nat→Prop}{σ σ':Nat→Option OB}(h:b9 w w' F F'):∀ (c:CV) (v:Value),(∀ o,aA o c=false→σ' o=σ o)→VR w F σ c v→VR w' F' σ' c v
 | .int _ _,_,_,hv=>by simpa [VR] using hv
 | .bool _,_,_,hv=>by simpa [VR] using hv
 | .str _,_,_,hv=>by simpa [VR] using hv
 | .agg cs,v,hr,hv=>by
  simp only[VR] at hv ⊢;obtain⟨vs,e,r,h1⟩:=hv;exact⟨vs,e,aG.a7 h cs vs (fun o ho=>hr o RO) r,h1⟩
 | .ag,_,_,hv=>by simpa [VR] using hv
 | .au _ _,_,_,hv=>by simp only[VR] at hv ⊢;exact bK.a7 h.1 _ _ hv
 | .cc _,_,_,hv=>by simp only[VR] at hv ⊢;exact bK.a7 h.1 _ _ hv
 | .bg,_,_,hv=>by simpa [VR] using hv
 | .fn _ cs,v,hr,hv=>by
  simp only[VR] at hv ⊢;obtain⟨vs,e,r⟩:=hv;exact⟨vs,e,aG.a7 h cs vs (fun o ho=>hr o RO) r⟩
 | .iface _ cs,v,hr,hv=>by
  simp only[VR] at hv ⊢;obtain⟨vs,e,r⟩:=hv;exact⟨vs,e,aG.a7 h cs vs (fun o ho=>hr o RO) r⟩
 | .bT,_,_,hv=>by simpa [VR] using hv
 | .iter k s p,v,hr,hv=>by
  have hs:=hr k (by simp[aA]);simp only[VR] at hv ⊢;obtain⟨B,r,e1,e2,e3,h1,h2⟩:=hv;obtain⟨k1,k2⟩:=h.2 r _ h2 h1 (fun _ _ _ he=>by cases he);exact⟨B,r,hs.trans e1,e2,e3,k1,k2⟩
 | .mp k es,v,hr,hv=>by
  have hs:=hr k (by simp[aA]);simp only[VR] at hv ⊢;obtain⟨B,r,arr,clock,e1,e2,e3,h1,h3,h4,h2⟩:=hv;obtain⟨k1,k2⟩:=h.2 r _ h2 h1 (fun _ _ _ he=>by cases he);exact⟨B,r,arr,clock,hs.trans e1,e2,e3,k1,h3,h4,k2⟩
 | .db cs,v,hr,hv=>by
  simp only[VR] at hv ⊢;obtain⟨vs,e,r⟩:=hv;exact⟨vs,e,aG.a7 h cs vs (fun o ho=>hr o RO) r⟩
 | .bw o off n,v,hr,hv=>by
  have:=hr o (by simp[aA]);simp only[VR] at hv ⊢;rw[this];exact hv
 | .ai o off,v,hr,hv=>by
  have:=hr o (by simp[aA]);simp only[VR] at hv ⊢;rw[this];exact hv
 | .any,_,_,hv=>by simpa [VR] using hv
theorem aG.a7 {w w':World}{F F':Nat→Prop}{σ σ':Nat→Option OB}(h:b9 w w' F F'):∀ (cs:List CV) (vs:List Value),(∀ o,dc o cs=false→σ' o=σ o)→aG w F σ cs vs→aG w' F' σ' cs vs
 | [],_,_,hv=>by simpa [aG] using hv
 | c::cs,vs,hr,hv=>by
  simp only[aG] at hv ⊢;obtain⟨v,r,e,h1,h2⟩:=hv;exact⟨v,r,e,VR.a7 h c v (fun o ho=>hr o (by simp[dc,ho])) h1,aG.a7 h cs r (fun o ho=>hr o (by simp[dc,ho])) h2⟩
end
mutual
/-- No iterator in it, on the surface. -/
def jD:CV→Bool
 | .iter _ _ _=>false
 | .mp _ _=>false
 | .agg cs=>ik cs
 | .fn _ cs=>ik cs
 | .iface _ cs=>ik cs
 | .db cs=>ik cs
 | _=>true
def ik:List CV→Bool
 | []=>true
 | c::cs=>jD c && ik cs
end
mutual
/-- A reading without iterators is kept when the cells are. -/
theorem VR.lD {w w':World}{F F':Nat→Prop}{σ:Nat→Option OB}(h:kP w w' F F'):∀ (c:CV) (v:Value),jD c=true→VR w F σ c v→VR w' F' σ c v
 | .int _ _,_,_,hv=>by simpa [VR] using hv
 | .bool _,_,_,hv=>by simpa [VR] using hv
 | .str _,_,_,hv=>by simpa [VR] using hv
 | .ag,_,_,hv=>by simpa [VR] using hv
 | .au _ _,_,_,hv=>by simp only[VR] at hv ⊢;exact bK.a7 h _ _ hv
 | .cc _,_,_,hv=>by simp only[VR] at hv ⊢;exact bK.a7 h _ _ hv
 | .bg,_,_,hv=>by simpa [VR] using hv
 | .bT,_,_,hv=>by simpa [VR] using hv
 | .any,_,_,hv=>by simpa [VR] using hv
 | .bw _ _ _,_,_,hv=>by simpa only[VR] using hv
 | .ai _ _,_,_,hv=>by simpa only[VR] using hv
 | .iter _ _ _,_,hn,_=>by simp[jD] at hn
 | .mp _ _,_,hn,_=>by simp[jD] at hn
 | .agg cs,v,hn,hv=>by
  simp only[VR] at hv ⊢;obtain⟨vs,e,r,h1⟩:=hv;exact⟨vs,e,aG.lD h cs vs (by simpa [jD] using hn) r,h1⟩
 | .fn _ cs,v,hn,hv=>by
  simp only[VR] at hv ⊢;obtain⟨vs,e,r⟩:=hv;exact⟨vs,e,aG.lD h cs vs (by simpa [jD] using hn) r⟩
 | .iface _ cs,v,hn,hv=>by
  simp only[VR] at hv ⊢;obtain⟨vs,e,r⟩:=hv;exact⟨vs,e,aG.lD h cs vs (by simpa [jD] using hn) r⟩
 | .db cs,v,hn,hv=>by
  simp only[VR] at hv ⊢;obtain⟨vs,e,r⟩:=hv;exact⟨vs,e,aG.lD h cs vs (by simpa [jD] using hn) r⟩
theorem aG.lD {w w':World}{F F':Nat→Prop}{σ:Nat→Option OB}(h:kP w w' F F'):∀ (cs:List CV) (vs:List Value),ik cs=true→aG w F σ cs vs→aG w' F' σ cs vs
 | [],_,_,hv=>by simpa [aG] using hv
 | c::cs,vs,hn,hv=>by
  simp only[ik,Bool.and_eq_true] at hn;simp only[aG] at hv ⊢;obtain⟨v,r,e,h1,h2⟩:=hv;exact⟨v,r,e,VR.lD h c v hn.1 h1,aG.lD h cs r hn.2 h2⟩
end
theorem aG.length {w:World}{F:Nat→Prop}{σ:Nat→Option OB}:∀ (cs:List CV) (vs:List Value),aG w F σ cs vs→vs.length=cs.length
 | [],vs,h=>by simp only[aG] at h;subst h;rfl
 | c::cs,vs,h=>by
  simp only[aG] at h;obtain⟨v,r,rfl,_,h2⟩:=h;simp[aG.length cs r h2]
theorem aG.get {w:World}{F:Nat→Prop}{σ:Nat→Option OB}:∀ (cs:List CV) (vs:List Value),aG w F σ cs vs→∀ (i:Nat) (c:CV),cs[i]? = some c→∃ v,vs[i]? = some v∧VR w F σ c v
 | [],vs,_,i,c,hi=>by simp at hi
 | c::cs,vs,h,i,d,hi=>by
  simp only[aG] at h;obtain⟨v,r,rfl,h1,h2⟩:=h
  cases i with
  | zero=>simp at hi;subst hi;exact⟨v,rfl,h1⟩
  | succ i=>simpa using aG.get cs r h2 i d (by simpa using hi)
theorem aG.uX {w:World}{F:Nat→Prop}{σ:Nat→Option OB}:∀ (cs:List CV) (vs:List Value),vs.length=cs.length→(∀ (i:Nat) (c:CV),cs[i]? = some c→∃ v,vs[i]? = some v∧VR w F σ c v)→aG w F σ cs vs
 | [],vs,hl,_=>by simp only[aG];exact List.eq_nil_of_length_eq_zero hl
 | c::cs,[],hl,_=>by simp at hl
 | c::cs,v::vs,hl,h=>by
  simp only[aG];refine⟨v,vs,rfl,?_,aG.uX cs vs (by simpa using hl) fun i d hi=>?_⟩
  ·obtain⟨u,hu,hr⟩:=h 0 c rfl;simp at hu;subst hu;exact hr
  ·simpa using h (i+1) d (by simpa using hi)
theorem aG.take {w:World}{F:Nat→Prop}{σ:Nat→Option OB}(k:Nat)(cs:List CV)(vs:List Value)(h:aG w F σ cs vs):aG w F σ (cs.take k) (vs.take k):=by
 refine aG.uX _ _ (by simp[aG.length cs vs h]) fun i c hi=>?_;rw[List.getElem?_take] at hi ⊢;split at hi
 ·rename_i hk;rw[if_pos hk];exact aG.get cs vs h i c hi
 ·cases hi
theorem aG.drop {w:World}{F:Nat→Prop}{σ:Nat→Option OB}(k:Nat)(cs:List CV)(vs:List Value)(h:aG w F σ cs vs):aG w F σ (cs.drop k) (vs.drop k):=by
 refine aG.uX _ _ (by simp[aG.length cs vs h]) fun i c hi=>?_;rw[List.getElem?_drop] at hi ⊢;exact aG.get cs vs h _ c hi
theorem aG.append {w:World}{F:Nat→Prop}{σ:Nat→Option OB}:∀ (cs ds:List CV) (vs us:List Value),aG w F σ cs vs→aG w F σ ds us→aG w F σ (cs++ds) (vs++us)
 | [],ds,vs,us,h,k=>by simp only[aG] at h;subst h;simpa using k
 | c::cs,ds,vs,us,h,k=>by
  simp only[aG] at h;obtain⟨v,r,rfl,h1,h2⟩:=h;simp only[List.cons_append,aG];exact⟨v,r++us,rfl,h1,aG.append cs ds r us h2 k⟩
theorem VR.wP {w:World}{F:Nat→Prop}{σ:Nat→Option OB}(c:CV)(v:Value)(h1:one c=true)(h:VR w F σ c v):v.oneCell'=true:=by
 cases c<;>simp only[VR,bK,one,Bool.false_eq_true] at h h1
 case au=>obtain⟨A,cap,rfl,_⟩:=h;rfl
 case cc=>obtain⟨ad,rfl,_⟩:=h;rfl
 case fn=>obtain⟨vs,rfl,_⟩:=h;rfl
 case iface=>obtain⟨vs,rfl,_⟩:=h;cases vs<;>rfl
 case bw o off n=>
  obtain⟨B,_,h⟩:=h;split at h
  ·obtain⟨rfl,_⟩:=h;rfl
  ·obtain⟨cap,rfl,_⟩:=h;rfl
 case ai=>obtain⟨B,b,_,_,rfl⟩:=h;rfl
 case any=>exact h
 case mp=>obtain⟨B,r,arr,clock,_,_,rfl,_⟩:=h;rfl
 all_goals (subst h;rfl)
theorem aG.gC {w:World}{F:Nat→Prop}{σ:Nat→Option OB}:∀ (cs:List CV) (vs:List Value),cs.all one=true→aG w F σ cs vs→∀ u∈vs,u.oneCell'=true
 | [],vs,_,h=>by simp only[aG] at h;subst h;simp
 | c::cs,vs,ha,h=>by
  simp only[aG] at h;obtain⟨v,r,rfl,h1,h2⟩:=h;simp only[List.all_cons,Bool.and_eq_true] at ha;intro u hu;rcases List.mem_cons.1 hu with rfl | hu
  ·exact VR.wP c _ ha.1 h1
  ·exact aG.gC cs r ha.2 h2 u hu
theorem uR {v:Value}(h:v.oneCell'=true):v.cells=#[v]:=by
 cases v<;>simp_all [Value.oneCell',Value.cells]
theorem VR.flat {w:World}{F:Nat→Prop}{σ:Nat→Option OB}(c:CV)(v:Value)(hc:∀ cs,c≠.db cs)(hi:∀ k s p,c≠.iter k s p)(h:VR w F σ c v):aG w F σ c.cells v.cells.toList∧c.cells.all one=true:=by
 by_cases ha:∃ cs,c=.agg cs
 ·obtain⟨cs,rfl⟩:=ha;simp only[VR] at h;obtain⟨vs,rfl,r,h1⟩:=h;exact⟨by simpa [CV.cells,Value.cells] using r,h1⟩
 ·have h1:one c=true:=by
   cases c<;>simp_all [one]
  have h2:c.cells=[c]:=by
   cases c<;>simp_all [CV.cells]
  rw[h2,uR (VR.wP c v h1 h)];exact⟨by simp only[aG];exact⟨v,[],rfl,h,rfl⟩,by simp[h1]⟩
theorem ej.HJ {w:World}{F:Nat→Prop}:∀ (cs:List CV) (ad:Addr),ej w F cs ad→cs.all one=true
 | [],_,_=>rfl
 | c::cs,ad,h=>by
  simp only[ej] at h;simp[h.2.1,ej.HJ cs _ h.2.2]
end Go.Can
/- Canonical states, their relation to the real frame and world, and the operations that turn nothing in memory. No function of the program is mentioned here. -/
namespace Go.Can
open Go.RowKit
def assoc {α:Type}:List (Nat×α)→Nat→Option α
 | [],_=>none
 | (k,v)::r,t=>if k=t then some v else assoc r t
def iY {α:Type}:List (Nat×α)→Nat→List (Nat×α)
 | [],_=>[]
 | (k,v)::r,t=>if k=t then iY r t else (k,v)::iY r t
def pH {α:Type}:List (Nat×α)→Nat→α→List (Nat×α)
 | [],_,_=>[]
 | (k,v)::r,t,x=>if k=t then (k,x)::r else (k,v)::pH r t x
theorem dW {α:Type}(l:List (Nat×α))(t u:Nat):assoc (iY l t) u=if t=u then none else assoc l u:=by
 induction l with
 | nil=>simp[iY,assoc]
 | cons x r ih=>
  obtain⟨k,v⟩:=x;simp only[iY];split
  ·rename_i hk;subst hk;rw[ih];split
   ·rfl
   ·rename_i hu;simp[assoc,hu]
  ·rename_i hk;simp only[assoc];split
   ·rename_i hu;subst hu;simp[Ne.symm hk]
   ·exact ih
theorem eg {α:Type}(l:List (Nat×α))(t u:Nat)(x:α):assoc (pH l t x) u=if t=u then (assoc l t).map fun _=>x else assoc l u:=by
 induction l with
 | nil=>simp[pH,assoc]
 | cons y r ih=>
  obtain⟨k,v⟩:=y;simp only[pH];split
  ·rename_i hk;subst hk;simp only[assoc,if_true];split
   ·rename_i hu;simp
   ·rfl
  ·rename_i hk;simp only[assoc,hk,if_false];rw[ih];split
   ·rename_i hu;subst hu;simp[Ne.symm hk]
   ·rfl
structure Ob where
 elem:TypeId
 sz:Nat
 cells:List CV
structure St where
 env:List (Nat×CV)
 heap:List (Nat×Ob)
 nx:Nat
def St.put (s:St)(d:Option Tmp)(c:CV):St:=
 match d with
 | some t=>{ s with env:=(t,c)::iY s.env t }
 | none=>s
def St.del (s:St)(d:Option Tmp):St:=
 match d with
 | some t=>{ s with env:=iY s.env t }
 | none=>s
def G3 (w:World)(F:Nat→Prop):Prop:=∀ x∈EG,x.1<w.heap.size∧¬ F x.1∧∀ (j:Nat) (v:Value),x.2[j]? = some v→w.cell? ⟨x.1,j,none⟩=some v
def ES (w:World)(F own:Nat→Prop):Prop:=(∀ b,F b→b<w.heap.size)∧G3 w (fun b=>F b∨own b)
def FOk (w:World)(F:Nat→Prop):Prop:=ES w F (fun _=>False)
structure Cx where
 w0:World
 F:Nat→Prop
 own:Nat→Prop
 hF:ES w0 F own
 nt:Nat
 σ0:Nat→Option OB
 n0:Nat
def aH (σ:Nat→Option OB)(o:Nat):Option Nat:=(σ o).bind (·.iI)
def FB (C:Cx)(σ:Nat→Option OB)(H:List (Nat×Ob))(b:Nat):Prop:=C.F b∨∃ o ob,assoc H o=some ob∧aH σ o=some b
def ObR (C:Cx)(w:World)(σ:Nat→Option OB)(H:List (Nat×Ob))(o:Nat)(ob:Ob):Prop:=
 ∃ B,σ o=some B∧B.sz=ob.sz∧(B.iI=none→ob.cells=[])∧ob.cells.all one=true∧
  ∀ b,B.iI=some b→∃ cur:Array Value,w.heap[b]? = some (.cells cur ob.elem (0,0))∧cur.size=B.room∧¬ C.F b∧(C.own b∨C.w0.heap.size≤b)∧
   ob.cells.length≤cur.size∧aG w (FB C σ H) σ ob.cells (cur.toList.take ob.cells.length)
structure aB (C:Cx)(σ:Nat→Option OB)(s:St)(a:Act)(w:World):Prop where
 me:a.defers=[]
 tm:a.tmps.size=C.nt
 os:w.os=C.w0.os
 tape:w.tape=C.w0.tape
 output:w.output=C.w0.output
 size:C.w0.heap.size≤w.heap.size
 frame:∀ b,b<C.w0.heap.size→¬ C.own b→w.heap[b]? = C.w0.heap[b]?
 env:∀ t c,assoc s.env t=some c→∃ v,a.tmps[t]? = some v∧VR w (FB C σ s.heap) σ c v
 obj:∀ o ob,assoc s.heap o=some ob→ObR C w σ s.heap o ob
 inj:∀ o o' ob Ka b,assoc s.heap o=some ob→assoc s.heap o'=some Ka→aH σ o=some b→aH σ o'=some b→o=o'
 nx:∀ o,s.nx≤o→σ o=none
 fM:∀ o,o<C.n0→σ o=C.σ0 o
 low:C.n0≤s.nx
 new:∀ o B b,C.n0≤o→σ o=some B→B.iI=some b→C.own b∨C.w0.heap.size≤b
def Rel (C:Cx)(s:St)(a:Act)(w:World):Prop:=∃ σ,aB C σ s a w
section
variable {C:Cx}{σ:Nat→Option OB}{s:St}{a:Act}{w:World}
theorem z7 {a:Act}{d t:Nat}{v:Value}:(a.put (some d) v).tmps[t]? = if d=t then (if t<a.tmps.size then some v else none) else a.tmps[t]?:=by
 simp only[Act.put];rw[Array.getElem?_setIfInBounds];split
 ·rename_i h;subst h;rfl
 ·rfl
theorem aB.put (h:aB C σ s a w){d:Option Tmp}{c:CV}{v:Value}(hd:∀ t,d=some t→t<a.tmps.size)(hv:VR w (FB C σ s.heap) σ c v):aB C σ (s.put d c) (a.put d v) w:=by
 cases d with
 | none=>exact h
 | some d=>
  refine⟨h.me,by simpa [Act.put] using h.tm,h.os,h.tape,h.output,h.size,h.frame,?_,h.obj,h.inj,h.nx,h.fM,h.low,h.new⟩;intro t c' hc;rw[z7];simp only[St.put,assoc] at hc;split at hc
  ·rename_i e;subst e;cases hc;rw[if_pos rfl,if_pos (hd _ rfl)];exact⟨v,rfl,hv⟩
  ·rename_i e;rw[dW,if_neg e] at hc;rw[if_neg e];exact h.env t c' hc
theorem aB.del (h:aB C σ s a w){d:Option Tmp}(v:Value):aB C σ (s.del d) (a.put d v) w:=by
 cases d with
 | none=>exact h
 | some d=>
  refine⟨h.me,by simpa [Act.put] using h.tm,h.os,h.tape,h.output,h.size,h.frame,?_,h.obj,h.inj,h.nx,h.fM,h.low,h.new⟩;intro t c' hc;rw[z7];simp only[St.del] at hc;rw[dW] at hc;split at hc
  ·cases hc
  ·rename_i e;rw[if_neg e];exact h.env t c' hc
def eJ:Value→Option CV
 | .int k n=>some (.int k n)
 | .bool b=>some (.bool b)
 | .string s=>some (.str s)
 | .pointer none=>some .bg
 | .slice none 0 0=>some .ag
 | .nilFunc=>some .bT
 | .nilIface=>some (.iface 0 [])
 | .map none=>some .any
 | _=>none
def dN:List Value→Option (List CV)
 | []=>some []
 | v::r=>match eJ v,dN r with
  | some c,some cs=>some (c::cs)
  | _,_=>none
def qw:Value→Option CV
 | .agg cs=>(dN cs.toList).map CV.agg
 | .tuple vs=>if vs.isEmpty then some (.db []) else none
 | v=>eJ v
theorem jq {F:Nat→Prop}{v:Value}{c:CV}(h:eJ v=some c):bK w F c v∧one c=true:=by
 unfold eJ at h;split at h<;>first | (cases h;simp[bK,bt,ifv,one,Value.oneCell'];done) | (cases h)
theorem cw {F:Nat→Prop}:∀ (vs:List Value) (cs:List CV),dN vs=some cs→bt w F cs vs∧cs.all one=true
 | [],cs,h=>by simp only[dN] at h;cases h;simp[bt]
 | v::r,cs,h=>by
  simp only[dN] at h;split at h
  ·rename_i c Lk h1 h2;cases h;obtain⟨k1,k2⟩:=jq (w:=w) (F:=F) h1;obtain⟨k3,k4⟩:=cw (F:=F) r Lk h2;simp only[bt];exact⟨⟨v,r,rfl,k1,k3⟩,by simp[k2,k4]⟩
  ·cases h
theorem nu {F:Nat→Prop}{v:Value}{c:CV}(h:qw v=some c):bK w F c v:=by
 unfold qw at h;split at h
 ·rename_i cs;obtain⟨x,h1,h2⟩:=Option.map_eq_some_iff.1 h;subst h2;obtain⟨k1,k2⟩:=cw (w:=w) (F:=F) _ _ h1;simp only[bK];exact⟨cs.toList,by simp,k1,k2⟩
 ·rename_i vs;split at h
  ·rename_i he;cases h;simp only[bK,bt];exact⟨[],by simpa using he,rfl⟩
  ·cases h
 ·exact (jq h).1
theorem uk {F:Nat→Prop}{g:Nat}(hg:¬ F g):∀ (vs:List Value) (cs:List CV) (k:Nat),dN vs=some cs→(∀ (j:Nat) (v:Value),vs[j]? = some v→w.cell? ⟨g,k+j,none⟩=some v)→ej w F cs ⟨g,k,none⟩
 | [],cs,k,h,_=>by simp only[dN] at h;cases h;simp[ej]
 | v::r,cs,k,h,hc=>by
  simp only[dN] at h;split at h
  ·rename_i c Lk h1 h2;cases h;obtain⟨k1,k2⟩:=jq (w:=w) (F:=F) h1;simp only[ej];refine⟨⟨v,hc 0 v rfl,hg,k1⟩,k2,?_⟩;rw[add_lit];exact uk hg r Lk (k+1) h2 fun j u hj=>by rw[Nat.add_assoc,Nat.add_comm 1 j];exact hc (j+1) u (by simpa using hj)
  ·cases h
theorem r8 {α:Type}:∀ (l:List (Nat×α)) (t:Nat) (v:α),assoc l t=some v→(t,v)∈l
 | [],_,_,h=>by simp[assoc] at h
 | (k,u)::r,t,v,h=>by
  simp only[assoc] at h;split at h
  ·rename_i e;subst e;cases h;exact List.mem_cons_self
  ·exact List.mem_cons_of_mem _ (r8 r t v h)
theorem aB.gok (h:aB C σ s a w):G3 w (FB C σ s.heap):=fun x hx=>by
 obtain⟨h0,h1,h2⟩:=C.hF.2 x hx;refine⟨Nat.lt_of_lt_of_le h0 h.size,?_,fun j v hj=>?_⟩
 ·rintro (hf | ⟨o,ob,ho,hb⟩)
  ·exact h1 (.inl hf)
  ·obtain⟨B,m1,_,_,_,m5⟩:=h.obj o ob ho;obtain⟨cur,_,_,_,n4,_⟩:=m5 _ QQ;rcases n4 with n4 | n4
   ·exact h1 (.inr n4)
   ·omega
 ·rw[World.cell?_of_block (w:=C.w0) (h.frame x.1 h0 fun ho=>h1 (.inr ho))];exact h2 j v hj
theorem G3.mono {w:World}{F F':Nat→Prop}(h:G3 w F)(hF:∀ b,F' b→F b):G3 w F':=fun x hx=>⟨(h x hx).1,fun hf=>(h x hx).2.1 (hF _ hf),(h x hx).2.2⟩
def ev (s:St):Operand→Option CV
 | .tmp t=>assoc s.env t
 | .const v=>qw v
 | .func f=>some (.fn f [])
 | .global g=>(assoc EG g).bind fun vs=>(dN vs).map .cc
def vF (s:St):List Operand→Option (List CV)
 | []=>some []
 | x::r=>match ev s x,vF s r with
  | some c,some cs=>some (c::cs)
  | _,_=>none
theorem bD (h:aB C σ s a w){x:Operand}{c:CV}(he:ev s x=some c):VR w (FB C σ s.heap) σ c (a.eval x):=by
 cases x with
 | tmp t=>
  obtain⟨v,h1,h2⟩:=h.env t c he;simp only[Act.eval];have:a.tmps.getD t undef=v:=by simp[Array.getD_eq_getD_getElem?,h1]
  rw[this];exact h2
 | const v=>exact VR.ca _ _ (nu he)
 | func f=>cases he;simp only[VR];exact⟨[],rfl,rfl⟩
 | global g=>
  simp only[ev] at he;obtain⟨vs,h1,h2⟩:=Option.bind_eq_some_iff.1 he;obtain⟨cs,h3,rfl⟩:=Option.map_eq_some_iff.1 h2;obtain⟨_,k1,k2⟩:=h.gok _ (r8 _ _ _ h1);simp only[VR,bK,Act.eval];exact⟨_,rfl,uk k1 vs cs 0 h3 fun j v hj=>by rw[Nat.zero_add];exact k2 j v hj⟩
theorem nq (h:aB C σ s a w):∀ (xs:List Operand) (cs:List CV),vF s xs=some cs→aG w (FB C σ s.heap) σ cs (xs.map a.eval)
 | [],cs,he=>by simp only[vF] at he;cases he;rfl
 | x::r,cs,he=>by
  simp only[vF] at he;split at he
  ·rename_i c Lk h1 h2;cases he;simp only[aG];exact⟨_,_,rfl,bD h h1,nq h r Lk h2⟩
  ·cases he
end
inductive TD where
 | int (k:IntKind)
 | bool
 | str
 | sl (e:TypeId)
 | a6 (fs:List (Nat×TypeId))
 | arr (n:Nat) (e:TypeId)
 | ptr (e:TypeId)
 | func
 | oth
def p7:TypeDesc→TD
 | .int k=>.int k
 | .bool=>.bool
 | .string=>.str
 | .slice e=>.sl e
 | .struct fs=>.a6 (fs.toList.map fun f=>(f.offset,f.type))
 | .array n e=>.arr n e
 | .pointer e=>.ptr e
 | .func _ _ _=>.func
 | _=>.oth
structure TI where
 d:TD
 size:Nat
 bytes:Nat
 zero:List CV
def TI.agg (i:TI):Bool:=match i.d with
 | .a6 _=>true
 | .arr _ _=>true
 | _=>false
structure bV (P:Program)(t:TypeId)(i:TI):Prop where
 info:∃ f z,P.info? t=some f∧f.size=i.size∧f.bytes=i.bytes∧f.zero=some z∧dN z.cells.toList=some i.zero
 yd:∃ d,P.underlying t=some d∧p7 d=i.d
 len:i.zero.length=i.size
def ay (P:Program)(ak:List (Nat×TI)):Prop:=∀ t i,assoc ak t=some i→bV P t i
theorem bV.mk' {P:Program}{t:TypeId}{i:TI}(h1:(P.info? t).map (fun f=>(f.size,f.bytes,f.zero.map fun z=>dN z.cells.toList))=some (i.size,i.bytes,some (some i.zero)))
  (h2:(P.underlying t).map p7=some i.d) (h3:i.zero.length=i.size):bV P t i:=by
 obtain⟨f,e1,e2⟩:=Option.map_eq_some_iff.1 h1;obtain⟨d,e3,e4⟩:=Option.map_eq_some_iff.1 h2;simp only[Prod.mk.injEq] at e2;obtain⟨z,e5,e6⟩:=Option.map_eq_some_iff.1 e2.2.2;exact⟨⟨f,z,e1,e2.1,e2.2.1,e5,e6⟩,⟨d,e3,e4⟩,h3⟩
theorem ay.nil {P:Program}:ay P []:=fun _ _ h=>by cases h
theorem ay.cons {P:Program}{t:Nat}{i:TI}{r:List (Nat×TI)}(h:bV P t i)(hr:ay P r):ay P ((t,i)::r):=fun u j hj=>by
 simp only[assoc] at hj;split at hj
 ·rename_i e;subst e;cases hj;exact h
 ·exact hr u j hj
theorem bp {P:Program}{t:TypeId}{d:TypeDesc}(h:P.underlying t=some d)(w:World):(underlying t).run P w=.ok d w:=run_underlying h w
theorem qP {P:Program}{t:TypeId}{f:TypeInfo}(h:P.info? t=some f)(w:World):(typeInfo t).run P w=.ok f w:=by
 simp[typeInfo,h]
theorem ch {P:Program}{t:TypeId}{f:TypeInfo}(h:P.info? t=some f)(w:World):(sizeOf t).run P w=.ok f.size w:=by
 simp[sizeOf,qP h]
def arith (op:BinOp)(k:IntKind)(a b:Int):Option CV:=
 match op with
 | .add=>some (.int k (k.wrap (a+b)))
 | .sub=>some (.int k (k.wrap (a-b)))
 | .mul=>some (.int k (k.wrap (a*b)))
 | .quo=>if b=0 then none else some (.int k (k.wrap (a.tdiv b)))
 | .rem=>if b=0 then none else some (.int k (a.tmod b))
 | .and=>some (.int k (k.wrap (BitVec.ofInt k.bits a &&& BitVec.ofInt k.bits b).toNat))
 | .or=>some (.int k (k.wrap (BitVec.ofInt k.bits a ||| BitVec.ofInt k.bits b).toNat))
 | .xor=>some (.int k (k.wrap (BitVec.ofInt k.bits a ^^^ BitVec.ofInt k.bits b).toNat))
 | .andNot=>some (.int k (k.wrap (BitVec.ofInt k.bits a &&& ~~~ BitVec.ofInt k.bits b).toNat))
 | .eql=>some (.bool (a == b))
 | .neq=>some (.bool (a != b))
 | .lss=>some (.bool (decide (a<b)))
 | .leq=>some (.bool (decide (a≤b)))
 | .gtr=>some (.bool (decide (a > b)))
 | .geq=>some (.bool (decide (a≥b)))
 | _=>none
def jY (op:BinOp)(x y:ByteArray):Option CV:=
 match op with
 | .add=>if x.size+y.size≤9223372036854775807 then some (.str (x++y)) else none
 | .eql=>some (.bool (x.toList == y.toList))
 | .neq=>some (.bool (!(x.toList == y.toList)))
 | .lss=>some (.bool (Op.bytesLess x.toList y.toList))
 | .leq=>some (.bool (Op.bytesLess x.toList y.toList || x.toList == y.toList))
 | .gtr=>some (.bool (!(Op.bytesLess x.toList y.toList || x.toList == y.toList)))
 | .geq=>some (.bool (!Op.bytesLess x.toList y.toList))
 | _=>none
def zj (op:BinOp)(d:TD):CV→CV→Option CV
 | .int k a,.int k' b=>match op with
  | .shl=>if b<0 then none else some (.int k (k.wrap (a*2 ^ (min b.toNat k.bits))))
  | .shr=>if b<0 then none else some (.int k (a.fdiv (2 ^ (min b.toNat k.bits))))
  | op=>if k=k' then arith op k a b else none
 | .str x,.str y=>jY op x y
 | .bool a,.bool b=>match d,op with
  | .bool,.eql=>some (.bool (a == b))
  | .bool,.neq=>some (.bool (!(a == b)))
  | _,_=>none
 | _,_=>none
theorem de {w:World}{F:Nat→Prop}{σ:Nat→Option OB}(k:IntKind)(n:Int):VR w F σ (.int k n) (.int k n):=by simp[VR]
theorem cT {w:World}{F:Nat→Prop}{σ:Nat→Option OB}(b:Bool):VR w F σ (.bool b) (.bool b):=by simp[VR]
theorem vA {w:World}{F:Nat→Prop}{σ:Nat→Option OB}(b:ByteArray):VR w F σ (.str b) (.string b):=by simp[VR]
theorem Ey {P:Program}{w:World}{op:BinOp}{k:IntKind}{xt:TypeId}{a b:Int}{c:CV}(Ux:op≠.shl)(Q2:op≠.shr)(h:arith op k a b=some c){F:Nat→Prop}{σ:Nat→Option OB} :
  ∃ v,(binOp op xt (.int k a) (.int k b)).run P w=.ok v w∧VR w F σ c v:=by
 cases op<;>simp only[arith] at h
 case add=>cases h;exact⟨_,by simp[binOp,Op.intArith],de _ _⟩
 case sub=>cases h;exact⟨_,by simp[binOp,Op.intArith],de _ _⟩
 case mul=>cases h;exact⟨_,by simp[binOp,Op.intArith],de _ _⟩
 case quo=>
  split at h
  ·cases h
  ·cases h;rename_i hb;exact⟨_,by simp[binOp,Op.intDiv,hb],de _ _⟩
 case rem=>
  split at h
  ·cases h
  ·cases h;rename_i hb;exact⟨_,by simp[binOp,Op.intDiv,hb],de _ _⟩
 case and=>cases h;exact⟨_,by simp[binOp,Op.intBits],de _ _⟩
 case or=>cases h;exact⟨_,by simp[binOp,Op.intBits],de _ _⟩
 case xor=>cases h;exact⟨_,by simp[binOp,Op.intBits],de _ _⟩
 case andNot=>cases h;exact⟨_,by simp[binOp,Op.intBits],de _ _⟩
 case eql=>cases h;exact⟨_,by simp[binOp,Op.intCmp],cT _⟩
 case neq=>cases h;exact⟨_,by simp[binOp,Op.intCmp],cT _⟩
 case lss=>cases h;exact⟨_,by simp[binOp,Op.intCmp],cT _⟩
 case leq=>cases h;exact⟨_,by simp[binOp,Op.intCmp],cT _⟩
 case gtr=>cases h;exact⟨_,by simp[binOp,Op.intCmp],cT _⟩
 case geq=>cases h;exact⟨_,by simp[binOp,Op.intCmp],cT _⟩
 all_goals first | cases h | exact absurd rfl Ux | exact absurd rfl Q2
theorem Ct {P:Program}{w:World}{op:BinOp}{xt:TypeId}{a b:ByteArray}{c:CV}(h:jY op a b=some c){F:Nat→Prop}{σ:Nat→Option OB} :
  ∃ v,(binOp op xt (.string a) (.string b)).run P w=.ok v w∧VR w F σ c v:=by
 cases op<;>simp only[jY] at h
 case add=>
  split at h
  ·rename_i hb;cases h;refine⟨_,?_,vA _⟩;have hm:IntKind.i64.max=9223372036854775807:=by simp[IntKind.max,IntKind.signed,IntKind.bits]
   simp only[binOp,Op.stringOp,hm];rw[if_neg yA];rfl
  ·cases h
 case eql=>cases h;exact⟨_,by simp[binOp,Op.stringOp],cT _⟩
 case neq=>cases h;exact⟨_,by simp[binOp,Op.stringOp],cT _⟩
 case lss=>cases h;exact⟨_,by simp[binOp,Op.stringOp],cT _⟩
 case leq=>cases h;exact⟨_,by simp[binOp,Op.stringOp],cT _⟩
 case gtr=>cases h;exact⟨_,by simp[binOp,Op.stringOp],cT _⟩
 case geq=>cases h;exact⟨_,by simp[binOp,Op.stringOp],cT _⟩
 all_goals cases h
end Go.Can
