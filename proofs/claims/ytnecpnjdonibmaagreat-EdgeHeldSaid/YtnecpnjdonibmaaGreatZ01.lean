/- Canonical values and their relation to the model's values an -/
import Derived.StillTail
import Derived.ScopeJumps
import Derived.Laws.AppendOwn
import Derived.Laws.CopyOwn
import Derived.Laws.MakeOwn
import Derived.Laws.OwnMore
import Derived.Below
import Derived.IntWalk
namespace Go.Can
theorem yA {p:Prop}(h:p:=by omega):p:=h
theorem OU {p:Prop}(h:p:=by simp):p:=h
theorem OV {p:Prop}(h:p:=by kernel_rfl):p:=h
theorem O5 {p:Prop}(h:p:=by simp[hC]):p:=h
theorem Pc {p:Prop}(h:p:=by first | rfl | simp only[List.cons_append,List.nil_append,List.append_nil,trees,tree,bz,xj,Bool.and_self,Bool.and_true,Bool.true_and]):p:=h
theorem Pb {p:Prop}(h:p:=by decide):p:=h
theorem PX {p:Prop}(h:p:=by (try simp only[ByteArray.size_append]);omega):p:=h
theorem Qc {p:Prop}(h:p:=by first | rfl | simp[aX,a9,cB,gG,-List.all_eq_true]):p:=h
theorem Qb {p:Prop}(h:p:=by first | rfl | simp[aI,ints]):p:=h
theorem Ql {p:Prop}(h:p:=by first | rfl | decide):p:=h
theorem Qk {p:Prop}(h:p:=by simp[assoc]):p:=h
theorem QJ {p:Prop}(h:p:=by simp[-List.all_eq_true]):p:=h
theorem QS {p:Prop}(h:p:=by simp;omega):p:=h
theorem Q5 {p:Prop}(h:p:=by simp[Op.operands]):p:=h
theorem Rm {p:Prop}(h:p:=by first | exact cf _ | exact xk _ (by first | rfl | assumption | simp[trees,tree, *])):p:=h
theorem yAo {p:Prop}(h:p:=by first | rfl | assumption | simp[trees,tree, *]):p:=h
theorem RH {p:Prop}(h:p:=by first | rfl | simp only[List.all_cons,List.all_nil,okW,tree, *];rfl | simp[okW,tree,trees, *]):p:=h
theorem RG {p:Prop}(h:p:=by first | rfl | assumption | simp[tree,trees, *]):p:=h
theorem RE {p:Prop}(h:p:=by first | rfl | simp[bm,ev,assoc]):p:=h
theorem RD {p:Prop}(h:p:=by simp[ev,assoc]):p:=h
theorem RC {p:Prop}(h:p:=by simpa using h):p:=h
theorem Sj {p:Prop}(h:p:=by simp[Ex.args]):p:=h
theorem Sp {p:Prop}(h:p:=by simp[-List.all_eq_true,-List.all_flatMap]):p:=h
theorem SO {p:Prop}(h:p:=by simp[lJ,ah QU]):p:=h
theorem SN {p:Prop}(h:p:=by simp[aI]):p:=h
theorem SY {p:Prop}(h:p:=by simp[eH]):p:=h
theorem Tm {p:Prop}(h:p:=by simp only[trees,tree];rfl):p:=h
theorem yB {p:Prop}(h:p:=by first | rfl | exact bz _ | exact xj _):p:=h
theorem TF {p:Prop}(h:p:=by simp only[ByteArray.size_append];omega):p:=h
theorem T9 {p:Prop}(h:p:=by rw[List.length_map];omega):p:=h
theorem Uq {p:Prop}(h:p:=by first | rfl | exact bz _):p:=h
theorem Up {p:Prop}(h:p:=by simp only[B1];omega):p:=h
theorem VC {p:Prop}(h:p:=by simp[aI,dG,lN]):p:=h
theorem VB {p:Prop}(h:p:=by simp[mE,CC,tree]):p:=h
theorem VA {p:Prop}(h:p:=by simp[aI,lN]):p:=h
theorem Wb {p:Prop}(h:p:=by first | rfl | simp[cj,cc,ca,dR,cQ,aX,a9,dc,lD,eg,assoc,dx,jD,-List.all_eq_true,-List.all_flatMap,gG]):p:=h
theorem Wa {p:Prop}(h:p:=by simp[gK,DF,-List.all_eq_true,-List.all_flatMap]):p:=h
theorem V9 {p:Prop}(h:p:=by simp[-List.all_eq_true,ah Pa,ah Ph]):p:=h
theorem V8 {p:Prop}(h:p:=by simp[ev,assoc,O8]):p:=h
theorem WD {p:Prop}(h:p:=by simp[-List.all_eq_true,ah (Ai R1 i).1,ah (Ai R1 (i+1)).2]):p:=h
theorem WC {p:Prop}(h:p:=by first | rfl | simp only[List.append_nil,trees,tree,bz,Bool.and_self]):p:=h
theorem WB {p:Prop}(h:p:=by simpa using hx):p:=h
theorem WA {p:Prop}(h:p:=by simpa using hi):p:=h
theorem XL {p:Prop}(h:p:=by simp[-List.all_eq_true,ah Pa,ah Ph,aW _ _ (aD _)]):p:=h
theorem XK {p:Prop}(h:p:=by simp[lN,dk,-List.all_eq_true,-List.all_flatMap]):p:=h
theorem XJ {p:Prop}(h:p:=by rw[List.length_map];exact Nat.le_refl _):p:=h
theorem XI {p:Prop}(h:p:=by simp only[List.length_cons];omega):p:=h
theorem XH {p:Prop}(h:p:=by simpa [aY,m1] using hb):p:=h
theorem XG {p:Prop}(h:p:=by simpa [aL] using ho):p:=h
theorem Yg {p:Prop}(h:p:=by simp[dr,ss,pw,tree,assoc,-List.all_eq_true,-List.all_flatMap,Pj]):p:=h
theorem Yf {p:Prop}(h:p:=by simp only[List.all_cons,List.all_nil,okW,tree];rfl):p:=h
theorem Ye {p:Prop}(h:p:=by simp[-List.all_eq_true,-List.all_flatMap,gG]):p:=h
theorem Yd {p:Prop}(h:p:=by simp[gK,-List.all_eq_true,-List.all_flatMap]):p:=h
theorem Yc {p:Prop}(h:p:=by simp[aI,-List.all_eq_true,gG]):p:=h
theorem yC {p:Prop}(h:p:=by rwa [getD_set_ne false Qr] at hl):p:=h
theorem Z3 {p:Prop}(h:p:=by simp[-List.all_eq_true,-List.all_flatMap,aW 2 _ hX,aW 2 _ hY,aW 2 _ XN]):p:=h
theorem Z2 {p:Prop}(h:p:=by simp[-List.all_eq_true,ah Pa,ah Ph,ah tI,ah WG]):p:=h
theorem Z1 {p:Prop}(h:p:=by simp[dr,ss,pw,tree,assoc,-List.all_eq_true,-List.all_flatMap]):p:=h
theorem Z0 {p:Prop}(h:p:=by simp[aI,lN,-List.all_eq_true,-List.all_flatMap]):p:=h
theorem ZZ {p:Prop}(h:p:=by simp only;rw[DV (Ic nx) O4];exact Ps):p:=h
theorem ZY {p:Prop}(h:p:=by simp[-List.all_eq_true,ah R1]):p:=h
theorem ZX {p:Prop}(h:p:=by simp[aI,-List.all_eq_true]):p:=h
theorem yCh {p:Prop}(h:p:=by simp[-List.all_eq_true,-List.all_flatMap,aW 4 _ hY,ah (aQ bT l),aW 4 _ XN,ah V0]):p:=h
theorem yCi {p:Prop}(h:p:=by simp[dr,ss,pw,tree,assoc,-List.all_eq_true,-List.all_flatMap,aE Sk,aE Pa,aE Ph]):p:=h
theorem yCj {p:Prop}(h:p:=by simp[-List.all_eq_true,ah Pa,ah Ph,ah WG,ah tD2]):p:=h
theorem yCk {p:Prop}(h:p:=by simp[-List.all_eq_true,ah Pa,ah Ph,ah tZ]):p:=h
theorem yCl {p:Prop}(h:p:=by simp[aI,ints,lN,-List.all_eq_true,-List.all_flatMap]):p:=h
theorem yCm {p:Prop}(h:p:=by rw[← Array.toArray_toList (xs:=cl.argTypes),QC]):p:=h
theorem yCn {p:Prop}(h:p:=by have:(⟨#[9]⟩:ByteArray).size=1:=rfl;omega):p:=h
theorem yCo {p:Prop}(h:p:=by rw[← Array.toArray_toList (xs:=cl.args),ha]):p:=h
theorem yCp {p:Prop}(h:p:=by first | assumption | rfl | simp[cj,cc,ca,dR,cQ,aX,a9,dc,lD,eg,assoc,dx,jD,-List.all_eq_true,-List.all_flatMap,gG]):p:=h
theorem yCq {p:Prop}(h:p:=by simp[dr,ss,pw,tree,assoc,-List.all_eq_true,-List.all_flatMap,aE Pa,aE Ph,aE tA,aE XO]):p:=h
theorem yCr {p:Prop}(h:p:=by simp[dr,ss,pw,tree,assoc,-List.all_eq_true,-List.all_flatMap,aE Pa,aE Ph,aE tA,aE tB]):p:=h
theorem yCs {p:Prop}(h:p:=by simp[dr,ss,pw,tree,assoc,-List.all_eq_true,-List.all_flatMap,aE Pa,aE tB,aE Vg]):p:=h
theorem yCt {p:Prop}(h:p:=by simp[dr,ss,pw,tree,assoc,-List.all_eq_true,-List.all_flatMap,aE Pa,aE tA,aE tB]):p:=h
theorem yCu {p:Prop}(h:p:=by simp only[di,oW];simp[-List.all_eq_true,-List.all_flatMap,bj (aQ bz N),zj]):p:=h
theorem yCv {p:Prop}(h:p:=by simp only[di,oW];simp[-List.all_eq_true,-List.all_flatMap,gG,ah (aQ bz N)]):p:=h
theorem yCw {p:Prop}(h:p:=by simp only[di,oW,lu];simp[-List.all_eq_true,-List.all_flatMap,ah (aQ bz _)]):p:=h
theorem yCx {p:Prop}(h:p:=by simp[-List.all_eq_true,ah Pa,ah Ph,ah To,ah tS,aW _ _ tst]):p:=h
theorem yCy {p:Prop}(h:p:=by simp[-List.all_eq_true,-List.all_flatMap,ah (bF out),ah (bF th.1)]):p:=h
theorem yCz {p:Prop}(h:p:=by have:(jy ⟨#[9]⟩ bd).size=(jy qi bd).size:=rfl;simp only[ByteArray.size_append];omega):p:=h
theorem yD {p:Prop}(h:p:=by simp[-List.all_eq_true,ah Vf,aW _ _ (aD _),ah Uu,ah tD3]):p:=h
theorem yDa {p:Prop}(h:p:=by simp only[Op.operands];simp only[List.mem_toArray,List.mem_map];exact⟨x,hx,rfl⟩):p:=h
theorem yDb {p:Prop}(h:p:=by simp[-List.all_eq_true,-List.all_flatMap,gG,ah (aQ bz N)]):p:=h
open Go.RowKit
inductive CV where
 | int (k:IntKind) (n:Int)
 | bool (b:Bool)
 | str (s:ByteArray)
 | agg (cs:List CV)
 | aA (cs:List CV) (n:Nat)
 | aa
 | cG (cs:List CV)
 | bL
 | fn (f:FuncId) (QF:List CV)
 | cA
 | iface (t:TypeId) (cs:List CV)
 | iter (k:Nat) (s:ByteArray) (p:Nat)
 | mp (k:Nat) (es:List (Value×Value))
 | dS (vs:List CV)
 | bl (o off n:Nat)
 | ax (o off:Nat)
 | any
instance : Inhabited CV := ⟨.bL⟩
def one:CV→Bool
 | .agg _=>false
 | .dS _=>false
 | .iter _ _ _=>false
 | _=>true
def CV.cells:CV→List CV
 | .agg cs=>cs
 | c=>[c]
def ifv (t:TypeId):List Value→Value
 | []=>.nilIface
 | v::_=>.iface t v
mutual
/-- The immutable ones: the value v reads as c; no cell of it lies in a block of F. -/
def cq (w:World)(F:Nat→Prop):CV→Value→Prop
 | .int k n,v=>v=.int k n
 | .bool b,v=>v=.bool b
 | .str s,v=>v=.string s
 | .agg cs,v=>∃ vs:List Value,v=.agg vs.toArray∧bW w F cs vs∧cs.all one=true
 | .aA cs n,v=>∃ A cap,v=.slice A n cap∧n≤cap∧cap≤maxLen∧((n=0∧cs=[])∨∃ ad,A=some ad∧gD w F cs ad)
 | .aa,v=>v=.slice none 0 0
 | .cG cs,v=>∃ ad,v=.pointer (some ad)∧gD w F cs ad
 | .bL,v=>v=.pointer none
 | .fn f QF,v=>∃ vs:List Value,v=.func (.func f) #[] vs.toArray∧bW w F QF vs
 | .iface f QF,v=>∃ vs:List Value,v=ifv f vs∧bW w F QF vs
 | .cA,v=>v=.nilFunc
 | .iter _ _ _,_=>False
 | .mp _ _,_=>False
 | .dS cs,v=>∃ vs:List Value,v=.tuple vs.toArray∧bW w F cs vs
 | .bl _ _ _,_=>False
 | .ax _ _,_=>False
 | .any,v=>v.oneCell'=true
def bW (w:World)(F:Nat→Prop):List CV→List Value→Prop
 | [],vs=>vs=[]
 | c::cs,vs=>∃ v r,vs=v::r∧cq w F c v∧bW w F cs r
/-- The cells from an address on. -/
def gD (w:World)(F:Nat→Prop):List CV→Addr→Prop
 | [],_=>True
 | c::cs,ad=>(∃ u,w.cell? ad=some u∧¬ F ad.block∧cq w F c u)∧one c=true∧gD w F cs (ad.add 1)
end
theorem Gj (a:Addr)(n:Nat):(a.add n).block=a.block:=by unfold Addr.add;split<;>rfl
theorem add_add (a:Addr)(i j:Nat):(a.add i).add j=a.add (i+j):=by
 unfold Addr.add;by_cases hi:i=0<;>by_cases hj:j=0<;>simp[hi,hj,Nat.add_assoc]
theorem add_zero (a:Addr):a.add 0=a:=by simp[Addr.add]
theorem add_lit (b i j:Nat):(⟨b,i,none⟩:Addr).add j=⟨b,i+j,none⟩:=by
 unfold Addr.add;split<;>simp_all
def mQ (w w':World)(F F':Nat→Prop):Prop:=∀ ad u,¬ F ad.block→w.cell? ad=some u→w'.cell? ad=some u∧¬ F' ad.block
def cw (w w':World)(F F':Nat→Prop):Prop:=mQ w w' F F'∧
 ∀ r x,¬ F r→w.heap[r]? = some x→(∀ c e f,x≠.cells c e f)→w'.heap[r]? = some x∧¬ F' r
theorem cw.same {w:World}{F F':Nat→Prop}(h:∀ b,F' b→F b):cw w w F F':=⟨fun _ _ hf hu=>⟨hu,fun k=>hf (h _ k)⟩,fun _ _ hf hu _=>⟨hu,fun k=>hf (h _ k)⟩⟩
mutual
theorem cq.bk {w w':World}{F F':Nat→Prop}(h:mQ w w' F F'):∀ (c:CV) (v:Value),cq w F c v→cq w' F' c v
 | .int _ _,_,hv=>by simpa [cq] using hv
 | .bool _,_,hv=>by simpa [cq] using hv
 | .str _,_,hv=>by simpa [cq] using hv
 | .agg cs,v,hv=>by
  simp only[cq] at hv ⊢;obtain⟨vs,e,r,h1⟩:=hv;exact⟨vs,e,bW.bk h cs vs r,h1⟩
 | .aa,_,hv=>by simpa [cq] using hv
 | .aA cs n,v,hv=>by
  simp only[cq] at hv ⊢;obtain⟨A,cap,e,h1,h2,h4⟩:=hv;refine⟨A,cap,e,h1,h2,?_⟩;rcases h4 with h4 | ⟨ad,ea,hm⟩
  ·exact .inl h4
  ·exact .inr ⟨ad,ea,gD.bk h cs ad hm⟩
 | .cG cs,v,hv=>by
  simp only[cq] at hv ⊢;obtain⟨ad,e,hm⟩:=hv;exact⟨ad,e,gD.bk h cs ad hm⟩
 | .bL,_,hv=>by simpa [cq] using hv
 | .fn f QF,v,hv=>by
  simp only[cq] at hv ⊢;obtain⟨vs,e,r⟩:=hv;exact⟨vs,e,bW.bk h QF vs r⟩
 | .iface f QF,v,hv=>by
  simp only[cq] at hv ⊢;obtain⟨vs,e,r⟩:=hv;exact⟨vs,e,bW.bk h QF vs r⟩
 | .cA,_,hv=>by simpa [cq] using hv
 | .iter _ _ _,_,hv=>by simp[cq] at hv
 | .mp _ _,_,hv=>by simp[cq] at hv
 | .dS cs,v,hv=>by
  simp only[cq] at hv ⊢;obtain⟨vs,e,r⟩:=hv;exact⟨vs,e,bW.bk h cs vs r⟩
 | .bl _ _ _,_,hv=>by simp[cq] at hv
 | .ax _ _,_,hv=>by simp[cq] at hv
 | .any,_,hv=>by simpa [cq] using hv
theorem bW.bk {w w':World}{F F':Nat→Prop}(h:mQ w w' F F'):∀ (cs:List CV) (vs:List Value),bW w F cs vs→bW w' F' cs vs
 | [],_,hv=>by simpa [bW] using hv
 | c::cs,vs,hv=>by
  simp only[bW] at hv ⊢;obtain⟨v,r,e,h1,h2⟩:=hv;exact⟨v,r,e,cq.bk h c v h1,bW.bk h cs r h2⟩
theorem gD.bk {w w':World}{F F':Nat→Prop}(h:mQ w w' F F'):∀ (cs:List CV) (ad:Addr),gD w F cs ad→gD w' F' cs ad
 | [],_,_=>by simp[gD]
 | c::cs,ad,hv=>by
  simp only[gD] at hv ⊢;obtain⟨⟨u,h1,h2,h3⟩,ho,h4⟩:=hv;obtain⟨k1,k2⟩:=h ad u h2 h1;exact⟨⟨u,k1,k2,cq.bk h c u h3⟩,ho,gD.bk h cs _ h4⟩
end
theorem gD.drop {w:World}{F:Nat→Prop}:∀ (k:Nat) (cs:List CV) (ad:Addr),gD w F cs ad→gD w F (cs.drop k) (ad.add k)
 | 0,cs,ad,h=>by simpa [add_zero] using h
 | k+1,[],ad,_=>by simp[gD]
 | k+1,c::cs,ad,h=>by
  simp only[gD] at h;have:=gD.drop k cs _ h.2.2;rw[add_add] at this
  simpa [Nat.add_comm] using this
theorem gD.take {w:World}{F:Nat→Prop}:∀ (k:Nat) (cs:List CV) (ad:Addr),gD w F cs ad→gD w F (cs.take k) ad
 | 0,_,_,_=>by simp[gD]
 | k+1,[],_,_=>by simp[gD]
 | k+1,c::cs,ad,h=>by
  simp only[gD] at h;simp only[List.take_succ_cons,gD];exact⟨h.1,h.2.1,gD.take k cs _ h.2.2⟩
theorem gD.cells {w:World}{F:Nat→Prop}:∀ (cs:List CV) (ad:Addr),gD w F cs ad→∃ us:List Value,bW w F cs us∧us.length=cs.length∧∀ j u,us[j]? = some u→w.cell? (ad.add j)=some u
 | [],ad,_=>⟨[],by simp[bW],rfl,by simp⟩
 | c::cs,ad,h=>by
  simp only[gD] at h;obtain⟨⟨u,h1,h2,h3⟩,_,h4⟩:=h;obtain⟨us,k1,k2,k3⟩:=gD.cells cs _ h4;refine⟨u::us,by simp only[bW];exact⟨u,us,rfl,h3,k1⟩,by simp[k2],?_⟩;intro j x hx
  cases j with
  | zero=>simp at hx;subst hx;rw[add_zero];exact h1
  | succ j=>
   have:=k3 j x WB;rw[add_add] at this;rwa [Nat.add_comm] at this
theorem bW.length {w:World}{F:Nat→Prop}:∀ (cs:List CV) (vs:List Value),bW w F cs vs→vs.length=cs.length
 | [],vs,h=>by simp only[bW] at h;subst h;rfl
 | c::cs,vs,h=>by
  simp only[bW] at h;obtain⟨v,r,rfl,_,h2⟩:=h;simp[bW.length cs r h2]
theorem bW.get {w:World}{F:Nat→Prop}:∀ (cs:List CV) (vs:List Value),bW w F cs vs→∀ (i:Nat) (c:CV),cs[i]? = some c→∃ v,vs[i]? = some v∧cq w F c v
 | [],vs,_,i,c,hi=>by simp at hi
 | c::cs,vs,h,i,d,hi=>by
  simp only[bW] at h;obtain⟨v,r,rfl,h1,h2⟩:=h
  cases i with
  | zero=>simp at hi;subst hi;exact⟨v,rfl,h1⟩
  | succ i=>simpa using bW.get cs r h2 i d WA
structure OB where
 kj:Option Nat
 room:Nat
 sz:Nat
mutual
/-- The values of a frame and of the objects' cells. -/
def VR (w:World)(F:Nat→Prop)(σ:Nat→Option OB):CV→Value→Prop
 | .bl o off n,v=>∃ B,σ o=some B∧match B.kj with
   | none=>v=.slice none 0 0∧off=0∧n=0
   | some b=>∃ cap,v=.slice (some ⟨b,off,none⟩) n cap∧n≤cap∧cap≤maxLen∧off+cap*B.sz≤B.room∧(off=0→cap*B.sz=B.room)
 | .ax o off,v=>∃ B b,σ o=some B∧B.kj=some b∧v=.pointer (some ⟨b,off,none⟩)
 | .agg cs,v=>∃ vs:List Value,v=.agg vs.toArray∧aS w F σ cs vs∧cs.all one=true
 | .fn f QF,v=>∃ vs:List Value,v=.func (.func f) #[] vs.toArray∧aS w F σ QF vs
 | .iface f QF,v=>∃ vs:List Value,v=ifv f vs∧aS w F σ QF vs
 | .dS cs,v=>∃ vs:List Value,v=.tuple vs.toArray∧aS w F σ cs vs
 | .int k n,v=>v=.int k n
 | .bool b,v=>v=.bool b
 | .str s,v=>v=.string s
 | .aA cs n,v=>cq w F (.aA cs n) v
 | .aa,v=>v=.slice none 0 0
 | .cG cs,v=>cq w F (.cG cs) v
 | .bL,v=>v=.pointer none
 | .cA,v=>v=.nilFunc
 | .iter k s p,v=>∃ B r,σ k=some B∧B.kj=some r∧v=.pointer (some ⟨r,0,none⟩)∧w.heap[r]? = some (.stringIter s p)∧¬ F r
 | .mp k es,v=>∃ B r arr clock,σ k=some B∧B.kj=some r∧v=.map (some r)∧w.heap[r]? = some (.map arr clock)∧arr.toList.map (fun e=>(e.key,e.val))=es∧(es.map (·.1)).Nodup∧¬ F r
 | .any,v=>v.oneCell'=true
def aS (w:World)(F:Nat→Prop)(σ:Nat→Option OB):List CV→List Value→Prop
 | [],vs=>vs=[]
 | c::cs,vs=>∃ v r,vs=v::r∧VR w F σ c v∧aS w F σ cs r
end
mutual
/-- No object of one's own in it, on the surface. -/
def tree:CV→Bool
 | .bl _ _ _=>false
 | .ax _ _=>false
 | .iter _ _ _=>false
 | .mp _ _=>false
 | .agg cs=>trees cs
 | .fn _ cs=>trees cs
 | .iface _ cs=>trees cs
 | .dS cs=>trees cs
 | _=>true
def trees:List CV→Bool
 | []=>true
 | c::cs=>tree c && trees cs
end
mutual
theorem VR.cz {w:World}{F:Nat→Prop}{σ:Nat→Option OB}:∀ (c:CV) (v:Value),cq w F c v→VR w F σ c v
 | .int _ _,_,h=>by simpa [VR,cq] using h
 | .bool _,_,h=>by simpa [VR,cq] using h
 | .str _,_,h=>by simpa [VR,cq] using h
 | .agg cs,v,h=>by
  simp only[VR,cq] at h ⊢;obtain⟨vs,e,r,h1⟩:=h;exact⟨vs,e,aS.cz cs vs r,h1⟩
 | .aa,_,h=>by simpa [VR,cq] using h
 | .aA _ _,_,h=>by simpa only[VR] using h
 | .cG _,_,h=>by simpa only[VR] using h
 | .bL,_,h=>by simpa [VR,cq] using h
 | .fn _ cs,v,h=>by
  simp only[VR,cq] at h ⊢;obtain⟨vs,e,r⟩:=h;exact⟨vs,e,aS.cz cs vs r⟩
 | .iface _ cs,v,h=>by
  simp only[VR,cq] at h ⊢;obtain⟨vs,e,r⟩:=h;exact⟨vs,e,aS.cz cs vs r⟩
 | .cA,_,h=>by simpa [VR,cq] using h
 | .iter _ _ _,_,h=>by simp[cq] at h
 | .mp _ _,_,h=>by simp[cq] at h
 | .dS cs,v,h=>by
  simp only[VR,cq] at h ⊢;obtain⟨vs,e,r⟩:=h;exact⟨vs,e,aS.cz cs vs r⟩
 | .bl _ _ _,_,h=>by simp[cq] at h
 | .ax _ _,_,h=>by simp[cq] at h
 | .any,_,h=>by simpa [VR,cq] using h
theorem aS.cz {w:World}{F:Nat→Prop}{σ:Nat→Option OB}:∀ (cs:List CV) (vs:List Value),bW w F cs vs→aS w F σ cs vs
 | [],_,h=>by simpa [aS,bW] using h
 | c::cs,vs,h=>by
  simp only[aS,bW] at h ⊢;obtain⟨v,r,e,h1,h2⟩:=h;exact⟨v,r,e,VR.cz c v h1,aS.cz cs r h2⟩
end
mutual
theorem VR.ec {w:World}{F:Nat→Prop}{σ:Nat→Option OB}:∀ (c:CV) (v:Value),tree c=true→VR w F σ c v→cq w F c v
 | .int _ _,_,_,h=>by simpa [VR,cq] using h
 | .bool _,_,_,h=>by simpa [VR,cq] using h
 | .str _,_,_,h=>by simpa [VR,cq] using h
 | .agg cs,v,ht,h=>by
  simp only[VR,cq,tree] at h ht ⊢;obtain⟨vs,e,r,h1⟩:=h;exact⟨vs,e,aS.ec cs vs ht r,h1⟩
 | .aa,_,_,h=>by simpa [VR,cq] using h
 | .aA _ _,_,_,h=>by simpa only[VR] using h
 | .cG _,_,_,h=>by simpa only[VR] using h
 | .bL,_,_,h=>by simpa [VR,cq] using h
 | .fn _ cs,v,ht,h=>by
  simp only[VR,cq,tree] at h ht ⊢;obtain⟨vs,e,r⟩:=h;exact⟨vs,e,aS.ec cs vs ht r⟩
 | .iface _ cs,v,ht,h=>by
  simp only[VR,cq,tree] at h ht ⊢;obtain⟨vs,e,r⟩:=h;exact⟨vs,e,aS.ec cs vs ht r⟩
 | .cA,_,_,h=>by simpa [VR,cq] using h
 | .iter _ _ _,_,ht,_=>by simp[tree] at ht
 | .mp _ _,_,ht,_=>by simp[tree] at ht
 | .dS cs,v,ht,h=>by
  simp only[VR,cq,tree] at h ht ⊢;obtain⟨vs,e,r⟩:=h;exact⟨vs,e,aS.ec cs vs ht r⟩
 | .bl _ _ _,_,ht,_=>by simp[tree] at ht
 | .ax _ _,_,ht,_=>by simp[tree] at ht
 | .any,_,_,h=>by simpa [VR,cq] using h
theorem aS.ec {w:World}{F:Nat→Prop}{σ:Nat→Option OB}:∀ (cs:List CV) (vs:List Value),trees cs=true→aS w F σ cs vs→bW w F cs vs
 | [],_,_,h=>by simpa [aS,bW] using h
 | c::cs,vs,ht,h=>by
  simp only[aS,bW,trees,Bool.and_eq_true] at h ht ⊢;obtain⟨v,r,e,h1,h2⟩:=h;exact⟨v,r,e,VR.ec c v ht.1 h1,aS.ec cs r ht.2 h2⟩
end
mutual
/-- The value names the object o. -/
def aL (o:Nat):CV→Bool
 | .bl p _ _=>p != o
 | .ax p _=>p != o
 | .iter p _ _=>p != o
 | .mp p _=>p != o
 | .agg cs=>dK o cs
 | .fn _ cs=>dK o cs
 | .iface _ cs=>dK o cs
 | .dS cs=>dK o cs
 | _=>true
def dK (o:Nat):List CV→Bool
 | []=>true
 | c::cs=>aL o c && dK o cs
end
mutual
/-- A reading is kept when the world turns as 'Keeps' says and the places of all objects that it names stay. -/
theorem VR.bk {w w':World}{F F':Nat→Prop}{σ σ':Nat→Option OB}(h:cw w w' F F'):∀ (c:CV) (v:Value),(∀ o,aL o c=false→σ' o=σ o)→VR w F σ c v→VR w' F' σ' c v
 | .int _ _,_,_,hv=>by simpa [VR] using hv
 | .bool _,_,_,hv=>by simpa [VR] using hv
 | .str _,_,_,hv=>by simpa [VR] using hv
 | .agg cs,v,hr,hv=>by
  simp only[VR] at hv ⊢;obtain⟨vs,e,r,h1⟩:=hv;exact⟨vs,e,aS.bk h cs vs (fun o ho=>hr o XG) r,h1⟩
 | .aa,_,_,hv=>by simpa [VR] using hv
 | .aA _ _,_,_,hv=>by simp only[VR] at hv ⊢;exact cq.bk h.1 _ _ hv
 | .cG _,_,_,hv=>by simp only[VR] at hv ⊢;exact cq.bk h.1 _ _ hv
 | .bL,_,_,hv=>by simpa [VR] using hv
 | .fn _ cs,v,hr,hv=>by
  simp only[VR] at hv ⊢;obtain⟨vs,e,r⟩:=hv;exact⟨vs,e,aS.bk h cs vs (fun o ho=>hr o XG) r⟩
 | .iface _ cs,v,hr,hv=>by
  simp only[VR] at hv ⊢;obtain⟨vs,e,r⟩:=hv;exact⟨vs,e,aS.bk h cs vs (fun o ho=>hr o XG) r⟩
 | .cA,_,_,hv=>by simpa [VR] using hv
 | .iter k s p,v,hr,hv=>by
  have hs:=hr k (by simp[aL]);simp only[VR] at hv ⊢;obtain⟨B,r,e1,e2,e3,h1,h2⟩:=hv;obtain⟨k1,k2⟩:=h.2 r _ h2 h1 (fun _ _ _ he=>by cases he);exact⟨B,r,hs.trans e1,e2,e3,k1,k2⟩
 | .mp k es,v,hr,hv=>by
  have hs:=hr k (by simp[aL]);simp only[VR] at hv ⊢;obtain⟨B,r,arr,clock,e1,e2,e3,h1,h3,h4,h2⟩:=hv;obtain⟨k1,k2⟩:=h.2 r _ h2 h1 (fun _ _ _ he=>by cases he);exact⟨B,r,arr,clock,hs.trans e1,e2,e3,k1,h3,h4,k2⟩
 | .dS cs,v,hr,hv=>by
  simp only[VR] at hv ⊢;obtain⟨vs,e,r⟩:=hv;exact⟨vs,e,aS.bk h cs vs (fun o ho=>hr o XG) r⟩
 | .bl o off n,v,hr,hv=>by
  have:=hr o (by simp[aL]);simp only[VR] at hv ⊢;rw[this];exact hv
 | .ax o off,v,hr,hv=>by
  have:=hr o (by simp[aL]);simp only[VR] at hv ⊢;rw[this];exact hv
 | .any,_,_,hv=>by simpa [VR] using hv
theorem aS.bk {w w':World}{F F':Nat→Prop}{σ σ':Nat→Option OB}(h:cw w w' F F'):∀ (cs:List CV) (vs:List Value),(∀ o,dK o cs=false→σ' o=σ o)→aS w F σ cs vs→aS w' F' σ' cs vs
 | [],_,_,hv=>by simpa [aS] using hv
 | c::cs,vs,hr,hv=>by
  simp only[aS] at hv ⊢;obtain⟨v,r,e,h1,h2⟩:=hv;exact⟨v,r,e,VR.bk h c v (fun o ho=>hr o (by simp[dK,ho])) h1,aS.bk h cs r (fun o ho=>hr o (by simp[dK,ho])) h2⟩
end
mutual
/-- No iterator in it, on the surface. -/
def lk:CV→Bool
 | .iter _ _ _=>false
 | .mp _ _=>false
 | .agg cs=>jK cs
 | .fn _ cs=>jK cs
 | .iface _ cs=>jK cs
 | .dS cs=>jK cs
 | _=>true
def jK:List CV→Bool
 | []=>true
 | c::cs=>lk c && jK cs
end
mutual
/-- A reading without iterators is kept when the cells are. -/
theorem VR.nW {w w':World}{F F':Nat→Prop}{σ:Nat→Option OB}(h:mQ w w' F F'):∀ (c:CV) (v:Value),lk c=true→VR w F σ c v→VR w' F' σ c v
 | .int _ _,_,_,hv=>by simpa [VR] using hv
 | .bool _,_,_,hv=>by simpa [VR] using hv
 | .str _,_,_,hv=>by simpa [VR] using hv
 | .aa,_,_,hv=>by simpa [VR] using hv
 | .aA _ _,_,_,hv=>by simp only[VR] at hv ⊢;exact cq.bk h _ _ hv
 | .cG _,_,_,hv=>by simp only[VR] at hv ⊢;exact cq.bk h _ _ hv
 | .bL,_,_,hv=>by simpa [VR] using hv
 | .cA,_,_,hv=>by simpa [VR] using hv
 | .any,_,_,hv=>by simpa [VR] using hv
 | .bl _ _ _,_,_,hv=>by simpa only[VR] using hv
 | .ax _ _,_,_,hv=>by simpa only[VR] using hv
 | .iter _ _ _,_,hn,_=>by simp[lk] at hn
 | .mp _ _,_,hn,_=>by simp[lk] at hn
 | .agg cs,v,hn,hv=>by
  simp only[VR] at hv ⊢;obtain⟨vs,e,r,h1⟩:=hv;exact⟨vs,e,aS.nW h cs vs (by simpa [lk] using hn) r,h1⟩
 | .fn _ cs,v,hn,hv=>by
  simp only[VR] at hv ⊢;obtain⟨vs,e,r⟩:=hv;exact⟨vs,e,aS.nW h cs vs (by simpa [lk] using hn) r⟩
 | .iface _ cs,v,hn,hv=>by
  simp only[VR] at hv ⊢;obtain⟨vs,e,r⟩:=hv;exact⟨vs,e,aS.nW h cs vs (by simpa [lk] using hn) r⟩
 | .dS cs,v,hn,hv=>by
  simp only[VR] at hv ⊢;obtain⟨vs,e,r⟩:=hv;exact⟨vs,e,aS.nW h cs vs (by simpa [lk] using hn) r⟩
theorem aS.nW {w w':World}{F F':Nat→Prop}{σ:Nat→Option OB}(h:mQ w w' F F'):∀ (cs:List CV) (vs:List Value),jK cs=true→aS w F σ cs vs→aS w' F' σ cs vs
 | [],_,_,hv=>by simpa [aS] using hv
 | c::cs,vs,hn,hv=>by
  simp only[jK,Bool.and_eq_true] at hn;simp only[aS] at hv ⊢;obtain⟨v,r,e,h1,h2⟩:=hv;exact⟨v,r,e,VR.nW h c v hn.1 h1,aS.nW h cs r hn.2 h2⟩
end
theorem aS.length {w:World}{F:Nat→Prop}{σ:Nat→Option OB}:∀ (cs:List CV) (vs:List Value),aS w F σ cs vs→vs.length=cs.length
 | [],vs,h=>by simp only[aS] at h;subst h;rfl
 | c::cs,vs,h=>by
  simp only[aS] at h;obtain⟨v,r,rfl,_,h2⟩:=h;simp[aS.length cs r h2]
theorem aS.get {w:World}{F:Nat→Prop}{σ:Nat→Option OB}:∀ (cs:List CV) (vs:List Value),aS w F σ cs vs→∀ (i:Nat) (c:CV),cs[i]? = some c→∃ v,vs[i]? = some v∧VR w F σ c v
 | [],vs,_,i,c,hi=>by simp at hi
 | c::cs,vs,h,i,d,hi=>by
  simp only[aS] at h;obtain⟨v,r,rfl,h1,h2⟩:=h
  cases i with
  | zero=>simp at hi;subst hi;exact⟨v,rfl,h1⟩
  | succ i=>simpa using aS.get cs r h2 i d WA
theorem aS.zk {w:World}{F:Nat→Prop}{σ:Nat→Option OB}:∀ (cs:List CV) (vs:List Value),vs.length=cs.length→(∀ (i:Nat) (c:CV),cs[i]? = some c→∃ v,vs[i]? = some v∧VR w F σ c v)→aS w F σ cs vs
 | [],vs,hl,_=>by simp only[aS];exact List.eq_nil_of_length_eq_zero hl
 | c::cs,[],hl,_=>by simp at hl
 | c::cs,v::vs,hl,h=>by
  simp only[aS];refine⟨v,vs,rfl,?_,aS.zk cs vs (by simpa using hl) fun i d hi=>?_⟩
  ·obtain⟨u,hu,hr⟩:=h 0 c rfl;simp at hu;subst hu;exact hr
  ·simpa using h (i+1) d WA
theorem aS.take {w:World}{F:Nat→Prop}{σ:Nat→Option OB}(k:Nat)(cs:List CV)(vs:List Value)(h:aS w F σ cs vs):aS w F σ (cs.take k) (vs.take k):=by
 refine aS.zk _ _ (by simp[aS.length cs vs h]) fun i c hi=>?_;rw[List.getElem?_take] at hi ⊢;split at hi
 ·rename_i hk;rw[if_pos hk];exact aS.get cs vs h i c hi
 ·cases hi
theorem aS.drop {w:World}{F:Nat→Prop}{σ:Nat→Option OB}(k:Nat)(cs:List CV)(vs:List Value)(h:aS w F σ cs vs):aS w F σ (cs.drop k) (vs.drop k):=by
 refine aS.zk _ _ (by simp[aS.length cs vs h]) fun i c hi=>?_;rw[List.getElem?_drop] at hi ⊢;exact aS.get cs vs h _ c hi
theorem aS.append {w:World}{F:Nat→Prop}{σ:Nat→Option OB}:∀ (cs ds:List CV) (vs us:List Value),aS w F σ cs vs→aS w F σ ds us→aS w F σ (cs++ds) (vs++us)
 | [],ds,vs,us,h,k=>by simp only[aS] at h;subst h;simpa using k
 | c::cs,ds,vs,us,h,k=>by
  simp only[aS] at h;obtain⟨v,r,rfl,h1,h2⟩:=h;simp only[List.cons_append,aS];exact⟨v,r++us,rfl,h1,aS.append cs ds r us h2 k⟩
theorem VR.AO {w:World}{F:Nat→Prop}{σ:Nat→Option OB}(c:CV)(v:Value)(h1:one c=true)(h:VR w F σ c v):v.oneCell'=true:=by
 cases c<;>simp only[VR,cq,one,Bool.false_eq_true] at h h1
 case aA=>obtain⟨A,cap,rfl,_⟩:=h;rfl
 case cG=>obtain⟨ad,rfl,_⟩:=h;rfl
 case fn=>obtain⟨vs,rfl,_⟩:=h;rfl
 case iface=>obtain⟨vs,rfl,_⟩:=h;cases vs<;>rfl
 case bl o off n=>
  obtain⟨B,_,h⟩:=h;split at h
  ·obtain⟨rfl,_⟩:=h;rfl
  ·obtain⟨cap,rfl,_⟩:=h;rfl
 case ax=>obtain⟨B,b,_,_,rfl⟩:=h;rfl
 case any=>exact h
 case mp=>obtain⟨B,r,arr,clock,_,_,rfl,_⟩:=h;rfl
 all_goals (subst h;rfl)
theorem aS.iG {w:World}{F:Nat→Prop}{σ:Nat→Option OB}:∀ (cs:List CV) (vs:List Value),cs.all one=true→aS w F σ cs vs→∀ u∈vs,u.oneCell'=true
 | [],vs,_,h=>by simp only[aS] at h;subst h;simp
 | c::cs,vs,ha,h=>by
  simp only[aS] at h;obtain⟨v,r,rfl,h1,h2⟩:=h;simp only[List.all_cons,Bool.and_eq_true] at ha;intro u hu;rcases List.mem_cons.1 hu with rfl | hu
  ·exact VR.AO c _ ha.1 h1
  ·exact aS.iG cs r ha.2 h2 u hu
theorem zf {v:Value}(h:v.oneCell'=true):v.cells=#[v]:=by
 cases v<;>simp_all [Value.oneCell',Value.cells]
theorem VR.flat {w:World}{F:Nat→Prop}{σ:Nat→Option OB}(c:CV)(v:Value)(hc:∀ cs,c≠.dS cs)(hi:∀ k s p,c≠.iter k s p)(h:VR w F σ c v):aS w F σ c.cells v.cells.toList∧c.cells.all one=true:=by
 by_cases ha:∃ cs,c=.agg cs
 ·obtain⟨cs,rfl⟩:=ha;simp only[VR] at h;obtain⟨vs,rfl,r,h1⟩:=h;exact⟨by simpa [CV.cells,Value.cells] using r,h1⟩
 ·have h1:one c=true:=by
   cases c<;>simp_all [one]
  have h2:c.cells=[c]:=by
   cases c<;>simp_all [CV.cells]
  rw[h2,zf (VR.AO c v h1 h)];exact⟨by simp only[aS];exact⟨v,[],rfl,h,rfl⟩,by simp[h1]⟩
theorem gD.MT {w:World}{F:Nat→Prop}:∀ (cs:List CV) (ad:Addr),gD w F cs ad→cs.all one=true
 | [],_,_=>rfl
 | c::cs,ad,h=>by
  simp only[gD] at h;simp[h.2.1,gD.MT cs _ h.2.2]
end Go.Can
/- Canonical states, their relation to the real frame and world, and the operations that turn nothing in memory. No function of the program is mentioned here. -/
namespace Go.Can
open Go.RowKit
def assoc {α:Type}:List (Nat×α)→Nat→Option α
 | [],_=>none
 | (k,v)::r,t=>if k=t then some v else assoc r t
def jD {α:Type}:List (Nat×α)→Nat→List (Nat×α)
 | [],_=>[]
 | (k,v)::r,t=>if k=t then jD r t else (k,v)::jD r t
def rF {α:Type}:List (Nat×α)→Nat→α→List (Nat×α)
 | [],_,_=>[]
 | (k,v)::r,t,x=>if k=t then (k,x)::r else (k,v)::rF r t x
theorem fe {α:Type}(l:List (Nat×α))(t u:Nat):assoc (jD l t) u=if t=u then none else assoc l u:=by
 induction l with
 | nil=>simp[jD,assoc]
 | cons x r ih=>
  obtain⟨k,v⟩:=x;simp only[jD];split
  ·rename_i hk;subst hk;rw[ih];split
   ·rfl
   ·rename_i hu;simp[assoc,hu]
  ·rename_i hk;simp only[assoc];split
   ·rename_i hu;subst hu;simp[Ne.symm hk]
   ·exact ih
theorem eP {α:Type}(l:List (Nat×α))(t u:Nat)(x:α):assoc (rF l t x) u=if t=u then (assoc l t).map fun _=>x else assoc l u:=by
 induction l with
 | nil=>simp[rF,assoc]
 | cons y r ih=>
  obtain⟨k,v⟩:=y;simp only[rF];split
  ·rename_i hk;subst hk;simp only[assoc,if_true];split
   ·rename_i hu;simp
   ·rfl
  ·rename_i hk;simp only[assoc,hk,if_false];rw[ih];split
   ·rename_i hu;subst hu;simp[Ne.symm hk]
   ·rfl
structure Ob where
 elem:TypeId
 sz:Nat
 cells:List CV
structure St where
 env:List (Nat×CV)
 heap:List (Nat×Ob)
 nx:Nat
def St.put (s:St)(d:Option Tmp)(c:CV):St:=
 match d with
 | some t=>{ s with env:=(t,c)::jD s.env t }
 | none=>s
def St.del (s:St)(d:Option Tmp):St:=
 match d with
 | some t=>{ s with env:=jD s.env t }
 | none=>s
structure Cx where
 w0:World
 F:Nat→Prop
 own:Nat→Prop
 hF:∀ b,F b→b<w0.heap.size
 nt:Nat
 σ0:Nat→Option OB
 n0:Nat
def aY (σ:Nat→Option OB)(o:Nat):Option Nat:=(σ o).bind (·.kj)
def FB (C:Cx)(σ:Nat→Option OB)(H:List (Nat×Ob))(b:Nat):Prop:=C.F b∨∃ o ob,assoc H o=some ob∧aY σ o=some b
def ObR (C:Cx)(w:World)(σ:Nat→Option OB)(H:List (Nat×Ob))(o:Nat)(ob:Ob):Prop:=
 ∃ B,σ o=some B∧B.sz=ob.sz∧(B.kj=none→ob.cells=[])∧ob.cells.all one=true∧
  ∀ b,B.kj=some b→∃ cur:Array Value,w.heap[b]? = some (.cells cur ob.elem (0,0))∧cur.size=B.room∧¬ C.F b∧(C.own b∨C.w0.heap.size≤b)∧
   ob.cells.length≤cur.size∧aS w (FB C σ H) σ ob.cells (cur.toList.take ob.cells.length)
structure aM (C:Cx)(σ:Nat→Option OB)(s:St)(a:Act)(w:World):Prop where
 nk:a.defers=[]
 tm:a.tmps.size=C.nt
 os:w.os=C.w0.os
 tape:w.tape=C.w0.tape
 output:w.output=C.w0.output
 size:C.w0.heap.size≤w.heap.size
 frame:∀ b,b<C.w0.heap.size→¬ C.own b→w.heap[b]? = C.w0.heap[b]?
 env:∀ t c,assoc s.env t=some c→∃ v,a.tmps[t]? = some v∧VR w (FB C σ s.heap) σ c v
 obj:∀ o ob,assoc s.heap o=some ob→ObR C w σ s.heap o ob
 inj:∀ o o' ob Pk b,assoc s.heap o=some ob→assoc s.heap o'=some Pk→aY σ o=some b→aY σ o'=some b→o=o'
 nx:∀ o,s.nx≤o→σ o=none
 fh:∀ o,o<C.n0→σ o=C.σ0 o
 low:C.n0≤s.nx
 new:∀ o B b,C.n0≤o→σ o=some B→B.kj=some b→C.own b∨C.w0.heap.size≤b
def Rel (C:Cx)(s:St)(a:Act)(w:World):Prop:=∃ σ,aM C σ s a w
section
variable {C:Cx}{σ:Nat→Option OB}{s:St}{a:Act}{w:World}
theorem Eg {a:Act}{d t:Nat}{v:Value}:(a.put (some d) v).tmps[t]? = if d=t then (if t<a.tmps.size then some v else none) else a.tmps[t]?:=by
 simp only[Act.put];rw[Array.getElem?_setIfInBounds];split
 ·rename_i h;subst h;rfl
 ·rfl
theorem aM.put (h:aM C σ s a w){d:Option Tmp}{c:CV}{v:Value}(hd:∀ t,d=some t→t<a.tmps.size)(hv:VR w (FB C σ s.heap) σ c v):aM C σ (s.put d c) (a.put d v) w:=by
 cases d with
 | none=>exact h
 | some d=>
  refine⟨h.nk,by simpa [Act.put] using h.tm,h.os,h.tape,h.output,h.size,h.frame,?_,h.obj,h.inj,h.nx,h.fh,h.low,h.new⟩;intro t c' hc;rw[Eg];simp only[St.put,assoc] at hc;split at hc
  ·rename_i e;subst e;cases hc;rw[if_pos rfl,if_pos (hd _ rfl)];exact⟨v,rfl,hv⟩
  ·rename_i e;rw[fe,if_neg e] at hc;rw[if_neg e];exact h.env t c' hc
theorem aM.del (h:aM C σ s a w){d:Option Tmp}(v:Value):aM C σ (s.del d) (a.put d v) w:=by
 cases d with
 | none=>exact h
 | some d=>
  refine⟨h.nk,by simpa [Act.put] using h.tm,h.os,h.tape,h.output,h.size,h.frame,?_,h.obj,h.inj,h.nx,h.fh,h.low,h.new⟩;intro t c' hc;rw[Eg];simp only[St.del] at hc;rw[fe] at hc;split at hc
  ·cases hc
  ·rename_i e;rw[if_neg e];exact h.env t c' hc
def gB:Value→Option CV
 | .int k n=>some (.int k n)
 | .bool b=>some (.bool b)
 | .string s=>some (.str s)
 | .pointer none=>some .bL
 | .slice none 0 0=>some .aa
 | .nilFunc=>some .cA
 | .nilIface=>some (.iface 0 [])
 | .map none=>some .any
 | _=>none
def jr:List Value→Option (List CV)
 | []=>some []
 | v::r=>match gB v,jr r with
  | some c,some cs=>some (c::cs)
  | _,_=>none
def uB:Value→Option CV
 | .agg cs=>(jr cs.toList).map CV.agg
 | .tuple vs=>if vs.isEmpty then some (.dS []) else none
 | v=>gB v
theorem n9 {F:Nat→Prop}{v:Value}{c:CV}(h:gB v=some c):cq w F c v∧one c=true:=by
 unfold gB at h;split at h<;>first | (cases h;simp[cq,bW,ifv,one,Value.oneCell'];done) | (cases h)
theorem cW {F:Nat→Prop}:∀ (vs:List Value) (cs:List CV),jr vs=some cs→bW w F cs vs∧cs.all one=true
 | [],cs,h=>by simp only[jr] at h;cases h;simp[bW]
 | v::r,cs,h=>by
  simp only[jr] at h;split at h
  ·rename_i c QQ h1 h2;cases h;obtain⟨k1,k2⟩:=n9 (w:=w) (F:=F) h1;obtain⟨k3,k4⟩:=cW (F:=F) r QQ h2;simp only[bW];exact⟨⟨v,r,rfl,k1,k3⟩,by simp[k2,k4]⟩
  ·cases h
theorem pY {F:Nat→Prop}{v:Value}{c:CV}(h:uB v=some c):cq w F c v:=by
 unfold uB at h;split at h
 ·rename_i cs;obtain⟨x,h1,h2⟩:=Option.map_eq_some_iff.1 h;subst h2;obtain⟨k1,k2⟩:=cW (w:=w) (F:=F) _ _ h1;simp only[cq];exact⟨cs.toList,by simp,k1,k2⟩
 ·rename_i vs;split at h
  ·rename_i he;cases h;simp only[cq,bW];exact⟨[],by simpa using he,rfl⟩
  ·cases h
 ·exact (n9 h).1
def ev (s:St):Operand→Option CV
 | .tmp t=>assoc s.env t
 | .const v=>uB v
 | .func f=>some (.fn f [])
 | .global _=>none
def z8 (s:St):List Operand→Option (List CV)
 | []=>some []
 | x::r=>match ev s x,z8 s r with
  | some c,some cs=>some (c::cs)
  | _,_=>none
theorem bK (h:aM C σ s a w){x:Operand}{c:CV}(he:ev s x=some c):VR w (FB C σ s.heap) σ c (a.eval x):=by
 cases x with
 | tmp t=>
  obtain⟨v,h1,h2⟩:=h.env t c he;simp only[Act.eval];have:a.tmps.getD t undef=v:=by simp[Array.getD_eq_getD_getElem?,h1]
  rw[this];exact h2
 | const v=>exact VR.cz _ _ (pY he)
 | func f=>cases he;simp only[VR];exact⟨[],rfl,rfl⟩
 | global g=>cases he
theorem pW (h:aM C σ s a w):∀ (xs:List Operand) (cs:List CV),z8 s xs=some cs→aS w (FB C σ s.heap) σ cs (xs.map a.eval)
 | [],cs,he=>by simp only[z8] at he;cases he;rfl
 | x::r,cs,he=>by
  simp only[z8] at he;split at he
  ·rename_i c QQ h1 h2;cases he;simp only[aS];exact⟨_,_,rfl,bK h h1,pW h r QQ h2⟩
  ·cases he
end
inductive TD where
 | int (k:IntKind)
 | bool
 | str
 | sl (e:TypeId)
 | bw (fs:List (Nat×TypeId))
 | arr (n:Nat) (e:TypeId)
 | ptr (e:TypeId)
 | func
 | MR
def tw:TypeDesc→TD
 | .int k=>.int k
 | .bool=>.bool
 | .string=>.str
 | .slice e=>.sl e
 | .struct fs=>.bw (fs.toList.map fun f=>(f.offset,f.type))
 | .array n e=>.arr n e
 | .pointer e=>.ptr e
 | .func _ _ _=>.func
 | _=>.MR
structure TI where
 d:TD
 size:Nat
 bytes:Nat
 zero:List CV
def TI.agg (i:TI):Bool:=match i.d with
 | .bw _=>true
 | .arr _ _=>true
 | _=>false
structure cu (P:Program)(t:TypeId)(i:TI):Prop where
 info:∃ f z,P.info? t=some f∧f.size=i.size∧f.bytes=i.bytes∧f.zero=some z∧jr z.cells.toList=some i.zero
 BV:∃ d,P.underlying t=some d∧tw d=i.d
 len:i.zero.length=i.size
def aG (P:Program)(ak:List (Nat×TI)):Prop:=∀ t i,assoc ak t=some i→cu P t i
theorem cu.mk' {P:Program}{t:TypeId}{i:TI}(h1:(P.info? t).map (fun f=>(f.size,f.bytes,f.zero.map fun z=>jr z.cells.toList))=some (i.size,i.bytes,some (some i.zero)))
  (h2:(P.underlying t).map tw=some i.d) (h3:i.zero.length=i.size):cu P t i:=by
 obtain⟨f,e1,e2⟩:=Option.map_eq_some_iff.1 h1;obtain⟨d,e3,e4⟩:=Option.map_eq_some_iff.1 h2;simp only[Prod.mk.injEq] at e2;obtain⟨z,e5,e6⟩:=Option.map_eq_some_iff.1 e2.2.2;exact⟨⟨f,z,e1,e2.1,e2.2.1,e5,e6⟩,⟨d,e3,e4⟩,h3⟩
theorem aG.nil {P:Program}:aG P []:=fun _ _ h=>by cases h
theorem aG.cons {P:Program}{t:Nat}{i:TI}{r:List (Nat×TI)}(h:cu P t i)(hr:aG P r):aG P ((t,i)::r):=fun u j hj=>by
 simp only[assoc] at hj;split at hj
 ·rename_i e;subst e;cases hj;exact h
 ·exact hr u j hj
theorem bu {P:Program}{t:TypeId}{d:TypeDesc}(h:P.underlying t=some d)(w:World):(underlying t).run P w=.ok d w:=run_underlying h w
theorem uW {P:Program}{t:TypeId}{f:TypeInfo}(h:P.info? t=some f)(w:World):(typeInfo t).run P w=.ok f w:=by
 simp[typeInfo,h]
theorem cP {P:Program}{t:TypeId}{f:TypeInfo}(h:P.info? t=some f)(w:World):(sizeOf t).run P w=.ok f.size w:=by
 simp[sizeOf,uW h]
def arith (op:BinOp)(k:IntKind)(a b:Int):Option CV:=
 match op with
 | .add=>some (.int k (k.wrap (a+b)))
 | .sub=>some (.int k (k.wrap (a-b)))
 | .mul=>some (.int k (k.wrap (a*b)))
 | .quo=>if b=0 then none else some (.int k (k.wrap (a.tdiv b)))
 | .rem=>if b=0 then none else some (.int k (a.tmod b))
 | .and=>some (.int k (k.wrap (BitVec.ofInt k.bits a &&& BitVec.ofInt k.bits b).toNat))
 | .or=>some (.int k (k.wrap (BitVec.ofInt k.bits a ||| BitVec.ofInt k.bits b).toNat))
 | .xor=>some (.int k (k.wrap (BitVec.ofInt k.bits a ^^^ BitVec.ofInt k.bits b).toNat))
 | .andNot=>some (.int k (k.wrap (BitVec.ofInt k.bits a &&& ~~~ BitVec.ofInt k.bits b).toNat))
 | .eql=>some (.bool (a == b))
 | .neq=>some (.bool (a != b))
 | .lss=>some (.bool (decide (a<b)))
 | .leq=>some (.bool (decide (a≤b)))
 | .gtr=>some (.bool (decide (a > b)))
 | .geq=>some (.bool (decide (a≥b)))
 | _=>none
def lK (op:BinOp)(x y:ByteArray):Option CV:=
 match op with
 | .add=>if x.size+y.size≤9223372036854775807 then some (.str (x++y)) else none
 | .eql=>some (.bool (x.toList == y.toList))
 | .neq=>some (.bool (!(x.toList == y.toList)))
 | .lss=>some (.bool (Op.bytesLess x.toList y.toList))
 | .leq=>some (.bool (Op.bytesLess x.toList y.toList || x.toList == y.toList))
 | .gtr=>some (.bool (!(Op.bytesLess x.toList y.toList || x.toList == y.toList)))
 | .geq=>some (.bool (!Op.bytesLess x.toList y.toList))
 | _=>none
def C7 (op:BinOp)(d:TD):CV→CV→Option CV
 | .int k a,.int k' b=>match op with
  | .shl=>if b<0 then none else some (.int k (k.wrap (a*2 ^ (min b.toNat k.bits))))
  | .shr=>if b<0 then none else some (.int k (a.fdiv (2 ^ (min b.toNat k.bits))))
  | op=>if k=k' then arith op k a b else none
 | .str x,.str y=>lK op x y
 | .bool a,.bool b=>match d,op with
  | .bool,.eql=>some (.bool (a == b))
  | .bool,.neq=>some (.bool (!(a == b)))
  | _,_=>none
 | _,_=>none
theorem dM {w:World}{F:Nat→Prop}{σ:Nat→Option OB}(k:IntKind)(n:Int):VR w F σ (.int k n) (.int k n):=by simp[VR]
theorem dN {w:World}{F:Nat→Prop}{σ:Nat→Option OB}(b:Bool):VR w F σ (.bool b) (.bool b):=by simp[VR]
theorem zZ {w:World}{F:Nat→Prop}{σ:Nat→Option OB}(b:ByteArray):VR w F σ (.str b) (.string b):=by simp[VR]
theorem Jv {P:Program}{w:World}{op:BinOp}{k:IntKind}{xt:TypeId}{a b:Int}{c:CV}(hs1:op≠.shl)(Wi:op≠.shr)(h:arith op k a b=some c){F:Nat→Prop}{σ:Nat→Option OB} :
  ∃ v,(binOp op xt (.int k a) (.int k b)).run P w=.ok v w∧VR w F σ c v:=by
 cases op<;>simp only[arith] at h
 case add=>cases h;exact⟨_,by simp[binOp,Op.intArith],dM _ _⟩
 case sub=>cases h;exact⟨_,by simp[binOp,Op.intArith],dM _ _⟩
 case mul=>cases h;exact⟨_,by simp[binOp,Op.intArith],dM _ _⟩
 case quo=>
  split at h
  ·cases h
  ·cases h;rename_i hb;exact⟨_,by simp[binOp,Op.intDiv,hb],dM _ _⟩
 case rem=>
  split at h
  ·cases h
  ·cases h;rename_i hb;exact⟨_,by simp[binOp,Op.intDiv,hb],dM _ _⟩
 case and=>cases h;exact⟨_,by simp[binOp,Op.intBits],dM _ _⟩
 case or=>cases h;exact⟨_,by simp[binOp,Op.intBits],dM _ _⟩
 case xor=>cases h;exact⟨_,by simp[binOp,Op.intBits],dM _ _⟩
 case andNot=>cases h;exact⟨_,by simp[binOp,Op.intBits],dM _ _⟩
 case eql=>cases h;exact⟨_,by simp[binOp,Op.intCmp],dN _⟩
 case neq=>cases h;exact⟨_,by simp[binOp,Op.intCmp],dN _⟩
 case lss=>cases h;exact⟨_,by simp[binOp,Op.intCmp],dN _⟩
 case leq=>cases h;exact⟨_,by simp[binOp,Op.intCmp],dN _⟩
 case gtr=>cases h;exact⟨_,by simp[binOp,Op.intCmp],dN _⟩
 case geq=>cases h;exact⟨_,by simp[binOp,Op.intCmp],dN _⟩
 all_goals first | cases h | exact absurd rfl hs1 | exact absurd rfl Wi
theorem He {P:Program}{w:World}{op:BinOp}{xt:TypeId}{a b:ByteArray}{c:CV}(h:lK op a b=some c){F:Nat→Prop}{σ:Nat→Option OB} :
  ∃ v,(binOp op xt (.string a) (.string b)).run P w=.ok v w∧VR w F σ c v:=by
 cases op<;>simp only[lK] at h
 case add=>
  split at h
  ·rename_i hb;cases h;refine⟨_,?_,zZ _⟩;have hm:IntKind.i64.max=9223372036854775807:=by simp[IntKind.max,IntKind.signed,IntKind.bits]
   simp only[binOp,Op.stringOp,hm];rw[if_neg yA];rfl
  ·cases h
 case eql=>cases h;exact⟨_,by simp[binOp,Op.stringOp],dN _⟩
 case neq=>cases h;exact⟨_,by simp[binOp,Op.stringOp],dN _⟩
 case lss=>cases h;exact⟨_,by simp[binOp,Op.stringOp],dN _⟩
 case leq=>cases h;exact⟨_,by simp[binOp,Op.stringOp],dN _⟩
 case gtr=>cases h;exact⟨_,by simp[binOp,Op.stringOp],dN _⟩
 case geq=>cases h;exact⟨_,by simp[binOp,Op.stringOp],dN _⟩
 all_goals cases h
end Go.Can
