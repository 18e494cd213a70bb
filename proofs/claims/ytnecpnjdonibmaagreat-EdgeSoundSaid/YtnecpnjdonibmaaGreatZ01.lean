/- Canonical values and their relation to the model's values an -/
import Derived.StillTail
import Derived.ScopeJumps
import Derived.Laws.AppendOwn
import Derived.Laws.CopyOwn
import Derived.Laws.MakeOwn
import Derived.Laws.OwnMore
import Derived.Below
import Derived.IntWalk
namespace Go.Can
theorem yA {p:Prop}(h:p:=by omega):p:=h
theorem zX {p:Prop}(h:p:=by simp):p:=h
theorem PH {p:Prop}(h:p:=by kernel_rfl):p:=h
theorem PV {p:Prop}(h:p:=by simp[hC]):p:=h
theorem P2 {p:Prop}(h:p:=by first | rfl | simp only[List.cons_append,List.nil_append,List.append_nil,trees,tree,bA,vA,Bool.and_self,Bool.and_true,Bool.true_and]):p:=h
theorem P1 {p:Prop}(h:p:=by decide):p:=h
theorem QE {p:Prop}(h:p:=by (try simp only[ByteArray.size_append]);omega):p:=h
theorem QS {p:Prop}(h:p:=by first | rfl | simp[aS,a7,cr,fT,-List.all_eq_true]):p:=h
theorem QR {p:Prop}(h:p:=by first | rfl | simp[aG,ints]):p:=h
theorem Ru {p:Prop}(h:p:=by simp;omega):p:=h
theorem Rt {p:Prop}(h:p:=by simp[-List.all_eq_true]):p:=h
theorem Rm {p:Prop}(h:p:=by first | rfl | decide):p:=h
theorem RZ {p:Prop}(h:p:=by simp[Op.operands]):p:=h
theorem Rl {p:Prop}(h:p:=by simp[assoc]):p:=h
theorem R5 {p:Prop}(h:p:=by first | exact b9 _ | exact vB _ (by first | rfl | assumption | simp[trees,tree, *])):p:=h
theorem yAo {p:Prop}(h:p:=by first | rfl | assumption | simp[trees,tree, *]):p:=h
theorem Sv {p:Prop}(h:p:=by first | rfl | simp only[List.all_cons,List.all_nil,okW,tree, *];rfl | simp[okW,tree,trees, *]):p:=h
theorem Su {p:Prop}(h:p:=by first | rfl | assumption | simp[tree,trees, *]):p:=h
theorem Ss {p:Prop}(h:p:=by first | rfl | simp[bl,ev,assoc]):p:=h
theorem Sr {p:Prop}(h:p:=by simpa using h):p:=h
theorem RN {p:Prop}(h:p:=by simp[ev,assoc]):p:=h
theorem S9 {p:Prop}(h:p:=by simp[Ex.args]):p:=h
theorem SK {p:Prop}(h:p:=by simp[-List.all_eq_true,-List.all_flatMap]):p:=h
theorem TG {p:Prop}(h:p:=by simp[kL,af RQ]):p:=h
theorem TF {p:Prop}(h:p:=by simp[aG]):p:=h
theorem TR {p:Prop}(h:p:=by simp[dU]):p:=h
theorem Ug {p:Prop}(h:p:=by first | rfl | exact bA _ | exact vA _):p:=h
theorem yB {p:Prop}(h:p:=by simp only[trees,tree];rfl):p:=h
theorem Uv {p:Prop}(h:p:=by simp only[ByteArray.size_append];omega):p:=h
theorem U8 {p:Prop}(h:p:=by first | rfl | exact bA _):p:=h
theorem U7 {p:Prop}(h:p:=by simp only[AT];omega):p:=h
theorem Wl {p:Prop}(h:p:=by simp[aG,dp,lk]):p:=h
theorem Wk {p:Prop}(h:p:=by simp[mE,Bz,tree]):p:=h
theorem Wj {p:Prop}(h:p:=by simp[aG,lk]):p:=h
theorem WX {p:Prop}(h:p:=by first | rfl | simp[cb,ct,cq,dR,cH,aS,a7,cT,kF,dX,assoc,dy,iY,-List.all_eq_true,-List.all_flatMap,fT]):p:=h
theorem WW {p:Prop}(h:p:=by simp[fW,Cz,-List.all_eq_true,-List.all_flatMap]):p:=h
theorem Uf {p:Prop}(h:p:=by rw[List.length_map];omega):p:=h
theorem WV {p:Prop}(h:p:=by simpa using hi):p:=h
theorem Xp {p:Prop}(h:p:=by simp[-List.all_eq_true,af (yW SL i).1,af (yW SL (i+1)).2]):p:=h
theorem Xo {p:Prop}(h:p:=by first | rfl | simp only[List.append_nil,trees,tree,bA,Bool.and_self]):p:=h
theorem Yu {p:Prop}(h:p:=by simp[lk,cZ,-List.all_eq_true,-List.all_flatMap]):p:=h
theorem Yt {p:Prop}(h:p:=by simp only[List.length_cons];omega):p:=h
theorem Ys {p:Prop}(h:p:=by simpa [aT,m1] using hb):p:=h
theorem Yr {p:Prop}(h:p:=by simpa [aK] using ho):p:=h
theorem YW {p:Prop}(h:p:=by simp[dD,um,p4,tree,assoc,-List.all_eq_true,-List.all_flatMap,P4]):p:=h
theorem YV {p:Prop}(h:p:=by simp only[List.all_cons,List.all_nil,okW,tree];rfl):p:=h
theorem YU {p:Prop}(h:p:=by simp[-List.all_eq_true,-List.all_flatMap,fT]):p:=h
theorem YT {p:Prop}(h:p:=by simp[fW,-List.all_eq_true,-List.all_flatMap]):p:=h
theorem YS {p:Prop}(h:p:=by simp[aG,-List.all_eq_true,fT]):p:=h
theorem yBv {p:Prop}(h:p:=by simp[-List.all_eq_true,-List.all_flatMap,a6 2 _ hX,a6 2 _ hY,a6 2 _ Yw]):p:=h
theorem yBw {p:Prop}(h:p:=by simp[dD,um,p4,tree,assoc,-List.all_eq_true,-List.all_flatMap]):p:=h
theorem yBx {p:Prop}(h:p:=by simp[aG,lk,-List.all_eq_true,-List.all_flatMap]):p:=h
theorem yBy {p:Prop}(h:p:=by simp only;rw[CR (Hi nx) PT];exact Qb):p:=h
theorem yBz {p:Prop}(h:p:=by simp[-List.all_eq_true,af SL]):p:=h
theorem yC {p:Prop}(h:p:=by simp[aG,-List.all_eq_true]):p:=h
theorem yCa {p:Prop}(h:p:=by simp[-List.all_eq_true,-List.all_flatMap,a6 4 _ hY,af (aF bV l),a6 4 _ Yw,af WM]):p:=h
theorem yCb {p:Prop}(h:p:=by simp[-List.all_eq_true,af PO,af PW,af V0,af tD2]):p:=h
theorem yCc {p:Prop}(h:p:=by simp only[nU,Bool.and_eq_true,Bool.not_eq_true'] at hp;exact hp.1):p:=h
theorem yCd {p:Prop}(h:p:=by simp[-List.all_eq_true,af PO,af PW,af tZ]):p:=h
theorem yCe {p:Prop}(h:p:=by simp[aG,ints,lk,-List.all_eq_true,-List.all_flatMap]):p:=h
theorem yCf {p:Prop}(h:p:=by rw[← Array.toArray_toList (xs:=cl.argTypes),Rg]):p:=h
theorem Wi {p:Prop}(h:p:=by simp[-List.all_eq_true,af PO,af PW]):p:=h
theorem yCh {p:Prop}(h:p:=by have:(⟨#[9]⟩:ByteArray).size=1:=rfl;omega):p:=h
theorem yCi {p:Prop}(h:p:=by rw[← Array.toArray_toList (xs:=cl.args),ha]):p:=h
theorem yCj {p:Prop}(h:p:=by first | assumption | rfl | simp[cb,ct,cq,dR,cH,aS,a7,cT,kF,dX,assoc,dy,iY,-List.all_eq_true,-List.all_flatMap,fT]):p:=h
theorem yCk {p:Prop}(h:p:=by simp only[cY,nA];simp[-List.all_eq_true,-List.all_flatMap,bf (aF bA N),xR]):p:=h
theorem yCl {p:Prop}(h:p:=by simp only[cY,nA];simp[-List.all_eq_true,-List.all_flatMap,fT,af (aF bA N)]):p:=h
theorem yCm {p:Prop}(h:p:=by simp only[cY,nA,ky];simp[-List.all_eq_true,-List.all_flatMap,af (aF bA _)]):p:=h
theorem yCn {p:Prop}(h:p:=by simp[-List.all_eq_true,-List.all_flatMap,af (bC out),af (bC th.1)]):p:=h
theorem yCo {p:Prop}(h:p:=by have:(iS ⟨#[9]⟩ bd).size=(iS oR bd).size:=rfl;simp only[ByteArray.size_append];omega):p:=h
theorem yCp {p:Prop}(h:p:=by simp[-List.all_eq_true,af VZ,a6 _ _ (aD _),af Vd,af tD3]):p:=h
theorem yCq {p:Prop}(h:p:=by simp only[Op.operands];simp only[List.mem_toArray,List.mem_map];exact⟨x,hx,rfl⟩):p:=h
theorem yCr {p:Prop}(h:p:=by simp[-List.all_eq_true,-List.all_flatMap,fT,af (aF bA N)]):p:=h
open Go.RowKit
inductive CV where
 | int (k:IntKind) (n:Int)
 | bool (b:Bool)
 | str (s:ByteArray)
 | agg (cs:List CV)
 | az (cs:List CV) (n:Nat)
 | ai
 | cA (cs:List CV)
 | bG
 | fn (f:FuncId) (Rk:List CV)
 | cd
 | iface (t:TypeId) (cs:List CV)
 | iter (k:Nat) (s:ByteArray) (p:Nat)
 | mp (k:Nat) (es:List (Value×Value))
 | dH (vs:List CV)
 | bj (o off n:Nat)
 | av (o off:Nat)
 | any
instance : Inhabited CV := ⟨.bG⟩
def one:CV→Bool
 | .agg _=>false
 | .dH _=>false
 | .iter _ _ _=>false
 | _=>true
def CV.cells:CV→List CV
 | .agg cs=>cs
 | c=>[c]
def ifv (t:TypeId):List Value→Value
 | []=>.nilIface
 | v::_=>.iface t v
mutual
/-- The immutable ones: the value v reads as c; no cell of it lies in a block of F. -/
def ch (w:World)(F:Nat→Prop):CV→Value→Prop
 | .int k n,v=>v=.int k n
 | .bool b,v=>v=.bool b
 | .str s,v=>v=.string s
 | .agg cs,v=>∃ vs:List Value,v=.agg vs.toArray∧bP w F cs vs∧cs.all one=true
 | .az cs n,v=>∃ A cap,v=.slice A n cap∧n≤cap∧cap≤maxLen∧((n=0∧cs=[])∨∃ ad,A=some ad∧fN w F cs ad)
 | .ai,v=>v=.slice none 0 0
 | .cA cs,v=>∃ ad,v=.pointer (some ad)∧fN w F cs ad
 | .bG,v=>v=.pointer none
 | .fn f Rk,v=>∃ vs:List Value,v=.func (.func f) #[] vs.toArray∧bP w F Rk vs
 | .iface f Rk,v=>∃ vs:List Value,v=ifv f vs∧bP w F Rk vs
 | .cd,v=>v=.nilFunc
 | .iter _ _ _,_=>False
 | .mp _ _,_=>False
 | .dH cs,v=>∃ vs:List Value,v=.tuple vs.toArray∧bP w F cs vs
 | .bj _ _ _,_=>False
 | .av _ _,_=>False
 | .any,v=>v.oneCell'=true
def bP (w:World)(F:Nat→Prop):List CV→List Value→Prop
 | [],vs=>vs=[]
 | c::cs,vs=>∃ v r,vs=v::r∧ch w F c v∧bP w F cs r
/-- The cells from an address on. -/
def fN (w:World)(F:Nat→Prop):List CV→Addr→Prop
 | [],_=>True
 | c::cs,ad=>(∃ u,w.cell? ad=some u∧¬ F ad.block∧ch w F c u)∧one c=true∧fN w F cs (ad.add 1)
end
theorem Fh (a:Addr)(n:Nat):(a.add n).block=a.block:=by unfold Addr.add;split<;>rfl
theorem add_add (a:Addr)(i j:Nat):(a.add i).add j=a.add (i+j):=by
 unfold Addr.add;by_cases hi:i=0<;>by_cases hj:j=0<;>simp[hi,hj,Nat.add_assoc]
theorem add_zero (a:Addr):a.add 0=a:=by simp[Addr.add]
theorem add_lit (b i j:Nat):(⟨b,i,none⟩:Addr).add j=⟨b,i+j,none⟩:=by
 unfold Addr.add;split<;>simp_all
def lQ (w w':World)(F F':Nat→Prop):Prop:=∀ ad u,¬ F ad.block→w.cell? ad=some u→w'.cell? ad=some u∧¬ F' ad.block
def ck (w w':World)(F F':Nat→Prop):Prop:=lQ w w' F F'∧
 ∀ r x,¬ F r→w.heap[r]? = some x→(∀ c e f,x≠.cells c e f)→w'.heap[r]? = some x∧¬ F' r
theorem ck.same {w:World}{F F':Nat→Prop}(h:∀ b,F' b→F b):ck w w F F':=⟨fun _ _ hf hu=>⟨hu,fun k=>hf (h _ k)⟩,fun _ _ hf hu _=>⟨hu,fun k=>hf (h _ k)⟩⟩
mutual
theorem ch.bg {w w':World}{F F':Nat→Prop}(h:lQ w w' F F'):∀ (c:CV) (v:Value),ch w F c v→ch w' F' c v
 | .int _ _,_,hv=>by simpa [ch] using hv
 | .bool _,_,hv=>by simpa [ch] using hv
 | .str _,_,hv=>by simpa [ch] using hv
 | .agg cs,v,hv=>by
  simp only[ch] at hv ⊢;obtain⟨vs,e,r,h1⟩:=hv;exact⟨vs,e,bP.bg h cs vs r,h1⟩
 | .ai,_,hv=>by simpa [ch] using hv
 | .az cs n,v,hv=>by
  simp only[ch] at hv ⊢;obtain⟨A,cap,e,h1,h2,h4⟩:=hv;refine⟨A,cap,e,h1,h2,?_⟩;rcases h4 with h4 | ⟨ad,ea,hm⟩
  ·exact .inl h4
  ·exact .inr ⟨ad,ea,fN.bg h cs ad hm⟩
 | .cA cs,v,hv=>by
  simp only[ch] at hv ⊢;obtain⟨ad,e,hm⟩:=hv;exact⟨ad,e,fN.bg h cs ad hm⟩
 | .bG,_,hv=>by simpa [ch] using hv
 | .fn f Rk,v,hv=>by
  simp only[ch] at hv ⊢;obtain⟨vs,e,r⟩:=hv;exact⟨vs,e,bP.bg h Rk vs r⟩
 | .iface f Rk,v,hv=>by
  simp only[ch] at hv ⊢;obtain⟨vs,e,r⟩:=hv;exact⟨vs,e,bP.bg h Rk vs r⟩
 | .cd,_,hv=>by simpa [ch] using hv
 | .iter _ _ _,_,hv=>by simp[ch] at hv
 | .mp _ _,_,hv=>by simp[ch] at hv
 | .dH cs,v,hv=>by
  simp only[ch] at hv ⊢;obtain⟨vs,e,r⟩:=hv;exact⟨vs,e,bP.bg h cs vs r⟩
 | .bj _ _ _,_,hv=>by simp[ch] at hv
 | .av _ _,_,hv=>by simp[ch] at hv
 | .any,_,hv=>by simpa [ch] using hv
theorem bP.bg {w w':World}{F F':Nat→Prop}(h:lQ w w' F F'):∀ (cs:List CV) (vs:List Value),bP w F cs vs→bP w' F' cs vs
 | [],_,hv=>by simpa [bP] using hv
 | c::cs,vs,hv=>by
  simp only[bP] at hv ⊢;obtain⟨v,r,e,h1,h2⟩:=hv;exact⟨v,r,e,ch.bg h c v h1,bP.bg h cs r h2⟩
theorem fN.bg {w w':World}{F F':Nat→Prop}(h:lQ w w' F F'):∀ (cs:List CV) (ad:Addr),fN w F cs ad→fN w' F' cs ad
 | [],_,_=>by simp[fN]
 | c::cs,ad,hv=>by
  simp only[fN] at hv ⊢;obtain⟨⟨u,h1,h2,h3⟩,ho,h4⟩:=hv;obtain⟨k1,k2⟩:=h ad u h2 h1;exact⟨⟨u,k1,k2,ch.bg h c u h3⟩,ho,fN.bg h cs _ h4⟩
end
theorem fN.drop {w:World}{F:Nat→Prop}:∀ (k:Nat) (cs:List CV) (ad:Addr),fN w F cs ad→fN w F (cs.drop k) (ad.add k)
 | 0,cs,ad,h=>by simpa [add_zero] using h
 | k+1,[],ad,_=>by simp[fN]
 | k+1,c::cs,ad,h=>by
  simp only[fN] at h;have:=fN.drop k cs _ h.2.2;rw[add_add] at this
  simpa [Nat.add_comm] using this
theorem fN.take {w:World}{F:Nat→Prop}:∀ (k:Nat) (cs:List CV) (ad:Addr),fN w F cs ad→fN w F (cs.take k) ad
 | 0,_,_,_=>by simp[fN]
 | k+1,[],_,_=>by simp[fN]
 | k+1,c::cs,ad,h=>by
  simp only[fN] at h;simp only[List.take_succ_cons,fN];exact⟨h.1,h.2.1,fN.take k cs _ h.2.2⟩
theorem fN.cells {w:World}{F:Nat→Prop}:∀ (cs:List CV) (ad:Addr),fN w F cs ad→∃ us:List Value,bP w F cs us∧us.length=cs.length∧∀ j u,us[j]? = some u→w.cell? (ad.add j)=some u
 | [],ad,_=>⟨[],by simp[bP],rfl,by simp⟩
 | c::cs,ad,h=>by
  simp only[fN] at h;obtain⟨⟨u,h1,h2,h3⟩,_,h4⟩:=h;obtain⟨us,k1,k2,k3⟩:=fN.cells cs _ h4;refine⟨u::us,by simp only[bP];exact⟨u,us,rfl,h3,k1⟩,by simp[k2],?_⟩;intro j x hx
  cases j with
  | zero=>simp at hx;subst hx;rw[add_zero];exact h1
  | succ j=>
   have:=k3 j x (by simpa using hx);rw[add_add] at this;rwa [Nat.add_comm] at this
theorem bP.length {w:World}{F:Nat→Prop}:∀ (cs:List CV) (vs:List Value),bP w F cs vs→vs.length=cs.length
 | [],vs,h=>by simp only[bP] at h;subst h;rfl
 | c::cs,vs,h=>by
  simp only[bP] at h;obtain⟨v,r,rfl,_,h2⟩:=h;simp[bP.length cs r h2]
theorem bP.get {w:World}{F:Nat→Prop}:∀ (cs:List CV) (vs:List Value),bP w F cs vs→∀ (i:Nat) (c:CV),cs[i]? = some c→∃ v,vs[i]? = some v∧ch w F c v
 | [],vs,_,i,c,hi=>by simp at hi
 | c::cs,vs,h,i,d,hi=>by
  simp only[bP] at h;obtain⟨v,r,rfl,h1,h2⟩:=h
  cases i with
  | zero=>simp at hi;subst hi;exact⟨v,rfl,h1⟩
  | succ i=>simpa using bP.get cs r h2 i d WV
structure OB where
 iQ:Option Nat
 room:Nat
 sz:Nat
mutual
/-- The values of a frame and of the objects' cells. -/
def VR (w:World)(F:Nat→Prop)(σ:Nat→Option OB):CV→Value→Prop
 | .bj o off n,v=>∃ B,σ o=some B∧match B.iQ with
   | none=>v=.slice none 0 0∧off=0∧n=0
   | some b=>∃ cap,v=.slice (some ⟨b,off,none⟩) n cap∧n≤cap∧cap≤maxLen∧off+cap*B.sz≤B.room∧(off=0→cap*B.sz=B.room)
 | .av o off,v=>∃ B b,σ o=some B∧B.iQ=some b∧v=.pointer (some ⟨b,off,none⟩)
 | .agg cs,v=>∃ vs:List Value,v=.agg vs.toArray∧aN w F σ cs vs∧cs.all one=true
 | .fn f Rk,v=>∃ vs:List Value,v=.func (.func f) #[] vs.toArray∧aN w F σ Rk vs
 | .iface f Rk,v=>∃ vs:List Value,v=ifv f vs∧aN w F σ Rk vs
 | .dH cs,v=>∃ vs:List Value,v=.tuple vs.toArray∧aN w F σ cs vs
 | .int k n,v=>v=.int k n
 | .bool b,v=>v=.bool b
 | .str s,v=>v=.string s
 | .az cs n,v=>ch w F (.az cs n) v
 | .ai,v=>v=.slice none 0 0
 | .cA cs,v=>ch w F (.cA cs) v
 | .bG,v=>v=.pointer none
 | .cd,v=>v=.nilFunc
 | .iter k s p,v=>∃ B r,σ k=some B∧B.iQ=some r∧v=.pointer (some ⟨r,0,none⟩)∧w.heap[r]? = some (.stringIter s p)∧¬ F r
 | .mp k es,v=>∃ B r arr clock,σ k=some B∧B.iQ=some r∧v=.map (some r)∧w.heap[r]? = some (.map arr clock)∧arr.toList.map (fun e=>(e.key,e.val))=es∧(es.map (·.1)).Nodup∧¬ F r
 | .any,v=>v.oneCell'=true
def aN (w:World)(F:Nat→Prop)(σ:Nat→Option OB):List CV→List Value→Prop
 | [],vs=>vs=[]
 | c::cs,vs=>∃ v r,vs=v::r∧VR w F σ c v∧aN w F σ cs r
end
mutual
/-- No object of one's own in it, on the surface. -/
def tree:CV→Bool
 | .bj _ _ _=>false
 | .av _ _=>false
 | .iter _ _ _=>false
 | .mp _ _=>false
 | .agg cs=>trees cs
 | .fn _ cs=>trees cs
 | .iface _ cs=>trees cs
 | .dH cs=>trees cs
 | _=>true
def trees:List CV→Bool
 | []=>true
 | c::cs=>tree c && trees cs
end
mutual
theorem VR.cm {w:World}{F:Nat→Prop}{σ:Nat→Option OB}:∀ (c:CV) (v:Value),ch w F c v→VR w F σ c v
 | .int _ _,_,h=>by simpa [VR,ch] using h
 | .bool _,_,h=>by simpa [VR,ch] using h
 | .str _,_,h=>by simpa [VR,ch] using h
 | .agg cs,v,h=>by
  simp only[VR,ch] at h ⊢;obtain⟨vs,e,r,h1⟩:=h;exact⟨vs,e,aN.cm cs vs r,h1⟩
 | .ai,_,h=>by simpa [VR,ch] using h
 | .az _ _,_,h=>by simpa only[VR] using h
 | .cA _,_,h=>by simpa only[VR] using h
 | .bG,_,h=>by simpa [VR,ch] using h
 | .fn _ cs,v,h=>by
  simp only[VR,ch] at h ⊢;obtain⟨vs,e,r⟩:=h;exact⟨vs,e,aN.cm cs vs r⟩
 | .iface _ cs,v,h=>by
  simp only[VR,ch] at h ⊢;obtain⟨vs,e,r⟩:=h;exact⟨vs,e,aN.cm cs vs r⟩
 | .cd,_,h=>by simpa [VR,ch] using h
 | .iter _ _ _,_,h=>by simp[ch] at h
 | .mp _ _,_,h=>by simp[ch] at h
 | .dH cs,v,h=>by
  simp only[VR,ch] at h ⊢;obtain⟨vs,e,r⟩:=h;exact⟨vs,e,aN.cm cs vs r⟩
 | .bj _ _ _,_,h=>by simp[ch] at h
 | .av _ _,_,h=>by simp[ch] at h
 | .any,_,h=>by simpa [VR,ch] using h
theorem aN.cm {w:World}{F:Nat→Prop}{σ:Nat→Option OB}:∀ (cs:List CV) (vs:List Value),bP w F cs vs→aN w F σ cs vs
 | [],_,h=>by simpa [aN,bP] using h
 | c::cs,vs,h=>by
  simp only[aN,bP] at h ⊢;obtain⟨v,r,e,h1,h2⟩:=h;exact⟨v,r,e,VR.cm c v h1,aN.cm cs r h2⟩
end
mutual
theorem VR.dG {w:World}{F:Nat→Prop}{σ:Nat→Option OB}:∀ (c:CV) (v:Value),tree c=true→VR w F σ c v→ch w F c v
 | .int _ _,_,_,h=>by simpa [VR,ch] using h
 | .bool _,_,_,h=>by simpa [VR,ch] using h
 | .str _,_,_,h=>by simpa [VR,ch] using h
 | .agg cs,v,ht,h=>by
  simp only[VR,ch,tree] at h ht ⊢;obtain⟨vs,e,r,h1⟩:=h;exact⟨vs,e,aN.dG cs vs ht r,h1⟩
 | .ai,_,_,h=>by simpa [VR,ch] using h
 | .az _ _,_,_,h=>by simpa only[VR] using h
 | .cA _,_,_,h=>by simpa only[VR] using h
 | .bG,_,_,h=>by simpa [VR,ch] using h
 | .fn _ cs,v,ht,h=>by
  simp only[VR,ch,tree] at h ht ⊢;obtain⟨vs,e,r⟩:=h;exact⟨vs,e,aN.dG cs vs ht r⟩
 | .iface _ cs,v,ht,h=>by
  simp only[VR,ch,tree] at h ht ⊢;obtain⟨vs,e,r⟩:=h;exact⟨vs,e,aN.dG cs vs ht r⟩
 | .cd,_,_,h=>by simpa [VR,ch] using h
 | .iter _ _ _,_,ht,_=>by simp[tree] at ht
 | .mp _ _,_,ht,_=>by simp[tree] at ht
 | .dH cs,v,ht,h=>by
  simp only[VR,ch,tree] at h ht ⊢;obtain⟨vs,e,r⟩:=h;exact⟨vs,e,aN.dG cs vs ht r⟩
 | .bj _ _ _,_,ht,_=>by simp[tree] at ht
 | .av _ _,_,ht,_=>by simp[tree] at ht
 | .any,_,_,h=>by simpa [VR,ch] using h
theorem aN.dG {w:World}{F:Nat→Prop}{σ:Nat→Option OB}:∀ (cs:List CV) (vs:List Value),trees cs=true→aN w F σ cs vs→bP w F cs vs
 | [],_,_,h=>by simpa [aN,bP] using h
 | c::cs,vs,ht,h=>by
  simp only[aN,bP,trees,Bool.and_eq_true] at h ht ⊢;obtain⟨v,r,e,h1,h2⟩:=h;exact⟨v,r,e,VR.dG c v ht.1 h1,aN.dG cs r ht.2 h2⟩
end
mutual
/-- The value names the object o. -/
def aK (o:Nat):CV→Bool
 | .bj p _ _=>p != o
 | .av p _=>p != o
 | .iter p _ _=>p != o
 | .mp p _=>p != o
 | .agg cs=>dt o cs
 | .fn _ cs=>dt o cs
 | .iface _ cs=>dt o cs
 | .dH cs=>dt o cs
 | _=>true
def dt (o:Nat):List CV→Bool
 | []=>true
 | c::cs=>aK o c && dt o cs
end
mutual
/-- A reading is kept when the world turns as 'Keeps' says and the places of all objects that it names stay. -/
theorem VR.bg {w w':World}{F F':Nat→Prop}{σ σ':Nat→Option OB}(h:ck w w' F F'):∀ (c:CV) (v:Value),(∀ o,aK o c=false→σ' o=σ o)→VR w F σ c v→VR w' F' σ' c v
 | .int _ _,_,_,hv=>by simpa [VR] using hv
 | .bool _,_,_,hv=>by simpa [VR] using hv
 | .str _,_,_,hv=>by simpa [VR] using hv
 | .agg cs,v,hr,hv=>by
  simp only[VR] at hv ⊢;obtain⟨vs,e,r,h1⟩:=hv;exact⟨vs,e,aN.bg h cs vs (fun o ho=>hr o Yr) r,h1⟩
 | .ai,_,_,hv=>by simpa [VR] using hv
 | .az _ _,_,_,hv=>by simp only[VR] at hv ⊢;exact ch.bg h.1 _ _ hv
 | .cA _,_,_,hv=>by simp only[VR] at hv ⊢;exact ch.bg h.1 _ _ hv
 | .bG,_,_,hv=>by simpa [VR] using hv
 | .fn _ cs,v,hr,hv=>by
  simp only[VR] at hv ⊢;obtain⟨vs,e,r⟩:=hv;exact⟨vs,e,aN.bg h cs vs (fun o ho=>hr o Yr) r⟩
 | .iface _ cs,v,hr,hv=>by
  simp only[VR] at hv ⊢;obtain⟨vs,e,r⟩:=hv;exact⟨vs,e,aN.bg h cs vs (fun o ho=>hr o Yr) r⟩
 | .cd,_,_,hv=>by simpa [VR] using hv
 | .iter k s p,v,hr,hv=>by
  have hs:=hr k (by simp[aK]);simp only[VR] at hv ⊢;obtain⟨B,r,e1,e2,e3,h1,h2⟩:=hv;obtain⟨k1,k2⟩:=h.2 r _ h2 h1 (fun _ _ _ he=>by cases he);exact⟨B,r,hs.trans e1,e2,e3,k1,k2⟩
 | .mp k es,v,hr,hv=>by
  have hs:=hr k (by simp[aK]);simp only[VR] at hv ⊢;obtain⟨B,r,arr,clock,e1,e2,e3,h1,h3,h4,h2⟩:=hv;obtain⟨k1,k2⟩:=h.2 r _ h2 h1 (fun _ _ _ he=>by cases he);exact⟨B,r,arr,clock,hs.trans e1,e2,e3,k1,h3,h4,k2⟩
 | .dH cs,v,hr,hv=>by
  simp only[VR] at hv ⊢;obtain⟨vs,e,r⟩:=hv;exact⟨vs,e,aN.bg h cs vs (fun o ho=>hr o Yr) r⟩
 | .bj o off n,v,hr,hv=>by
  have:=hr o (by simp[aK]);simp only[VR] at hv ⊢;rw[this];exact hv
 | .av o off,v,hr,hv=>by
  have:=hr o (by simp[aK]);simp only[VR] at hv ⊢;rw[this];exact hv
 | .any,_,_,hv=>by simpa [VR] using hv
theorem aN.bg {w w':World}{F F':Nat→Prop}{σ σ':Nat→Option OB}(h:ck w w' F F'):∀ (cs:List CV) (vs:List Value),(∀ o,dt o cs=false→σ' o=σ o)→aN w F σ cs vs→aN w' F' σ' cs vs
 | [],_,_,hv=>by simpa [aN] using hv
 | c::cs,vs,hr,hv=>by
  simp only[aN] at hv ⊢;obtain⟨v,r,e,h1,h2⟩:=hv;exact⟨v,r,e,VR.bg h c v (fun o ho=>hr o (by simp[dt,ho])) h1,aN.bg h cs r (fun o ho=>hr o (by simp[dt,ho])) h2⟩
end
mutual
/-- No iterator in it, on the surface. -/
def km:CV→Bool
 | .iter _ _ _=>false
 | .mp _ _=>false
 | .agg cs=>jg cs
 | .fn _ cs=>jg cs
 | .iface _ cs=>jg cs
 | .dH cs=>jg cs
 | _=>true
def jg:List CV→Bool
 | []=>true
 | c::cs=>km c && jg cs
end
mutual
/-- A reading without iterators is kept when the cells are. -/
theorem VR.mv {w w':World}{F F':Nat→Prop}{σ:Nat→Option OB}(h:lQ w w' F F'):∀ (c:CV) (v:Value),km c=true→VR w F σ c v→VR w' F' σ c v
 | .int _ _,_,_,hv=>by simpa [VR] using hv
 | .bool _,_,_,hv=>by simpa [VR] using hv
 | .str _,_,_,hv=>by simpa [VR] using hv
 | .ai,_,_,hv=>by simpa [VR] using hv
 | .az _ _,_,_,hv=>by simp only[VR] at hv ⊢;exact ch.bg h _ _ hv
 | .cA _,_,_,hv=>by simp only[VR] at hv ⊢;exact ch.bg h _ _ hv
 | .bG,_,_,hv=>by simpa [VR] using hv
 | .cd,_,_,hv=>by simpa [VR] using hv
 | .any,_,_,hv=>by simpa [VR] using hv
 | .bj _ _ _,_,_,hv=>by simpa only[VR] using hv
 | .av _ _,_,_,hv=>by simpa only[VR] using hv
 | .iter _ _ _,_,hn,_=>by simp[km] at hn
 | .mp _ _,_,hn,_=>by simp[km] at hn
 | .agg cs,v,hn,hv=>by
  simp only[VR] at hv ⊢;obtain⟨vs,e,r,h1⟩:=hv;exact⟨vs,e,aN.mv h cs vs (by simpa [km] using hn) r,h1⟩
 | .fn _ cs,v,hn,hv=>by
  simp only[VR] at hv ⊢;obtain⟨vs,e,r⟩:=hv;exact⟨vs,e,aN.mv h cs vs (by simpa [km] using hn) r⟩
 | .iface _ cs,v,hn,hv=>by
  simp only[VR] at hv ⊢;obtain⟨vs,e,r⟩:=hv;exact⟨vs,e,aN.mv h cs vs (by simpa [km] using hn) r⟩
 | .dH cs,v,hn,hv=>by
  simp only[VR] at hv ⊢;obtain⟨vs,e,r⟩:=hv;exact⟨vs,e,aN.mv h cs vs (by simpa [km] using hn) r⟩
theorem aN.mv {w w':World}{F F':Nat→Prop}{σ:Nat→Option OB}(h:lQ w w' F F'):∀ (cs:List CV) (vs:List Value),jg cs=true→aN w F σ cs vs→aN w' F' σ cs vs
 | [],_,_,hv=>by simpa [aN] using hv
 | c::cs,vs,hn,hv=>by
  simp only[jg,Bool.and_eq_true] at hn;simp only[aN] at hv ⊢;obtain⟨v,r,e,h1,h2⟩:=hv;exact⟨v,r,e,VR.mv h c v hn.1 h1,aN.mv h cs r hn.2 h2⟩
end
theorem aN.length {w:World}{F:Nat→Prop}{σ:Nat→Option OB}:∀ (cs:List CV) (vs:List Value),aN w F σ cs vs→vs.length=cs.length
 | [],vs,h=>by simp only[aN] at h;subst h;rfl
 | c::cs,vs,h=>by
  simp only[aN] at h;obtain⟨v,r,rfl,_,h2⟩:=h;simp[aN.length cs r h2]
theorem aN.get {w:World}{F:Nat→Prop}{σ:Nat→Option OB}:∀ (cs:List CV) (vs:List Value),aN w F σ cs vs→∀ (i:Nat) (c:CV),cs[i]? = some c→∃ v,vs[i]? = some v∧VR w F σ c v
 | [],vs,_,i,c,hi=>by simp at hi
 | c::cs,vs,h,i,d,hi=>by
  simp only[aN] at h;obtain⟨v,r,rfl,h1,h2⟩:=h
  cases i with
  | zero=>simp at hi;subst hi;exact⟨v,rfl,h1⟩
  | succ i=>simpa using aN.get cs r h2 i d WV
theorem aN.xS {w:World}{F:Nat→Prop}{σ:Nat→Option OB}:∀ (cs:List CV) (vs:List Value),vs.length=cs.length→(∀ (i:Nat) (c:CV),cs[i]? = some c→∃ v,vs[i]? = some v∧VR w F σ c v)→aN w F σ cs vs
 | [],vs,hl,_=>by simp only[aN];exact List.eq_nil_of_length_eq_zero hl
 | c::cs,[],hl,_=>by simp at hl
 | c::cs,v::vs,hl,h=>by
  simp only[aN];refine⟨v,vs,rfl,?_,aN.xS cs vs (by simpa using hl) fun i d hi=>?_⟩
  ·obtain⟨u,hu,hr⟩:=h 0 c rfl;simp at hu;subst hu;exact hr
  ·simpa using h (i+1) d WV
theorem aN.take {w:World}{F:Nat→Prop}{σ:Nat→Option OB}(k:Nat)(cs:List CV)(vs:List Value)(h:aN w F σ cs vs):aN w F σ (cs.take k) (vs.take k):=by
 refine aN.xS _ _ (by simp[aN.length cs vs h]) fun i c hi=>?_;rw[List.getElem?_take] at hi ⊢;split at hi
 ·rename_i hk;rw[if_pos hk];exact aN.get cs vs h i c hi
 ·cases hi
theorem aN.drop {w:World}{F:Nat→Prop}{σ:Nat→Option OB}(k:Nat)(cs:List CV)(vs:List Value)(h:aN w F σ cs vs):aN w F σ (cs.drop k) (vs.drop k):=by
 refine aN.xS _ _ (by simp[aN.length cs vs h]) fun i c hi=>?_;rw[List.getElem?_drop] at hi ⊢;exact aN.get cs vs h _ c hi
theorem aN.append {w:World}{F:Nat→Prop}{σ:Nat→Option OB}:∀ (cs ds:List CV) (vs us:List Value),aN w F σ cs vs→aN w F σ ds us→aN w F σ (cs++ds) (vs++us)
 | [],ds,vs,us,h,k=>by simp only[aN] at h;subst h;simpa using k
 | c::cs,ds,vs,us,h,k=>by
  simp only[aN] at h;obtain⟨v,r,rfl,h1,h2⟩:=h;simp only[List.cons_append,aN];exact⟨v,r++us,rfl,h1,aN.append cs ds r us h2 k⟩
theorem VR.one_cell {w:World}{F:Nat→Prop}{σ:Nat→Option OB}(c:CV)(v:Value)(h1:one c=true)(h:VR w F σ c v):v.oneCell'=true:=by
 cases c<;>simp only[VR,ch,one,Bool.false_eq_true] at h h1
 case az=>obtain⟨A,cap,rfl,_⟩:=h;rfl
 case cA=>obtain⟨ad,rfl,_⟩:=h;rfl
 case fn=>obtain⟨vs,rfl,_⟩:=h;rfl
 case iface=>obtain⟨vs,rfl,_⟩:=h;cases vs<;>rfl
 case bj o off n=>
  obtain⟨B,_,h⟩:=h;split at h
  ·obtain⟨rfl,_⟩:=h;rfl
  ·obtain⟨cap,rfl,_⟩:=h;rfl
 case av=>obtain⟨B,b,_,_,rfl⟩:=h;rfl
 case any=>exact h
 case mp=>obtain⟨B,r,arr,clock,_,_,rfl,_⟩:=h;rfl
 all_goals (subst h;rfl)
theorem aN.hZ {w:World}{F:Nat→Prop}{σ:Nat→Option OB}:∀ (cs:List CV) (vs:List Value),cs.all one=true→aN w F σ cs vs→∀ u∈vs,u.oneCell'=true
 | [],vs,_,h=>by simp only[aN] at h;subst h;simp
 | c::cs,vs,ha,h=>by
  simp only[aN] at h;obtain⟨v,r,rfl,h1,h2⟩:=h;simp only[List.all_cons,Bool.and_eq_true] at ha;intro u hu;rcases List.mem_cons.1 hu with rfl | hu
  ·exact VR.one_cell c _ ha.1 h1
  ·exact aN.hZ cs r ha.2 h2 u hu
theorem xN {v:Value}(h:v.oneCell'=true):v.cells=#[v]:=by
 cases v<;>simp_all [Value.oneCell',Value.cells]
theorem VR.flat {w:World}{F:Nat→Prop}{σ:Nat→Option OB}(c:CV)(v:Value)(hc:∀ cs,c≠.dH cs)(hi:∀ k s p,c≠.iter k s p)(h:VR w F σ c v):aN w F σ c.cells v.cells.toList∧c.cells.all one=true:=by
 by_cases ha:∃ cs,c=.agg cs
 ·obtain⟨cs,rfl⟩:=ha;simp only[VR] at h;obtain⟨vs,rfl,r,h1⟩:=h;exact⟨by simpa [CV.cells,Value.cells] using r,h1⟩
 ·have h1:one c=true:=by
   cases c<;>simp_all [one]
  have h2:c.cells=[c]:=by
   cases c<;>simp_all [CV.cells]
  rw[h2,xN (VR.one_cell c v h1 h)];exact⟨by simp only[aN];exact⟨v,[],rfl,h,rfl⟩,by simp[h1]⟩
theorem fN.Mm {w:World}{F:Nat→Prop}:∀ (cs:List CV) (ad:Addr),fN w F cs ad→cs.all one=true
 | [],_,_=>rfl
 | c::cs,ad,h=>by
  simp only[fN] at h;simp[h.2.1,fN.Mm cs _ h.2.2]
end Go.Can
/- Canonical states, their relation to the real frame and world, and the operations that turn nothing in memory. No function of the program is mentioned here. -/
namespace Go.Can
open Go.RowKit
def assoc {α:Type}:List (Nat×α)→Nat→Option α
 | [],_=>none
 | (k,v)::r,t=>if k=t then some v else assoc r t
def iY {α:Type}:List (Nat×α)→Nat→List (Nat×α)
 | [],_=>[]
 | (k,v)::r,t=>if k=t then iY r t else (k,v)::iY r t
def oM {α:Type}:List (Nat×α)→Nat→α→List (Nat×α)
 | [],_,_=>[]
 | (k,v)::r,t,x=>if k=t then (k,x)::r else (k,v)::oM r t x
theorem ez {α:Type}(l:List (Nat×α))(t u:Nat):assoc (iY l t) u=if t=u then none else assoc l u:=by
 induction l with
 | nil=>simp[iY,assoc]
 | cons x r ih=>
  obtain⟨k,v⟩:=x;simp only[iY];split
  ·rename_i hk;subst hk;rw[ih];split
   ·rfl
   ·rename_i hu;simp[assoc,hu]
  ·rename_i hk;simp only[assoc];split
   ·rename_i hu;subst hu;simp[Ne.symm hk]
   ·exact ih
theorem eJ {α:Type}(l:List (Nat×α))(t u:Nat)(x:α):assoc (oM l t x) u=if t=u then (assoc l t).map fun _=>x else assoc l u:=by
 induction l with
 | nil=>simp[oM,assoc]
 | cons y r ih=>
  obtain⟨k,v⟩:=y;simp only[oM];split
  ·rename_i hk;subst hk;simp only[assoc,if_true];split
   ·rename_i hu;simp
   ·rfl
  ·rename_i hk;simp only[assoc,hk,if_false];rw[ih];split
   ·rename_i hu;subst hu;simp[Ne.symm hk]
   ·rfl
structure Ob where
 elem:TypeId
 sz:Nat
 cells:List CV
structure St where
 env:List (Nat×CV)
 heap:List (Nat×Ob)
 nx:Nat
def St.put (s:St)(d:Option Tmp)(c:CV):St:=
 match d with
 | some t=>{ s with env:=(t,c)::iY s.env t }
 | none=>s
def St.del (s:St)(d:Option Tmp):St:=
 match d with
 | some t=>{ s with env:=iY s.env t }
 | none=>s
structure Cx where
 w0:World
 F:Nat→Prop
 own:Nat→Prop
 hF:∀ b,F b→b<w0.heap.size
 nt:Nat
 σ0:Nat→Option OB
 n0:Nat
def aT (σ:Nat→Option OB)(o:Nat):Option Nat:=(σ o).bind (·.iQ)
def FB (C:Cx)(σ:Nat→Option OB)(H:List (Nat×Ob))(b:Nat):Prop:=C.F b∨∃ o ob,assoc H o=some ob∧aT σ o=some b
def ObR (C:Cx)(w:World)(σ:Nat→Option OB)(H:List (Nat×Ob))(o:Nat)(ob:Ob):Prop:=
 ∃ B,σ o=some B∧B.sz=ob.sz∧(B.iQ=none→ob.cells=[])∧ob.cells.all one=true∧
  ∀ b,B.iQ=some b→∃ cur:Array Value,w.heap[b]? = some (.cells cur ob.elem (0,0))∧cur.size=B.room∧¬ C.F b∧(C.own b∨C.w0.heap.size≤b)∧
   ob.cells.length≤cur.size∧aN w (FB C σ H) σ ob.cells (cur.toList.take ob.cells.length)
structure aL (C:Cx)(σ:Nat→Option OB)(s:St)(a:Act)(w:World):Prop where
 mD:a.defers=[]
 tm:a.tmps.size=C.nt
 os:w.os=C.w0.os
 tape:w.tape=C.w0.tape
 output:w.output=C.w0.output
 size:C.w0.heap.size≤w.heap.size
 frame:∀ b,b<C.w0.heap.size→¬ C.own b→w.heap[b]? = C.w0.heap[b]?
 env:∀ t c,assoc s.env t=some c→∃ v,a.tmps[t]? = some v∧VR w (FB C σ s.heap) σ c v
 obj:∀ o ob,assoc s.heap o=some ob→ObR C w σ s.heap o ob
 inj:∀ o o' ob P6 b,assoc s.heap o=some ob→assoc s.heap o'=some P6→aT σ o=some b→aT σ o'=some b→o=o'
 nx:∀ o,s.nx≤o→σ o=none
 gy:∀ o,o<C.n0→σ o=C.σ0 o
 low:C.n0≤s.nx
 new:∀ o B b,C.n0≤o→σ o=some B→B.iQ=some b→C.own b∨C.w0.heap.size≤b
def Rel (C:Cx)(s:St)(a:Act)(w:World):Prop:=∃ σ,aL C σ s a w
section
variable {C:Cx}{σ:Nat→Option OB}{s:St}{a:Act}{w:World}
theorem Dg {a:Act}{d t:Nat}{v:Value}:(a.put (some d) v).tmps[t]? = if d=t then (if t<a.tmps.size then some v else none) else a.tmps[t]?:=by
 simp only[Act.put];rw[Array.getElem?_setIfInBounds];split
 ·rename_i h;subst h;rfl
 ·rfl
theorem aL.put (h:aL C σ s a w){d:Option Tmp}{c:CV}{v:Value}(hd:∀ t,d=some t→t<a.tmps.size)(hv:VR w (FB C σ s.heap) σ c v):aL C σ (s.put d c) (a.put d v) w:=by
 cases d with
 | none=>exact h
 | some d=>
  refine⟨h.mD,by simpa [Act.put] using h.tm,h.os,h.tape,h.output,h.size,h.frame,?_,h.obj,h.inj,h.nx,h.gy,h.low,h.new⟩;intro t c' hc;rw[Dg];simp only[St.put,assoc] at hc;split at hc
  ·rename_i e;subst e;cases hc;rw[if_pos rfl,if_pos (hd _ rfl)];exact⟨v,rfl,hv⟩
  ·rename_i e;rw[ez,if_neg e] at hc;rw[if_neg e];exact h.env t c' hc
theorem aL.del (h:aL C σ s a w){d:Option Tmp}(v:Value):aL C σ (s.del d) (a.put d v) w:=by
 cases d with
 | none=>exact h
 | some d=>
  refine⟨h.mD,by simpa [Act.put] using h.tm,h.os,h.tape,h.output,h.size,h.frame,?_,h.obj,h.inj,h.nx,h.gy,h.low,h.new⟩;intro t c' hc;rw[Dg];simp only[St.del] at hc;rw[ez] at hc;split at hc
  ·cases hc
  ·rename_i e;rw[if_neg e];exact h.env t c' hc
def fL:Value→Option CV
 | .int k n=>some (.int k n)
 | .bool b=>some (.bool b)
 | .string s=>some (.str s)
 | .pointer none=>some .bG
 | .slice none 0 0=>some .ai
 | .nilFunc=>some .cd
 | .nilIface=>some (.iface 0 [])
 | .map none=>some .any
 | _=>none
def iO:List Value→Option (List CV)
 | []=>some []
 | v::r=>match fL v,iO r with
  | some c,some cs=>some (c::cs)
  | _,_=>none
def sA:Value→Option CV
 | .agg cs=>(iO cs.toList).map CV.agg
 | .tuple vs=>if vs.isEmpty then some (.dH []) else none
 | v=>fL v
theorem mG {F:Nat→Prop}{v:Value}{c:CV}(h:fL v=some c):ch w F c v∧one c=true:=by
 unfold fL at h;split at h<;>first | (cases h;simp[ch,bP,ifv,one,Value.oneCell'];done) | (cases h)
theorem cN {F:Nat→Prop}:∀ (vs:List Value) (cs:List CV),iO vs=some cs→bP w F cs vs∧cs.all one=true
 | [],cs,h=>by simp only[iO] at h;cases h;simp[bP]
 | v::r,cs,h=>by
  simp only[iO] at h;split at h
  ·rename_i c Rs h1 h2;cases h;obtain⟨k1,k2⟩:=mG (w:=w) (F:=F) h1;obtain⟨k3,k4⟩:=cN (F:=F) r Rs h2;simp only[bP];exact⟨⟨v,r,rfl,k1,k3⟩,by simp[k2,k4]⟩
  ·cases h
theorem oC {F:Nat→Prop}{v:Value}{c:CV}(h:sA v=some c):ch w F c v:=by
 unfold sA at h;split at h
 ·rename_i cs;obtain⟨x,h1,h2⟩:=Option.map_eq_some_iff.1 h;subst h2;obtain⟨k1,k2⟩:=cN (w:=w) (F:=F) _ _ h1;simp only[ch];exact⟨cs.toList,by simp,k1,k2⟩
 ·rename_i vs;split at h
  ·rename_i he;cases h;simp only[ch,bP];exact⟨[],by simpa using he,rfl⟩
  ·cases h
 ·exact (mG h).1
def ev (s:St):Operand→Option CV
 | .tmp t=>assoc s.env t
 | .const v=>sA v
 | .func f=>some (.fn f [])
 | .global _=>none
def yN (s:St):List Operand→Option (List CV)
 | []=>some []
 | x::r=>match ev s x,yN s r with
  | some c,some cs=>some (c::cs)
  | _,_=>none
theorem bL (h:aL C σ s a w){x:Operand}{c:CV}(he:ev s x=some c):VR w (FB C σ s.heap) σ c (a.eval x):=by
 cases x with
 | tmp t=>
  obtain⟨v,h1,h2⟩:=h.env t c he;simp only[Act.eval];have:a.tmps.getD t undef=v:=by simp[Array.getD_eq_getD_getElem?,h1]
  rw[this];exact h2
 | const v=>exact VR.cm _ _ (oC he)
 | func f=>cases he;simp only[VR];exact⟨[],rfl,rfl⟩
 | global g=>cases he
theorem oB (h:aL C σ s a w):∀ (xs:List Operand) (cs:List CV),yN s xs=some cs→aN w (FB C σ s.heap) σ cs (xs.map a.eval)
 | [],cs,he=>by simp only[yN] at he;cases he;rfl
 | x::r,cs,he=>by
  simp only[yN] at he;split at he
  ·rename_i c Rs h1 h2;cases he;simp only[aN];exact⟨_,_,rfl,bL h h1,oB h r Rs h2⟩
  ·cases he
end
inductive TD where
 | int (k:IntKind)
 | bool
 | str
 | sl (e:TypeId)
 | bw (fs:List (Nat×TypeId))
 | arr (n:Nat) (e:TypeId)
 | ptr (e:TypeId)
 | func
 | Ml
def rh:TypeDesc→TD
 | .int k=>.int k
 | .bool=>.bool
 | .string=>.str
 | .slice e=>.sl e
 | .struct fs=>.bw (fs.toList.map fun f=>(f.offset,f.type))
 | .array n e=>.arr n e
 | .pointer e=>.ptr e
 | .func _ _ _=>.func
 | _=>.Ml
structure TI where
 d:TD
 size:Nat
 bytes:Nat
 zero:List CV
def TI.agg (i:TI):Bool:=match i.d with
 | .bw _=>true
 | .arr _ _=>true
 | _=>false
structure cg (P:Program)(t:TypeId)(i:TI):Prop where
 info:∃ f z,P.info? t=some f∧f.size=i.size∧f.bytes=i.bytes∧f.zero=some z∧iO z.cells.toList=some i.zero
 AM:∃ d,P.underlying t=some d∧rh d=i.d
 len:i.zero.length=i.size
def aB (P:Program)(au:List (Nat×TI)):Prop:=∀ t i,assoc au t=some i→cg P t i
theorem cg.mk' {P:Program}{t:TypeId}{i:TI}(h1:(P.info? t).map (fun f=>(f.size,f.bytes,f.zero.map fun z=>iO z.cells.toList))=some (i.size,i.bytes,some (some i.zero)))
  (h2:(P.underlying t).map rh=some i.d) (h3:i.zero.length=i.size):cg P t i:=by
 obtain⟨f,e1,e2⟩:=Option.map_eq_some_iff.1 h1;obtain⟨d,e3,e4⟩:=Option.map_eq_some_iff.1 h2;simp only[Prod.mk.injEq] at e2;obtain⟨z,e5,e6⟩:=Option.map_eq_some_iff.1 e2.2.2;exact⟨⟨f,z,e1,e2.1,e2.2.1,e5,e6⟩,⟨d,e3,e4⟩,h3⟩
theorem aB.nil {P:Program}:aB P []:=fun _ _ h=>by cases h
theorem aB.cons {P:Program}{t:Nat}{i:TI}{r:List (Nat×TI)}(h:cg P t i)(hr:aB P r):aB P ((t,i)::r):=fun u j hj=>by
 simp only[assoc] at hj;split at hj
 ·rename_i e;subst e;cases hj;exact h
 ·exact hr u j hj
theorem bu {P:Program}{t:TypeId}{d:TypeDesc}(h:P.underlying t=some d)(w:World):(underlying t).run P w=.ok d w:=run_underlying h w
theorem s7 {P:Program}{t:TypeId}{f:TypeInfo}(h:P.info? t=some f)(w:World):(typeInfo t).run P w=.ok f w:=by
 simp[typeInfo,h]
theorem cG {P:Program}{t:TypeId}{f:TypeInfo}(h:P.info? t=some f)(w:World):(sizeOf t).run P w=.ok f.size w:=by
 simp[sizeOf,s7 h]
def arith (op:BinOp)(k:IntKind)(a b:Int):Option CV:=
 match op with
 | .add=>some (.int k (k.wrap (a+b)))
 | .sub=>some (.int k (k.wrap (a-b)))
 | .mul=>some (.int k (k.wrap (a*b)))
 | .quo=>if b=0 then none else some (.int k (k.wrap (a.tdiv b)))
 | .rem=>if b=0 then none else some (.int k (a.tmod b))
 | .and=>some (.int k (k.wrap (BitVec.ofInt k.bits a &&& BitVec.ofInt k.bits b).toNat))
 | .or=>some (.int k (k.wrap (BitVec.ofInt k.bits a ||| BitVec.ofInt k.bits b).toNat))
 | .xor=>some (.int k (k.wrap (BitVec.ofInt k.bits a ^^^ BitVec.ofInt k.bits b).toNat))
 | .andNot=>some (.int k (k.wrap (BitVec.ofInt k.bits a &&& ~~~ BitVec.ofInt k.bits b).toNat))
 | .eql=>some (.bool (a == b))
 | .neq=>some (.bool (a != b))
 | .lss=>some (.bool (decide (a<b)))
 | .leq=>some (.bool (decide (a≤b)))
 | .gtr=>some (.bool (decide (a > b)))
 | .geq=>some (.bool (decide (a≥b)))
 | _=>none
def kM (op:BinOp)(x y:ByteArray):Option CV:=
 match op with
 | .add=>if x.size+y.size≤9223372036854775807 then some (.str (x++y)) else none
 | .eql=>some (.bool (x.toList == y.toList))
 | .neq=>some (.bool (!(x.toList == y.toList)))
 | .lss=>some (.bool (Op.bytesLess x.toList y.toList))
 | .leq=>some (.bool (Op.bytesLess x.toList y.toList || x.toList == y.toList))
 | .gtr=>some (.bool (!(Op.bytesLess x.toList y.toList || x.toList == y.toList)))
 | .geq=>some (.bool (!Op.bytesLess x.toList y.toList))
 | _=>none
def BX (op:BinOp)(d:TD):CV→CV→Option CV
 | .int k a,.int k' b=>match op with
  | .shl=>if b<0 then none else some (.int k (k.wrap (a*2 ^ (min b.toNat k.bits))))
  | .shr=>if b<0 then none else some (.int k (a.fdiv (2 ^ (min b.toNat k.bits))))
  | op=>if k=k' then arith op k a b else none
 | .str x,.str y=>kM op x y
 | .bool a,.bool b=>match d,op with
  | .bool,.eql=>some (.bool (a == b))
  | .bool,.neq=>some (.bool (!(a == b)))
  | _,_=>none
 | _,_=>none
theorem dn {w:World}{F:Nat→Prop}{σ:Nat→Option OB}(k:IntKind)(n:Int):VR w F σ (.int k n) (.int k n):=by simp[VR]
theorem dv {w:World}{F:Nat→Prop}{σ:Nat→Option OB}(b:Bool):VR w F σ (.bool b) (.bool b):=by simp[VR]
theorem yG {w:World}{F:Nat→Prop}{σ:Nat→Option OB}(b:ByteArray):VR w F σ (.str b) (.string b):=by simp[VR]
theorem IC {P:Program}{w:World}{op:BinOp}{k:IntKind}{xt:TypeId}{a b:Int}{c:CV}(hs1:op≠.shl)(XG:op≠.shr)(h:arith op k a b=some c){F:Nat→Prop}{σ:Nat→Option OB} :
  ∃ v,(binOp op xt (.int k a) (.int k b)).run P w=.ok v w∧VR w F σ c v:=by
 cases op<;>simp only[arith] at h
 case add=>cases h;exact⟨_,by simp[binOp,Op.intArith],dn _ _⟩
 case sub=>cases h;exact⟨_,by simp[binOp,Op.intArith],dn _ _⟩
 case mul=>cases h;exact⟨_,by simp[binOp,Op.intArith],dn _ _⟩
 case quo=>
  split at h
  ·cases h
  ·cases h;rename_i hb;exact⟨_,by simp[binOp,Op.intDiv,hb],dn _ _⟩
 case rem=>
  split at h
  ·cases h
  ·cases h;rename_i hb;exact⟨_,by simp[binOp,Op.intDiv,hb],dn _ _⟩
 case and=>cases h;exact⟨_,by simp[binOp,Op.intBits],dn _ _⟩
 case or=>cases h;exact⟨_,by simp[binOp,Op.intBits],dn _ _⟩
 case xor=>cases h;exact⟨_,by simp[binOp,Op.intBits],dn _ _⟩
 case andNot=>cases h;exact⟨_,by simp[binOp,Op.intBits],dn _ _⟩
 case eql=>cases h;exact⟨_,by simp[binOp,Op.intCmp],dv _⟩
 case neq=>cases h;exact⟨_,by simp[binOp,Op.intCmp],dv _⟩
 case lss=>cases h;exact⟨_,by simp[binOp,Op.intCmp],dv _⟩
 case leq=>cases h;exact⟨_,by simp[binOp,Op.intCmp],dv _⟩
 case gtr=>cases h;exact⟨_,by simp[binOp,Op.intCmp],dv _⟩
 case geq=>cases h;exact⟨_,by simp[binOp,Op.intCmp],dv _⟩
 all_goals first | cases h | exact absurd rfl hs1 | exact absurd rfl XG
theorem Gd {P:Program}{w:World}{op:BinOp}{xt:TypeId}{a b:ByteArray}{c:CV}(h:kM op a b=some c){F:Nat→Prop}{σ:Nat→Option OB} :
  ∃ v,(binOp op xt (.string a) (.string b)).run P w=.ok v w∧VR w F σ c v:=by
 cases op<;>simp only[kM] at h
 case add=>
  split at h
  ·rename_i hb;cases h;refine⟨_,?_,yG _⟩;have hm:IntKind.i64.max=9223372036854775807:=by simp[IntKind.max,IntKind.signed,IntKind.bits]
   simp only[binOp,Op.stringOp,hm];rw[if_neg yA];rfl
  ·cases h
 case eql=>cases h;exact⟨_,by simp[binOp,Op.stringOp],dv _⟩
 case neq=>cases h;exact⟨_,by simp[binOp,Op.stringOp],dv _⟩
 case lss=>cases h;exact⟨_,by simp[binOp,Op.stringOp],dv _⟩
 case leq=>cases h;exact⟨_,by simp[binOp,Op.stringOp],dv _⟩
 case gtr=>cases h;exact⟨_,by simp[binOp,Op.stringOp],dv _⟩
 case geq=>cases h;exact⟨_,by simp[binOp,Op.stringOp],dv _⟩
 all_goals cases h
end Go.Can
