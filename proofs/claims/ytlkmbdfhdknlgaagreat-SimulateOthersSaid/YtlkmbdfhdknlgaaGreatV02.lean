/- Canonical values and their -/
import Derived.StillTail
import Derived.ScopeJumps
import Derived.Laws.AppendOwn
import Derived.Laws.CopyOwn
import Derived.Laws.MakeOwn
import Derived.Laws.OwnMore
import Derived.Below
import Derived.IntWalk
import Derived.Test.YtlkmbdfhdknlgaaGreatV01
namespace Go.Can
open List
theorem yA {p:Prop}(h:p:=by omega):p:=h
theorem xr {p:Prop}(h:p:=by simp):p:=h
theorem GK {p:Prop}(h:p:=by kernel_rfl):p:=h
theorem OU {p:Prop}(h:p:=by simp[hC]):p:=h
theorem O4 {p:Prop}(h:p:=by first | rfl | simp only[List.cons_append,List.nil_append,List.append_nil,trees,tree,aJ,xd,Bool.and_self,Bool.and_true,Bool.true_and]):p:=h
theorem O3 {p:Prop}(h:p:=by decide):p:=h
theorem Pd {p:Prop}(h:p:=by first | rfl | simp[br,bf,aL,cQ,bP,aX,aU,dq,na,eK,assoc,ec,jU,-List.all_eq_true,-List.all_flatMap,gG]):p:=h
theorem Px {p:Prop}(h:p:=by first | rfl | decide):p:=h
theorem Pw {p:Prop}(h:p:=by simp[assoc]):p:=h
theorem PC {p:Prop}(h:p:=by simp[ev,assoc]):p:=h
theorem PA {p:Prop}(h:p:=by simp;omega):p:=h
theorem PU {p:Prop}(h:p:=by rfl):p:=h
theorem PZ {p:Prop}(h:p:=by (try simp only[ByteArray.size_append]);omega):p:=h
theorem Qr {p:Prop}(h:p:=by simp[-List.all_eq_true,-List.all_flatMap,-List.all_map]):p:=h
theorem Qe {p:Prop}(h:p:=by first | rfl | simp[aX,aU,aE,gG,-List.all_eq_true]):p:=h
theorem Qd {p:Prop}(h:p:=by first | rfl | simp[aI,ints]):p:=h
theorem Ue {p:Prop}(h:p:=by simp[-List.all_eq_true]):p:=h
theorem Sa {p:Prop}(h:p:=by simpa using h):p:=h
theorem Rn {p:Prop}(h:p:=by simp[Op.operands]):p:=h
theorem Rt {p:Prop}(h:p:=by first | exact cC _ | exact xe _ (by first | rfl | assumption | simp[trees,tree, *])):p:=h
theorem RZ {p:Prop}(h:p:=by first | assumption | rfl | simp[br,bf,aL,cQ,bP,aX,aU,dq,na,eK,assoc,ec,jU,-List.all_eq_true,-List.all_flatMap,gG]):p:=h
theorem RK {p:Prop}(h:p:=by first | rfl | simp only[List.all_cons,List.all_nil,okW,tree, *];rfl | simp[okW,tree,trees, *]):p:=h
theorem RJ {p:Prop}(h:p:=by first | rfl | assumption | simp[tree,trees, *]):p:=h
theorem RI {p:Prop}(h:p:=by first | rfl | simp[bJ,ev,assoc]):p:=h
theorem RY {p:Prop}(h:p:=by simp[-List.all_eq_true,-List.all_flatMap]):p:=h
theorem Sz {p:Prop}(h:p:=by simp[Ex.args]):p:=h
theorem yB {p:Prop}(h:p:=by simp[lU,aj O1]):p:=h
theorem S9 {p:Prop}(h:p:=by simp[aI]):p:=h
theorem Ti {p:Prop}(h:p:=by simp[eU]):p:=h
theorem Vz {p:Prop}(h:p:=by simp[hx]):p:=h
theorem Tz {p:Prop}(h:p:=by first | rfl | exact aJ _ | exact xd _):p:=h
theorem Ty {p:Prop}(h:p:=by simp only[trees,tree];rfl):p:=h
theorem TY {p:Prop}(h:p:=by simp[cO,nu,lF,tree,assoc,-List.all_eq_true,-List.all_flatMap,aw tG,aw tT,aw tL,aw tV,aw OW,aw OY]):p:=h
theorem TW {p:Prop}(h:p:=by simp only[ByteArray.size_append];omega):p:=h
theorem Uu {p:Prop}(h:p:=by first | rfl | exact aJ _):p:=h
theorem Ut {p:Prop}(h:p:=by simp only[B3];omega):p:=h
theorem U9 {p:Prop}(h:p:=by simp[-List.all_eq_true,-List.all_flatMap,-List.all_map,aj tG,aj tT,aj tL,aj tV,aj OW,aj OY]):p:=h
theorem Vy {p:Prop}(h:p:=by rw[aA cm];omega):p:=h
theorem Vx {p:Prop}(h:p:=by simp[aI,dU,mh]):p:=h
theorem Vv {p:Prop}(h:p:=by simp[mE,CL,tree]):p:=h
theorem Vu {p:Prop}(h:p:=by simp[Tryz.ntmps53]):p:=h
theorem Vt {p:Prop}(h:p:=by simp[aI,mh]):p:=h
theorem Wc {p:Prop}(h:p:=by simp[gK,Dx,-List.all_eq_true,-List.all_flatMap]):p:=h
theorem Wb {p:Prop}(h:p:=by simp only[tree,trees,Bool.and_self]):p:=h
theorem WJ {p:Prop}(h:p:=by first | rfl | simp only[List.append_nil,trees,tree,aJ,Bool.and_self]):p:=h
theorem WI {p:Prop}(h:p:=by simp[na,br,bP,ec,jU]):p:=h
theorem WH {p:Prop}(h:p:=by simpa [a9,m1] using hb):p:=h
theorem WG {p:Prop}(h:p:=by simp only;omega):p:=h
theorem yBy {p:Prop}(h:p:=by simpa using hi):p:=h
theorem yBz {p:Prop}(h:p:=by simpa using hl):p:=h
theorem yC {p:Prop}(h:p:=by simpa using h2):p:=h
theorem XE {p:Prop}(h:p:=by simp[dq,aE,aU,a1,a2,a3,-List.all_eq_true];simp):p:=h
theorem XD {p:Prop}(h:p:=by simp[eK,assoc,br,bf,bP,aL,cQ,rL,rV,r1,r2,ra]):p:=h
theorem XC {p:Prop}(h:p:=by simp[-List.all_eq_true,-List.all_flatMap,aj TB]):p:=h
theorem XB {p:Prop}(h:p:=by simp[mh,dE,-List.all_eq_true,-List.all_flatMap]):p:=h
theorem Xz {p:Prop}(h:p:=by rw[aA (f:=cg) (n:=2) cm];simp):p:=h
theorem Xy {p:Prop}(h:p:=by simp only[List.length_cons];omega):p:=h
theorem Xx {p:Prop}(h:p:=by simpa [aP] using ho):p:=h
theorem Xw {p:Prop}(h:p:=by simp[Tryz.ntmps14]):p:=h
theorem Yp {p:Prop}(h:p:=by simp[cO,nu,lF,tree,assoc,-List.all_eq_true,-List.all_flatMap,aw Ve]):p:=h
theorem Yo {p:Prop}(h:p:=by simp[cO,nu,lF,tree,assoc,-List.all_eq_true,-List.all_flatMap,OZ]):p:=h
theorem Yn {p:Prop}(h:p:=by simp only[List.all_cons,List.all_nil,okW,tree];rfl):p:=h
theorem Ym {p:Prop}(h:p:=by simp[-List.all_eq_true,-List.all_flatMap,gG]):p:=h
theorem Yl {p:Prop}(h:p:=by simp[gK,-List.all_eq_true,-List.all_flatMap]):p:=h
theorem Yk {p:Prop}(h:p:=by simp[aI,-List.all_eq_true,gG]):p:=h
theorem yCr {p:Prop}(h:p:=by simp[ev,assoc,SB]):p:=h
theorem yCs {p:Prop}(h:p:=by simp[-List.all_eq_true,-List.all_flatMap,bq 2 _ hX,bq 2 _ hY,bq 2 _ Vc]):p:=h
theorem Z9 {p:Prop}(h:p:=by simp[cO,nu,lF,tree,assoc,-List.all_eq_true,-List.all_flatMap]):p:=h
theorem Z8 {p:Prop}(h:p:=by simp[-List.all_eq_true,-List.all_flatMap,aj Uf]):p:=h
theorem Z7 {p:Prop}(h:p:=by simp[aI,mh,-List.all_eq_true,-List.all_flatMap]):p:=h
theorem Z6 {p:Prop}(h:p:=by simp only;rw[DM (HB nx) OX];exact Pc):p:=h
theorem Z5 {p:Prop}(h:p:=by simp[aI,-List.all_eq_true]):p:=h
theorem yD {p:Prop}(h:p:=by simp[-List.all_eq_true,-List.all_flatMap,bq 4 _ hY,aj (ah cP l),bq 4 _ Vc,aj V5]):p:=h
theorem yDa {p:Prop}(h:p:=by unfold Func.isWrapper;first | (rw[if_pos (by decide +kernel)];kernel_rfl) | (rw[if_neg (by decide +kernel)];exact⟨rfl,rfl⟩)):p:=h
theorem yDc {p:Prop}(h:p:=by simp[cO,nu,lF,tree,assoc,-List.all_eq_true,-List.all_flatMap,aw tG,aw tT,aw tS]):p:=h
theorem yDe {p:Prop}(h:p:=by simp only[pC,Bool.and_eq_true,Bool.not_eq_true'] at hp;exact hp.1):p:=h
theorem yDg {p:Prop}(h:p:=by simp[nk,-List.all_eq_true,-List.all_flatMap,-List.all_map]):p:=h
theorem yDh {p:Prop}(h:p:=by simp[aI,ints,mh,-List.all_eq_true,-List.all_flatMap]):p:=h
theorem yDi {p:Prop}(h:p:=by rw[<- Array.toArray_toList (xs:=cl.argTypes),Qt]):p:=h
theorem yDj {p:Prop}(h:p:=by have:(⟨#[9]⟩:ByteArray).size=1:=rfl;omega):p:=h
theorem yDk {p:Prop}(h:p:=by rw[<- Array.toArray_toList (xs:=cl.args),ha]):p:=h
theorem yDl {p:Prop}(h:p:=by simp[cO,nu,lF,tree,assoc,-List.all_eq_true,-List.all_flatMap,aw tG,aw tT,aw XI,aw tf,aw tV]):p:=h
theorem yDm {p:Prop}(h:p:=by simp[-List.all_eq_true,-List.all_flatMap,-List.all_map,aj tG,aj tT,aj tL,aj tV,aN,aj OW,aj OY]):p:=h
theorem yDn {p:Prop}(h:p:=by simp[cO,nu,lF,tree,assoc,-List.all_eq_true,-List.all_flatMap,aw tG,aw tT,aw XI,aw tk]):p:=h
theorem yDo {p:Prop}(h:p:=by simp[-List.all_eq_true,-List.all_flatMap,-List.all_map,aj tG,aj tT,aj tL,aj OW,aj OY]):p:=h
theorem yDp {p:Prop}(h:p:=by simp[-List.all_eq_true,-List.all_flatMap,-List.all_map,aj tG,aj tL,aj tV,aj OW,aj OY]):p:=h
theorem yDq {p:Prop}(h:p:=by simp only[dC,pf];simp[-List.all_eq_true,-List.all_flatMap,bC (ah aJ N),y3]):p:=h
theorem yDr {p:Prop}(h:p:=by simp only[dC,pf];simp[-List.all_eq_true,-List.all_flatMap,gG,aj (ah aJ N)]):p:=h
theorem yDs {p:Prop}(h:p:=by simp only[dC,pf,lH];simp[-List.all_eq_true,-List.all_flatMap,aj (ah aJ _)]):p:=h
theorem yDt {p:Prop}(h:p:=by simp[cO,nu,lF,tree,assoc,-List.all_eq_true,-List.all_flatMap,aw tLv,aw Tl]):p:=h
theorem yDu {p:Prop}(h:p:=by simp only[ca];exact⟨v0,_,rfl,g0,⟨v1,_,rfl,g1,⟨v2,_,rfl,g2,⟨v3,_,rfl,g3,rfl⟩⟩⟩⟩):p:=h
theorem yDw {p:Prop}(h:p:=by simp[-List.all_eq_true,-List.all_flatMap,-List.all_map,aj tT,aj tG,aj XI]):p:=h
theorem yDx {p:Prop}(h:p:=by simp[-List.all_eq_true,-List.all_flatMap,aj (bU out),aj (bU th.1)]):p:=h
theorem yDy {p:Prop}(h:p:=by have:(jz ⟨#[9]⟩ bd).size=(jz qu bd).size:=rfl;simp only[ByteArray.size_append];omega):p:=h
theorem yE {p:Prop}(h:p:=by simp[cO,nu,lF,tree,assoc,-List.all_eq_true,-List.all_flatMap,aw tp1]):p:=h
theorem yEa {p:Prop}(h:p:=by simp only[Op.operands];simp only[List.mem_toArray,List.mem_map];exact⟨x,hx,rfl⟩):p:=h
theorem yEb {p:Prop}(h:p:=by simp[-List.all_eq_true,-List.all_flatMap,gG,aj (ah aJ N)]):p:=h
open Go.RowKit
inductive CV where
 | int (k:IntKind) (n:Int)
 | bool (b:Bool)
 | str (s:ByteArray)
 | agg (cs:List CV)
 | au (cs:List CV) (n:Nat)
 | ak
 | de (cs:List CV)
 | bM
 | fn (f:FuncId) (QC:List CV)
 | cH
 | iface (t:TypeId) (cs:List CV)
 | iter (k:Nat) (s:ByteArray) (p:Nat)
 | mp (k:Nat) (es:List (Value×Value))
 | bY (vs:List CV)
 | bg (o off n:Nat)
 | ax (o off:Nat)
 | any
instance : Inhabited CV := ⟨.bM⟩
def one:CV->Bool
 | .agg _=>false
 | .bY _=>false
 | .iter _ _ _=>false
 | _=>true
def CV.cells:CV->List CV
 | .agg cs=>cs
 | c=>[c]
def Oy (t:TypeId):List Value->Value
 | []=>.nilIface
 | v::_=>.iface t v
mutual
/-- The immutable ones: the value v reads as c; no cell of it lies in a block of F. -/
def cr (w:World)(F:Nat->Prop):CV->Value->Prop
 | .int k n,v=>v=.int k n
 | .bool b,v=>v=.bool b
 | .str s,v=>v=.string s
 | .agg cs,v=>∃ vs:List Value,v=.agg vs.toArray/\ca w F cs vs/\cs.all one=true
 | .au cs n,v=>∃ A cap,v=.slice A n cap/\n<=cap/\cap<=maxLen/\((n=0/\cs=[])\/∃ ad,A=some ad/\fx w F cs ad)
 | .ak,v=>v=.slice none 0 0
 | .de cs,v=>∃ ad,v=.pointer (some ad)/\fx w F cs ad
 | .bM,v=>v=.pointer none
 | .fn f QC,v=>∃ vs:List Value,v=.func (.func f) #[] vs.toArray/\ca w F QC vs
 | .iface f QC,v=>∃ vs:List Value,v=Oy f vs/\ca w F QC vs
 | .cH,v=>v=.nilFunc
 | .iter _ _ _,_=>False
 | .mp _ _,_=>False
 | .bY cs,v=>∃ vs:List Value,v=.tuple vs.toArray/\ca w F cs vs
 | .bg _ _ _,_=>False
 | .ax _ _,_=>False
 | .any,v=>v.oneCell'=true
def ca (w:World)(F:Nat->Prop):List CV->List Value->Prop
 | [],vs=>vs=[]
 | c::cs,vs=>∃ v r,vs=v::r/\cr w F c v/\ca w F cs r
/-- The cells from an address on. -/
def fx (w:World)(F:Nat->Prop):List CV->Addr->Prop
 | [],_=>True
 | c::cs,ad=>(∃ u,w.cell? ad=some u/\¬ F ad.block/\cr w F c u)/\one c=true/\fx w F cs (ad.add 1)
end
theorem F3 (a:Addr)(n:Nat):(a.add n).block=a.block:=by unfold Addr.add;split<;>rfl
theorem add_add (a:Addr)(i j:Nat):(a.add i).add j=a.add (i+j):=by
 unfold Addr.add;by_cases hi:i=0<;>by_cases hj:j=0<;>simp[hi,hj,Nat.add_assoc]
theorem add_zero (a:Addr):a.add 0=a:=by simp[Addr.add]
theorem add_lit (b i j:Nat):(⟨b,i,none⟩:Addr).add j=⟨b,i+j,none⟩:=by
 unfold Addr.add;split<;>simp_all
def nj (w w':World)(F F':Nat->Prop):Prop:=∀ ad u,¬ F ad.block->w.cell? ad=some u->w'.cell? ad=some u/\¬ F' ad.block
def cY (w w':World)(F F':Nat->Prop):Prop:=nj w w' F F'/\
 ∀ r x,¬ F r->w.heap[r]? = some x->(∀ c e f,x≠.cells c e f)->w'.heap[r]? = some x/\¬ F' r
theorem cY.same {w:World}{F F':Nat->Prop}(h:∀ b,F' b->F b):cY w w F F':=⟨λ _ _ hf hu=>⟨hu,λ k=>hf (h _ k)⟩,λ _ _ hf hu _=>⟨hu,λ k=>hf (h _ k)⟩⟩
mutual
theorem cr.bL {w w':World}{F F':Nat->Prop}(h:nj w w' F F'):∀ (c:CV) (v:Value),cr w F c v->cr w' F' c v
 | .int _ _,_,hv=>by simpa [cr] using hv
 | .bool _,_,hv=>by simpa [cr] using hv
 | .str _,_,hv=>by simpa [cr] using hv
 | .agg cs,v,hv=>by
  simp only[cr] at hv |-;obtain⟨vs,e,r,h1⟩:=hv;exact⟨vs,e,ca.bL h cs vs r,h1⟩
 | .ak,_,hv=>by simpa [cr] using hv
 | .au cs n,v,hv=>by
  simp only[cr] at hv |-;obtain⟨A,cap,e,h1,h2,h4⟩:=hv;refine⟨A,cap,e,h1,h2,?_⟩;rcases h4 with h4 | ⟨ad,ea,hm⟩
  ·exact .inl h4
  ·exact .inr ⟨ad,ea,fx.bL h cs ad hm⟩
 | .de cs,v,hv=>by
  simp only[cr] at hv |-;obtain⟨ad,e,hm⟩:=hv;exact⟨ad,e,fx.bL h cs ad hm⟩
 | .bM,_,hv=>by simpa [cr] using hv
 | .fn f QC,v,hv=>by
  simp only[cr] at hv |-;obtain⟨vs,e,r⟩:=hv;exact⟨vs,e,ca.bL h QC vs r⟩
 | .iface f QC,v,hv=>by
  simp only[cr] at hv |-;obtain⟨vs,e,r⟩:=hv;exact⟨vs,e,ca.bL h QC vs r⟩
 | .cH,_,hv=>by simpa [cr] using hv
 | .iter _ _ _,_,hv=>by simp[cr] at hv
 | .mp _ _,_,hv=>by simp[cr] at hv
 | .bY cs,v,hv=>by
  simp only[cr] at hv |-;obtain⟨vs,e,r⟩:=hv;exact⟨vs,e,ca.bL h cs vs r⟩
 | .bg _ _ _,_,hv=>by simp[cr] at hv
 | .ax _ _,_,hv=>by simp[cr] at hv
 | .any,_,hv=>by simpa [cr] using hv
theorem ca.bL {w w':World}{F F':Nat->Prop}(h:nj w w' F F'):∀ (cs:List CV) (vs:List Value),ca w F cs vs->ca w' F' cs vs
 | [],_,hv=>by simpa [ca] using hv
 | c::cs,vs,hv=>by
  simp only[ca] at hv |-;obtain⟨v,r,e,h1,h2⟩:=hv;exact⟨v,r,e,cr.bL h c v h1,ca.bL h cs r h2⟩
theorem fx.bL {w w':World}{F F':Nat->Prop}(h:nj w w' F F'):∀ (cs:List CV) (ad:Addr),fx w F cs ad->fx w' F' cs ad
 | [],_,_=>by simp[fx]
 | c::cs,ad,hv=>by
  simp only[fx] at hv |-;obtain⟨⟨u,h1,h2,h3⟩,ho,h4⟩:=hv;obtain⟨k1,k2⟩:=h ad u h2 h1;exact⟨⟨u,k1,k2,cr.bL h c u h3⟩,ho,fx.bL h cs _ h4⟩
end
theorem fx.drop {w:World}{F:Nat->Prop}:∀ (k:Nat) (cs:List CV) (ad:Addr),fx w F cs ad->fx w F (cs.drop k) (ad.add k)
 | 0,cs,ad,h=>by simpa [add_zero] using h
 | k+1,[],ad,_=>by simp[fx]
 | k+1,c::cs,ad,h=>by
  simp only[fx] at h;have:=fx.drop k cs _ h.2.2;rw[add_add] at this
  simpa [Nat.add_comm] using this
theorem fx.take {w:World}{F:Nat->Prop}:∀ (k:Nat) (cs:List CV) (ad:Addr),fx w F cs ad->fx w F (cs.take k) ad
 | 0,_,_,_=>by simp[fx]
 | k+1,[],_,_=>by simp[fx]
 | k+1,c::cs,ad,h=>by
  simp only[fx] at h;simp only[take_succ_cons,fx];exact⟨h.1,h.2.1,fx.take k cs _ h.2.2⟩
theorem fx.cells {w:World}{F:Nat->Prop}:∀ (cs:List CV) (ad:Addr),fx w F cs ad->∃ us:List Value,ca w F cs us/\us.length=cs.length/\∀ j u,us[j]? = some u->w.cell? (ad.add j)=some u
 | [],ad,_=>⟨[],by simp[ca],rfl,by simp⟩
 | c::cs,ad,h=>by
  simp only[fx] at h;obtain⟨⟨u,h1,h2,h3⟩,_,h4⟩:=h;obtain⟨us,k1,k2,k3⟩:=fx.cells cs _ h4;refine⟨u::us,by simp only[ca];exact⟨u,us,rfl,h3,k1⟩,by simp[k2],?_⟩;intro j x hx
  cases j with
  | zero=>simp at hx;subst hx;rw[add_zero];exact h1
  | succ j=>
   have:=k3 j x (by simpa using hx);rw[add_add] at this;rwa [Nat.add_comm] at this
theorem ca.length {w:World}{F:Nat->Prop}:∀ (cs:List CV) (vs:List Value),ca w F cs vs->vs.length=cs.length
 | [],vs,h=>by simp only[ca] at h;subst h;rfl
 | c::cs,vs,h=>by
  simp only[ca] at h;obtain⟨v,r,rfl,_,h2⟩:=h;simp[ca.length cs r h2]
theorem ca.get {w:World}{F:Nat->Prop}:∀ (cs:List CV) (vs:List Value),ca w F cs vs->∀ (i:Nat) (c:CV),cs[i]? = some c->∃ v,vs[i]? = some v/\cr w F c v
 | [],vs,_,i,c,hi=>by simp at hi
 | c::cs,vs,h,i,d,hi=>by
  simp only[ca] at h;obtain⟨v,r,rfl,h1,h2⟩:=h
  cases i with
  | zero=>simp at hi;subst hi;exact⟨v,rfl,h1⟩
  | succ i=>simpa using ca.get cs r h2 i d yBy
structure OB where
 j7:Option Nat
 room:Nat
 sz:Nat
mutual
/-- The values of a frame and of the objects' cells. -/
def VR (w:World)(F:Nat->Prop)(σ:Nat->Option OB):CV->Value->Prop
 | .bg o off n,v=>∃ B,σ o=some B/\match B.j7 with
   | none=>v=.slice none 0 0/\off=0/\n=0
   | some b=>∃ cap,v=.slice (some ⟨b,off,none⟩) n cap/\n<=cap/\cap<=maxLen/\off+cap*B.sz<=B.room/\(off=0->cap*B.sz=B.room)
 | .ax o off,v=>∃ B b,σ o=some B/\B.j7=some b/\v=.pointer (some ⟨b,off,none⟩)
 | .agg cs,v=>∃ vs:List Value,v=.agg vs.toArray/\a7 w F σ cs vs/\cs.all one=true
 | .fn f QC,v=>∃ vs:List Value,v=.func (.func f) #[] vs.toArray/\a7 w F σ QC vs
 | .iface f QC,v=>∃ vs:List Value,v=Oy f vs/\a7 w F σ QC vs
 | .bY cs,v=>∃ vs:List Value,v=.tuple vs.toArray/\a7 w F σ cs vs
 | .int k n,v=>v=.int k n
 | .bool b,v=>v=.bool b
 | .str s,v=>v=.string s
 | .au cs n,v=>cr w F (.au cs n) v
 | .ak,v=>v=.slice none 0 0
 | .de cs,v=>cr w F (.de cs) v
 | .bM,v=>v=.pointer none
 | .cH,v=>v=.nilFunc
 | .iter k s p,v=>∃ B r,σ k=some B/\B.j7=some r/\v=.pointer (some ⟨r,0,none⟩)/\w.heap[r]? = some (.stringIter s p)/\¬ F r
 | .mp k es,v=>∃ B r arr clock,σ k=some B/\B.j7=some r/\v=.map (some r)/\w.heap[r]? = some (.map arr clock)/\arr.toList.map (λ e=>(e.key,e.val))=es/\(es.map (·.1)).Nodup/\¬ F r
 | .any,v=>v.oneCell'=true
def a7 (w:World)(F:Nat->Prop)(σ:Nat->Option OB):List CV->List Value->Prop
 | [],vs=>vs=[]
 | c::cs,vs=>∃ v r,vs=v::r/\VR w F σ c v/\a7 w F σ cs r
end
mutual
/-- No object of one's own in it, on the surface. -/
def tree:CV->Bool
 | .bg _ _ _=>false
 | .ax _ _=>false
 | .iter _ _ _=>false
 | .mp _ _=>false
 | .agg cs=>trees cs
 | .fn _ cs=>trees cs
 | .iface _ cs=>trees cs
 | .bY cs=>trees cs
 | _=>true
def trees:List CV->Bool
 | []=>true
 | c::cs=>tree c && trees cs
end
mutual
theorem VR.cS {w:World}{F:Nat->Prop}{σ:Nat->Option OB}:∀ (c:CV) (v:Value),cr w F c v->VR w F σ c v
 | .int _ _,_,h=>by simpa [VR,cr] using h
 | .bool _,_,h=>by simpa [VR,cr] using h
 | .str _,_,h=>by simpa [VR,cr] using h
 | .agg cs,v,h=>by
  simp only[VR,cr] at h |-;obtain⟨vs,e,r,h1⟩:=h;exact⟨vs,e,a7.cS cs vs r,h1⟩
 | .ak,_,h=>by simpa [VR,cr] using h
 | .au _ _,_,h=>by simpa only[VR] using h
 | .de _,_,h=>by simpa only[VR] using h
 | .bM,_,h=>by simpa [VR,cr] using h
 | .fn _ cs,v,h=>by
  simp only[VR,cr] at h |-;obtain⟨vs,e,r⟩:=h;exact⟨vs,e,a7.cS cs vs r⟩
 | .iface _ cs,v,h=>by
  simp only[VR,cr] at h |-;obtain⟨vs,e,r⟩:=h;exact⟨vs,e,a7.cS cs vs r⟩
 | .cH,_,h=>by simpa [VR,cr] using h
 | .iter _ _ _,_,h=>by simp[cr] at h
 | .mp _ _,_,h=>by simp[cr] at h
 | .bY cs,v,h=>by
  simp only[VR,cr] at h |-;obtain⟨vs,e,r⟩:=h;exact⟨vs,e,a7.cS cs vs r⟩
 | .bg _ _ _,_,h=>by simp[cr] at h
 | .ax _ _,_,h=>by simp[cr] at h
 | .any,_,h=>by simpa [VR,cr] using h
theorem a7.cS {w:World}{F:Nat->Prop}{σ:Nat->Option OB}:∀ (cs:List CV) (vs:List Value),ca w F cs vs->a7 w F σ cs vs
 | [],_,h=>by simpa [a7,ca] using h
 | c::cs,vs,h=>by
  simp only[a7,ca] at h |-;obtain⟨v,r,e,h1,h2⟩:=h;exact⟨v,r,e,VR.cS c v h1,a7.cS cs r h2⟩
end
mutual
theorem VR.eI {w:World}{F:Nat->Prop}{σ:Nat->Option OB}:∀ (c:CV) (v:Value),tree c=true->VR w F σ c v->cr w F c v
 | .int _ _,_,_,h=>by simpa [VR,cr] using h
 | .bool _,_,_,h=>by simpa [VR,cr] using h
 | .str _,_,_,h=>by simpa [VR,cr] using h
 | .agg cs,v,ht,h=>by
  simp only[VR,cr,tree] at h ht |-;obtain⟨vs,e,r,h1⟩:=h;exact⟨vs,e,a7.eI cs vs ht r,h1⟩
 | .ak,_,_,h=>by simpa [VR,cr] using h
 | .au _ _,_,_,h=>by simpa only[VR] using h
 | .de _,_,_,h=>by simpa only[VR] using h
 | .bM,_,_,h=>by simpa [VR,cr] using h
 | .fn _ cs,v,ht,h=>by
  simp only[VR,cr,tree] at h ht |-;obtain⟨vs,e,r⟩:=h;exact⟨vs,e,a7.eI cs vs ht r⟩
 | .iface _ cs,v,ht,h=>by
  simp only[VR,cr,tree] at h ht |-;obtain⟨vs,e,r⟩:=h;exact⟨vs,e,a7.eI cs vs ht r⟩
 | .cH,_,_,h=>by simpa [VR,cr] using h
 | .iter _ _ _,_,ht,_=>by simp[tree] at ht
 | .mp _ _,_,ht,_=>by simp[tree] at ht
 | .bY cs,v,ht,h=>by
  simp only[VR,cr,tree] at h ht |-;obtain⟨vs,e,r⟩:=h;exact⟨vs,e,a7.eI cs vs ht r⟩
 | .bg _ _ _,_,ht,_=>by simp[tree] at ht
 | .ax _ _,_,ht,_=>by simp[tree] at ht
 | .any,_,_,h=>by simpa [VR,cr] using h
theorem a7.eI {w:World}{F:Nat->Prop}{σ:Nat->Option OB}:∀ (cs:List CV) (vs:List Value),trees cs=true->a7 w F σ cs vs->ca w F cs vs
 | [],_,_,h=>by simpa [a7,ca] using h
 | c::cs,vs,ht,h=>by
  simp only[a7,ca,trees,Bool.and_eq_true] at h ht |-;obtain⟨v,r,e,h1,h2⟩:=h;exact⟨v,r,e,VR.eI c v ht.1 h1,a7.eI cs r ht.2 h2⟩
end
mutual
/-- The value names the object o. -/
def aP (o:Nat):CV->Bool
 | .bg p _ _=>p != o
 | .ax p _=>p != o
 | .iter p _ _=>p != o
 | .mp p _=>p != o
 | .agg cs=>dY o cs
 | .fn _ cs=>dY o cs
 | .iface _ cs=>dY o cs
 | .bY cs=>dY o cs
 | _=>true
def dY (o:Nat):List CV->Bool
 | []=>true
 | c::cs=>aP o c && dY o cs
end
mutual
/-- A reading is kept when the world turns as 'Keeps' says and the places of all objects that it names stay. -/
theorem VR.bL {w w':World}{F F':Nat->Prop}{σ σ':Nat->Option OB}(h:cY w w' F F'):∀ (c:CV) (v:Value),(∀ o,aP o c=false->σ' o=σ o)->VR w F σ c v->VR w' F' σ' c v
 | .int _ _,_,_,hv=>by simpa [VR] using hv
 | .bool _,_,_,hv=>by simpa [VR] using hv
 | .str _,_,_,hv=>by simpa [VR] using hv
 | .agg cs,v,hr,hv=>by
  simp only[VR] at hv |-;obtain⟨vs,e,r,h1⟩:=hv;exact⟨vs,e,a7.bL h cs vs (λ o ho=>hr o Xx) r,h1⟩
 | .ak,_,_,hv=>by simpa [VR] using hv
 | .au _ _,_,_,hv=>by simp only[VR] at hv |-;exact cr.bL h.1 _ _ hv
 | .de _,_,_,hv=>by simp only[VR] at hv |-;exact cr.bL h.1 _ _ hv
 | .bM,_,_,hv=>by simpa [VR] using hv
 | .fn _ cs,v,hr,hv=>by
  simp only[VR] at hv |-;obtain⟨vs,e,r⟩:=hv;exact⟨vs,e,a7.bL h cs vs (λ o ho=>hr o Xx) r⟩
 | .iface _ cs,v,hr,hv=>by
  simp only[VR] at hv |-;obtain⟨vs,e,r⟩:=hv;exact⟨vs,e,a7.bL h cs vs (λ o ho=>hr o Xx) r⟩
 | .cH,_,_,hv=>by simpa [VR] using hv
 | .iter k s p,v,hr,hv=>by
  have hs:=hr k (by simp[aP]);simp only[VR] at hv |-;obtain⟨B,r,e1,e2,e3,h1,h2⟩:=hv;obtain⟨k1,k2⟩:=h.2 r _ h2 h1 (λ _ _ _ he=>by cases he);exact⟨B,r,hs.trans e1,e2,e3,k1,k2⟩
 | .mp k es,v,hr,hv=>by
  have hs:=hr k (by simp[aP]);simp only[VR] at hv |-;obtain⟨B,r,arr,clock,e1,e2,e3,h1,h3,h4,h2⟩:=hv;obtain⟨k1,k2⟩:=h.2 r _ h2 h1 (λ _ _ _ he=>by cases he);exact⟨B,r,arr,clock,hs.trans e1,e2,e3,k1,h3,h4,k2⟩
 | .bY cs,v,hr,hv=>by
  simp only[VR] at hv |-;obtain⟨vs,e,r⟩:=hv;exact⟨vs,e,a7.bL h cs vs (λ o ho=>hr o Xx) r⟩
 | .bg o off n,v,hr,hv=>by
  have:=hr o (by simp[aP]);simp only[VR] at hv |-;rw[this];exact hv
 | .ax o off,v,hr,hv=>by
  have:=hr o (by simp[aP]);simp only[VR] at hv |-;rw[this];exact hv
 | .any,_,_,hv=>by simpa [VR] using hv
theorem a7.bL {w w':World}{F F':Nat->Prop}{σ σ':Nat->Option OB}(h:cY w w' F F'):∀ (cs:List CV) (vs:List Value),(∀ o,dY o cs=false->σ' o=σ o)->a7 w F σ cs vs->a7 w' F' σ' cs vs
 | [],_,_,hv=>by simpa [a7] using hv
 | c::cs,vs,hr,hv=>by
  simp only[a7] at hv |-;obtain⟨v,r,e,h1,h2⟩:=hv;exact⟨v,r,e,VR.bL h c v (λ o ho=>hr o (by simp[dY,ho])) h1,a7.bL h cs r (λ o ho=>hr o (by simp[dY,ho])) h2⟩
end
mutual
/-- No iterator in it, on the surface. -/
def lv:CV->Bool
 | .iter _ _ _=>false
 | .mp _ _=>false
 | .agg cs=>jP cs
 | .fn _ cs=>jP cs
 | .iface _ cs=>jP cs
 | .bY cs=>jP cs
 | _=>true
def jP:List CV->Bool
 | []=>true
 | c::cs=>lv c && jP cs
end
mutual
/-- A reading without iterators is kept when the cells are. -/
theorem VR.oo {w w':World}{F F':Nat->Prop}{σ:Nat->Option OB}(h:nj w w' F F'):∀ (c:CV) (v:Value),lv c=true->VR w F σ c v->VR w' F' σ c v
 | .int _ _,_,_,hv=>by simpa [VR] using hv
 | .bool _,_,_,hv=>by simpa [VR] using hv
 | .str _,_,_,hv=>by simpa [VR] using hv
 | .ak,_,_,hv=>by simpa [VR] using hv
 | .au _ _,_,_,hv=>by simp only[VR] at hv |-;exact cr.bL h _ _ hv
 | .de _,_,_,hv=>by simp only[VR] at hv |-;exact cr.bL h _ _ hv
 | .bM,_,_,hv=>by simpa [VR] using hv
 | .cH,_,_,hv=>by simpa [VR] using hv
 | .any,_,_,hv=>by simpa [VR] using hv
 | .bg _ _ _,_,_,hv=>by simpa only[VR] using hv
 | .ax _ _,_,_,hv=>by simpa only[VR] using hv
 | .iter _ _ _,_,hn,_=>by simp[lv] at hn
 | .mp _ _,_,hn,_=>by simp[lv] at hn
 | .agg cs,v,hn,hv=>by
  simp only[VR] at hv |-;obtain⟨vs,e,r,h1⟩:=hv;exact⟨vs,e,a7.oo h cs vs (by simpa [lv] using hn) r,h1⟩
 | .fn _ cs,v,hn,hv=>by
  simp only[VR] at hv |-;obtain⟨vs,e,r⟩:=hv;exact⟨vs,e,a7.oo h cs vs (by simpa [lv] using hn) r⟩
 | .iface _ cs,v,hn,hv=>by
  simp only[VR] at hv |-;obtain⟨vs,e,r⟩:=hv;exact⟨vs,e,a7.oo h cs vs (by simpa [lv] using hn) r⟩
 | .bY cs,v,hn,hv=>by
  simp only[VR] at hv |-;obtain⟨vs,e,r⟩:=hv;exact⟨vs,e,a7.oo h cs vs (by simpa [lv] using hn) r⟩
theorem a7.oo {w w':World}{F F':Nat->Prop}{σ:Nat->Option OB}(h:nj w w' F F'):∀ (cs:List CV) (vs:List Value),jP cs=true->a7 w F σ cs vs->a7 w' F' σ cs vs
 | [],_,_,hv=>by simpa [a7] using hv
 | c::cs,vs,hn,hv=>by
  simp only[jP,Bool.and_eq_true] at hn;simp only[a7] at hv |-;obtain⟨v,r,e,h1,h2⟩:=hv;exact⟨v,r,e,VR.oo h c v hn.1 h1,a7.oo h cs r hn.2 h2⟩
end
theorem a7.length {w:World}{F:Nat->Prop}{σ:Nat->Option OB}:∀ (cs:List CV) (vs:List Value),a7 w F σ cs vs->vs.length=cs.length
 | [],vs,h=>by simp only[a7] at h;subst h;rfl
 | c::cs,vs,h=>by
  simp only[a7] at h;obtain⟨v,r,rfl,_,h2⟩:=h;simp[a7.length cs r h2]
theorem a7.get {w:World}{F:Nat->Prop}{σ:Nat->Option OB}:∀ (cs:List CV) (vs:List Value),a7 w F σ cs vs->∀ (i:Nat) (c:CV),cs[i]? = some c->∃ v,vs[i]? = some v/\VR w F σ c v
 | [],vs,_,i,c,hi=>by simp at hi
 | c::cs,vs,h,i,d,hi=>by
  simp only[a7] at h;obtain⟨v,r,rfl,h1,h2⟩:=h
  cases i with
  | zero=>simp at hi;subst hi;exact⟨v,rfl,h1⟩
  | succ i=>simpa using a7.get cs r h2 i d yBy
theorem a7.y4 {w:World}{F:Nat->Prop}{σ:Nat->Option OB}:∀ (cs:List CV) (vs:List Value),vs.length=cs.length->(∀ (i:Nat) (c:CV),cs[i]? = some c->∃ v,vs[i]? = some v/\VR w F σ c v)->a7 w F σ cs vs
 | [],vs,hl,_=>by simp only[a7];exact eq_nil_of_length_eq_zero hl
 | c::cs,[],hl,_=>by simp at hl
 | c::cs,v::vs,hl,h=>by
  simp only[a7];refine⟨v,vs,rfl,?_,a7.y4 cs vs yBz λ i d hi=>?_⟩
  ·obtain⟨u,hu,hr⟩:=h 0 c rfl;simp at hu;subst hu;exact hr
  ·simpa using h (i+1) d yBy
theorem a7.take {w:World}{F:Nat->Prop}{σ:Nat->Option OB}(k:Nat)(cs:List CV)(vs:List Value)(h:a7 w F σ cs vs):a7 w F σ (cs.take k) (vs.take k):=by
 refine a7.y4 _ _ (by simp[a7.length cs vs h]) λ i c hi=>?_;rw[getElem?_take] at hi |-;split at hi
 ·rename_i hk;rw[if_pos hk];exact a7.get cs vs h i c hi
 ·cases hi
theorem a7.drop {w:World}{F:Nat->Prop}{σ:Nat->Option OB}(k:Nat)(cs:List CV)(vs:List Value)(h:a7 w F σ cs vs):a7 w F σ (cs.drop k) (vs.drop k):=by
 refine a7.y4 _ _ (by simp[a7.length cs vs h]) λ i c hi=>?_;rw[getElem?_drop] at hi |-;exact a7.get cs vs h _ c hi
theorem a7.append {w:World}{F:Nat->Prop}{σ:Nat->Option OB}:∀ (cs ds:List CV) (vs us:List Value),a7 w F σ cs vs->a7 w F σ ds us->a7 w F σ (cs++ds) (vs++us)
 | [],ds,vs,us,h,k=>by simp only[a7] at h;subst h;simpa using k
 | c::cs,ds,vs,us,h,k=>by
  simp only[a7] at h;obtain⟨v,r,rfl,h1,h2⟩:=h;simp only[cons_append,a7];exact⟨v,r++us,rfl,h1,a7.append cs ds r us h2 k⟩
theorem VR.Ay {w:World}{F:Nat->Prop}{σ:Nat->Option OB}(c:CV)(v:Value)(h1:one c=true)(h:VR w F σ c v):v.oneCell'=true:=by
 cases c<;>simp only[VR,cr,one,Bool.false_eq_true] at h h1
 case au=>obtain⟨A,cap,rfl,_⟩:=h;rfl
 case de=>obtain⟨ad,rfl,_⟩:=h;rfl
 case fn=>obtain⟨vs,rfl,_⟩:=h;rfl
 case iface=>obtain⟨vs,rfl,_⟩:=h;cases vs<;>rfl
 case bg o off n=>
  obtain⟨B,_,h⟩:=h;split at h
  ·obtain⟨rfl,_⟩:=h;rfl
  ·obtain⟨cap,rfl,_⟩:=h;rfl
 case ax=>obtain⟨B,b,_,_,rfl⟩:=h;rfl
 case any=>exact h
 case mp=>obtain⟨B,r,arr,clock,_,_,rfl,_⟩:=h;rfl
 all_goals (subst h;rfl)
theorem a7.ja {w:World}{F:Nat->Prop}{σ:Nat->Option OB}:∀ (cs:List CV) (vs:List Value),cs.all one=true->a7 w F σ cs vs->∀ u∈vs,u.oneCell'=true
 | [],vs,_,h=>by simp only[a7] at h;subst h;simp
 | c::cs,vs,ha,h=>by
  simp only[a7] at h;obtain⟨v,r,rfl,h1,h2⟩:=h;simp only[all_cons,Bool.and_eq_true] at ha;intro u hu;rcases mem_cons.1 hu with rfl | hu
  ·exact VR.Ay c _ ha.1 h1
  ·exact a7.ja cs r ha.2 h2 u hu
theorem yX {v:Value}(h:v.oneCell'=true):v.cells=#[v]:=by
 cases v<;>simp_all [Value.oneCell',Value.cells]
theorem VR.flat {w:World}{F:Nat->Prop}{σ:Nat->Option OB}(c:CV)(v:Value)(hc:∀ cs,c≠.bY cs)(hi:∀ k s p,c≠.iter k s p)(h:VR w F σ c v):a7 w F σ c.cells v.cells.toList/\c.cells.all one=true:=by
 by_cases ha:∃ cs,c=.agg cs
 ·obtain⟨cs,rfl⟩:=ha;simp only[VR] at h;obtain⟨vs,rfl,r,h1⟩:=h;exact⟨by simpa [CV.cells,Value.cells] using r,h1⟩
 ·have h1:one c=true:=by
   cases c<;>simp_all [one]
  have h2:c.cells=[c]:=by
   cases c<;>simp_all [CV.cells]
  rw[h2,yX (VR.Ay c v h1 h)];exact⟨by simp only[a7];exact⟨v,[],rfl,h,rfl⟩,by simp[h1]⟩
theorem fx.MA {w:World}{F:Nat->Prop}:∀ (cs:List CV) (ad:Addr),fx w F cs ad->cs.all one=true
 | [],_,_=>rfl
 | c::cs,ad,h=>by
  simp only[fx] at h;simp[h.2.1,fx.MA cs _ h.2.2]
end Go.Can
/- Canonical states, their relation to the real frame and world, and the operations that turn nothing in memory. No function of the program is mentioned here. -/
namespace Go.Can
open Go.RowKit
def assoc {α:Type}:List (Nat×α)->Nat->Option α
 | [],_=>none
 | (k,v)::r,t=>if k=t then some v else assoc r t
def jU {α:Type}:List (Nat×α)->Nat->List (Nat×α)
 | [],_=>[]
 | (k,v)::r,t=>if k=t then jU r t else (k,v)::jU r t
def sM {α:Type}:List (Nat×α)->Nat->α->List (Nat×α)
 | [],_,_=>[]
 | (k,v)::r,t,x=>if k=t then (k,x)::r else (k,v)::sM r t x
theorem fv {α:Type}(l:List (Nat×α))(t u:Nat):assoc (jU l t) u=if t=u then none else assoc l u:=by
 induction l with
 | nil=>simp[jU,assoc]
 | cons x r ih=>
  obtain⟨k,v⟩:=x;simp only[jU];split
  ·rename_i hk;subst hk;rw[ih];split
   ·rfl
   ·rename_i hu;simp[assoc,hu]
  ·rename_i hk;simp only[assoc];split
   ·rename_i hu;subst hu;simp[Ne.symm hk]
   ·exact ih
theorem fF {α:Type}(l:List (Nat×α))(t u:Nat)(x:α):assoc (sM l t x) u=if t=u then (assoc l t).map λ _=>x else assoc l u:=by
 induction l with
 | nil=>simp[sM,assoc]
 | cons y r ih=>
  obtain⟨k,v⟩:=y;simp only[sM];split
  ·rename_i hk;subst hk;simp only[assoc,if_true];split
   ·rename_i hu;simp
   ·rfl
  ·rename_i hk;simp only[assoc,hk,if_false];rw[ih];split
   ·rename_i hu;subst hu;simp[Ne.symm hk]
   ·rfl
structure Ob where
 elem:TypeId
 sz:Nat
 cells:List CV
structure St where
 env:List (Nat×CV)
 heap:List (Nat×Ob)
 nx:Nat
def St.put (s:St)(d:Option Tmp)(c:CV):St:=
 match d with
 | some t=>{ s with env:=(t,c)::jU s.env t }
 | none=>s
def St.del (s:St)(d:Option Tmp):St:=
 match d with
 | some t=>{ s with env:=jU s.env t }
 | none=>s
def NH (w:World)(F:Nat->Prop):Prop:=∀ x∈NG,x.1<w.heap.size/\¬ F x.1/\∀ (j:Nat) (v:Value),x.2[j]? = some v->w.cell? ⟨x.1,j,none⟩=some v
def Je (w:World)(F own:Nat->Prop):Prop:=(∀ b,F b->b<w.heap.size)/\NH w (λ b=>F b\/own b)
def FOk (w:World)(F:Nat->Prop):Prop:=Je w F (λ _=>False)
structure Cx where
 w0:World
 F:Nat->Prop
 own:Nat->Prop
 hF:Je w0 F own
 nt:Nat
 σ0:Nat->Option OB
 n0:Nat
def a9 (σ:Nat->Option OB)(o:Nat):Option Nat:=(σ o).bind (·.j7)
def FB (C:Cx)(σ:Nat->Option OB)(H:List (Nat×Ob))(b:Nat):Prop:=C.F b\/∃ o ob,assoc H o=some ob/\a9 σ o=some b
def ObR (C:Cx)(w:World)(σ:Nat->Option OB)(H:List (Nat×Ob))(o:Nat)(ob:Ob):Prop:=
 ∃ B,σ o=some B/\B.sz=ob.sz/\(B.j7=none->ob.cells=[])/\ob.cells.all one=true/\
  ∀ b,B.j7=some b->∃ cur:Array Value,w.heap[b]? = some (.cells cur ob.elem (0,0))/\cur.size=B.room/\¬ C.F b/\(C.own b\/C.w0.heap.size<=b)/\
   ob.cells.length<=cur.size/\a7 w (FB C σ H) σ ob.cells (cur.toList.take ob.cells.length)
structure aO (C:Cx)(σ:Nat->Option OB)(s:St)(a:Act)(w:World):Prop where
 oz:a.defers=[]
 tm:a.tmps.size=C.nt
 os:w.os=C.w0.os
 tape:w.tape=C.w0.tape
 output:w.output=C.w0.output
 size:C.w0.heap.size<=w.heap.size
 frame:∀ b,b<C.w0.heap.size->¬ C.own b->w.heap[b]? = C.w0.heap[b]?
 env:∀ t c,assoc s.env t=some c->∃ v,a.tmps[t]? = some v/\VR w (FB C σ s.heap) σ c v
 obj:∀ o ob,assoc s.heap o=some ob->ObR C w σ s.heap o ob
 inj:∀ o o' ob Pe b,assoc s.heap o=some ob->assoc s.heap o'=some Pe->a9 σ o=some b->a9 σ o'=some b->o=o'
 nx:∀ o,s.nx<=o->σ o=none
 fX:∀ o,o<C.n0->σ o=C.σ0 o
 low:C.n0<=s.nx
 new:∀ o B b,C.n0<=o->σ o=some B->B.j7=some b->C.own b\/C.w0.heap.size<=b
def Rel (C:Cx)(s:St)(a:Act)(w:World):Prop:=∃ σ,aO C σ s a w
section
variable {C:Cx}{σ:Nat->Option OB}{s:St}{a:Act}{w:World}
theorem D3 {a:Act}{d t:Nat}{v:Value}:(a.put (some d) v).tmps[t]? = if d=t then (if t<a.tmps.size then some v else none) else a.tmps[t]?:=by
 simp only[Act.put];rw[Array.getElem?_setIfInBounds];split
 ·rename_i h;subst h;rfl
 ·rfl
theorem aO.put (h:aO C σ s a w){d:Option Tmp}{c:CV}{v:Value}(hd:∀ t,d=some t->t<a.tmps.size)(hv:VR w (FB C σ s.heap) σ c v):aO C σ (s.put d c) (a.put d v) w:=by
 cases d with
 | none=>exact h
 | some d=>
  refine⟨h.oz,by simpa [Act.put] using h.tm,h.os,h.tape,h.output,h.size,h.frame,?_,h.obj,h.inj,h.nx,h.fX,h.low,h.new⟩;intro t c' hc;rw[D3];simp only[St.put,assoc] at hc;split at hc
  ·rename_i e;subst e;cases hc;rw[if_pos rfl,if_pos (hd _ rfl)];exact⟨v,rfl,hv⟩
  ·rename_i e;rw[fv,if_neg e] at hc;rw[if_neg e];exact h.env t c' hc
theorem aO.del (h:aO C σ s a w){d:Option Tmp}(v:Value):aO C σ (s.del d) (a.put d v) w:=by
 cases d with
 | none=>exact h
 | some d=>
  refine⟨h.oz,by simpa [Act.put] using h.tm,h.os,h.tape,h.output,h.size,h.frame,?_,h.obj,h.inj,h.nx,h.fX,h.low,h.new⟩;intro t c' hc;rw[D3];simp only[St.del] at hc;rw[fv] at hc;split at hc
  ·cases hc
  ·rename_i e;rw[if_neg e];exact h.env t c' hc
def gD:Value->Option CV
 | .int k n=>some (.int k n)
 | .bool b=>some (.bool b)
 | .string s=>some (.str s)
 | .pointer none=>some .bM
 | .slice none 0 0=>some .ak
 | .nilFunc=>some .cH
 | .nilIface=>some (.iface 0 [])
 | .map none=>some .any
 | _=>none
def fA:List Value->Option (List CV)
 | []=>some []
 | v::r=>match gD v,fA r with
  | some c,some cs=>some (c::cs)
  | _,_=>none
def qX:Value->Option CV
 | .agg cs=>(fA cs.toList).map CV.agg
 | .tuple vs=>if vs.isEmpty then some (.bY []) else none
 | v=>gD v
theorem kY {F:Nat->Prop}{v:Value}{c:CV}(h:gD v=some c):cr w F c v/\one c=true:=by
 unfold gD at h;split at h<;>first | (cases h;simp[cr,ca,Oy,one,Value.oneCell'];done) | (cases h)
theorem dt {F:Nat->Prop}:∀ (vs:List Value) (cs:List CV),fA vs=some cs->ca w F cs vs/\cs.all one=true
 | [],cs,h=>by simp only[fA] at h;cases h;simp[ca]
 | v::r,cs,h=>by
  simp only[fA] at h;split at h
  ·rename_i c QH h1 h2;cases h;obtain⟨k1,k2⟩:=kY (w:=w) (F:=F) h1;obtain⟨k3,k4⟩:=dt (F:=F) r QH h2;simp only[ca];exact⟨⟨v,r,rfl,k1,k3⟩,by simp[k2,k4]⟩
  ·cases h
theorem mS {F:Nat->Prop}{v:Value}{c:CV}(h:qX v=some c):cr w F c v:=by
 unfold qX at h;split at h
 ·rename_i cs;obtain⟨x,h1,h2⟩:=Option.map_eq_some_iff.1 h;subst h2;obtain⟨k1,k2⟩:=dt (w:=w) (F:=F) _ _ h1;simp only[cr];exact⟨cs.toList,by simp,k1,k2⟩
 ·rename_i vs;split at h
  ·rename_i he;cases h;simp only[cr,ca];exact⟨[],by simpa using he,rfl⟩
  ·cases h
 ·exact (kY h).1
theorem ym {F:Nat->Prop}{g:Nat}(hg:¬ F g):∀ (vs:List Value) (cs:List CV) (k:Nat),fA vs=some cs->(∀ (j:Nat) (v:Value),vs[j]? = some v->w.cell? ⟨g,k+j,none⟩=some v)->fx w F cs ⟨g,k,none⟩
 | [],cs,k,h,_=>by simp only[fA] at h;cases h;simp[fx]
 | v::r,cs,k,h,hc=>by
  simp only[fA] at h;split at h
  ·rename_i c QH h1 h2;cases h;obtain⟨k1,k2⟩:=kY (w:=w) (F:=F) h1;simp only[fx];refine⟨⟨v,hc 0 v rfl,hg,k1⟩,k2,?_⟩;rw[add_lit];exact ym hg r QH (k+1) h2 λ j u hj=>by rw[Nat.add_assoc,Nat.add_comm 1 j];exact hc (j+1) u (by simpa using hj)
  ·cases h
theorem wx {α:Type}:∀ (l:List (Nat×α)) (t:Nat) (v:α),assoc l t=some v->(t,v)∈l
 | [],_,_,h=>by simp[assoc] at h
 | (k,u)::r,t,v,h=>by
  simp only[assoc] at h;split at h
  ·rename_i e;subst e;cases h;exact List.mem_cons_self
  ·exact List.mem_cons_of_mem _ (wx r t v h)
theorem aO.gok (h:aO C σ s a w):NH w (FB C σ s.heap):=λ x hx=>by
 obtain⟨h0,h1,h2⟩:=C.hF.2 x hx;refine⟨Nat.lt_of_lt_of_le h0 h.size,?_,λ j v hj=>?_⟩
 ·rintro (hf | ⟨o,ob,ho,hb⟩)
  ·exact h1 (.inl hf)
  ·obtain⟨B,m1,_,_,_,m5⟩:=h.obj o ob ho;obtain⟨cur,_,_,_,n4,_⟩:=m5 _ WH;rcases n4 with n4 | n4
   ·exact h1 (.inr n4)
   ·omega
 ·rw[World.cell?_of_block (w:=C.w0) (h.frame x.1 h0 λ ho=>h1 (.inr ho))];exact h2 j v hj
theorem NH.mono {w:World}{F F':Nat->Prop}(h:NH w F)(hF:∀ b,F' b->F b):NH w F':=λ x hx=>⟨(h x hx).1,λ hf=>(h x hx).2.1 (hF _ hf),(h x hx).2.2⟩
def ev (s:St):Operand->Option CV
 | .tmp t=>assoc s.env t
 | .const v=>qX v
 | .func f=>some (.fn f [])
 | .global g=>(assoc NG g).bind λ vs=>(fA vs).map .de
def Bk (s:St):List Operand->Option (List CV)
 | []=>some []
 | x::r=>match ev s x,Bk s r with
  | some c,some cs=>some (c::cs)
  | _,_=>none
theorem bG (h:aO C σ s a w){x:Operand}{c:CV}(he:ev s x=some c):VR w (FB C σ s.heap) σ c (a.eval x):=by
 cases x with
 | tmp t=>
  obtain⟨v,h1,h2⟩:=h.env t c he;simp only[Act.eval];have:a.tmps.getD t undef=v:=by simp[Array.getD_eq_getD_getElem?,h1]
  rw[this];exact h2
 | const v=>exact VR.cS _ _ (mS he)
 | func f=>cases he;simp only[VR];exact⟨[],rfl,rfl⟩
 | global g=>
  simp only[ev] at he;obtain⟨vs,h1,h2⟩:=Option.bind_eq_some_iff.1 he;obtain⟨cs,h3,rfl⟩:=Option.map_eq_some_iff.1 h2;obtain⟨_,k1,k2⟩:=h.gok _ (wx _ _ _ h1);simp only[VR,cr,Act.eval];exact⟨_,rfl,ym k1 vs cs 0 h3 λ j v hj=>by rw[Nat.zero_add];exact k2 j v hj⟩
theorem p8 (h:aO C σ s a w):∀ (xs:List Operand) (cs:List CV),Bk s xs=some cs->a7 w (FB C σ s.heap) σ cs (xs.map a.eval)
 | [],cs,he=>by simp only[Bk] at he;cases he;rfl
 | x::r,cs,he=>by
  simp only[Bk] at he;split at he
  ·rename_i c QH h1 h2;cases he;simp only[a7];exact⟨_,_,rfl,bG h h1,p8 h r QH h2⟩
  ·cases he
end
inductive TD where
 | int (k:IntKind)
 | bool
 | str
 | sl (e:TypeId)
 | bI (fs:List (Nat×TypeId))
 | arr (n:Nat) (e:TypeId)
 | ptr (e:TypeId)
 | func
 | Mz
def ue:TypeDesc->TD
 | .int k=>.int k
 | .bool=>.bool
 | .string=>.str
 | .slice e=>.sl e
 | .struct fs=>.bI (fs.toList.map λ f=>(f.offset,f.type))
 | .array n e=>.arr n e
 | .pointer e=>.ptr e
 | .func _ _ _=>.func
 | _=>.Mz
structure TI where
 d:TD
 size:Nat
 bytes:Nat
 zero:List CV
def TI.agg (i:TI):Bool:=match i.d with
 | .bI _=>true
 | .arr _ _=>true
 | _=>false
structure cE (P:Program)(t:TypeId)(i:TI):Prop where
 info:∃ f z,P.info? t=some f/\f.size=i.size/\f.bytes=i.bytes/\f.zero=some z/\fA z.cells.toList=some i.zero
 zJ:∃ d,P.underlying t=some d/\ue d=i.d
 len:i.zero.length=i.size
def aD (P:Program)(av:List (Nat×TI)):Prop:=∀ t i,assoc av t=some i->cE P t i
theorem cE.mk' {P:Program}{t:TypeId}{i:TI}(h1:(P.info? t).map (λ f=>(f.size,f.bytes,f.zero.map λ z=>fA z.cells.toList))=some (i.size,i.bytes,some (some i.zero)))
  (h2:(P.underlying t).map ue=some i.d) (h3:i.zero.length=i.size):cE P t i:=by
 obtain⟨f,e1,e2⟩:=Option.map_eq_some_iff.1 h1;obtain⟨d,e3,e4⟩:=Option.map_eq_some_iff.1 h2;simp only[Prod.mk.injEq] at e2;obtain⟨z,e5,e6⟩:=Option.map_eq_some_iff.1 e2.2.2;exact⟨⟨f,z,e1,e2.1,e2.2.1,e5,e6⟩,⟨d,e3,e4⟩,h3⟩
theorem aD.nil {P:Program}:aD P []:=λ _ _ h=>by cases h
theorem aD.cons {P:Program}{t:Nat}{i:TI}{r:List (Nat×TI)}(h:cE P t i)(hr:aD P r):aD P ((t,i)::r):=λ u j hj=>by
 simp only[assoc] at hj;split at hj
 ·rename_i e;subst e;cases hj;exact h
 ·exact hr u j hj
theorem bH {P:Program}{t:TypeId}{d:TypeDesc}(h:P.underlying t=some d)(w:World):(underlying t).run P w=.ok d w:=run_underlying h w
theorem uZ {P:Program}{t:TypeId}{f:TypeInfo}(h:P.info? t=some f)(w:World):(typeInfo t).run P w=.ok f w:=by
 simp[typeInfo,h]
theorem db {P:Program}{t:TypeId}{f:TypeInfo}(h:P.info? t=some f)(w:World):(sizeOf t).run P w=.ok f.size w:=by
 simp[sizeOf,uZ h]
def arith (op:BinOp)(k:IntKind)(a b:Int):Option CV:=
 match op with
 | .add=>some (.int k (k.wrap (a+b)))
 | .sub=>some (.int k (k.wrap (a-b)))
 | .mul=>some (.int k (k.wrap (a*b)))
 | .quo=>if b=0 then none else some (.int k (k.wrap (a.tdiv b)))
 | .rem=>if b=0 then none else some (.int k (a.tmod b))
 | .and=>some (.int k (k.wrap (BitVec.ofInt k.bits a &&& BitVec.ofInt k.bits b).toNat))
 | .or=>some (.int k (k.wrap (BitVec.ofInt k.bits a ||| BitVec.ofInt k.bits b).toNat))
 | .xor=>some (.int k (k.wrap (BitVec.ofInt k.bits a ^^^ BitVec.ofInt k.bits b).toNat))
 | .andNot=>some (.int k (k.wrap (BitVec.ofInt k.bits a &&& ~~~ BitVec.ofInt k.bits b).toNat))
 | .eql=>some (.bool (a == b))
 | .neq=>some (.bool (a != b))
 | .lss=>some (.bool (decide (a<b)))
 | .leq=>some (.bool (decide (a<=b)))
 | .gtr=>some (.bool (decide (a > b)))
 | .geq=>some (.bool (decide (a≥b)))
 | _=>none
def lW (op:BinOp)(x y:ByteArray):Option CV:=
 match op with
 | .add=>if x.size+y.size<=9223372036854775807 then some (.str (x++y)) else none
 | .eql=>some (.bool (x.toList == y.toList))
 | .neq=>some (.bool (!(x.toList == y.toList)))
 | .lss=>some (.bool (Op.bytesLess x.toList y.toList))
 | .leq=>some (.bool (Op.bytesLess x.toList y.toList || x.toList == y.toList))
 | .gtr=>some (.bool (!(Op.bytesLess x.toList y.toList || x.toList == y.toList)))
 | .geq=>some (.bool (!Op.bytesLess x.toList y.toList))
 | _=>none
def Dd (op:BinOp)(d:TD):CV->CV->Option CV
 | .int k a,.int k' b=>match op with
  | .shl=>if b<0 then none else some (.int k (k.wrap (a*2 ^ (min b.toNat k.bits))))
  | .shr=>if b<0 then none else some (.int k (a.fdiv (2 ^ (min b.toNat k.bits))))
  | op=>if k=k' then arith op k a b else none
 | .str x,.str y=>lW op x y
 | .bool a,.bool b=>match d,op with
  | .bool,.eql=>some (.bool (a == b))
  | .bool,.neq=>some (.bool (!(a == b)))
  | _,_=>none
 | _,_=>none
theorem dT {w:World}{F:Nat->Prop}{σ:Nat->Option OB}(k:IntKind)(n:Int):VR w F σ (.int k n) (.int k n):=by simp[VR]
theorem dL {w:World}{F:Nat->Prop}{σ:Nat->Option OB}(b:Bool):VR w F σ (.bool b) (.bool b):=by simp[VR]
theorem zG {w:World}{F:Nat->Prop}{σ:Nat->Option OB}(b:ByteArray):VR w F σ (.str b) (.string b):=by simp[VR]
theorem II {P:Program}{w:World}{op:BinOp}{k:IntKind}{xt:TypeId}{a b:Int}{c:CV}(hs1:op≠.shl)(WZ:op≠.shr)(h:arith op k a b=some c){F:Nat->Prop}{σ:Nat->Option OB} :
  ∃ v,(binOp op xt (.int k a) (.int k b)).run P w=.ok v w/\VR w F σ c v:=by
 cases op<;>simp only[arith] at h
 case add=>cases h;exact⟨_,by simp[binOp,Op.intArith],dT _ _⟩
 case sub=>cases h;exact⟨_,by simp[binOp,Op.intArith],dT _ _⟩
 case mul=>cases h;exact⟨_,by simp[binOp,Op.intArith],dT _ _⟩
 case quo=>
  split at h
  ·cases h
  ·cases h;rename_i hb;exact⟨_,by simp[binOp,Op.intDiv,hb],dT _ _⟩
 case rem=>
  split at h
  ·cases h
  ·cases h;rename_i hb;exact⟨_,by simp[binOp,Op.intDiv,hb],dT _ _⟩
 case and=>cases h;exact⟨_,by simp[binOp,Op.intBits],dT _ _⟩
 case or=>cases h;exact⟨_,by simp[binOp,Op.intBits],dT _ _⟩
 case xor=>cases h;exact⟨_,by simp[binOp,Op.intBits],dT _ _⟩
 case andNot=>cases h;exact⟨_,by simp[binOp,Op.intBits],dT _ _⟩
 case eql=>cases h;exact⟨_,by simp[binOp,Op.intCmp],dL _⟩
 case neq=>cases h;exact⟨_,by simp[binOp,Op.intCmp],dL _⟩
 case lss=>cases h;exact⟨_,by simp[binOp,Op.intCmp],dL _⟩
 case leq=>cases h;exact⟨_,by simp[binOp,Op.intCmp],dL _⟩
 case gtr=>cases h;exact⟨_,by simp[binOp,Op.intCmp],dL _⟩
 case geq=>cases h;exact⟨_,by simp[binOp,Op.intCmp],dL _⟩
 all_goals first | cases h | exact absurd rfl hs1 | exact absurd rfl WZ
theorem GG {P:Program}{w:World}{op:BinOp}{xt:TypeId}{a b:ByteArray}{c:CV}(h:lW op a b=some c){F:Nat->Prop}{σ:Nat->Option OB} :
  ∃ v,(binOp op xt (.string a) (.string b)).run P w=.ok v w/\VR w F σ c v:=by
 cases op<;>simp only[lW] at h
 case add=>
  split at h
  ·rename_i hb;cases h;refine⟨_,?_,zG _⟩;have hm:IntKind.i64.max=9223372036854775807:=by simp[IntKind.max,IntKind.signed,IntKind.bits]
   simp only[binOp,Op.stringOp,hm];rw[if_neg yA];rfl
  ·cases h
 case eql=>cases h;exact⟨_,by simp[binOp,Op.stringOp],dL _⟩
 case neq=>cases h;exact⟨_,by simp[binOp,Op.stringOp],dL _⟩
 case lss=>cases h;exact⟨_,by simp[binOp,Op.stringOp],dL _⟩
 case leq=>cases h;exact⟨_,by simp[binOp,Op.stringOp],dL _⟩
 case gtr=>cases h;exact⟨_,by simp[binOp,Op.stringOp],dL _⟩
 case geq=>cases h;exact⟨_,by simp[binOp,Op.stringOp],dL _⟩
 all_goals cases h
end Go.Can
