/- Canonical values and their -/
import Derived.StillTail
import Derived.ScopeJumps
import Derived.Laws.AppendOwn
import Derived.Laws.CopyOwn
import Derived.Laws.MakeOwn
import Derived.Laws.OwnMore
import Derived.Below
import Derived.IntWalk
import Derived.Test.YtlkmbdfhdknlgaaGreatZ01
namespace Go.Can
open List
theorem yA {p:Prop}(h:p:=by omega):p:=h
theorem xr {p:Prop}(h:p:=by simp):p:=h
theorem Ix {p:Prop}(h:p:=by kernel_rfl):p:=h
theorem RT {p:Prop}(h:p:=by simp[hC]):p:=h
theorem R2 {p:Prop}(h:p:=by first | rfl | simp only[List.cons_append,List.nil_append,List.append_nil,trees,tree,aL,yM,Bool.and_self,Bool.and_true,Bool.true_and]):p:=h
theorem R1 {p:Prop}(h:p:=by decide):p:=h
theorem SF {p:Prop}(h:p:=by first | rfl | simp[bC,bh,aX,cN,bS,ba,aU,dh,nU,eZ,assoc,ep,jX,-List.all_eq_true,-List.all_flatMap,gV]):p:=h
theorem Sn {p:Prop}(h:p:=by first | rfl | decide):p:=h
theorem Sl {p:Prop}(h:p:=by simp[assoc]):p:=h
theorem Ta {p:Prop}(h:p:=by simp[ev,assoc]):p:=h
theorem SO {p:Prop}(h:p:=by simp;omega):p:=h
theorem SQ {p:Prop}(h:p:=by rfl):p:=h
theorem SM {p:Prop}(h:p:=by (try simp only[ByteArray.size_append]);omega):p:=h
theorem VA {p:Prop}(h:p:=by simp[-List.all_eq_true,-List.all_flatMap,-List.all_map]):p:=h
theorem SZ {p:Prop}(h:p:=by first | rfl | simp[ba,aU,aT,gV,-List.all_eq_true]):p:=h
theorem SY {p:Prop}(h:p:=by first | rfl | simp[aG,ints]):p:=h
theorem U2 {p:Prop}(h:p:=by simp[-List.all_eq_true]):p:=h
theorem TK {p:Prop}(h:p:=by simpa using h):p:=h
theorem Ug {p:Prop}(h:p:=by simp[Op.operands]):p:=h
theorem Uo {p:Prop}(h:p:=by first | exact cu _ | exact yN _ (by first | rfl | assumption | simp[trees,tree, *])):p:=h
theorem W9 {p:Prop}(h:p:=by first | assumption | rfl | simp[bC,bh,aX,cN,bS,ba,aU,dh,nU,eZ,assoc,ep,jX,-List.all_eq_true,-List.all_flatMap,gV]):p:=h
theorem UF {p:Prop}(h:p:=by first | rfl | simp only[List.all_cons,List.all_nil,okW,tree, *];rfl | simp[okW,tree,trees, *]):p:=h
theorem UE {p:Prop}(h:p:=by first | rfl | assumption | simp[tree,trees, *]):p:=h
theorem UD {p:Prop}(h:p:=by first | rfl | simp[bM,ev,assoc]):p:=h
theorem Vz {p:Prop}(h:p:=by simp[-List.all_eq_true,-List.all_flatMap]):p:=h
theorem Vm {p:Prop}(h:p:=by simp[Ex.args]):p:=h
theorem yB {p:Prop}(h:p:=by simp[mq,ai Sa]):p:=h
theorem V1 {p:Prop}(h:p:=by simp[aG]):p:=h
theorem Wb {p:Prop}(h:p:=by simp[fo]):p:=h
theorem ZI {p:Prop}(h:p:=by simp[hx]):p:=h
theorem Wt {p:Prop}(h:p:=by first | rfl | exact aL _ | exact yM _):p:=h
theorem Ws {p:Prop}(h:p:=by simp only[trees,tree];rfl):p:=h
theorem WR {p:Prop}(h:p:=by simp[cI,oe,mg,tree,assoc,-List.all_eq_true,-List.all_flatMap,au tG,au tT,au tL,au tV,au Sq,au SB]):p:=h
theorem WQ {p:Prop}(h:p:=by simp only[ByteArray.size_append];omega):p:=h
theorem yBh {p:Prop}(h:p:=by rw[List.length_map];omega):p:=h
theorem Xp {p:Prop}(h:p:=by first | rfl | exact aL _):p:=h
theorem Xo {p:Prop}(h:p:=by simp only[DP];omega):p:=h
theorem yBl {p:Prop}(h:p:=by rw[aC de];omega):p:=h
theorem Yt {p:Prop}(h:p:=by simp[aG,dW,mX]):p:=h
theorem Ys {p:Prop}(h:p:=by simp[mE,EA,tree]):p:=h
theorem Yr {p:Prop}(h:p:=by simp[aG,mX]):p:=h
theorem Y3 {p:Prop}(h:p:=by simp[g7,FH,-List.all_eq_true,-List.all_flatMap]):p:=h
theorem yBs {p:Prop}(h:p:=by simp[ev,assoc,R5]):p:=h
theorem yBt {p:Prop}(h:p:=by simp[-List.all_eq_true,ai (BM Y4 i).1,ai (BM Y4 (i+1)).2]):p:=h
theorem ZH {p:Prop}(h:p:=by first | rfl | simp only[List.append_nil,trees,tree,aL,Bool.and_self]):p:=h
theorem ZG {p:Prop}(h:p:=by simp[nU,bC,bS,ep,jX]):p:=h
theorem ZF {p:Prop}(h:p:=by simpa [a7,m1] using hb):p:=h
theorem ZE {p:Prop}(h:p:=by simp only;omega):p:=h
theorem ZD {p:Prop}(h:p:=by simpa using hi):p:=h
theorem ZC {p:Prop}(h:p:=by simpa using hl):p:=h
theorem yC {p:Prop}(h:p:=by simpa using h2):p:=h
theorem yCa {p:Prop}(h:p:=by simp[dh,aT,aU,a1,a2,a3,-List.all_eq_true];simp):p:=h
theorem yCb {p:Prop}(h:p:=by simp[eZ,assoc,bC,bh,bS,aX,cN,rL,rV,r1,r2,ra]):p:=h
theorem yCc {p:Prop}(h:p:=by simp[-List.all_eq_true,-List.all_flatMap,ai Xr]):p:=h
theorem yCd {p:Prop}(h:p:=by simp[mX,dC,-List.all_eq_true,-List.all_flatMap]):p:=h
theorem yCe {p:Prop}(h:p:=by simp[-List.all_eq_true,ai R6,ai SG]):p:=h
theorem yCf {p:Prop}(h:p:=by rw[aC (f:=dL) (n:=2) de];simp):p:=h
theorem yCg {p:Prop}(h:p:=by simp only[List.length_cons];omega):p:=h
theorem yCh {p:Prop}(h:p:=by simpa [aP] using ho):p:=h
theorem yCi {p:Prop}(h:p:=by simp[Tryz.ntmps14]):p:=h
theorem yCj {p:Prop}(h:p:=by simp[cI,oe,mg,tree,assoc,-List.all_eq_true,-List.all_flatMap,au Ye]):p:=h
theorem yCk {p:Prop}(h:p:=by simp[-List.all_eq_true,ai R6,ai SG,bP _ _ (aM _)]):p:=h
theorem yCl {p:Prop}(h:p:=by simp[cI,oe,mg,tree,assoc,-List.all_eq_true,-List.all_flatMap,R4]):p:=h
theorem yCm {p:Prop}(h:p:=by simp[-List.all_eq_true,-List.all_flatMap,-List.all_map,ai (tb _)]):p:=h
theorem yCn {p:Prop}(h:p:=by simp only[List.all_cons,List.all_nil,okW,tree];rfl):p:=h
theorem yCo {p:Prop}(h:p:=by simp[-List.all_eq_true,-List.all_flatMap,gV]):p:=h
theorem yCp {p:Prop}(h:p:=by simp[g7,-List.all_eq_true,-List.all_flatMap]):p:=h
theorem yCq {p:Prop}(h:p:=by simp[aG,-List.all_eq_true,gV]):p:=h
theorem yCr {p:Prop}(h:p:=by simp[ev,assoc,UN]):p:=h
theorem yCs {p:Prop}(h:p:=by simp[-List.all_eq_true,-List.all_flatMap,bP 2 _ hX,bP 2 _ hY,bP 2 _ Yd]):p:=h
theorem yCt {p:Prop}(h:p:=by simp[-List.all_eq_true,ai R6,ai SG,ai tI,ai tS2]):p:=h
theorem yCu {p:Prop}(h:p:=by simp[cI,oe,mg,tree,assoc,-List.all_eq_true,-List.all_flatMap]):p:=h
theorem yCv {p:Prop}(h:p:=by simp[-List.all_eq_true,-List.all_flatMap,ai ttb]):p:=h
theorem yCw {p:Prop}(h:p:=by simp[aG,mX,-List.all_eq_true,-List.all_flatMap]):p:=h
theorem yCx {p:Prop}(h:p:=by simp only;rw[FY (Kc nx) RV];exact Se):p:=h
theorem yCy {p:Prop}(h:p:=by simp[-List.all_eq_true,ai Y4]):p:=h
theorem yCz {p:Prop}(h:p:=by simp[aG,-List.all_eq_true]):p:=h
theorem yD {p:Prop}(h:p:=by simp[-List.all_eq_true,-List.all_flatMap,bP 4 _ hY,ai (ak ca l),bP 4 _ Yd,ai YV]):p:=h
theorem yDa {p:Prop}(h:p:=by unfold Func.isWrapper;first | (rw[if_pos (by decide +kernel)];kernel_rfl) | (rw[if_neg (by decide +kernel)];exact⟨rfl,rfl⟩)):p:=h
theorem yDb {p:Prop}(h:p:=by simp[cI,oe,mg,tree,assoc,-List.all_eq_true,-List.all_flatMap,au WS,au R6,au SG]):p:=h
theorem yDc {p:Prop}(h:p:=by simp[cI,oe,mg,tree,assoc,-List.all_eq_true,-List.all_flatMap,au tG,au tT,au tS]):p:=h
theorem yDe {p:Prop}(h:p:=by simp only[qi,Bool.and_eq_true,Bool.not_eq_true'] at hp;exact hp.1):p:=h
theorem yDh {p:Prop}(h:p:=by simp[aG,ints,mX,-List.all_eq_true,-List.all_flatMap]):p:=h
theorem yDi {p:Prop}(h:p:=by rw[<- Array.toArray_toList (xs:=cl.argTypes),Tj]):p:=h
theorem yDj {p:Prop}(h:p:=by have:(⟨#[9]⟩:ByteArray).size=1:=rfl;omega):p:=h
theorem yDk {p:Prop}(h:p:=by rw[<- Array.toArray_toList (xs:=cl.args),ha]):p:=h
theorem yDl {p:Prop}(h:p:=by simp[cI,oe,mg,tree,assoc,-List.all_eq_true,-List.all_flatMap,au tG,au tT,au tAi,au tf,au tV]):p:=h
theorem yDn {p:Prop}(h:p:=by simp[cI,oe,mg,tree,assoc,-List.all_eq_true,-List.all_flatMap,au tG,au tT,au tAi,au tk]):p:=h
theorem yDq {p:Prop}(h:p:=by simp only[dB,p6];simp[-List.all_eq_true,-List.all_flatMap,bw (ak aL N),AB]):p:=h
theorem yDr {p:Prop}(h:p:=by simp only[dB,p6];simp[-List.all_eq_true,-List.all_flatMap,gV,ai (ak aL N)]):p:=h
theorem yDs {p:Prop}(h:p:=by simp only[dB,p6,l7];simp[-List.all_eq_true,-List.all_flatMap,ai (ak aL _)]):p:=h
theorem yDt {p:Prop}(h:p:=by simp[cI,oe,mg,tree,assoc,-List.all_eq_true,-List.all_flatMap,au tLv,au tGG]):p:=h
theorem yDv {p:Prop}(h:p:=by simp[-List.all_eq_true,ai R6,ai SG,ai Wv,ai tS,bP _ _ Xr]):p:=h
theorem yDw {p:Prop}(h:p:=by simp[-List.all_eq_true,-List.all_flatMap,-List.all_map,ai tT,ai tG,ai tAi]):p:=h
theorem yDx {p:Prop}(h:p:=by simp[-List.all_eq_true,-List.all_flatMap,ai (bQ out),ai (bQ th.1)]):p:=h
theorem yDy {p:Prop}(h:p:=by have:(jF ⟨#[9]⟩ bd).size=(jF rv bd).size:=rfl;simp only[ByteArray.size_append];omega):p:=h
theorem yE {p:Prop}(h:p:=by simp[cI,oe,mg,tree,assoc,-List.all_eq_true,-List.all_flatMap,au tp1]):p:=h
theorem yEa {p:Prop}(h:p:=by simp only[Op.operands];simp only[List.mem_toArray,List.mem_map];exact⟨x,hx,rfl⟩):p:=h
theorem yEb {p:Prop}(h:p:=by simp[-List.all_eq_true,-List.all_flatMap,gV,ai (ak aL N)]):p:=h
open Go.RowKit
inductive CV where
 | int (k:IntKind) (n:Int)
 | bool (b:Bool)
 | str (s:ByteArray)
 | agg (cs:List CV)
 | ax (cs:List CV) (n:Nat)
 | aj
 | cQ (cs:List CV)
 | bJ
 | fn (f:FuncId) (Tv:List CV)
 | cE
 | iface (t:TypeId) (cs:List CV)
 | iter (k:Nat) (s:ByteArray) (p:Nat)
 | mp (k:Nat) (es:List (Value×Value))
 | cB (vs:List CV)
 | bb (o off n:Nat)
 | aw (o off:Nat)
 | any
instance : Inhabited CV := ⟨.bJ⟩
def one:CV->Bool
 | .agg _=>false
 | .cB _=>false
 | .iter _ _ _=>false
 | _=>true
def CV.cells:CV->List CV
 | .agg cs=>cs
 | c=>[c]
def Rz (t:TypeId):List Value->Value
 | []=>.nilIface
 | v::_=>.iface t v
mutual
/-- The immutable ones: the value v reads as c; no cell of it lies in a block of F. -/
def cr (w:World)(F:Nat->Prop):CV->Value->Prop
 | .int k n,v=>v=.int k n
 | .bool b,v=>v=.bool b
 | .str s,v=>v=.string s
 | .agg cs,v=>∃ vs:List Value,v=.agg vs.toArray/\bZ w F cs vs/\cs.all one=true
 | .ax cs n,v=>∃ A cap,v=.slice A n cap/\n<=cap/\cap<=maxLen/\((n=0/\cs=[])\/∃ ad,A=some ad/\fF w F cs ad)
 | .aj,v=>v=.slice none 0 0
 | .cQ cs,v=>∃ ad,v=.pointer (some ad)/\fF w F cs ad
 | .bJ,v=>v=.pointer none
 | .fn f Tv,v=>∃ vs:List Value,v=.func (.func f) #[] vs.toArray/\bZ w F Tv vs
 | .iface f Tv,v=>∃ vs:List Value,v=Rz f vs/\bZ w F Tv vs
 | .cE,v=>v=.nilFunc
 | .iter _ _ _,_=>False
 | .mp _ _,_=>False
 | .cB cs,v=>∃ vs:List Value,v=.tuple vs.toArray/\bZ w F cs vs
 | .bb _ _ _,_=>False
 | .aw _ _,_=>False
 | .any,v=>v.oneCell'=true
def bZ (w:World)(F:Nat->Prop):List CV->List Value->Prop
 | [],vs=>vs=[]
 | c::cs,vs=>∃ v r,vs=v::r/\cr w F c v/\bZ w F cs r
/-- The cells from an address on. -/
def fF (w:World)(F:Nat->Prop):List CV->Addr->Prop
 | [],_=>True
 | c::cs,ad=>(∃ u,w.cell? ad=some u/\¬ F ad.block/\cr w F c u)/\one c=true/\fF w F cs (ad.add 1)
end
theorem Il (a:Addr)(n:Nat):(a.add n).block=a.block:=by unfold Addr.add;split<;>rfl
theorem add_add (a:Addr)(i j:Nat):(a.add i).add j=a.add (i+j):=by
 unfold Addr.add;by_cases hi:i=0<;>by_cases hj:j=0<;>simp[hi,hj,Nat.add_assoc]
theorem add_zero (a:Addr):a.add 0=a:=by simp[Addr.add]
theorem add_lit (b i j:Nat):(⟨b,i,none⟩:Addr).add j=⟨b,i+j,none⟩:=by
 unfold Addr.add;split<;>simp_all
def nY (w w':World)(F F':Nat->Prop):Prop:=∀ ad u,¬ F ad.block->w.cell? ad=some u->w'.cell? ad=some u/\¬ F' ad.block
def cO (w w':World)(F F':Nat->Prop):Prop:=nY w w' F F'/\
 ∀ r x,¬ F r->w.heap[r]? = some x->(∀ c e f,x≠.cells c e f)->w'.heap[r]? = some x/\¬ F' r
theorem cO.same {w:World}{F F':Nat->Prop}(h:∀ b,F' b->F b):cO w w F F':=⟨λ _ _ hf hu=>⟨hu,λ k=>hf (h _ k)⟩,λ _ _ hf hu _=>⟨hu,λ k=>hf (h _ k)⟩⟩
mutual
theorem cr.bG {w w':World}{F F':Nat->Prop}(h:nY w w' F F'):∀ (c:CV) (v:Value),cr w F c v->cr w' F' c v
 | .int _ _,_,hv=>by simpa [cr] using hv
 | .bool _,_,hv=>by simpa [cr] using hv
 | .str _,_,hv=>by simpa [cr] using hv
 | .agg cs,v,hv=>by
  simp only[cr] at hv |-;obtain⟨vs,e,r,h1⟩:=hv;exact⟨vs,e,bZ.bG h cs vs r,h1⟩
 | .aj,_,hv=>by simpa [cr] using hv
 | .ax cs n,v,hv=>by
  simp only[cr] at hv |-;obtain⟨A,cap,e,h1,h2,h4⟩:=hv;refine⟨A,cap,e,h1,h2,?_⟩;rcases h4 with h4 | ⟨ad,ea,hm⟩
  ·exact .inl h4
  ·exact .inr ⟨ad,ea,fF.bG h cs ad hm⟩
 | .cQ cs,v,hv=>by
  simp only[cr] at hv |-;obtain⟨ad,e,hm⟩:=hv;exact⟨ad,e,fF.bG h cs ad hm⟩
 | .bJ,_,hv=>by simpa [cr] using hv
 | .fn f Tv,v,hv=>by
  simp only[cr] at hv |-;obtain⟨vs,e,r⟩:=hv;exact⟨vs,e,bZ.bG h Tv vs r⟩
 | .iface f Tv,v,hv=>by
  simp only[cr] at hv |-;obtain⟨vs,e,r⟩:=hv;exact⟨vs,e,bZ.bG h Tv vs r⟩
 | .cE,_,hv=>by simpa [cr] using hv
 | .iter _ _ _,_,hv=>by simp[cr] at hv
 | .mp _ _,_,hv=>by simp[cr] at hv
 | .cB cs,v,hv=>by
  simp only[cr] at hv |-;obtain⟨vs,e,r⟩:=hv;exact⟨vs,e,bZ.bG h cs vs r⟩
 | .bb _ _ _,_,hv=>by simp[cr] at hv
 | .aw _ _,_,hv=>by simp[cr] at hv
 | .any,_,hv=>by simpa [cr] using hv
theorem bZ.bG {w w':World}{F F':Nat->Prop}(h:nY w w' F F'):∀ (cs:List CV) (vs:List Value),bZ w F cs vs->bZ w' F' cs vs
 | [],_,hv=>by simpa [bZ] using hv
 | c::cs,vs,hv=>by
  simp only[bZ] at hv |-;obtain⟨v,r,e,h1,h2⟩:=hv;exact⟨v,r,e,cr.bG h c v h1,bZ.bG h cs r h2⟩
theorem fF.bG {w w':World}{F F':Nat->Prop}(h:nY w w' F F'):∀ (cs:List CV) (ad:Addr),fF w F cs ad->fF w' F' cs ad
 | [],_,_=>by simp[fF]
 | c::cs,ad,hv=>by
  simp only[fF] at hv |-;obtain⟨⟨u,h1,h2,h3⟩,ho,h4⟩:=hv;obtain⟨k1,k2⟩:=h ad u h2 h1;exact⟨⟨u,k1,k2,cr.bG h c u h3⟩,ho,fF.bG h cs _ h4⟩
end
theorem fF.drop {w:World}{F:Nat->Prop}:∀ (k:Nat) (cs:List CV) (ad:Addr),fF w F cs ad->fF w F (cs.drop k) (ad.add k)
 | 0,cs,ad,h=>by simpa [add_zero] using h
 | k+1,[],ad,_=>by simp[fF]
 | k+1,c::cs,ad,h=>by
  simp only[fF] at h;have:=fF.drop k cs _ h.2.2;rw[add_add] at this
  simpa [Nat.add_comm] using this
theorem fF.take {w:World}{F:Nat->Prop}:∀ (k:Nat) (cs:List CV) (ad:Addr),fF w F cs ad->fF w F (cs.take k) ad
 | 0,_,_,_=>by simp[fF]
 | k+1,[],_,_=>by simp[fF]
 | k+1,c::cs,ad,h=>by
  simp only[fF] at h;simp only[take_succ_cons,fF];exact⟨h.1,h.2.1,fF.take k cs _ h.2.2⟩
theorem fF.cells {w:World}{F:Nat->Prop}:∀ (cs:List CV) (ad:Addr),fF w F cs ad->∃ us:List Value,bZ w F cs us/\us.length=cs.length/\∀ j u,us[j]? = some u->w.cell? (ad.add j)=some u
 | [],ad,_=>⟨[],by simp[bZ],rfl,by simp⟩
 | c::cs,ad,h=>by
  simp only[fF] at h;obtain⟨⟨u,h1,h2,h3⟩,_,h4⟩:=h;obtain⟨us,k1,k2,k3⟩:=fF.cells cs _ h4;refine⟨u::us,by simp only[bZ];exact⟨u,us,rfl,h3,k1⟩,by simp[k2],?_⟩;intro j x hx
  cases j with
  | zero=>simp at hx;subst hx;rw[add_zero];exact h1
  | succ j=>
   have:=k3 j x (by simpa using hx);rw[add_add] at this;rwa [Nat.add_comm] at this
theorem bZ.length {w:World}{F:Nat->Prop}:∀ (cs:List CV) (vs:List Value),bZ w F cs vs->vs.length=cs.length
 | [],vs,h=>by simp only[bZ] at h;subst h;rfl
 | c::cs,vs,h=>by
  simp only[bZ] at h;obtain⟨v,r,rfl,_,h2⟩:=h;simp[bZ.length cs r h2]
theorem bZ.get {w:World}{F:Nat->Prop}:∀ (cs:List CV) (vs:List Value),bZ w F cs vs->∀ (i:Nat) (c:CV),cs[i]? = some c->∃ v,vs[i]? = some v/\cr w F c v
 | [],vs,_,i,c,hi=>by simp at hi
 | c::cs,vs,h,i,d,hi=>by
  simp only[bZ] at h;obtain⟨v,r,rfl,h1,h2⟩:=h
  cases i with
  | zero=>simp at hi;subst hi;exact⟨v,rfl,h1⟩
  | succ i=>simpa using bZ.get cs r h2 i d ZD
structure OB where
 kf:Option Nat
 room:Nat
 sz:Nat
mutual
/-- The values of a frame and of the objects' cells. -/
def VR (w:World)(F:Nat->Prop)(σ:Nat->Option OB):CV->Value->Prop
 | .bb o off n,v=>∃ B,σ o=some B/\match B.kf with
   | none=>v=.slice none 0 0/\off=0/\n=0
   | some b=>∃ cap,v=.slice (some ⟨b,off,none⟩) n cap/\n<=cap/\cap<=maxLen/\off+cap*B.sz<=B.room/\(off=0->cap*B.sz=B.room)
 | .aw o off,v=>∃ B b,σ o=some B/\B.kf=some b/\v=.pointer (some ⟨b,off,none⟩)
 | .agg cs,v=>∃ vs:List Value,v=.agg vs.toArray/\a6 w F σ cs vs/\cs.all one=true
 | .fn f Tv,v=>∃ vs:List Value,v=.func (.func f) #[] vs.toArray/\a6 w F σ Tv vs
 | .iface f Tv,v=>∃ vs:List Value,v=Rz f vs/\a6 w F σ Tv vs
 | .cB cs,v=>∃ vs:List Value,v=.tuple vs.toArray/\a6 w F σ cs vs
 | .int k n,v=>v=.int k n
 | .bool b,v=>v=.bool b
 | .str s,v=>v=.string s
 | .ax cs n,v=>cr w F (.ax cs n) v
 | .aj,v=>v=.slice none 0 0
 | .cQ cs,v=>cr w F (.cQ cs) v
 | .bJ,v=>v=.pointer none
 | .cE,v=>v=.nilFunc
 | .iter k s p,v=>∃ B r,σ k=some B/\B.kf=some r/\v=.pointer (some ⟨r,0,none⟩)/\w.heap[r]? = some (.stringIter s p)/\¬ F r
 | .mp k es,v=>∃ B r arr clock,σ k=some B/\B.kf=some r/\v=.map (some r)/\w.heap[r]? = some (.map arr clock)/\arr.toList.map (λ e=>(e.key,e.val))=es/\(es.map (·.1)).Nodup/\¬ F r
 | .any,v=>v.oneCell'=true
def a6 (w:World)(F:Nat->Prop)(σ:Nat->Option OB):List CV->List Value->Prop
 | [],vs=>vs=[]
 | c::cs,vs=>∃ v r,vs=v::r/\VR w F σ c v/\a6 w F σ cs r
end
mutual
/-- No object of one's own in it, on the surface. -/
def tree:CV->Bool
 | .bb _ _ _=>false
 | .aw _ _=>false
 | .iter _ _ _=>false
 | .mp _ _=>false
 | .agg cs=>trees cs
 | .fn _ cs=>trees cs
 | .iface _ cs=>trees cs
 | .cB cs=>trees cs
 | _=>true
def trees:List CV->Bool
 | []=>true
 | c::cs=>tree c && trees cs
end
mutual
theorem VR.cK {w:World}{F:Nat->Prop}{σ:Nat->Option OB}:∀ (c:CV) (v:Value),cr w F c v->VR w F σ c v
 | .int _ _,_,h=>by simpa [VR,cr] using h
 | .bool _,_,h=>by simpa [VR,cr] using h
 | .str _,_,h=>by simpa [VR,cr] using h
 | .agg cs,v,h=>by
  simp only[VR,cr] at h |-;obtain⟨vs,e,r,h1⟩:=h;exact⟨vs,e,a6.cK cs vs r,h1⟩
 | .aj,_,h=>by simpa [VR,cr] using h
 | .ax _ _,_,h=>by simpa only[VR] using h
 | .cQ _,_,h=>by simpa only[VR] using h
 | .bJ,_,h=>by simpa [VR,cr] using h
 | .fn _ cs,v,h=>by
  simp only[VR,cr] at h |-;obtain⟨vs,e,r⟩:=h;exact⟨vs,e,a6.cK cs vs r⟩
 | .iface _ cs,v,h=>by
  simp only[VR,cr] at h |-;obtain⟨vs,e,r⟩:=h;exact⟨vs,e,a6.cK cs vs r⟩
 | .cE,_,h=>by simpa [VR,cr] using h
 | .iter _ _ _,_,h=>by simp[cr] at h
 | .mp _ _,_,h=>by simp[cr] at h
 | .cB cs,v,h=>by
  simp only[VR,cr] at h |-;obtain⟨vs,e,r⟩:=h;exact⟨vs,e,a6.cK cs vs r⟩
 | .bb _ _ _,_,h=>by simp[cr] at h
 | .aw _ _,_,h=>by simp[cr] at h
 | .any,_,h=>by simpa [VR,cr] using h
theorem a6.cK {w:World}{F:Nat->Prop}{σ:Nat->Option OB}:∀ (cs:List CV) (vs:List Value),bZ w F cs vs->a6 w F σ cs vs
 | [],_,h=>by simpa [a6,bZ] using h
 | c::cs,vs,h=>by
  simp only[a6,bZ] at h |-;obtain⟨v,r,e,h1,h2⟩:=h;exact⟨v,r,e,VR.cK c v h1,a6.cK cs r h2⟩
end
mutual
theorem VR.eX {w:World}{F:Nat->Prop}{σ:Nat->Option OB}:∀ (c:CV) (v:Value),tree c=true->VR w F σ c v->cr w F c v
 | .int _ _,_,_,h=>by simpa [VR,cr] using h
 | .bool _,_,_,h=>by simpa [VR,cr] using h
 | .str _,_,_,h=>by simpa [VR,cr] using h
 | .agg cs,v,ht,h=>by
  simp only[VR,cr,tree] at h ht |-;obtain⟨vs,e,r,h1⟩:=h;exact⟨vs,e,a6.eX cs vs ht r,h1⟩
 | .aj,_,_,h=>by simpa [VR,cr] using h
 | .ax _ _,_,_,h=>by simpa only[VR] using h
 | .cQ _,_,_,h=>by simpa only[VR] using h
 | .bJ,_,_,h=>by simpa [VR,cr] using h
 | .fn _ cs,v,ht,h=>by
  simp only[VR,cr,tree] at h ht |-;obtain⟨vs,e,r⟩:=h;exact⟨vs,e,a6.eX cs vs ht r⟩
 | .iface _ cs,v,ht,h=>by
  simp only[VR,cr,tree] at h ht |-;obtain⟨vs,e,r⟩:=h;exact⟨vs,e,a6.eX cs vs ht r⟩
 | .cE,_,_,h=>by simpa [VR,cr] using h
 | .iter _ _ _,_,ht,_=>by simp[tree] at ht
 | .mp _ _,_,ht,_=>by simp[tree] at ht
 | .cB cs,v,ht,h=>by
  simp only[VR,cr,tree] at h ht |-;obtain⟨vs,e,r⟩:=h;exact⟨vs,e,a6.eX cs vs ht r⟩
 | .bb _ _ _,_,ht,_=>by simp[tree] at ht
 | .aw _ _,_,ht,_=>by simp[tree] at ht
 | .any,_,_,h=>by simpa [VR,cr] using h
theorem a6.eX {w:World}{F:Nat->Prop}{σ:Nat->Option OB}:∀ (cs:List CV) (vs:List Value),trees cs=true->a6 w F σ cs vs->bZ w F cs vs
 | [],_,_,h=>by simpa [a6,bZ] using h
 | c::cs,vs,ht,h=>by
  simp only[a6,bZ,trees,Bool.and_eq_true] at h ht |-;obtain⟨v,r,e,h1,h2⟩:=h;exact⟨v,r,e,VR.eX c v ht.1 h1,a6.eX cs r ht.2 h2⟩
end
mutual
/-- The value names the object o. -/
def aP (o:Nat):CV->Bool
 | .bb p _ _=>p != o
 | .aw p _=>p != o
 | .iter p _ _=>p != o
 | .mp p _=>p != o
 | .agg cs=>ed o cs
 | .fn _ cs=>ed o cs
 | .iface _ cs=>ed o cs
 | .cB cs=>ed o cs
 | _=>true
def ed (o:Nat):List CV->Bool
 | []=>true
 | c::cs=>aP o c && ed o cs
end
mutual
/-- A reading is kept when the world turns as 'Keeps' says and the places of all objects that it names stay. -/
theorem VR.bG {w w':World}{F F':Nat->Prop}{σ σ':Nat->Option OB}(h:cO w w' F F'):∀ (c:CV) (v:Value),(∀ o,aP o c=false->σ' o=σ o)->VR w F σ c v->VR w' F' σ' c v
 | .int _ _,_,_,hv=>by simpa [VR] using hv
 | .bool _,_,_,hv=>by simpa [VR] using hv
 | .str _,_,_,hv=>by simpa [VR] using hv
 | .agg cs,v,hr,hv=>by
  simp only[VR] at hv |-;obtain⟨vs,e,r,h1⟩:=hv;exact⟨vs,e,a6.bG h cs vs (λ o ho=>hr o yCh) r,h1⟩
 | .aj,_,_,hv=>by simpa [VR] using hv
 | .ax _ _,_,_,hv=>by simp only[VR] at hv |-;exact cr.bG h.1 _ _ hv
 | .cQ _,_,_,hv=>by simp only[VR] at hv |-;exact cr.bG h.1 _ _ hv
 | .bJ,_,_,hv=>by simpa [VR] using hv
 | .fn _ cs,v,hr,hv=>by
  simp only[VR] at hv |-;obtain⟨vs,e,r⟩:=hv;exact⟨vs,e,a6.bG h cs vs (λ o ho=>hr o yCh) r⟩
 | .iface _ cs,v,hr,hv=>by
  simp only[VR] at hv |-;obtain⟨vs,e,r⟩:=hv;exact⟨vs,e,a6.bG h cs vs (λ o ho=>hr o yCh) r⟩
 | .cE,_,_,hv=>by simpa [VR] using hv
 | .iter k s p,v,hr,hv=>by
  have hs:=hr k (by simp[aP]);simp only[VR] at hv |-;obtain⟨B,r,e1,e2,e3,h1,h2⟩:=hv;obtain⟨k1,k2⟩:=h.2 r _ h2 h1 (λ _ _ _ he=>by cases he);exact⟨B,r,hs.trans e1,e2,e3,k1,k2⟩
 | .mp k es,v,hr,hv=>by
  have hs:=hr k (by simp[aP]);simp only[VR] at hv |-;obtain⟨B,r,arr,clock,e1,e2,e3,h1,h3,h4,h2⟩:=hv;obtain⟨k1,k2⟩:=h.2 r _ h2 h1 (λ _ _ _ he=>by cases he);exact⟨B,r,arr,clock,hs.trans e1,e2,e3,k1,h3,h4,k2⟩
 | .cB cs,v,hr,hv=>by
  simp only[VR] at hv |-;obtain⟨vs,e,r⟩:=hv;exact⟨vs,e,a6.bG h cs vs (λ o ho=>hr o yCh) r⟩
 | .bb o off n,v,hr,hv=>by
  have:=hr o (by simp[aP]);simp only[VR] at hv |-;rw[this];exact hv
 | .aw o off,v,hr,hv=>by
  have:=hr o (by simp[aP]);simp only[VR] at hv |-;rw[this];exact hv
 | .any,_,_,hv=>by simpa [VR] using hv
theorem a6.bG {w w':World}{F F':Nat->Prop}{σ σ':Nat->Option OB}(h:cO w w' F F'):∀ (cs:List CV) (vs:List Value),(∀ o,ed o cs=false->σ' o=σ o)->a6 w F σ cs vs->a6 w' F' σ' cs vs
 | [],_,_,hv=>by simpa [a6] using hv
 | c::cs,vs,hr,hv=>by
  simp only[a6] at hv |-;obtain⟨v,r,e,h1,h2⟩:=hv;exact⟨v,r,e,VR.bG h c v (λ o ho=>hr o (by simp[ed,ho])) h1,a6.bG h cs r (λ o ho=>hr o (by simp[ed,ho])) h2⟩
end
mutual
/-- No iterator in it, on the surface. -/
def lX:CV->Bool
 | .iter _ _ _=>false
 | .mp _ _=>false
 | .agg cs=>jT cs
 | .fn _ cs=>jT cs
 | .iface _ cs=>jT cs
 | .cB cs=>jT cs
 | _=>true
def jT:List CV->Bool
 | []=>true
 | c::cs=>lX c && jT cs
end
mutual
/-- A reading without iterators is kept when the cells are. -/
theorem VR.oV {w w':World}{F F':Nat->Prop}{σ:Nat->Option OB}(h:nY w w' F F'):∀ (c:CV) (v:Value),lX c=true->VR w F σ c v->VR w' F' σ c v
 | .int _ _,_,_,hv=>by simpa [VR] using hv
 | .bool _,_,_,hv=>by simpa [VR] using hv
 | .str _,_,_,hv=>by simpa [VR] using hv
 | .aj,_,_,hv=>by simpa [VR] using hv
 | .ax _ _,_,_,hv=>by simp only[VR] at hv |-;exact cr.bG h _ _ hv
 | .cQ _,_,_,hv=>by simp only[VR] at hv |-;exact cr.bG h _ _ hv
 | .bJ,_,_,hv=>by simpa [VR] using hv
 | .cE,_,_,hv=>by simpa [VR] using hv
 | .any,_,_,hv=>by simpa [VR] using hv
 | .bb _ _ _,_,_,hv=>by simpa only[VR] using hv
 | .aw _ _,_,_,hv=>by simpa only[VR] using hv
 | .iter _ _ _,_,hn,_=>by simp[lX] at hn
 | .mp _ _,_,hn,_=>by simp[lX] at hn
 | .agg cs,v,hn,hv=>by
  simp only[VR] at hv |-;obtain⟨vs,e,r,h1⟩:=hv;exact⟨vs,e,a6.oV h cs vs (by simpa [lX] using hn) r,h1⟩
 | .fn _ cs,v,hn,hv=>by
  simp only[VR] at hv |-;obtain⟨vs,e,r⟩:=hv;exact⟨vs,e,a6.oV h cs vs (by simpa [lX] using hn) r⟩
 | .iface _ cs,v,hn,hv=>by
  simp only[VR] at hv |-;obtain⟨vs,e,r⟩:=hv;exact⟨vs,e,a6.oV h cs vs (by simpa [lX] using hn) r⟩
 | .cB cs,v,hn,hv=>by
  simp only[VR] at hv |-;obtain⟨vs,e,r⟩:=hv;exact⟨vs,e,a6.oV h cs vs (by simpa [lX] using hn) r⟩
theorem a6.oV {w w':World}{F F':Nat->Prop}{σ:Nat->Option OB}(h:nY w w' F F'):∀ (cs:List CV) (vs:List Value),jT cs=true->a6 w F σ cs vs->a6 w' F' σ cs vs
 | [],_,_,hv=>by simpa [a6] using hv
 | c::cs,vs,hn,hv=>by
  simp only[jT,Bool.and_eq_true] at hn;simp only[a6] at hv |-;obtain⟨v,r,e,h1,h2⟩:=hv;exact⟨v,r,e,VR.oV h c v hn.1 h1,a6.oV h cs r hn.2 h2⟩
end
theorem a6.length {w:World}{F:Nat->Prop}{σ:Nat->Option OB}:∀ (cs:List CV) (vs:List Value),a6 w F σ cs vs->vs.length=cs.length
 | [],vs,h=>by simp only[a6] at h;subst h;rfl
 | c::cs,vs,h=>by
  simp only[a6] at h;obtain⟨v,r,rfl,_,h2⟩:=h;simp[a6.length cs r h2]
theorem a6.get {w:World}{F:Nat->Prop}{σ:Nat->Option OB}:∀ (cs:List CV) (vs:List Value),a6 w F σ cs vs->∀ (i:Nat) (c:CV),cs[i]? = some c->∃ v,vs[i]? = some v/\VR w F σ c v
 | [],vs,_,i,c,hi=>by simp at hi
 | c::cs,vs,h,i,d,hi=>by
  simp only[a6] at h;obtain⟨v,r,rfl,h1,h2⟩:=h
  cases i with
  | zero=>simp at hi;subst hi;exact⟨v,rfl,h1⟩
  | succ i=>simpa using a6.get cs r h2 i d ZD
theorem a6.AD {w:World}{F:Nat->Prop}{σ:Nat->Option OB}:∀ (cs:List CV) (vs:List Value),vs.length=cs.length->(∀ (i:Nat) (c:CV),cs[i]? = some c->∃ v,vs[i]? = some v/\VR w F σ c v)->a6 w F σ cs vs
 | [],vs,hl,_=>by simp only[a6];exact eq_nil_of_length_eq_zero hl
 | c::cs,[],hl,_=>by simp at hl
 | c::cs,v::vs,hl,h=>by
  simp only[a6];refine⟨v,vs,rfl,?_,a6.AD cs vs ZC λ i d hi=>?_⟩
  ·obtain⟨u,hu,hr⟩:=h 0 c rfl;simp at hu;subst hu;exact hr
  ·simpa using h (i+1) d ZD
theorem a6.take {w:World}{F:Nat->Prop}{σ:Nat->Option OB}(k:Nat)(cs:List CV)(vs:List Value)(h:a6 w F σ cs vs):a6 w F σ (cs.take k) (vs.take k):=by
 refine a6.AD _ _ (by simp[a6.length cs vs h]) λ i c hi=>?_;rw[getElem?_take] at hi |-;split at hi
 ·rename_i hk;rw[if_pos hk];exact a6.get cs vs h i c hi
 ·cases hi
theorem a6.drop {w:World}{F:Nat->Prop}{σ:Nat->Option OB}(k:Nat)(cs:List CV)(vs:List Value)(h:a6 w F σ cs vs):a6 w F σ (cs.drop k) (vs.drop k):=by
 refine a6.AD _ _ (by simp[a6.length cs vs h]) λ i c hi=>?_;rw[getElem?_drop] at hi |-;exact a6.get cs vs h _ c hi
theorem a6.append {w:World}{F:Nat->Prop}{σ:Nat->Option OB}:∀ (cs ds:List CV) (vs us:List Value),a6 w F σ cs vs->a6 w F σ ds us->a6 w F σ (cs++ds) (vs++us)
 | [],ds,vs,us,h,k=>by simp only[a6] at h;subst h;simpa using k
 | c::cs,ds,vs,us,h,k=>by
  simp only[a6] at h;obtain⟨v,r,rfl,h1,h2⟩:=h;simp only[cons_append,a6];exact⟨v,r++us,rfl,h1,a6.append cs ds r us h2 k⟩
theorem VR.Cp {w:World}{F:Nat->Prop}{σ:Nat->Option OB}(c:CV)(v:Value)(h1:one c=true)(h:VR w F σ c v):v.oneCell'=true:=by
 cases c<;>simp only[VR,cr,one,Bool.false_eq_true] at h h1
 case ax=>obtain⟨A,cap,rfl,_⟩:=h;rfl
 case cQ=>obtain⟨ad,rfl,_⟩:=h;rfl
 case fn=>obtain⟨vs,rfl,_⟩:=h;rfl
 case iface=>obtain⟨vs,rfl,_⟩:=h;cases vs<;>rfl
 case bb o off n=>
  obtain⟨B,_,h⟩:=h;split at h
  ·obtain⟨rfl,_⟩:=h;rfl
  ·obtain⟨cap,rfl,_⟩:=h;rfl
 case aw=>obtain⟨B,b,_,_,rfl⟩:=h;rfl
 case any=>exact h
 case mp=>obtain⟨B,r,arr,clock,_,_,rfl,_⟩:=h;rfl
 all_goals (subst h;rfl)
theorem a6.jh {w:World}{F:Nat->Prop}{σ:Nat->Option OB}:∀ (cs:List CV) (vs:List Value),cs.all one=true->a6 w F σ cs vs->∀ u∈vs,u.oneCell'=true
 | [],vs,_,h=>by simp only[a6] at h;subst h;simp
 | c::cs,vs,ha,h=>by
  simp only[a6] at h;obtain⟨v,r,rfl,h1,h2⟩:=h;simp only[all_cons,Bool.and_eq_true] at ha;intro u hu;rcases mem_cons.1 hu with rfl | hu
  ·exact VR.Cp c _ ha.1 h1
  ·exact a6.jh cs r ha.2 h2 u hu
theorem Ax {v:Value}(h:v.oneCell'=true):v.cells=#[v]:=by
 cases v<;>simp_all [Value.oneCell',Value.cells]
theorem VR.flat {w:World}{F:Nat->Prop}{σ:Nat->Option OB}(c:CV)(v:Value)(hc:∀ cs,c≠.cB cs)(hi:∀ k s p,c≠.iter k s p)(h:VR w F σ c v):a6 w F σ c.cells v.cells.toList/\c.cells.all one=true:=by
 by_cases ha:∃ cs,c=.agg cs
 ·obtain⟨cs,rfl⟩:=ha;simp only[VR] at h;obtain⟨vs,rfl,r,h1⟩:=h;exact⟨by simpa [CV.cells,Value.cells] using r,h1⟩
 ·have h1:one c=true:=by
   cases c<;>simp_all [one]
  have h2:c.cells=[c]:=by
   cases c<;>simp_all [CV.cells]
  rw[h2,Ax (VR.Cp c v h1 h)];exact⟨by simp only[a6];exact⟨v,[],rfl,h,rfl⟩,by simp[h1]⟩
theorem fF.PJ {w:World}{F:Nat->Prop}:∀ (cs:List CV) (ad:Addr),fF w F cs ad->cs.all one=true
 | [],_,_=>rfl
 | c::cs,ad,h=>by
  simp only[fF] at h;simp[h.2.1,fF.PJ cs _ h.2.2]
end Go.Can
/- Canonical states, their relation to the real frame and world, and the operations that turn nothing in memory. No function of the program is mentioned here. -/
namespace Go.Can
open Go.RowKit
def assoc {α:Type}:List (Nat×α)->Nat->Option α
 | [],_=>none
 | (k,v)::r,t=>if k=t then some v else assoc r t
def jX {α:Type}:List (Nat×α)->Nat->List (Nat×α)
 | [],_=>[]
 | (k,v)::r,t=>if k=t then jX r t else (k,v)::jX r t
def uN {α:Type}:List (Nat×α)->Nat->α->List (Nat×α)
 | [],_,_=>[]
 | (k,v)::r,t,x=>if k=t then (k,x)::r else (k,v)::uN r t x
theorem fE {α:Type}(l:List (Nat×α))(t u:Nat):assoc (jX l t) u=if t=u then none else assoc l u:=by
 induction l with
 | nil=>simp[jX,assoc]
 | cons x r ih=>
  obtain⟨k,v⟩:=x;simp only[jX];split
  ·rename_i hk;subst hk;rw[ih];split
   ·rfl
   ·rename_i hu;simp[assoc,hu]
  ·rename_i hk;simp only[assoc];split
   ·rename_i hu;subst hu;simp[Ne.symm hk]
   ·exact ih
theorem fN {α:Type}(l:List (Nat×α))(t u:Nat)(x:α):assoc (uN l t x) u=if t=u then (assoc l t).map λ _=>x else assoc l u:=by
 induction l with
 | nil=>simp[uN,assoc]
 | cons y r ih=>
  obtain⟨k,v⟩:=y;simp only[uN];split
  ·rename_i hk;subst hk;simp only[assoc,if_true];split
   ·rename_i hu;simp
   ·rfl
  ·rename_i hk;simp only[assoc,hk,if_false];rw[ih];split
   ·rename_i hu;subst hu;simp[Ne.symm hk]
   ·rfl
structure Ob where
 elem:TypeId
 sz:Nat
 cells:List CV
structure St where
 env:List (Nat×CV)
 heap:List (Nat×Ob)
 nx:Nat
def St.put (s:St)(d:Option Tmp)(c:CV):St:=
 match d with
 | some t=>{ s with env:=(t,c)::jX s.env t }
 | none=>s
def St.del (s:St)(d:Option Tmp):St:=
 match d with
 | some t=>{ s with env:=jX s.env t }
 | none=>s
def QN (w:World)(F:Nat->Prop):Prop:=∀ x∈QM,x.1<w.heap.size/\¬ F x.1/\∀ (j:Nat) (v:Value),x.2[j]? = some v->w.cell? ⟨x.1,j,none⟩=some v
def LU (w:World)(F own:Nat->Prop):Prop:=(∀ b,F b->b<w.heap.size)/\QN w (λ b=>F b\/own b)
def FOk (w:World)(F:Nat->Prop):Prop:=LU w F (λ _=>False)
structure Cx where
 w0:World
 F:Nat->Prop
 own:Nat->Prop
 hF:LU w0 F own
 nt:Nat
 σ0:Nat->Option OB
 n0:Nat
def a7 (σ:Nat->Option OB)(o:Nat):Option Nat:=(σ o).bind (·.kf)
def FB (C:Cx)(σ:Nat->Option OB)(H:List (Nat×Ob))(b:Nat):Prop:=C.F b\/∃ o ob,assoc H o=some ob/\a7 σ o=some b
def ObR (C:Cx)(w:World)(σ:Nat->Option OB)(H:List (Nat×Ob))(o:Nat)(ob:Ob):Prop:=
 ∃ B,σ o=some B/\B.sz=ob.sz/\(B.kf=none->ob.cells=[])/\ob.cells.all one=true/\
  ∀ b,B.kf=some b->∃ cur:Array Value,w.heap[b]? = some (.cells cur ob.elem (0,0))/\cur.size=B.room/\¬ C.F b/\(C.own b\/C.w0.heap.size<=b)/\
   ob.cells.length<=cur.size/\a6 w (FB C σ H) σ ob.cells (cur.toList.take ob.cells.length)
structure aQ (C:Cx)(σ:Nat->Option OB)(s:St)(a:Act)(w:World):Prop where
 pQ:a.defers=[]
 tm:a.tmps.size=C.nt
 os:w.os=C.w0.os
 tape:w.tape=C.w0.tape
 output:w.output=C.w0.output
 size:C.w0.heap.size<=w.heap.size
 frame:∀ b,b<C.w0.heap.size->¬ C.own b->w.heap[b]? = C.w0.heap[b]?
 env:∀ t c,assoc s.env t=some c->∃ v,a.tmps[t]? = some v/\VR w (FB C σ s.heap) σ c v
 obj:∀ o ob,assoc s.heap o=some ob->ObR C w σ s.heap o ob
 inj:∀ o o' ob R9 b,assoc s.heap o=some ob->assoc s.heap o'=some R9->a7 σ o=some b->a7 σ o'=some b->o=o'
 nx:∀ o,s.nx<=o->σ o=none
 gA:∀ o,o<C.n0->σ o=C.σ0 o
 low:C.n0<=s.nx
 new:∀ o B b,C.n0<=o->σ o=some B->B.kf=some b->C.own b\/C.w0.heap.size<=b
def Rel (C:Cx)(s:St)(a:Act)(w:World):Prop:=∃ σ,aQ C σ s a w
section
variable {C:Cx}{σ:Nat->Option OB}{s:St}{a:Act}{w:World}
theorem Gp {a:Act}{d t:Nat}{v:Value}:(a.put (some d) v).tmps[t]? = if d=t then (if t<a.tmps.size then some v else none) else a.tmps[t]?:=by
 simp only[Act.put];rw[Array.getElem?_setIfInBounds];split
 ·rename_i h;subst h;rfl
 ·rfl
theorem aQ.put (h:aQ C σ s a w){d:Option Tmp}{c:CV}{v:Value}(hd:∀ t,d=some t->t<a.tmps.size)(hv:VR w (FB C σ s.heap) σ c v):aQ C σ (s.put d c) (a.put d v) w:=by
 cases d with
 | none=>exact h
 | some d=>
  refine⟨h.pQ,by simpa [Act.put] using h.tm,h.os,h.tape,h.output,h.size,h.frame,?_,h.obj,h.inj,h.nx,h.gA,h.low,h.new⟩;intro t c' hc;rw[Gp];simp only[St.put,assoc] at hc;split at hc
  ·rename_i e;subst e;cases hc;rw[if_pos rfl,if_pos (hd _ rfl)];exact⟨v,rfl,hv⟩
  ·rename_i e;rw[fE,if_neg e] at hc;rw[if_neg e];exact h.env t c' hc
theorem aQ.del (h:aQ C σ s a w){d:Option Tmp}(v:Value):aQ C σ (s.del d) (a.put d v) w:=by
 cases d with
 | none=>exact h
 | some d=>
  refine⟨h.pQ,by simpa [Act.put] using h.tm,h.os,h.tape,h.output,h.size,h.frame,?_,h.obj,h.inj,h.nx,h.gA,h.low,h.new⟩;intro t c' hc;rw[Gp];simp only[St.del] at hc;rw[fE] at hc;split at hc
  ·cases hc
  ·rename_i e;rw[if_neg e];exact h.env t c' hc
def gQ:Value->Option CV
 | .int k n=>some (.int k n)
 | .bool b=>some (.bool b)
 | .string s=>some (.str s)
 | .pointer none=>some .bJ
 | .slice none 0 0=>some .aj
 | .nilFunc=>some .cE
 | .nilIface=>some (.iface 0 [])
 | .map none=>some .any
 | _=>none
def fI:List Value->Option (List CV)
 | []=>some []
 | v::r=>match gQ v,fI r with
  | some c,some cs=>some (c::cs)
  | _,_=>none
def sC:Value->Option CV
 | .agg cs=>(fI cs.toList).map CV.agg
 | .tuple vs=>if vs.isEmpty then some (.cB []) else none
 | v=>gQ v
theorem lF {F:Nat->Prop}{v:Value}{c:CV}(h:gQ v=some c):cr w F c v/\one c=true:=by
 unfold gQ at h;split at h<;>first | (cases h;simp[cr,bZ,Rz,one,Value.oneCell'];done) | (cases h)
theorem dk {F:Nat->Prop}:∀ (vs:List Value) (cs:List CV),fI vs=some cs->bZ w F cs vs/\cs.all one=true
 | [],cs,h=>by simp only[fI] at h;cases h;simp[bZ]
 | v::r,cs,h=>by
  simp only[fI] at h;split at h
  ·rename_i c Tz h1 h2;cases h;obtain⟨k1,k2⟩:=lF (w:=w) (F:=F) h1;obtain⟨k3,k4⟩:=dk (F:=F) r Tz h2;simp only[bZ];exact⟨⟨v,r,rfl,k1,k3⟩,by simp[k2,k4]⟩
  ·cases h
theorem nK {F:Nat->Prop}{v:Value}{c:CV}(h:sC v=some c):cr w F c v:=by
 unfold sC at h;split at h
 ·rename_i cs;obtain⟨x,h1,h2⟩:=Option.map_eq_some_iff.1 h;subst h2;obtain⟨k1,k2⟩:=dk (w:=w) (F:=F) _ _ h1;simp only[cr];exact⟨cs.toList,by simp,k1,k2⟩
 ·rename_i vs;split at h
  ·rename_i he;cases h;simp only[cr,bZ];exact⟨[],by simpa using he,rfl⟩
  ·cases h
 ·exact (lF h).1
theorem zU {F:Nat->Prop}{g:Nat}(hg:¬ F g):∀ (vs:List Value) (cs:List CV) (k:Nat),fI vs=some cs->(∀ (j:Nat) (v:Value),vs[j]? = some v->w.cell? ⟨g,k+j,none⟩=some v)->fF w F cs ⟨g,k,none⟩
 | [],cs,k,h,_=>by simp only[fI] at h;cases h;simp[fF]
 | v::r,cs,k,h,hc=>by
  simp only[fI] at h;split at h
  ·rename_i c Tz h1 h2;cases h;obtain⟨k1,k2⟩:=lF (w:=w) (F:=F) h1;simp only[fF];refine⟨⟨v,hc 0 v rfl,hg,k1⟩,k2,?_⟩;rw[add_lit];exact zU hg r Tz (k+1) h2 λ j u hj=>by rw[Nat.add_assoc,Nat.add_comm 1 j];exact hc (j+1) u (by simpa using hj)
  ·cases h
theorem x9 {α:Type}:∀ (l:List (Nat×α)) (t:Nat) (v:α),assoc l t=some v->(t,v)∈l
 | [],_,_,h=>by simp[assoc] at h
 | (k,u)::r,t,v,h=>by
  simp only[assoc] at h;split at h
  ·rename_i e;subst e;cases h;exact List.mem_cons_self
  ·exact List.mem_cons_of_mem _ (x9 r t v h)
theorem aQ.gok (h:aQ C σ s a w):QN w (FB C σ s.heap):=λ x hx=>by
 obtain⟨h0,h1,h2⟩:=C.hF.2 x hx;refine⟨Nat.lt_of_lt_of_le h0 h.size,?_,λ j v hj=>?_⟩
 ·rintro (hf | ⟨o,ob,ho,hb⟩)
  ·exact h1 (.inl hf)
  ·obtain⟨B,m1,_,_,_,m5⟩:=h.obj o ob ho;obtain⟨cur,_,_,_,n4,_⟩:=m5 _ ZF;rcases n4 with n4 | n4
   ·exact h1 (.inr n4)
   ·omega
 ·rw[World.cell?_of_block (w:=C.w0) (h.frame x.1 h0 λ ho=>h1 (.inr ho))];exact h2 j v hj
theorem QN.mono {w:World}{F F':Nat->Prop}(h:QN w F)(hF:∀ b,F' b->F b):QN w F':=λ x hx=>⟨(h x hx).1,λ hf=>(h x hx).2.1 (hF _ hf),(h x hx).2.2⟩
def ev (s:St):Operand->Option CV
 | .tmp t=>assoc s.env t
 | .const v=>sC v
 | .func f=>some (.fn f [])
 | .global g=>(assoc QM g).bind λ vs=>(fI vs).map .cQ
def C6 (s:St):List Operand->Option (List CV)
 | []=>some []
 | x::r=>match ev s x,C6 s r with
  | some c,some cs=>some (c::cs)
  | _,_=>none
theorem bF (h:aQ C σ s a w){x:Operand}{c:CV}(he:ev s x=some c):VR w (FB C σ s.heap) σ c (a.eval x):=by
 cases x with
 | tmp t=>
  obtain⟨v,h1,h2⟩:=h.env t c he;simp only[Act.eval];have:a.tmps.getD t undef=v:=by simp[Array.getD_eq_getD_getElem?,h1]
  rw[this];exact h2
 | const v=>exact VR.cK _ _ (nK he)
 | func f=>cases he;simp only[VR];exact⟨[],rfl,rfl⟩
 | global g=>
  simp only[ev] at he;obtain⟨vs,h1,h2⟩:=Option.bind_eq_some_iff.1 he;obtain⟨cs,h3,rfl⟩:=Option.map_eq_some_iff.1 h2;obtain⟨_,k1,k2⟩:=h.gok _ (x9 _ _ _ h1);simp only[VR,cr,Act.eval];exact⟨_,rfl,zU k1 vs cs 0 h3 λ j v hj=>by rw[Nat.zero_add];exact k2 j v hj⟩
theorem qJ (h:aQ C σ s a w):∀ (xs:List Operand) (cs:List CV),C6 s xs=some cs->a6 w (FB C σ s.heap) σ cs (xs.map a.eval)
 | [],cs,he=>by simp only[C6] at he;cases he;rfl
 | x::r,cs,he=>by
  simp only[C6] at he;split at he
  ·rename_i c Tz h1 h2;cases he;simp only[a6];exact⟨_,_,rfl,bF h h1,qJ h r Tz h2⟩
  ·cases he
end
inductive TD where
 | int (k:IntKind)
 | bool
 | str
 | sl (e:TypeId)
 | bB (fs:List (Nat×TypeId))
 | arr (n:Nat) (e:TypeId)
 | ptr (e:TypeId)
 | func
 | PH
def vi:TypeDesc->TD
 | .int k=>.int k
 | .bool=>.bool
 | .string=>.str
 | .slice e=>.sl e
 | .struct fs=>.bB (fs.toList.map λ f=>(f.offset,f.type))
 | .array n e=>.arr n e
 | .pointer e=>.ptr e
 | .func _ _ _=>.func
 | _=>.PH
structure TI where
 d:TD
 size:Nat
 bytes:Nat
 zero:List CV
def TI.agg (i:TI):Bool:=match i.d with
 | .bB _=>true
 | .arr _ _=>true
 | _=>false
structure cA (P:Program)(t:TypeId)(i:TI):Prop where
 info:∃ f z,P.info? t=some f/\f.size=i.size/\f.bytes=i.bytes/\f.zero=some z/\fI z.cells.toList=some i.zero
 Bw:∃ d,P.underlying t=some d/\vi d=i.d
 len:i.zero.length=i.size
def aD (P:Program)(av:List (Nat×TI)):Prop:=∀ t i,assoc av t=some i->cA P t i
theorem cA.mk' {P:Program}{t:TypeId}{i:TI}(h1:(P.info? t).map (λ f=>(f.size,f.bytes,f.zero.map λ z=>fI z.cells.toList))=some (i.size,i.bytes,some (some i.zero)))
  (h2:(P.underlying t).map vi=some i.d) (h3:i.zero.length=i.size):cA P t i:=by
 obtain⟨f,e1,e2⟩:=Option.map_eq_some_iff.1 h1;obtain⟨d,e3,e4⟩:=Option.map_eq_some_iff.1 h2;simp only[Prod.mk.injEq] at e2;obtain⟨z,e5,e6⟩:=Option.map_eq_some_iff.1 e2.2.2;exact⟨⟨f,z,e1,e2.1,e2.2.1,e5,e6⟩,⟨d,e3,e4⟩,h3⟩
theorem aD.nil {P:Program}:aD P []:=λ _ _ h=>by cases h
theorem aD.cons {P:Program}{t:Nat}{i:TI}{r:List (Nat×TI)}(h:cA P t i)(hr:aD P r):aD P ((t,i)::r):=λ u j hj=>by
 simp only[assoc] at hj;split at hj
 ·rename_i e;subst e;cases hj;exact h
 ·exact hr u j hj
theorem bz {P:Program}{t:TypeId}{d:TypeDesc}(h:P.underlying t=some d)(w:World):(underlying t).run P w=.ok d w:=run_underlying h w
theorem wE {P:Program}{t:TypeId}{f:TypeInfo}(h:P.info? t=some f)(w:World):(typeInfo t).run P w=.ok f w:=by
 simp[typeInfo,h]
theorem cP {P:Program}{t:TypeId}{f:TypeInfo}(h:P.info? t=some f)(w:World):(sizeOf t).run P w=.ok f.size w:=by
 simp[sizeOf,wE h]
def arith (op:BinOp)(k:IntKind)(a b:Int):Option CV:=
 match op with
 | .add=>some (.int k (k.wrap (a+b)))
 | .sub=>some (.int k (k.wrap (a-b)))
 | .mul=>some (.int k (k.wrap (a*b)))
 | .quo=>if b=0 then none else some (.int k (k.wrap (a.tdiv b)))
 | .rem=>if b=0 then none else some (.int k (a.tmod b))
 | .and=>some (.int k (k.wrap (BitVec.ofInt k.bits a &&& BitVec.ofInt k.bits b).toNat))
 | .or=>some (.int k (k.wrap (BitVec.ofInt k.bits a ||| BitVec.ofInt k.bits b).toNat))
 | .xor=>some (.int k (k.wrap (BitVec.ofInt k.bits a ^^^ BitVec.ofInt k.bits b).toNat))
 | .andNot=>some (.int k (k.wrap (BitVec.ofInt k.bits a &&& ~~~ BitVec.ofInt k.bits b).toNat))
 | .eql=>some (.bool (a == b))
 | .neq=>some (.bool (a != b))
 | .lss=>some (.bool (decide (a<b)))
 | .leq=>some (.bool (decide (a<=b)))
 | .gtr=>some (.bool (decide (a > b)))
 | .geq=>some (.bool (decide (a≥b)))
 | _=>none
def mr (op:BinOp)(x y:ByteArray):Option CV:=
 match op with
 | .add=>if x.size+y.size<=9223372036854775807 then some (.str (x++y)) else none
 | .eql=>some (.bool (x.toList == y.toList))
 | .neq=>some (.bool (!(x.toList == y.toList)))
 | .lss=>some (.bool (Op.bytesLess x.toList y.toList))
 | .leq=>some (.bool (Op.bytesLess x.toList y.toList || x.toList == y.toList))
 | .gtr=>some (.bool (!(Op.bytesLess x.toList y.toList || x.toList == y.toList)))
 | .geq=>some (.bool (!Op.bytesLess x.toList y.toList))
 | _=>none
def Fa (op:BinOp)(d:TD):CV->CV->Option CV
 | .int k a,.int k' b=>match op with
  | .shl=>if b<0 then none else some (.int k (k.wrap (a*2 ^ (min b.toNat k.bits))))
  | .shr=>if b<0 then none else some (.int k (a.fdiv (2 ^ (min b.toNat k.bits))))
  | op=>if k=k' then arith op k a b else none
 | .str x,.str y=>mr op x y
 | .bool a,.bool b=>match d,op with
  | .bool,.eql=>some (.bool (a == b))
  | .bool,.neq=>some (.bool (!(a == b)))
  | _,_=>none
 | _,_=>none
theorem dU {w:World}{F:Nat->Prop}{σ:Nat->Option OB}(k:IntKind)(n:Int):VR w F σ (.int k n) (.int k n):=by simp[VR]
theorem dR {w:World}{F:Nat->Prop}{σ:Nat->Option OB}(b:Bool):VR w F σ (.bool b) (.bool b):=by simp[VR]
theorem Br {w:World}{F:Nat->Prop}{σ:Nat->Option OB}(b:ByteArray):VR w F σ (.str b) (.string b):=by simp[VR]
theorem Lr {P:Program}{w:World}{op:BinOp}{k:IntKind}{xt:TypeId}{a b:Int}{c:CV}(hs1:op≠.shl)(ZY:op≠.shr)(h:arith op k a b=some c){F:Nat->Prop}{σ:Nat->Option OB} :
  ∃ v,(binOp op xt (.int k a) (.int k b)).run P w=.ok v w/\VR w F σ c v:=by
 cases op<;>simp only[arith] at h
 case add=>cases h;exact⟨_,by simp[binOp,Op.intArith],dU _ _⟩
 case sub=>cases h;exact⟨_,by simp[binOp,Op.intArith],dU _ _⟩
 case mul=>cases h;exact⟨_,by simp[binOp,Op.intArith],dU _ _⟩
 case quo=>
  split at h
  ·cases h
  ·cases h;rename_i hb;exact⟨_,by simp[binOp,Op.intDiv,hb],dU _ _⟩
 case rem=>
  split at h
  ·cases h
  ·cases h;rename_i hb;exact⟨_,by simp[binOp,Op.intDiv,hb],dU _ _⟩
 case and=>cases h;exact⟨_,by simp[binOp,Op.intBits],dU _ _⟩
 case or=>cases h;exact⟨_,by simp[binOp,Op.intBits],dU _ _⟩
 case xor=>cases h;exact⟨_,by simp[binOp,Op.intBits],dU _ _⟩
 case andNot=>cases h;exact⟨_,by simp[binOp,Op.intBits],dU _ _⟩
 case eql=>cases h;exact⟨_,by simp[binOp,Op.intCmp],dR _⟩
 case neq=>cases h;exact⟨_,by simp[binOp,Op.intCmp],dR _⟩
 case lss=>cases h;exact⟨_,by simp[binOp,Op.intCmp],dR _⟩
 case leq=>cases h;exact⟨_,by simp[binOp,Op.intCmp],dR _⟩
 case gtr=>cases h;exact⟨_,by simp[binOp,Op.intCmp],dR _⟩
 case geq=>cases h;exact⟨_,by simp[binOp,Op.intCmp],dR _⟩
 all_goals first | cases h | exact absurd rfl hs1 | exact absurd rfl ZY
theorem I5 {P:Program}{w:World}{op:BinOp}{xt:TypeId}{a b:ByteArray}{c:CV}(h:mr op a b=some c){F:Nat->Prop}{σ:Nat->Option OB} :
  ∃ v,(binOp op xt (.string a) (.string b)).run P w=.ok v w/\VR w F σ c v:=by
 cases op<;>simp only[mr] at h
 case add=>
  split at h
  ·rename_i hb;cases h;refine⟨_,?_,Br _⟩;have hm:IntKind.i64.max=9223372036854775807:=by simp[IntKind.max,IntKind.signed,IntKind.bits]
   simp only[binOp,Op.stringOp,hm];rw[if_neg yA];rfl
  ·cases h
 case eql=>cases h;exact⟨_,by simp[binOp,Op.stringOp],dR _⟩
 case neq=>cases h;exact⟨_,by simp[binOp,Op.stringOp],dR _⟩
 case lss=>cases h;exact⟨_,by simp[binOp,Op.stringOp],dR _⟩
 case leq=>cases h;exact⟨_,by simp[binOp,Op.stringOp],dR _⟩
 case gtr=>cases h;exact⟨_,by simp[binOp,Op.stringOp],dR _⟩
 case geq=>cases h;exact⟨_,by simp[binOp,Op.stringOp],dR _⟩
 all_goals cases h
end Go.Can
