/- Lemmas. -/
import Derived.ProofKit
import Derived.StillTail
import Derived.ScopeJumps
import Derived.Laws.AppendOwn
import Derived.Laws.CopyOwn
import Derived.Laws.MakeOwn
import Derived.Laws.OwnMore
import Derived.Below
import Derived.IntWalk
namespace Go.Can
open List
def Ro:List (Nat×List Value):=[]
theorem yA {p:Prop}(h:p:=by omega):p:=h
theorem xr {p:Prop}(h:p:=by simp):p:=h
theorem Bw {p:Prop}(h:p:=by kernel_rfl):p:=h
theorem Rg {p:Prop}(h:p:=by simp[hC]):p:=h
theorem SD {p:Prop}(h:p:=by first | rfl | simp only[List.cons_append,List.nil_append,List.append_nil,trees,tree,aO,y9,Bool.and_self,Bool.and_true,Bool.true_and]):p:=h
theorem SC {p:Prop}(h:p:=by decide):p:=h
theorem Ta {p:Prop}(h:p:=by first | rfl | simp[bz,bb,aX,cO,bU,ba,aU,dn,oy,eZ,assoc,eA,kC,-List.all_eq_true,-List.all_flatMap,ij]):p:=h
theorem SZ {p:Prop}(h:p:=by first | rfl | decide):p:=h
theorem SY {p:Prop}(h:p:=by simp[assoc]):p:=h
theorem Tt {p:Prop}(h:p:=by simp[ev,assoc]):p:=h
theorem Tv {p:Prop}(h:p:=by simp;omega):p:=h
theorem Ts {p:Prop}(h:p:=by rfl):p:=h
theorem Tp {p:Prop}(h:p:=by (try simp only[ByteArray.size_append]);omega):p:=h
theorem Vn {p:Prop}(h:p:=by simp[-List.all_eq_true,-List.all_flatMap,-List.all_map]):p:=h
theorem TJ {p:Prop}(h:p:=by first | rfl | simp[ba,aU,aT,ij,-List.all_eq_true]):p:=h
theorem TG {p:Prop}(h:p:=by first | rfl | simp[aJ,ints]):p:=h
theorem U2 {p:Prop}(h:p:=by simp[-List.all_eq_true]):p:=h
theorem UA {p:Prop}(h:p:=by simpa using h):p:=h
theorem US {p:Prop}(h:p:=by simp[Op.operands]):p:=h
theorem U1 {p:Prop}(h:p:=by first | exact cA _ | exact za _ (by first | rfl | assumption | simp[trees,tree, *])):p:=h
theorem Xe {p:Prop}(h:p:=by first | assumption | rfl | simp[bz,bb,aX,cO,bU,ba,aU,dn,oy,eZ,assoc,eA,kC,-List.all_eq_true,-List.all_flatMap,ij]):p:=h
theorem Vm {p:Prop}(h:p:=by first | rfl | simp only[List.all_cons,List.all_nil,okW,tree, *];rfl | simp[okW,tree,trees, *]):p:=h
theorem Vl {p:Prop}(h:p:=by first | rfl | assumption | simp[tree,trees, *]):p:=h
theorem Vj {p:Prop}(h:p:=by first | rfl | simp[bK,ev,assoc]):p:=h
theorem We {p:Prop}(h:p:=by simp[-List.all_eq_true,-List.all_flatMap]):p:=h
theorem V2 {p:Prop}(h:p:=by simp[Ex.args]):p:=h
theorem yB {p:Prop}(h:p:=by simp[mP,ai SJ]):p:=h
theorem WL {p:Prop}(h:p:=by simp[aJ]):p:=h
theorem WY {p:Prop}(h:p:=by simp[fp]):p:=h
theorem Za {p:Prop}(h:p:=by simp[hx]):p:=h
theorem Xd {p:Prop}(h:p:=by first | rfl | exact aO _ | exact y9 _):p:=h
theorem Xc {p:Prop}(h:p:=by simp only[trees,tree];rfl):p:=h
theorem Xu {p:Prop}(h:p:=by simp[cB,mZ,lF,tree,assoc,-List.all_eq_true,-List.all_flatMap,au tG,au tT,au tL,au tV,au S9,au Ti]):p:=h
theorem Xt {p:Prop}(h:p:=by simp only[ByteArray.size_append];omega):p:=h
theorem yBh {p:Prop}(h:p:=by rw[List.length_map];omega):p:=h
theorem X9 {p:Prop}(h:p:=by first | rfl | exact aO _):p:=h
theorem X8 {p:Prop}(h:p:=by simp only[D4];omega):p:=h
theorem yBl {p:Prop}(h:p:=by rw[aG dh];omega):p:=h
theorem Y9 {p:Prop}(h:p:=by simp[aJ,dZ,nB]):p:=h
theorem Y8 {p:Prop}(h:p:=by simp[mE,ET,tree]):p:=h
theorem Y7 {p:Prop}(h:p:=by simp[aJ,nB]):p:=h
theorem ZJ {p:Prop}(h:p:=by simp[iu,F1,-List.all_eq_true,-List.all_flatMap]):p:=h
theorem yBs {p:Prop}(h:p:=by simp[ev,assoc,SG]):p:=h
theorem yBt {p:Prop}(h:p:=by simp[-List.all_eq_true,ai (BX Xv i).1,ai (BX Xv (i+1)).2]):p:=h
theorem yBu {p:Prop}(h:p:=by first | rfl | simp only[List.append_nil,trees,tree,aO,Bool.and_self]):p:=h
theorem yBv {p:Prop}(h:p:=by simp[oy,bz,bU,eA,kC]):p:=h
theorem yBw {p:Prop}(h:p:=by simpa [a6,m1] using hb):p:=h
theorem yBx {p:Prop}(h:p:=by simp only;omega):p:=h
theorem yBy {p:Prop}(h:p:=by simpa using hi):p:=h
theorem yBz {p:Prop}(h:p:=by simpa using hl):p:=h
theorem yC {p:Prop}(h:p:=by simpa using h2):p:=h
theorem yCa {p:Prop}(h:p:=by simp[dn,aT,aU,a1,a2,a3,-List.all_eq_true];simp):p:=h
theorem yCb {p:Prop}(h:p:=by simp[eZ,assoc,bz,bb,bU,aX,cO,rL,rV,r1,r2,ra]):p:=h
theorem yCc {p:Prop}(h:p:=by simp[-List.all_eq_true,-List.all_flatMap,ai tst]):p:=h
theorem yCd {p:Prop}(h:p:=by simp[nB,dG,-List.all_eq_true,-List.all_flatMap]):p:=h
theorem yCe {p:Prop}(h:p:=by simp[-List.all_eq_true,ai SH,ai TM]):p:=h
theorem yCf {p:Prop}(h:p:=by rw[aG (f:=dN) (n:=2) dh];simp):p:=h
theorem yCg {p:Prop}(h:p:=by simp only[List.length_cons];omega):p:=h
theorem yCh {p:Prop}(h:p:=by simpa [aS] using ho):p:=h
theorem yCi {p:Prop}(h:p:=by simp[Tryz.ntmps14]):p:=h
theorem yCj {p:Prop}(h:p:=by simp[cB,mZ,lF,tree,assoc,-List.all_eq_true,-List.all_flatMap,au YV]):p:=h
theorem yCl {p:Prop}(h:p:=by simp[cB,mZ,lF,tree,assoc,-List.all_eq_true,-List.all_flatMap,SF]):p:=h
theorem yCn {p:Prop}(h:p:=by simp only[List.all_cons,List.all_nil,okW,tree];rfl):p:=h
theorem yCo {p:Prop}(h:p:=by simp[-List.all_eq_true,-List.all_flatMap,ij]):p:=h
theorem yCp {p:Prop}(h:p:=by simp[iu,-List.all_eq_true,-List.all_flatMap]):p:=h
theorem yCq {p:Prop}(h:p:=by simp[aJ,-List.all_eq_true,ij]):p:=h
theorem yCr {p:Prop}(h:p:=by simp[ev,assoc,U3]):p:=h
theorem yCs {p:Prop}(h:p:=by simp[-List.all_eq_true,-List.all_flatMap,bG 2 _ hX,bG 2 _ hY,bG 2 _ YU]):p:=h
theorem yCu {p:Prop}(h:p:=by simp[cB,mZ,lF,tree,assoc,-List.all_eq_true,-List.all_flatMap]):p:=h
theorem yCv {p:Prop}(h:p:=by simp[-List.all_eq_true,-List.all_flatMap,ai ttb]):p:=h
theorem yCw {p:Prop}(h:p:=by simp[aJ,nB,-List.all_eq_true,-List.all_flatMap]):p:=h
theorem yCx {p:Prop}(h:p:=by simp only;rw[Gk (KJ nx) Sx];exact SP):p:=h
theorem yCy {p:Prop}(h:p:=by simp[-List.all_eq_true,ai Xv]):p:=h
theorem yCz {p:Prop}(h:p:=by simp[aJ,-List.all_eq_true]):p:=h
theorem yD {p:Prop}(h:p:=by simp[-List.all_eq_true,-List.all_flatMap,bG 4 _ hY,ai (ak bS l),bG 4 _ YU,ai ZC]):p:=h
theorem yDa {p:Prop}(h:p:=by unfold Func.isWrapper;first | (rw[if_pos (by decide +kernel)];kernel_rfl) | (rw[if_neg (by decide +kernel)];exact⟨rfl,rfl⟩)):p:=h
theorem yDc {p:Prop}(h:p:=by simp[cB,mZ,lF,tree,assoc,-List.all_eq_true,-List.all_flatMap,au tG,au tT,au tS]):p:=h
theorem yDd {p:Prop}(h:p:=by simp[-List.all_eq_true,ai SH,ai TM,ai tS2,ai tD2]):p:=h
theorem yDe {p:Prop}(h:p:=by simp only[qF,Bool.and_eq_true,Bool.not_eq_true'] at hp;exact hp.1):p:=h
theorem yDf {p:Prop}(h:p:=by simp[-List.all_eq_true,ai SH,ai TM,ai tZ]):p:=h
theorem yDh {p:Prop}(h:p:=by simp[aJ,ints,nB,-List.all_eq_true,-List.all_flatMap]):p:=h
theorem yDi {p:Prop}(h:p:=by rw[<- Array.toArray_toList (xs:=cl.argTypes),TS]):p:=h
theorem yDj {p:Prop}(h:p:=by have:(⟨#[9]⟩:ByteArray).size=1:=rfl;omega):p:=h
theorem yDk {p:Prop}(h:p:=by rw[<- Array.toArray_toList (xs:=cl.args),ha]):p:=h
theorem yDl {p:Prop}(h:p:=by simp[cB,mZ,lF,tree,assoc,-List.all_eq_true,-List.all_flatMap,au tG,au tT,au tAi,au tf,au tV]):p:=h
theorem yDn {p:Prop}(h:p:=by simp[cB,mZ,lF,tree,assoc,-List.all_eq_true,-List.all_flatMap,au tG,au tT,au tAi,au tk]):p:=h
theorem yDq {p:Prop}(h:p:=by simp only[dF,qp];simp[-List.all_eq_true,-List.all_flatMap,bx (ak aO N),AM]):p:=h
theorem yDr {p:Prop}(h:p:=by simp only[dF,qp];simp[-List.all_eq_true,-List.all_flatMap,ij,ai (ak aO N)]):p:=h
theorem yDs {p:Prop}(h:p:=by simp only[dF,qp,mD];simp[-List.all_eq_true,-List.all_flatMap,ai (ak aO _)]):p:=h
theorem yDt {p:Prop}(h:p:=by simp[cB,mZ,lF,tree,assoc,-List.all_eq_true,-List.all_flatMap,au tLv,au tGG]):p:=h
theorem yDu {p:Prop}(h:p:=by simp only[bX];exact⟨v0,_,rfl,g0,⟨v1,_,rfl,g1,⟨v2,_,rfl,g2,⟨v3,_,rfl,g3,rfl⟩⟩⟩⟩):p:=h
theorem yDw {p:Prop}(h:p:=by simp[-List.all_eq_true,-List.all_flatMap,-List.all_map,ai tT,ai tG,ai tAi]):p:=h
theorem yDx {p:Prop}(h:p:=by simp[-List.all_eq_true,-List.all_flatMap,ai (bQ out),ai (bQ th.1)]):p:=h
theorem yDy {p:Prop}(h:p:=by have:(j3 ⟨#[9]⟩ bd).size=(j3 sh bd).size:=rfl;simp only[ByteArray.size_append];omega):p:=h
theorem yDz {p:Prop}(h:p:=by simp[-List.all_eq_true,ai Yb,bG _ _ (aE _),ai tS3,ai tD3]):p:=h
theorem yE {p:Prop}(h:p:=by simp[cB,mZ,lF,tree,assoc,-List.all_eq_true,-List.all_flatMap,au tp1]):p:=h
theorem yEa {p:Prop}(h:p:=by simp only[Op.operands];simp only[List.mem_toArray,List.mem_map];exact⟨x,hx,rfl⟩):p:=h
theorem yEb {p:Prop}(h:p:=by simp[-List.all_eq_true,-List.all_flatMap,ij,ai (ak aO N)]):p:=h
open Go.RowKit
inductive CV where
 | int (k:IntKind) (n:Int)
 | bool (b:Bool)
 | str (s:ByteArray)
 | agg (cs:List CV)
 | az (cs:List CV) (n:Nat)
 | aj
 | cM (cs:List CV)
 | bL
 | fn (f:FuncId) (Ue:List CV)
 | cH
 | iface (t:TypeId) (cs:List CV)
 | iter (k:Nat) (s:ByteArray) (p:Nat)
 | mp (k:Nat) (es:List (Value×Value))
 | cF (vs:List CV)
 | a7 (o off n:Nat)
 | ax (o off:Nat)
 | any
instance : Inhabited CV := ⟨.bL⟩
def one:CV->Bool
 | .agg _=>false
 | .cF _=>false
 | .iter _ _ _=>false
 | _=>true
def CV.cells:CV->List CV
 | .agg cs=>cs
 | c=>[c]
def Sd (t:TypeId):List Value->Value
 | []=>.nilIface
 | v::_=>.iface t v
mutual
/-- The immutable ones: the value v reads as c; no cell of it lies in a block of F. -/
def cj (w:World)(F:Nat->Prop):CV->Value->Prop
 | .int k n,v=>v=.int k n
 | .bool b,v=>v=.bool b
 | .str s,v=>v=.string s
 | .agg cs,v=>∃ vs:List Value,v=.agg vs.toArray/\bX w F cs vs/\cs.all one=true
 | .az cs n,v=>∃ A cap,v=.slice A n cap/\n<=cap/\cap<=maxLen/\((n=0/\cs=[])\/∃ ad,A=some ad/\fH w F cs ad)
 | .aj,v=>v=.slice none 0 0
 | .cM cs,v=>∃ ad,v=.pointer (some ad)/\fH w F cs ad
 | .bL,v=>v=.pointer none
 | .fn f Ue,v=>∃ vs:List Value,v=.func (.func f) #[] vs.toArray/\bX w F Ue vs
 | .iface f Ue,v=>∃ vs:List Value,v=Sd f vs/\bX w F Ue vs
 | .cH,v=>v=.nilFunc
 | .iter _ _ _,_=>False
 | .mp _ _,_=>False
 | .cF cs,v=>∃ vs:List Value,v=.tuple vs.toArray/\bX w F cs vs
 | .a7 _ _ _,_=>False
 | .ax _ _,_=>False
 | .any,v=>v.oneCell'=true
def bX (w:World)(F:Nat->Prop):List CV->List Value->Prop
 | [],vs=>vs=[]
 | c::cs,vs=>∃ v r,vs=v::r/\cj w F c v/\bX w F cs r
/-- The cells from an address on. -/
def fH (w:World)(F:Nat->Prop):List CV->Addr->Prop
 | [],_=>True
 | c::cs,ad=>(∃ u,w.cell? ad=some u/\¬ F ad.block/\cj w F c u)/\one c=true/\fH w F cs (ad.add 1)
end
theorem IM (a:Addr)(n:Nat):(a.add n).block=a.block:=by unfold Addr.add;split<;>rfl
theorem add_add (a:Addr)(i j:Nat):(a.add i).add j=a.add (i+j):=by
 unfold Addr.add;by_cases hi:i=0<;>by_cases hj:j=0<;>simp[hi,hj,Nat.add_assoc]
theorem add_zero (a:Addr):a.add 0=a:=by simp[Addr.add]
theorem add_lit (b i j:Nat):(⟨b,i,none⟩:Addr).add j=⟨b,i+j,none⟩:=by
 unfold Addr.add;split<;>simp_all
def oD (w w':World)(F F':Nat->Prop):Prop:=∀ ad u,¬ F ad.block->w.cell? ad=some u->w'.cell? ad=some u/\¬ F' ad.block
def cL (w w':World)(F F':Nat->Prop):Prop:=oD w w' F F'/\
 ∀ r x,¬ F r->w.heap[r]? = some x->(∀ c e f,x≠.cells c e f)->w'.heap[r]? = some x/\¬ F' r
theorem cL.same {w:World}{F F':Nat->Prop}(h:∀ b,F' b->F b):cL w w F F':=⟨λ _ _ hf hu=>⟨hu,λ k=>hf (h _ k)⟩,λ _ _ hf hu _=>⟨hu,λ k=>hf (h _ k)⟩⟩
mutual
theorem cj.bD {w w':World}{F F':Nat->Prop}(h:oD w w' F F'):∀ (c:CV) (v:Value),cj w F c v->cj w' F' c v
 | .int _ _,_,hv=>by simpa [cj] using hv
 | .bool _,_,hv=>by simpa [cj] using hv
 | .str _,_,hv=>by simpa [cj] using hv
 | .agg cs,v,hv=>by
  simp only[cj] at hv |-;obtain⟨vs,e,r,h1⟩:=hv;exact⟨vs,e,bX.bD h cs vs r,h1⟩
 | .aj,_,hv=>by simpa [cj] using hv
 | .az cs n,v,hv=>by
  simp only[cj] at hv |-;obtain⟨A,cap,e,h1,h2,h4⟩:=hv;refine⟨A,cap,e,h1,h2,?_⟩;rcases h4 with h4 | ⟨ad,ea,hm⟩
  .exact .inl h4
  .exact .inr ⟨ad,ea,fH.bD h cs ad hm⟩
 | .cM cs,v,hv=>by
  simp only[cj] at hv |-;obtain⟨ad,e,hm⟩:=hv;exact⟨ad,e,fH.bD h cs ad hm⟩
 | .bL,_,hv=>by simpa [cj] using hv
 | .fn f Ue,v,hv=>by
  simp only[cj] at hv |-;obtain⟨vs,e,r⟩:=hv;exact⟨vs,e,bX.bD h Ue vs r⟩
 | .iface f Ue,v,hv=>by
  simp only[cj] at hv |-;obtain⟨vs,e,r⟩:=hv;exact⟨vs,e,bX.bD h Ue vs r⟩
 | .cH,_,hv=>by simpa [cj] using hv
 | .iter _ _ _,_,hv=>by simp[cj] at hv
 | .mp _ _,_,hv=>by simp[cj] at hv
 | .cF cs,v,hv=>by
  simp only[cj] at hv |-;obtain⟨vs,e,r⟩:=hv;exact⟨vs,e,bX.bD h cs vs r⟩
 | .a7 _ _ _,_,hv=>by simp[cj] at hv
 | .ax _ _,_,hv=>by simp[cj] at hv
 | .any,_,hv=>by simpa [cj] using hv
theorem bX.bD {w w':World}{F F':Nat->Prop}(h:oD w w' F F'):∀ (cs:List CV) (vs:List Value),bX w F cs vs->bX w' F' cs vs
 | [],_,hv=>by simpa [bX] using hv
 | c::cs,vs,hv=>by
  simp only[bX] at hv |-;obtain⟨v,r,e,h1,h2⟩:=hv;exact⟨v,r,e,cj.bD h c v h1,bX.bD h cs r h2⟩
theorem fH.bD {w w':World}{F F':Nat->Prop}(h:oD w w' F F'):∀ (cs:List CV) (ad:Addr),fH w F cs ad->fH w' F' cs ad
 | [],_,_=>by simp[fH]
 | c::cs,ad,hv=>by
  simp only[fH] at hv |-;obtain⟨⟨u,h1,h2,h3⟩,ho,h4⟩:=hv;obtain⟨k1,k2⟩:=h ad u h2 h1;exact⟨⟨u,k1,k2,cj.bD h c u h3⟩,ho,fH.bD h cs _ h4⟩
end
theorem fH.drop {w:World}{F:Nat->Prop}:∀ (k:Nat) (cs:List CV) (ad:Addr),fH w F cs ad->fH w F (cs.drop k) (ad.add k)
 | 0,cs,ad,h=>by simpa [add_zero] using h
 | k+1,[],ad,_=>by simp[fH]
 | k+1,c::cs,ad,h=>by
  simp only[fH] at h;have:=fH.drop k cs _ h.2.2;rw[add_add] at this
  simpa [Nat.add_comm] using this
theorem fH.take {w:World}{F:Nat->Prop}:∀ (k:Nat) (cs:List CV) (ad:Addr),fH w F cs ad->fH w F (cs.take k) ad
 | 0,_,_,_=>by simp[fH]
 | k+1,[],_,_=>by simp[fH]
 | k+1,c::cs,ad,h=>by
  simp only[fH] at h;simp only[take_succ_cons,fH];exact⟨h.1,h.2.1,fH.take k cs _ h.2.2⟩
theorem fH.cells {w:World}{F:Nat->Prop}:∀ (cs:List CV) (ad:Addr),fH w F cs ad->∃ us:List Value,bX w F cs us/\us.length=cs.length/\∀ j u,us[j]? = some u->w.cell? (ad.add j)=some u
 | [],ad,_=>⟨[],by simp[bX],rfl,by simp⟩
 | c::cs,ad,h=>by
  simp only[fH] at h;obtain⟨⟨u,h1,h2,h3⟩,_,h4⟩:=h;obtain⟨us,k1,k2,k3⟩:=fH.cells cs _ h4;refine⟨u::us,by simp only[bX];exact⟨u,us,rfl,h3,k1⟩,by simp[k2],?_⟩;intro j x hx
  cases j with
  | zero=>simp at hx;subst hx;rw[add_zero];exact h1
  | succ j=>
   have:=k3 j x (by simpa using hx);rw[add_add] at this;rwa [Nat.add_comm] at this
theorem bX.length {w:World}{F:Nat->Prop}:∀ (cs:List CV) (vs:List Value),bX w F cs vs->vs.length=cs.length
 | [],vs,h=>by simp only[bX] at h;subst h;rfl
 | c::cs,vs,h=>by
  simp only[bX] at h;obtain⟨v,r,rfl,_,h2⟩:=h;simp[bX.length cs r h2]
theorem bX.get {w:World}{F:Nat->Prop}:∀ (cs:List CV) (vs:List Value),bX w F cs vs->∀ (i:Nat) (c:CV),cs[i]? = some c->∃ v,vs[i]? = some v/\cj w F c v
 | [],vs,_,i,c,hi=>by simp at hi
 | c::cs,vs,h,i,d,hi=>by
  simp only[bX] at h;obtain⟨v,r,rfl,h1,h2⟩:=h
  cases i with
  | zero=>simp at hi;subst hi;exact⟨v,rfl,h1⟩
  | succ i=>simpa using bX.get cs r h2 i d yBy
structure OB where
 kW:Option Nat
 room:Nat
 sz:Nat
mutual
/-- The values of a frame and of the objects' cells. -/
def VR (w:World)(F:Nat->Prop)(U:Nat->Option OB):CV->Value->Prop
 | .a7 o off n,v=>∃ B,U o=some B/\match B.kW with
   | none=>v=.slice none 0 0/\off=0/\n=0
   | some b=>∃ cap,v=.slice (some ⟨b,off,none⟩) n cap/\n<=cap/\cap<=maxLen/\off+cap*B.sz<=B.room/\(off=0->cap*B.sz=B.room)
 | .ax o off,v=>∃ B b,U o=some B/\B.kW=some b/\v=.pointer (some ⟨b,off,none⟩)
 | .agg cs,v=>∃ vs:List Value,v=.agg vs.toArray/\aZ w F U cs vs/\cs.all one=true
 | .fn f Ue,v=>∃ vs:List Value,v=.func (.func f) #[] vs.toArray/\aZ w F U Ue vs
 | .iface f Ue,v=>∃ vs:List Value,v=Sd f vs/\aZ w F U Ue vs
 | .cF cs,v=>∃ vs:List Value,v=.tuple vs.toArray/\aZ w F U cs vs
 | .int k n,v=>v=.int k n
 | .bool b,v=>v=.bool b
 | .str s,v=>v=.string s
 | .az cs n,v=>cj w F (.az cs n) v
 | .aj,v=>v=.slice none 0 0
 | .cM cs,v=>cj w F (.cM cs) v
 | .bL,v=>v=.pointer none
 | .cH,v=>v=.nilFunc
 | .iter k s p,v=>∃ B r,U k=some B/\B.kW=some r/\v=.pointer (some ⟨r,0,none⟩)/\w.heap[r]? = some (.stringIter s p)/\¬ F r
 | .mp k es,v=>∃ B r arr clock,U k=some B/\B.kW=some r/\v=.map (some r)/\w.heap[r]? = some (.map arr clock)/\arr.toList.map (λ e=>(e.key,e.val))=es/\(es.map (·.1)).Nodup/\¬ F r
 | .any,v=>v.oneCell'=true
def aZ (w:World)(F:Nat->Prop)(U:Nat->Option OB):List CV->List Value->Prop
 | [],vs=>vs=[]
 | c::cs,vs=>∃ v r,vs=v::r/\VR w F U c v/\aZ w F U cs r
end
mutual
/-- No object of one's own in it, on the surface. -/
def tree:CV->Bool
 | .a7 _ _ _=>false
 | .ax _ _=>false
 | .iter _ _ _=>false
 | .mp _ _=>false
 | .agg cs=>trees cs
 | .fn _ cs=>trees cs
 | .iface _ cs=>trees cs
 | .cF cs=>trees cs
 | _=>true
def trees:List CV->Bool
 | []=>true
 | c::cs=>tree c && trees cs
end
mutual
theorem VR.cJ {w:World}{F:Nat->Prop}{U:Nat->Option OB}:∀ (c:CV) (v:Value),cj w F c v->VR w F U c v
 | .int _ _,_,h=>by simpa [VR,cj] using h
 | .bool _,_,h=>by simpa [VR,cj] using h
 | .str _,_,h=>by simpa [VR,cj] using h
 | .agg cs,v,h=>by
  simp only[VR,cj] at h |-;obtain⟨vs,e,r,h1⟩:=h;exact⟨vs,e,aZ.cJ cs vs r,h1⟩
 | .aj,_,h=>by simpa [VR,cj] using h
 | .az _ _,_,h=>by simpa only[VR] using h
 | .cM _,_,h=>by simpa only[VR] using h
 | .bL,_,h=>by simpa [VR,cj] using h
 | .fn _ cs,v,h=>by
  simp only[VR,cj] at h |-;obtain⟨vs,e,r⟩:=h;exact⟨vs,e,aZ.cJ cs vs r⟩
 | .iface _ cs,v,h=>by
  simp only[VR,cj] at h |-;obtain⟨vs,e,r⟩:=h;exact⟨vs,e,aZ.cJ cs vs r⟩
 | .cH,_,h=>by simpa [VR,cj] using h
 | .iter _ _ _,_,h=>by simp[cj] at h
 | .mp _ _,_,h=>by simp[cj] at h
 | .cF cs,v,h=>by
  simp only[VR,cj] at h |-;obtain⟨vs,e,r⟩:=h;exact⟨vs,e,aZ.cJ cs vs r⟩
 | .a7 _ _ _,_,h=>by simp[cj] at h
 | .ax _ _,_,h=>by simp[cj] at h
 | .any,_,h=>by simpa [VR,cj] using h
theorem aZ.cJ {w:World}{F:Nat->Prop}{U:Nat->Option OB}:∀ (cs:List CV) (vs:List Value),bX w F cs vs->aZ w F U cs vs
 | [],_,h=>by simpa [aZ,bX] using h
 | c::cs,vs,h=>by
  simp only[aZ,bX] at h |-;obtain⟨v,r,e,h1,h2⟩:=h;exact⟨v,r,e,VR.cJ c v h1,aZ.cJ cs r h2⟩
end
mutual
theorem VR.eL {w:World}{F:Nat->Prop}{U:Nat->Option OB}:∀ (c:CV) (v:Value),tree c=true->VR w F U c v->cj w F c v
 | .int _ _,_,_,h=>by simpa [VR,cj] using h
 | .bool _,_,_,h=>by simpa [VR,cj] using h
 | .str _,_,_,h=>by simpa [VR,cj] using h
 | .agg cs,v,ht,h=>by
  simp only[VR,cj,tree] at h ht |-;obtain⟨vs,e,r,h1⟩:=h;exact⟨vs,e,aZ.eL cs vs ht r,h1⟩
 | .aj,_,_,h=>by simpa [VR,cj] using h
 | .az _ _,_,_,h=>by simpa only[VR] using h
 | .cM _,_,_,h=>by simpa only[VR] using h
 | .bL,_,_,h=>by simpa [VR,cj] using h
 | .fn _ cs,v,ht,h=>by
  simp only[VR,cj,tree] at h ht |-;obtain⟨vs,e,r⟩:=h;exact⟨vs,e,aZ.eL cs vs ht r⟩
 | .iface _ cs,v,ht,h=>by
  simp only[VR,cj,tree] at h ht |-;obtain⟨vs,e,r⟩:=h;exact⟨vs,e,aZ.eL cs vs ht r⟩
 | .cH,_,_,h=>by simpa [VR,cj] using h
 | .iter _ _ _,_,ht,_=>by simp[tree] at ht
 | .mp _ _,_,ht,_=>by simp[tree] at ht
 | .cF cs,v,ht,h=>by
  simp only[VR,cj,tree] at h ht |-;obtain⟨vs,e,r⟩:=h;exact⟨vs,e,aZ.eL cs vs ht r⟩
 | .a7 _ _ _,_,ht,_=>by simp[tree] at ht
 | .ax _ _,_,ht,_=>by simp[tree] at ht
 | .any,_,_,h=>by simpa [VR,cj] using h
theorem aZ.eL {w:World}{F:Nat->Prop}{U:Nat->Option OB}:∀ (cs:List CV) (vs:List Value),trees cs=true->aZ w F U cs vs->bX w F cs vs
 | [],_,_,h=>by simpa [aZ,bX] using h
 | c::cs,vs,ht,h=>by
  simp only[aZ,bX,trees,Bool.and_eq_true] at h ht |-;obtain⟨v,r,e,h1,h2⟩:=h;exact⟨v,r,e,VR.eL c v ht.1 h1,aZ.eL cs r ht.2 h2⟩
end
mutual
/-- The value names the object o. -/
def aS (o:Nat):CV->Bool
 | .a7 p _ _=>p != o
 | .ax p _=>p != o
 | .iter p _ _=>p != o
 | .mp p _=>p != o
 | .agg cs=>ej o cs
 | .fn _ cs=>ej o cs
 | .iface _ cs=>ej o cs
 | .cF cs=>ej o cs
 | _=>true
def ej (o:Nat):List CV->Bool
 | []=>true
 | c::cs=>aS o c && ej o cs
end
mutual
/-- A reading is kept when the world turns as 'Keeps' says and the places of all objects that it names stay. -/
theorem VR.bD {w w':World}{F F':Nat->Prop}{U σ':Nat->Option OB}(h:cL w w' F F'):∀ (c:CV) (v:Value),(∀ o,aS o c=false->σ' o=U o)->VR w F U c v->VR w' F' σ' c v
 | .int _ _,_,_,hv=>by simpa [VR] using hv
 | .bool _,_,_,hv=>by simpa [VR] using hv
 | .str _,_,_,hv=>by simpa [VR] using hv
 | .agg cs,v,hr,hv=>by
  simp only[VR] at hv |-;obtain⟨vs,e,r,h1⟩:=hv;exact⟨vs,e,aZ.bD h cs vs (λ o ho=>hr o yCh) r,h1⟩
 | .aj,_,_,hv=>by simpa [VR] using hv
 | .az _ _,_,_,hv=>by simp only[VR] at hv |-;exact cj.bD h.1 _ _ hv
 | .cM _,_,_,hv=>by simp only[VR] at hv |-;exact cj.bD h.1 _ _ hv
 | .bL,_,_,hv=>by simpa [VR] using hv
 | .fn _ cs,v,hr,hv=>by
  simp only[VR] at hv |-;obtain⟨vs,e,r⟩:=hv;exact⟨vs,e,aZ.bD h cs vs (λ o ho=>hr o yCh) r⟩
 | .iface _ cs,v,hr,hv=>by
  simp only[VR] at hv |-;obtain⟨vs,e,r⟩:=hv;exact⟨vs,e,aZ.bD h cs vs (λ o ho=>hr o yCh) r⟩
 | .cH,_,_,hv=>by simpa [VR] using hv
 | .iter k s p,v,hr,hv=>by
  have hs:=hr k (by simp[aS]);simp only[VR] at hv |-;obtain⟨B,r,e1,e2,e3,h1,h2⟩:=hv;obtain⟨k1,k2⟩:=h.2 r _ h2 h1 (λ _ _ _ he=>by cases he);exact⟨B,r,hs.trans e1,e2,e3,k1,k2⟩
 | .mp k es,v,hr,hv=>by
  have hs:=hr k (by simp[aS]);simp only[VR] at hv |-;obtain⟨B,r,arr,clock,e1,e2,e3,h1,h3,h4,h2⟩:=hv;obtain⟨k1,k2⟩:=h.2 r _ h2 h1 (λ _ _ _ he=>by cases he);exact⟨B,r,arr,clock,hs.trans e1,e2,e3,k1,h3,h4,k2⟩
 | .cF cs,v,hr,hv=>by
  simp only[VR] at hv |-;obtain⟨vs,e,r⟩:=hv;exact⟨vs,e,aZ.bD h cs vs (λ o ho=>hr o yCh) r⟩
 | .a7 o off n,v,hr,hv=>by
  have:=hr o (by simp[aS]);simp only[VR] at hv |-;rw[this];exact hv
 | .ax o off,v,hr,hv=>by
  have:=hr o (by simp[aS]);simp only[VR] at hv |-;rw[this];exact hv
 | .any,_,_,hv=>by simpa [VR] using hv
theorem aZ.bD {w w':World}{F F':Nat->Prop}{U σ':Nat->Option OB}(h:cL w w' F F'):∀ (cs:List CV) (vs:List Value),(∀ o,ej o cs=false->σ' o=U o)->aZ w F U cs vs->aZ w' F' σ' cs vs
 | [],_,_,hv=>by simpa [aZ] using hv
 | c::cs,vs,hr,hv=>by
  simp only[aZ] at hv |-;obtain⟨v,r,e,h1,h2⟩:=hv;exact⟨v,r,e,VR.bD h c v (λ o ho=>hr o (by simp[ej,ho])) h1,aZ.bD h cs r (λ o ho=>hr o (by simp[ej,ho])) h2⟩
end
mutual
/-- No iterator in it, on the surface. -/
def mw:CV->Bool
 | .iter _ _ _=>false
 | .mp _ _=>false
 | .agg cs=>ky cs
 | .fn _ cs=>ky cs
 | .iface _ cs=>ky cs
 | .cF cs=>ky cs
 | _=>true
def ky:List CV->Bool
 | []=>true
 | c::cs=>mw c && ky cs
end
mutual
/-- A reading without iterators is kept when the cells are. -/
theorem VR.pw {w w':World}{F F':Nat->Prop}{U:Nat->Option OB}(h:oD w w' F F'):∀ (c:CV) (v:Value),mw c=true->VR w F U c v->VR w' F' U c v
 | .int _ _,_,_,hv=>by simpa [VR] using hv
 | .bool _,_,_,hv=>by simpa [VR] using hv
 | .str _,_,_,hv=>by simpa [VR] using hv
 | .aj,_,_,hv=>by simpa [VR] using hv
 | .az _ _,_,_,hv=>by simp only[VR] at hv |-;exact cj.bD h _ _ hv
 | .cM _,_,_,hv=>by simp only[VR] at hv |-;exact cj.bD h _ _ hv
 | .bL,_,_,hv=>by simpa [VR] using hv
 | .cH,_,_,hv=>by simpa [VR] using hv
 | .any,_,_,hv=>by simpa [VR] using hv
 | .a7 _ _ _,_,_,hv=>by simpa only[VR] using hv
 | .ax _ _,_,_,hv=>by simpa only[VR] using hv
 | .iter _ _ _,_,hn,_=>by simp[mw] at hn
 | .mp _ _,_,hn,_=>by simp[mw] at hn
 | .agg cs,v,hn,hv=>by
  simp only[VR] at hv |-;obtain⟨vs,e,r,h1⟩:=hv;exact⟨vs,e,aZ.pw h cs vs (by simpa [mw] using hn) r,h1⟩
 | .fn _ cs,v,hn,hv=>by
  simp only[VR] at hv |-;obtain⟨vs,e,r⟩:=hv;exact⟨vs,e,aZ.pw h cs vs (by simpa [mw] using hn) r⟩
 | .iface _ cs,v,hn,hv=>by
  simp only[VR] at hv |-;obtain⟨vs,e,r⟩:=hv;exact⟨vs,e,aZ.pw h cs vs (by simpa [mw] using hn) r⟩
 | .cF cs,v,hn,hv=>by
  simp only[VR] at hv |-;obtain⟨vs,e,r⟩:=hv;exact⟨vs,e,aZ.pw h cs vs (by simpa [mw] using hn) r⟩
theorem aZ.pw {w w':World}{F F':Nat->Prop}{U:Nat->Option OB}(h:oD w w' F F'):∀ (cs:List CV) (vs:List Value),ky cs=true->aZ w F U cs vs->aZ w' F' U cs vs
 | [],_,_,hv=>by simpa [aZ] using hv
 | c::cs,vs,hn,hv=>by
  simp only[ky,Bool.and_eq_true] at hn;simp only[aZ] at hv |-;obtain⟨v,r,e,h1,h2⟩:=hv;exact⟨v,r,e,VR.pw h c v hn.1 h1,aZ.pw h cs r hn.2 h2⟩
end
theorem aZ.length {w:World}{F:Nat->Prop}{U:Nat->Option OB}:∀ (cs:List CV) (vs:List Value),aZ w F U cs vs->vs.length=cs.length
 | [],vs,h=>by simp only[aZ] at h;subst h;rfl
 | c::cs,vs,h=>by
  simp only[aZ] at h;obtain⟨v,r,rfl,_,h2⟩:=h;simp[aZ.length cs r h2]
theorem aZ.get {w:World}{F:Nat->Prop}{U:Nat->Option OB}:∀ (cs:List CV) (vs:List Value),aZ w F U cs vs->∀ (i:Nat) (c:CV),cs[i]? = some c->∃ v,vs[i]? = some v/\VR w F U c v
 | [],vs,_,i,c,hi=>by simp at hi
 | c::cs,vs,h,i,d,hi=>by
  simp only[aZ] at h;obtain⟨v,r,rfl,h1,h2⟩:=h
  cases i with
  | zero=>simp at hi;subst hi;exact⟨v,rfl,h1⟩
  | succ i=>simpa using aZ.get cs r h2 i d yBy
theorem aZ.AN {w:World}{F:Nat->Prop}{U:Nat->Option OB}:∀ (cs:List CV) (vs:List Value),vs.length=cs.length->(∀ (i:Nat) (c:CV),cs[i]? = some c->∃ v,vs[i]? = some v/\VR w F U c v)->aZ w F U cs vs
 | [],vs,hl,_=>by simp only[aZ];exact eq_nil_of_length_eq_zero hl
 | c::cs,[],hl,_=>by simp at hl
 | c::cs,v::vs,hl,h=>by
  simp only[aZ];refine⟨v,vs,rfl,?_,aZ.AN cs vs yBz λ i d hi=>?_⟩
  .obtain⟨u,hu,hr⟩:=h 0 c rfl;simp at hu;subst hu;exact hr
  .simpa using h (i+1) d yBy
theorem aZ.take {w:World}{F:Nat->Prop}{U:Nat->Option OB}(k:Nat)(cs:List CV)(vs:List Value)(h:aZ w F U cs vs):aZ w F U (cs.take k) (vs.take k):=by
 refine aZ.AN _ _ (by simp[aZ.length cs vs h]) λ i c hi=>?_;rw[getElem?_take] at hi |-;split at hi
 .rename_i hk;rw[if_pos hk];exact aZ.get cs vs h i c hi
 .cases hi
theorem aZ.drop {w:World}{F:Nat->Prop}{U:Nat->Option OB}(k:Nat)(cs:List CV)(vs:List Value)(h:aZ w F U cs vs):aZ w F U (cs.drop k) (vs.drop k):=by
 refine aZ.AN _ _ (by simp[aZ.length cs vs h]) λ i c hi=>?_;rw[getElem?_drop] at hi |-;exact aZ.get cs vs h _ c hi
theorem aZ.append {w:World}{F:Nat->Prop}{U:Nat->Option OB}:∀ (cs ds:List CV) (vs us:List Value),aZ w F U cs vs->aZ w F U ds us->aZ w F U (cs++ds) (vs++us)
 | [],ds,vs,us,h,k=>by simp only[aZ] at h;subst h;simpa using k
 | c::cs,ds,vs,us,h,k=>by
  simp only[aZ] at h;obtain⟨v,r,rfl,h1,h2⟩:=h;simp only[cons_append,aZ];exact⟨v,r++us,rfl,h1,aZ.append cs ds r us h2 k⟩
theorem VR.CA {w:World}{F:Nat->Prop}{U:Nat->Option OB}(c:CV)(v:Value)(h1:one c=true)(h:VR w F U c v):v.oneCell'=true:=by
 cases c<;>simp only[VR,cj,one,Bool.false_eq_true] at h h1
 case az=>obtain⟨A,cap,rfl,_⟩:=h;rfl
 case cM=>obtain⟨ad,rfl,_⟩:=h;rfl
 case fn=>obtain⟨vs,rfl,_⟩:=h;rfl
 case iface=>obtain⟨vs,rfl,_⟩:=h;cases vs<;>rfl
 case a7 o off n=>
  obtain⟨B,_,h⟩:=h;split at h
  .obtain⟨rfl,_⟩:=h;rfl
  .obtain⟨cap,rfl,_⟩:=h;rfl
 case ax=>obtain⟨B,b,_,_,rfl⟩:=h;rfl
 case any=>exact h
 case mp=>obtain⟨B,r,arr,clock,_,_,rfl,_⟩:=h;rfl
 all_goals (subst h;rfl)
theorem aZ.jB {w:World}{F:Nat->Prop}{U:Nat->Option OB}:∀ (cs:List CV) (vs:List Value),cs.all one=true->aZ w F U cs vs->∀ u∈vs,u.oneCell'=true
 | [],vs,_,h=>by simp only[aZ] at h;subst h;simp
 | c::cs,vs,ha,h=>by
  simp only[aZ] at h;obtain⟨v,r,rfl,h1,h2⟩:=h;simp only[all_cons,Bool.and_eq_true] at ha;intro u hu;rcases mem_cons.1 hu with rfl | hu
  .exact VR.CA c _ ha.1 h1
  .exact aZ.jB cs r ha.2 h2 u hu
theorem AI {v:Value}(h:v.oneCell'=true):v.cells=#[v]:=by
 cases v<;>simp_all [Value.oneCell',Value.cells]
theorem VR.flat {w:World}{F:Nat->Prop}{U:Nat->Option OB}(c:CV)(v:Value)(hc:∀ cs,c≠.cF cs)(hi:∀ k s p,c≠.iter k s p)(h:VR w F U c v):aZ w F U c.cells v.cells.toList/\c.cells.all one=true:=by
 by_cases ha:∃ cs,c=.agg cs
 .obtain⟨cs,rfl⟩:=ha;simp only[VR] at h;obtain⟨vs,rfl,r,h1⟩:=h;exact⟨by simpa [CV.cells,Value.cells] using r,h1⟩
 .have h1:one c=true:=by
   cases c<;>simp_all [one]
  have h2:c.cells=[c]:=by
   cases c<;>simp_all [CV.cells]
  rw[h2,AI (VR.CA c v h1 h)];exact⟨by simp only[aZ];exact⟨v,[],rfl,h,rfl⟩,by simp[h1]⟩
theorem fH.Qp {w:World}{F:Nat->Prop}:∀ (cs:List CV) (ad:Addr),fH w F cs ad->cs.all one=true
 | [],_,_=>rfl
 | c::cs,ad,h=>by
  simp only[fH] at h;simp[h.2.1,fH.Qp cs _ h.2.2]
end Go.Can
/- Canonical states, their relation to the real frame and world, and the operations that turn nothing in memory. No function of the program is mentioned here. -/
namespace Go.Can
open Go.RowKit List
def assoc {α:Type}:List (Nat×α)->Nat->Option α
 | [],_=>none
 | (k,v)::r,t=>if k=t then some v else assoc r t
def kC {α:Type}:List (Nat×α)->Nat->List (Nat×α)
 | [],_=>[]
 | (k,v)::r,t=>if k=t then kC r t else (k,v)::kC r t
def vc {α:Type}:List (Nat×α)->Nat->α->List (Nat×α)
 | [],_,_=>[]
 | (k,v)::r,t,x=>if k=t then (k,x)::r else (k,v)::vc r t x
theorem fG {α:Type}(l:List (Nat×α))(t u:Nat):assoc (kC l t) u=if t=u then none else assoc l u:=by
 induction l with
 | nil=>simp[kC,assoc]
 | cons x r ih=>
  obtain⟨k,v⟩:=x;simp only[kC];split
  .rename_i hk;subst hk;rw[ih];split
   .rfl
   .rename_i hu;simp[assoc,hu]
  .rename_i hk;simp only[assoc];split
   .rename_i hu;subst hu;simp[Ne.symm hk]
   .exact ih
theorem fX {α:Type}(l:List (Nat×α))(t u:Nat)(x:α):assoc (vc l t x) u=if t=u then (assoc l t).map λ _=>x else assoc l u:=by
 induction l with
 | nil=>simp[vc,assoc]
 | cons y r ih=>
  obtain⟨k,v⟩:=y;simp only[vc];split
  .rename_i hk;subst hk;simp only[assoc,if_true];split
   .rename_i hu;simp
   .rfl
  .rename_i hk;simp only[assoc,hk,if_false];rw[ih];split
   .rename_i hu;subst hu;simp[Ne.symm hk]
   .rfl
structure Ob where
 elem:TypeId
 sz:Nat
 cells:List CV
structure St where
 env:List (Nat×CV)
 heap:List (Nat×Ob)
 nx:Nat
def St.put (s:St)(d:Option Tmp)(c:CV):St:=
 match d with
 | some t=>{ s with env:=(t,c)::kC s.env t }
 | none=>s
def St.del (s:St)(d:Option Tmp):St:=
 match d with
 | some t=>{ s with env:=kC s.env t }
 | none=>s
def Rp (w:World)(F:Nat->Prop):Prop:=∀ x∈Ro,x.1<w.heap.size/\¬ F x.1/\∀ (j:Nat) (v:Value),x.2[j]? = some v->w.cell? ⟨x.1,j,none⟩=some v
def Mu (w:World)(F own:Nat->Prop):Prop:=(∀ b,F b->b<w.heap.size)/\Rp w (λ b=>F b\/own b)
def FOk (w:World)(F:Nat->Prop):Prop:=Mu w F (λ _=>False)
structure Cx where
 w0:World
 F:Nat->Prop
 own:Nat->Prop
 hF:Mu w0 F own
 nt:Nat
 σ0:Nat->Option OB
 n0:Nat
def a6 (U:Nat->Option OB)(o:Nat):Option Nat:=(U o).bind (·.kW)
def FB (C:Cx)(U:Nat->Option OB)(H:List (Nat×Ob))(b:Nat):Prop:=C.F b\/∃ o ob,assoc H o=some ob/\a6 U o=some b
def ObR (C:Cx)(w:World)(U:Nat->Option OB)(H:List (Nat×Ob))(o:Nat)(ob:Ob):Prop:=
 ∃ B,U o=some B/\B.sz=ob.sz/\(B.kW=none->ob.cells=[])/\ob.cells.all one=true/\
  ∀ b,B.kW=some b->∃ cur:Array Value,w.heap[b]? = some (.cells cur ob.elem (0,0))/\cur.size=B.room/\¬ C.F b/\(C.own b\/C.w0.heap.size<=b)/\
   ob.cells.length<=cur.size/\aZ w (FB C U H) U ob.cells (cur.toList.take ob.cells.length)
structure aQ (C:Cx)(U:Nat->Option OB)(s:St)(a:Act)(w:World):Prop where
 pB:a.defers=[]
 tm:a.tmps.size=C.nt
 os:w.os=C.w0.os
 tape:w.tape=C.w0.tape
 output:w.output=C.w0.output
 size:C.w0.heap.size<=w.heap.size
 frame:∀ b,b<C.w0.heap.size->¬ C.own b->w.heap[b]? = C.w0.heap[b]?
 env:∀ t c,assoc s.env t=some c->∃ v,a.tmps[t]? = some v/\VR w (FB C U s.heap) U c v
 obj:∀ o ob,assoc s.heap o=some ob->ObR C w U s.heap o ob
 inj:∀ o o' ob SN b,assoc s.heap o=some ob->assoc s.heap o'=some SN->a6 U o=some b->a6 U o'=some b->o=o'
 nx:∀ o,s.nx<=o->U o=none
 gH:∀ o,o<C.n0->U o=C.σ0 o
 low:C.n0<=s.nx
 new:∀ o B b,C.n0<=o->U o=some B->B.kW=some b->C.own b\/C.w0.heap.size<=b
def Rel (C:Cx)(s:St)(a:Act)(w:World):Prop:=∃ U,aQ C U s a w
section
variable {C:Cx}{U:Nat->Option OB}{s:St}{a:Act}{w:World}
theorem GM {a:Act}{d t:Nat}{v:Value}:(a.put (some d) v).tmps[t]? = if d=t then (if t<a.tmps.size then some v else none) else a.tmps[t]?:=by
 simp only[Act.put];rw[Array.getElem?_setIfInBounds];split
 .rename_i h;subst h;rfl
 .rfl
theorem aQ.put (h:aQ C U s a w){d:Option Tmp}{c:CV}{v:Value}(hd:∀ t,d=some t->t<a.tmps.size)(hv:VR w (FB C U s.heap) U c v):aQ C U (s.put d c) (a.put d v) w:=by
 cases d with
 | none=>exact h
 | some d=>
  refine⟨h.pB,by simpa [Act.put] using h.tm,h.os,h.tape,h.output,h.size,h.frame,?_,h.obj,h.inj,h.nx,h.gH,h.low,h.new⟩;intro t c' hc;rw[GM];simp only[St.put,assoc] at hc;split at hc
  .rename_i e;subst e;cases hc;rw[if_pos rfl,if_pos (hd _ rfl)];exact⟨v,rfl,hv⟩
  .rename_i e;rw[fG,if_neg e] at hc;rw[if_neg e];exact h.env t c' hc
theorem aQ.del (h:aQ C U s a w){d:Option Tmp}(v:Value):aQ C U (s.del d) (a.put d v) w:=by
 cases d with
 | none=>exact h
 | some d=>
  refine⟨h.pB,by simpa [Act.put] using h.tm,h.os,h.tape,h.output,h.size,h.frame,?_,h.obj,h.inj,h.nx,h.gH,h.low,h.new⟩;intro t c' hc;rw[GM];simp only[St.del] at hc;rw[fG] at hc;split at hc
  .cases hc
  .rename_i e;rw[if_neg e];exact h.env t c' hc
def gY:Value->Option CV
 | .int k n=>some (.int k n)
 | .bool b=>some (.bool b)
 | .string s=>some (.str s)
 | .pointer none=>some .bL
 | .slice none 0 0=>some .aj
 | .nilFunc=>some .cH
 | .nilIface=>some (.iface 0 [])
 | .map none=>some .any
 | _=>none
def fN:List Value->Option (List CV)
 | []=>some []
 | v::r=>match gY v,fN r with
  | some c,some cs=>some (c::cs)
  | _,_=>none
def sX:Value->Option CV
 | .agg cs=>(fN cs.toList).map CV.agg
 | .tuple vs=>if vs.isEmpty then some (.cF []) else none
 | v=>gY v
theorem l9 {F:Nat->Prop}{v:Value}{c:CV}(h:gY v=some c):cj w F c v/\one c=true:=by
 unfold gY at h;split at h<;>first | (cases h;simp[cj,bX,Sd,one,Value.oneCell'];done) | (cases h)
theorem dr {F:Nat->Prop}:∀ (vs:List Value) (cs:List CV),fN vs=some cs->bX w F cs vs/\cs.all one=true
 | [],cs,h=>by simp only[fN] at h;cases h;simp[bX]
 | v::r,cs,h=>by
  simp only[fN] at h;split at h
  .rename_i c Uh h1 h2;cases h;obtain⟨k1,k2⟩:=l9 (w:=w) (F:=F) h1;obtain⟨k3,k4⟩:=dr (F:=F) r Uh h2;simp only[bX];exact⟨⟨v,r,rfl,k1,k3⟩,by simp[k2,k4]⟩
  .cases h
theorem od {F:Nat->Prop}{v:Value}{c:CV}(h:sX v=some c):cj w F c v:=by
 unfold sX at h;split at h
 .rename_i cs;obtain⟨x,h1,h2⟩:=Option.map_eq_some_iff.1 h;subst h2;obtain⟨k1,k2⟩:=dr (w:=w) (F:=F) _ _ h1;simp only[cj];exact⟨cs.toList,by simp,k1,k2⟩
 .rename_i vs;split at h
  .rename_i he;cases h;simp only[cj,bX];exact⟨[],by simpa using he,rfl⟩
  .cases h
 .exact (l9 h).1
theorem Ad {F:Nat->Prop}{g:Nat}(hg:¬ F g):∀ (vs:List Value) (cs:List CV) (k:Nat),fN vs=some cs->(∀ (j:Nat) (v:Value),vs[j]? = some v->w.cell? ⟨g,k+j,none⟩=some v)->fH w F cs ⟨g,k,none⟩
 | [],cs,k,h,_=>by simp only[fN] at h;cases h;simp[fH]
 | v::r,cs,k,h,hc=>by
  simp only[fN] at h;split at h
  .rename_i c Uh h1 h2;cases h;obtain⟨k1,k2⟩:=l9 (w:=w) (F:=F) h1;simp only[fH];refine⟨⟨v,hc 0 v rfl,hg,k1⟩,k2,?_⟩;rw[add_lit];exact Ad hg r Uh (k+1) h2 λ j u hj=>by rw[Nat.add_assoc,Nat.add_comm 1 j];exact hc (j+1) u (by simpa using hj)
  .cases h
theorem yu {α:Type}:∀ (l:List (Nat×α)) (t:Nat) (v:α),assoc l t=some v->(t,v)∈l
 | [],_,_,h=>by simp[assoc] at h
 | (k,u)::r,t,v,h=>by
  simp only[assoc] at h;split at h
  .rename_i e;subst e;cases h;exact mem_cons_self
  .exact mem_cons_of_mem _ (yu r t v h)
theorem aQ.gok (h:aQ C U s a w):Rp w (FB C U s.heap):=λ x hx=>by
 obtain⟨h0,h1,h2⟩:=C.hF.2 x hx;refine⟨Nat.lt_of_lt_of_le h0 h.size,?_,λ j v hj=>?_⟩
 .rintro (hf | ⟨o,ob,ho,hb⟩)
  .exact h1 (.inl hf)
  .obtain⟨B,m1,_,_,_,m5⟩:=h.obj o ob ho;obtain⟨cur,_,_,_,n4,_⟩:=m5 _ yBw;rcases n4 with n4 | n4
   .exact h1 (.inr n4)
   .omega
 .rw[World.cell?_of_block (w:=C.w0) (h.frame x.1 h0 λ ho=>h1 (.inr ho))];exact h2 j v hj
theorem Rp.mono {w:World}{F F':Nat->Prop}(h:Rp w F)(hF:∀ b,F' b->F b):Rp w F':=λ x hx=>⟨(h x hx).1,λ hf=>(h x hx).2.1 (hF _ hf),(h x hx).2.2⟩
def ev (s:St):Operand->Option CV
 | .tmp t=>assoc s.env t
 | .const v=>sX v
 | .func f=>some (.fn f [])
 | .global g=>(assoc Ro g).bind λ vs=>(fN vs).map .cM
def BK (s:St):List Operand->Option (List CV)
 | []=>some []
 | x::r=>match ev s x,BK s r with
  | some c,some cs=>some (c::cs)
  | _,_=>none
theorem bH (h:aQ C U s a w){x:Operand}{c:CV}(he:ev s x=some c):VR w (FB C U s.heap) U c (a.eval x):=by
 cases x with
 | tmp t=>
  obtain⟨v,h1,h2⟩:=h.env t c he;simp only[Act.eval];have:a.tmps.getD t undef=v:=by simp[Array.getD_eq_getD_getElem?,h1]
  rw[this];exact h2
 | const v=>exact VR.cJ _ _ (od he)
 | func f=>cases he;simp only[VR];exact⟨[],rfl,rfl⟩
 | global g=>
  simp only[ev] at he;obtain⟨vs,h1,h2⟩:=Option.bind_eq_some_iff.1 he;obtain⟨cs,h3,rfl⟩:=Option.map_eq_some_iff.1 h2;obtain⟨_,k1,k2⟩:=h.gok _ (yu _ _ _ h1);simp only[VR,cj,Act.eval];exact⟨_,rfl,Ad k1 vs cs 0 h3 λ j v hj=>by rw[Nat.zero_add];exact k2 j v hj⟩
theorem rv (h:aQ C U s a w):∀ (xs:List Operand) (cs:List CV),BK s xs=some cs->aZ w (FB C U s.heap) U cs (xs.map a.eval)
 | [],cs,he=>by simp only[BK] at he;cases he;rfl
 | x::r,cs,he=>by
  simp only[BK] at he;split at he
  .rename_i c Uh h1 h2;cases he;simp only[aZ];exact⟨_,_,rfl,bH h h1,rv h r Uh h2⟩
  .cases he
end
inductive TD where
 | int (k:IntKind)
 | bool
 | str
 | sl (e:TypeId)
 | bp (fs:List (Nat×TypeId))
 | arr (n:Nat) (e:TypeId)
 | ptr (e:TypeId)
 | func
 | Qo
def vH:TypeDesc->TD
 | .int k=>.int k
 | .bool=>.bool
 | .string=>.str
 | .slice e=>.sl e
 | .struct fs=>.bp (fs.toList.map λ f=>(f.offset,f.type))
 | .array n e=>.arr n e
 | .pointer e=>.ptr e
 | .func _ _ _=>.func
 | _=>.Qo
structure TI where
 d:TD
 size:Nat
 bytes:Nat
 zero:List CV
def TI.agg (i:TI):Bool:=match i.d with
 | .bp _=>true
 | .arr _ _=>true
 | _=>false
structure cE (P:Program)(t:TypeId)(i:TI):Prop where
 info:∃ f z,P.info? t=some f/\f.size=i.size/\f.bytes=i.bytes/\f.zero=some z/\fN z.cells.toList=some i.zero
 BF:∃ d,P.underlying t=some d/\vH d=i.d
 len:i.zero.length=i.size
def aF (P:Program)(av:List (Nat×TI)):Prop:=∀ t i,assoc av t=some i->cE P t i
theorem cE.mk' {P:Program}{t:TypeId}{i:TI}(h1:(P.info? t).map (λ f=>(f.size,f.bytes,f.zero.map λ z=>fN z.cells.toList))=some (i.size,i.bytes,some (some i.zero)))
  (h2:(P.underlying t).map vH=some i.d) (h3:i.zero.length=i.size):cE P t i:=by
 obtain⟨f,e1,e2⟩:=Option.map_eq_some_iff.1 h1;obtain⟨d,e3,e4⟩:=Option.map_eq_some_iff.1 h2;simp only[Prod.mk.injEq] at e2;obtain⟨z,e5,e6⟩:=Option.map_eq_some_iff.1 e2.2.2;exact⟨⟨f,z,e1,e2.1,e2.2.1,e5,e6⟩,⟨d,e3,e4⟩,h3⟩
theorem aF.nil {P:Program}:aF P []:=λ _ _ h=>by cases h
theorem aF.cons {P:Program}{t:Nat}{i:TI}{r:List (Nat×TI)}(h:cE P t i)(hr:aF P r):aF P ((t,i)::r):=λ u j hj=>by
 simp only[assoc] at hj;split at hj
 .rename_i e;subst e;cases hj;exact h
 .exact hr u j hj
theorem bB {P:Program}{t:TypeId}{d:TypeDesc}(h:P.underlying t=some d)(w:World):(underlying t).run P w=.ok d w:=run_underlying h w
theorem xe {P:Program}{t:TypeId}{f:TypeInfo}(h:P.info? t=some f)(w:World):(typeInfo t).run P w=.ok f w:=by
 simp[typeInfo,h]
theorem cT {P:Program}{t:TypeId}{f:TypeInfo}(h:P.info? t=some f)(w:World):(sizeOf t).run P w=.ok f.size w:=by
 simp[sizeOf,xe h]
def arith (op:BinOp)(k:IntKind)(a b:Int):Option CV:=
 match op with
 | .add=>some (.int k (k.wrap (a+b)))
 | .sub=>some (.int k (k.wrap (a-b)))
 | .mul=>some (.int k (k.wrap (a*b)))
 | .quo=>if b=0 then none else some (.int k (k.wrap (a.tdiv b)))
 | .rem=>if b=0 then none else some (.int k (a.tmod b))
 | .and=>some (.int k (k.wrap (BitVec.ofInt k.bits a &&& BitVec.ofInt k.bits b).toNat))
 | .or=>some (.int k (k.wrap (BitVec.ofInt k.bits a ||| BitVec.ofInt k.bits b).toNat))
 | .xor=>some (.int k (k.wrap (BitVec.ofInt k.bits a ^^^ BitVec.ofInt k.bits b).toNat))
 | .andNot=>some (.int k (k.wrap (BitVec.ofInt k.bits a &&& ~~~ BitVec.ofInt k.bits b).toNat))
 | .eql=>some (.bool (a == b))
 | .neq=>some (.bool (a != b))
 | .lss=>some (.bool (decide (a<b)))
 | .leq=>some (.bool (decide (a<=b)))
 | .gtr=>some (.bool (decide (a > b)))
 | .geq=>some (.bool (decide (a≥b)))
 | _=>none
def mQ (op:BinOp)(x y:ByteArray):Option CV:=
 match op with
 | .add=>if x.size+y.size<=9223372036854775807 then some (.str (x++y)) else none
 | .eql=>some (.bool (x.toList == y.toList))
 | .neq=>some (.bool (!(x.toList == y.toList)))
 | .lss=>some (.bool (Op.bytesLess x.toList y.toList))
 | .leq=>some (.bool (Op.bytesLess x.toList y.toList || x.toList == y.toList))
 | .gtr=>some (.bool (!(Op.bytesLess x.toList y.toList || x.toList == y.toList)))
 | .geq=>some (.bool (!Op.bytesLess x.toList y.toList))
 | _=>none
def Fw (op:BinOp)(d:TD):CV->CV->Option CV
 | .int k a,.int k' b=>match op with
  | .shl=>if b<0 then none else some (.int k (k.wrap (a*2 ^ (min b.toNat k.bits))))
  | .shr=>if b<0 then none else some (.int k (a.fdiv (2 ^ (min b.toNat k.bits))))
  | op=>if k=k' then arith op k a b else none
 | .str x,.str y=>mQ op x y
 | .bool a,.bool b=>match d,op with
  | .bool,.eql=>some (.bool (a == b))
  | .bool,.neq=>some (.bool (!(a == b)))
  | _,_=>none
 | _,_=>none
theorem dY {w:World}{F:Nat->Prop}{U:Nat->Option OB}(k:IntKind)(n:Int):VR w F U (.int k n) (.int k n):=by simp[VR]
theorem dU {w:World}{F:Nat->Prop}{U:Nat->Option OB}(b:Bool):VR w F U (.bool b) (.bool b):=by simp[VR]
theorem BA {w:World}{F:Nat->Prop}{U:Nat->Option OB}(b:ByteArray):VR w F U (.str b) (.string b):=by simp[VR]
theorem L3 {P:Program}{w:World}{op:BinOp}{k:IntKind}{xt:TypeId}{a b:Int}{c:CV}(hs1:op≠.shl)(hs2:op≠.shr)(h:arith op k a b=some c){F:Nat->Prop}{U:Nat->Option OB} :
  ∃ v,(binOp op xt (.int k a) (.int k b)).run P w=.ok v w/\VR w F U c v:=by
 cases op<;>simp only[arith] at h
 case add=>cases h;exact⟨_,by simp[binOp,Op.intArith],dY _ _⟩
 case sub=>cases h;exact⟨_,by simp[binOp,Op.intArith],dY _ _⟩
 case mul=>cases h;exact⟨_,by simp[binOp,Op.intArith],dY _ _⟩
 case quo=>
  split at h
  .cases h
  .cases h;rename_i hb;exact⟨_,by simp[binOp,Op.intDiv,hb],dY _ _⟩
 case rem=>
  split at h
  .cases h
  .cases h;rename_i hb;exact⟨_,by simp[binOp,Op.intDiv,hb],dY _ _⟩
 case and=>cases h;exact⟨_,by simp[binOp,Op.intBits],dY _ _⟩
 case or=>cases h;exact⟨_,by simp[binOp,Op.intBits],dY _ _⟩
 case xor=>cases h;exact⟨_,by simp[binOp,Op.intBits],dY _ _⟩
 case andNot=>cases h;exact⟨_,by simp[binOp,Op.intBits],dY _ _⟩
 case eql=>cases h;exact⟨_,by simp[binOp,Op.intCmp],dU _⟩
 case neq=>cases h;exact⟨_,by simp[binOp,Op.intCmp],dU _⟩
 case lss=>cases h;exact⟨_,by simp[binOp,Op.intCmp],dU _⟩
 case leq=>cases h;exact⟨_,by simp[binOp,Op.intCmp],dU _⟩
 case gtr=>cases h;exact⟨_,by simp[binOp,Op.intCmp],dU _⟩
 case geq=>cases h;exact⟨_,by simp[binOp,Op.intCmp],dU _⟩
 all_goals first | cases h | exact absurd rfl hs1 | exact absurd rfl hs2
theorem Jv {P:Program}{w:World}{op:BinOp}{xt:TypeId}{a b:ByteArray}{c:CV}(h:mQ op a b=some c){F:Nat->Prop}{U:Nat->Option OB} :
  ∃ v,(binOp op xt (.string a) (.string b)).run P w=.ok v w/\VR w F U c v:=by
 cases op<;>simp only[mQ] at h
 case add=>
  split at h
  .rename_i hb;cases h;refine⟨_,?_,BA _⟩;have hm:IntKind.i64.max=9223372036854775807:=by simp[IntKind.max,IntKind.signed,IntKind.bits]
   simp only[binOp,Op.stringOp,hm];rw[if_neg yA];rfl
  .cases h
 case eql=>cases h;exact⟨_,by simp[binOp,Op.stringOp],dU _⟩
 case neq=>cases h;exact⟨_,by simp[binOp,Op.stringOp],dU _⟩
 case lss=>cases h;exact⟨_,by simp[binOp,Op.stringOp],dU _⟩
 case leq=>cases h;exact⟨_,by simp[binOp,Op.stringOp],dU _⟩
 case gtr=>cases h;exact⟨_,by simp[binOp,Op.stringOp],dU _⟩
 case geq=>cases h;exact⟨_,by simp[binOp,Op.stringOp],dU _⟩
 all_goals cases h
def qn (w:World)(F:Nat->Prop)(U:Nat->Option OB)(cs:List CV)(ad:Addr):Prop:=
 ∃ us:List Value,aZ w F U cs us/\cs.all one=true/\∀ j u,us[j]? = some u->w.cell? (ad.add j)=some u
theorem qn.drop {w:World}{F:Nat->Prop}{U:Nat->Option OB}{cs:List CV}{ad:Addr}(k:Nat)(h:qn w F U cs ad):qn w F U (cs.drop k) (ad.add k):=by
 obtain⟨us,h1,h2,h3⟩:=h;refine⟨us.drop k,aZ.drop k cs us h1,?_,λ j u hu=>?_⟩
 .rw[all_eq_true] at h2 |-;exact λ x hx=>h2 x (mem_of_mem_drop hx)
 .rw[getElem?_drop] at hu;rw[add_add];exact h3 _ u hu
def iA (s:St):CV->Option (List CV)
 | .cM cs=>some cs
 | .ax o off=>(assoc s.heap o).map (·.cells.drop off)
 | _=>none
section
variable {P:Program}{C:Cx}{U:Nat->Option OB}{s:St}{a:Act}{w:World}
theorem Kl (h:aQ C U s a w){o:Nat}{ob:Ob}{B:OB}{b:Nat}(ho:assoc s.heap o=some ob)(hB:U o=some B)(hb:B.kW=some b) :
  qn w (FB C U s.heap) U ob.cells ⟨b,0,none⟩:=by
 obtain⟨B',e1,_,_,e4,e5⟩:=h.obj o ob ho;rw[hB] at e1;cases e1;obtain⟨cur,k1,k2,k3,k4,k5,k6⟩:=e5 b hb;refine⟨_,k6,e4,λ j u hu=>?_⟩;rw[add_lit,Nat.zero_add,cell_of_row w b j cur _ _ k1];rw[getElem?_take] at hu;split at hu
 .simpa using hu
 .cases hu
theorem CO (h:aQ C U s a w){c:CV}{v:Value}{cs:List CV}(hv:VR w (FB C U s.heap) U c v)(hm:iA s c=some cs) :
  ∃ ad,v=.pointer (some ad)/\qn w (FB C U s.heap) U cs ad:=by
 unfold iA at hm;split at hm
 .rename_i Uh;cases hm;simp only[VR,cj] at hv;obtain⟨ad,e,hm⟩:=hv;obtain⟨us,h1,_,h3⟩:=fH.cells _ _ hm;exact⟨ad,e,us,aZ.cJ _ _ h1,fH.Qp _ _ hm,h3⟩
 .rename_i o off;obtain⟨ob,ho,rfl⟩:=Option.map_eq_some_iff.1 hm;simp only[VR] at hv;obtain⟨B,b,hB,hb,rfl⟩:=hv;refine⟨_,rfl,?_⟩;have:=(Kl h ho hB hb).drop off;rw[add_lit,Nat.zero_add] at this;exact this
 .cases hm
theorem zj {t:TypeId}{i:TI}(hT:cE P t i)(w:World):(isAgg t).run P w=.ok i.agg w:=by
 obtain⟨d,h1,h2⟩:=hT.BF;simp only[isAgg,Sem.run_bind,bB h1,Result.andThen_ok];unfold TI.agg;rw[<- h2];cases d<;>rfl
def nu (i:TI)(cs:List CV):Option CV:=
 if i.agg then (if i.size<=cs.length then some (.agg (cs.take i.size)) else none) else cs.head?
theorem DB {t:TypeId}{i:TI}(hT:cE P t i){F:Nat->Prop}{cs:List CV}{ad:Addr}{c:CV}(hm:qn w F U cs ad)(hc:nu i cs=some c) :
  ∃ v,(loadVar t ad).run P w=.ok v w/\VR w F U c v:=by
 obtain⟨us,h1,h2,h3⟩:=hm;obtain⟨f,z,e1,e2,_⟩:=hT.info;unfold nu at hc;simp only[loadVar,Sem.run_bind,zj hT,Result.andThen_ok];split at hc
 .rename_i ha;split at hc
  .rename_i hl;cases hc;rw[ha];have hlen:=aZ.length _ _ h1;have h4:(loadCells ad i.size).run P w=.ok (us.take i.size).toArray w:=by
    have:=run_loadCells_list (P:=P) w ad (us.take i.size) (λ j v hv=>by
     rw[getElem?_take] at hv;split at hv
     .exact h3 j v hv
     .cases hv)
    rwa [length_take,Nat.min_eq_left yA] at this
   refine⟨.agg (us.take i.size).toArray,by simp[cT e1,e2,h4],?_⟩;simp only[VR];refine⟨us.take i.size,rfl,aZ.take _ _ _ h1,?_⟩;rw[all_eq_true] at h2 |-;exact λ x hx=>h2 x (mem_of_mem_take hx)
  .cases hc
 .rename_i ha;rw[Bool.not_eq_true] at ha;rw[ha];obtain⟨v,k1,k2⟩:=aZ.get _ _ h1 0 c (by rwa [<- head?_eq_getElem?]);have:=h3 0 v k1;rw[add_zero] at this;exact⟨v,by simp[this],k2⟩
def Bp (av:List (Nat×TI))(t:TypeId)(x:CV)(i:Int):Option CV:=
 match assoc av t with
 | none=>none
 | some it=>
  match it.d with
  | .sl e=>
   match assoc av e with
   | none=>none
   | some ie=>
    match x with
    | .az cs n=>if 0<=i/\i<n then some (.cM (cs.drop (i.toNat*ie.size))) else none
    | .a7 o off n=>if 0<=i/\i<n then some (.ax o (off+i.toNat*ie.size)) else none
    | _=>none
  | .arr n e=>
   match assoc av e with
   | none=>none
   | some ie=>
    match x with
    | .cM cs=>if 0<=i/\i<n then some (.cM (cs.drop (i.toNat*ie.size))) else none
    | .ax o off=>if 0<=i/\i<n then some (.ax o (off+i.toNat*ie.size)) else none
    | _=>none
  | _=>none
theorem dK {t e:TypeId}{i:TI}(hT:cE P t i)(hd:i.d=.sl e):P.underlying t=some (.slice e):=by
 obtain⟨d,h1,h2⟩:=hT.BF;rw[hd] at h2;cases d<;>simp only[vH] at h2<;>first | cases h2 | skip
 exact h1
theorem pP {t e:TypeId}{n:Nat}{i:TI}(hT:cE P t i)(hd:i.d=.arr n e):P.underlying t=some (.array n e):=by
 obtain⟨d,h1,h2⟩:=hT.BF;rw[hd] at h2;cases d<;>simp only[vH] at h2<;>first | cases h2 | skip
 exact h1
theorem uh {t:TypeId}{fs:List (Nat×TypeId)}{i:TI}(hT:cE P t i)(hd:i.d=.bp fs):∃ fields,P.underlying t=some (.struct fields)/\fields.toList.map (λ f=>(f.offset,f.type))=fs:=by
 obtain⟨d,h1,h2⟩:=hT.BF;rw[hd] at h2;cases d<;>simp only[vH] at h2<;>first | cases h2 | skip
 exact⟨_,h1,rfl⟩
theorem Jj {t:TypeId}{i:TI}(hT:cE P t i)(hd:i.d=.bool):P.underlying t=some .bool:=by
 obtain⟨d,h1,h2⟩:=hT.BF;rw[hd] at h2;cases d<;>simp only[vH] at h2<;>first | cases h2 | skip
 exact h1
theorem z4 {av:List (Nat×TI)}(ht:aF P av){F:Nat->Prop}{t:TypeId}{x c:CV}{v:Value}{i:Int}{k:IntKind}(hv:VR w F U x v)(hc:Bp av t x i=some c) :
  ∃ u,(∀ w',(Instr.indexAt t v (.int k i)).run P w'=.ok u w')/\VR w F U c u:=by
 unfold Bp at hc;split at hc
 .cases hc
 rename_i it SW;have hT:=ht t it SW;split at hc
 .rename_i e hd;split at hc
  .cases hc
  rename_i ie Rz;obtain⟨f,z,e1,e2,_⟩:=(ht e ie Rz).info;have hu:=dK hT hd;split at hc
  .rename_i cs n;split at hc
   .rename_i hb;cases hc;simp only[VR,cj] at hv;obtain⟨A,cap,rfl,_,_,h4⟩:=hv;rcases h4 with ⟨h4,_⟩ | ⟨ad,rfl,hm⟩
    .omega
    .refine⟨.pointer (some (ad.add (i.toNat*ie.size))),?_,by simp only[VR,cj];exact⟨_,rfl,fH.drop _ _ _ hm⟩⟩;intro w';simp[Instr.indexAt,asIntOf,bB hu,cT e1,e2,hb]
   .cases hc
  .rename_i o off n;split at hc
   .rename_i hb;cases hc;simp only[VR] at hv;obtain⟨B,hB,hv⟩:=hv;split at hv
    .obtain⟨rfl,_,h0⟩:=hv;omega
    .rename_i b SS;obtain⟨cap,rfl,_⟩:=hv;refine⟨.pointer (some ⟨b,off+i.toNat*ie.size,none⟩),?_,by simp only[VR];exact⟨B,b,hB,SS,rfl⟩⟩;intro w';simp[Instr.indexAt,asIntOf,bB hu,cT e1,e2,hb,add_lit]
   .cases hc
  .cases hc
 .rename_i n e hd;split at hc
  .cases hc
  rename_i ie Rz;obtain⟨f,z,e1,e2,_⟩:=(ht e ie Rz).info;have hu:=pP hT hd;split at hc
  .rename_i cs;split at hc
   .rename_i hb;cases hc;simp only[VR,cj] at hv;obtain⟨ad,rfl,hm⟩:=hv;refine⟨.pointer (some (ad.add (i.toNat*ie.size))),?_,by simp only[VR,cj];exact⟨_,rfl,fH.drop _ _ _ hm⟩⟩;intro w';simp[Instr.indexAt,asIntOf,bB hu,cT e1,e2,hb,Instr.sureAddr]
   .cases hc
  .rename_i o off;split at hc
   .rename_i hb;cases hc;simp only[VR] at hv;obtain⟨B,b,hB,SS,rfl⟩:=hv;refine⟨.pointer (some ⟨b,off+i.toNat*ie.size,none⟩),?_,by simp only[VR];exact⟨B,b,hB,SS,rfl⟩⟩;intro w';simp[Instr.indexAt,asIntOf,bB hu,cT e1,e2,hb,Instr.sureAddr,add_lit]
   .cases hc
  .cases hc
 .cases hc
def og (av:List (Nat×TI))(t:TypeId)(x:CV)(f:Nat):Option CV:=
 match assoc av t with
 | none=>none
 | some it=>
  match it.d with
  | .bp fs=>
   match fs[f]? with
   | none=>none
   | some (off,ft)=>
    match assoc av ft with
    | none=>none
    | some ie=>
     if ie.size=0 then none else
     match x with
     | .cM cs=>some (.cM (cs.drop off))
     | .ax o p=>some (.ax o (p+off))
     | _=>none
  | _=>none
theorem qK {av:List (Nat×TI)}(ht:aF P av){F:Nat->Prop}{t:TypeId}{x c:CV}{v:Value}{f:Nat}(hv:VR w F U x v)(hc:og av t x f=some c) :
  ∃ u,(∀ w',(Instr.fieldAt t v f).run P w'=.ok u w')/\VR w F U c u:=by
 unfold og at hc;split at hc
 .cases hc
 rename_i it SW;have hT:=ht t it SW;split at hc
 .rename_i fs hd;split at hc
  .cases hc
  rename_i off ft hf;split at hc
  .cases hc
  rename_i ie Rz;obtain⟨g,z,e1,e2,_⟩:=(ht ft ie Rz).info;obtain⟨fields,hu,TZ⟩:=uh hT hd;have hf':∃ fl:Field,fields[f]? = some fl/\fl.offset=off/\fl.type=ft:=by
   rw[<- TZ,getElem?_map] at hf;obtain⟨fl,h1,h2⟩:=Option.map_eq_some_iff.1 hf;simp only[Prod.mk.injEq] at h2;exact⟨fl,by simpa using h1,h2⟩
  obtain⟨fl,VX,rfl,rfl⟩:=hf';split at hc
  .cases hc
  rename_i hz;split at hc
  .rename_i cs;cases hc;simp only[VR,cj] at hv;obtain⟨ad,rfl,hm⟩:=hv;refine⟨.pointer (some (ad.add fl.offset)),?_,by simp only[VR,cj];exact⟨_,rfl,fH.drop _ _ _ hm⟩⟩;intro w';simp[Instr.fieldAt,bB hu,VX,Instr.sureAddr,fieldPlace,cT e1,e2,hz]
  .rename_i o p;cases hc;simp only[VR] at hv;obtain⟨B,b,hB,SS,rfl⟩:=hv;refine⟨.pointer (some ⟨b,p+fl.offset,none⟩),?_,by simp only[VR];exact⟨B,b,hB,SS,rfl⟩⟩;intro w';simp[Instr.fieldAt,bB hu,VX,Instr.sureAddr,fieldPlace,cT e1,e2,hz,add_lit]
  .cases hc
 .cases hc
theorem Gf {t:TypeId}{i:TI}(hT:cE P t i){F:Nat->Prop}{cs:List CV}{vs:List Value}{c:CV}(h1:aZ w F U cs vs)(h2:cs.all one=true)(off:Nat)(hc:nu i (cs.drop off)=some c) :
  ∃ v,(part t vs.toArray off).run P w=.ok v w/\VR w F U c v:=by
 obtain⟨f,z,e1,e2,_⟩:=hT.info;have h1':=aZ.drop off _ _ h1;have Wc:(cs.drop off).all one=true:=by
  rw[all_eq_true] at h2 |-;exact λ x hx=>h2 x (mem_of_mem_drop hx)
 unfold nu at hc;simp only[part,Sem.run_bind,zj hT,Result.andThen_ok];split at hc
 .rename_i ha;split at hc
  .rename_i hl;cases hc;rw[ha];refine⟨.agg ((vs.drop off).take i.size).toArray,?_,?_⟩
   .simp[cT e1,e2,take_drop]
   .simp only[VR];refine⟨_,rfl,aZ.take _ _ _ h1',?_⟩;rw[all_eq_true] at Wc |-;exact λ x hx=>Wc x (mem_of_mem_take hx)
  .cases hc
 .rename_i ha;rw[Bool.not_eq_true] at ha;rw[ha];obtain⟨v,k1,k2⟩:=aZ.get _ _ h1' 0 c (by rwa [<- head?_eq_getElem?]);rw[getElem?_drop] at k1;refine⟨v,?_,k2⟩;have:vs.toArray[off]? = some v:=by simpa using k1
  simp[this]
def Br (av:List (Nat×TI))(t:TypeId)(x:CV)(f:Nat):Option CV:=
 match assoc av t with
 | none=>none
 | some it=>
  match it.d with
  | .bp fs=>
   match fs[f]? with
   | none=>none
   | some (off,ft)=>
    match assoc av ft with
    | none=>none
    | some ie=>
     match x with
     | .agg cs=>nu ie (cs.drop off)
     | _=>none
  | _=>none
theorem IA {av:List (Nat×TI)}(ht:aF P av){F:Nat->Prop}{t:TypeId}{x c:CV}{v:Value}{f:Nat}(hv:VR w F U x v)(hc:Br av t x f=some c) :
  ∃ u,(Instr.field t v f).run P w=.ok u w/\VR w F U c u:=by
 unfold Br at hc;split at hc
 .cases hc
 rename_i it SW;have hT:=ht t it SW;split at hc
 .rename_i fs hd;split at hc
  .cases hc
  rename_i off ft hf;split at hc
  .cases hc
  rename_i ie Rz;obtain⟨fields,hu,TZ⟩:=uh hT hd;have hf':∃ fl:Field,fields[f]? = some fl/\fl.offset=off/\fl.type=ft:=by
   rw[<- TZ,getElem?_map] at hf;obtain⟨fl,h1,h2⟩:=Option.map_eq_some_iff.1 hf;simp only[Prod.mk.injEq] at h2;exact⟨fl,by simpa using h1,h2⟩
  obtain⟨fl,VX,rfl,rfl⟩:=hf';split at hc
  .rename_i cs;simp only[VR] at hv;obtain⟨vs,rfl,h1,h2⟩:=hv;obtain⟨u,k1,k2⟩:=Gf (P:=P) (ht _ _ Rz) h1 h2 fl.offset hc;exact⟨u,by simp[Instr.field,bB hu,VX,asAgg,k1],k2⟩
  .cases hc
 .cases hc
def wF (av:List (Nat×TI))(t:TypeId)(x:CV)(i:Int):Option CV:=
 match x with
 | .str s=>match assoc av t with
  | some it=>match it.d with
   | .str=>if 0<=i then (s[i.toNat]?).map λ b=>.int .u8 b.toNat else none
   | _=>none
  | none=>none
 | .agg cs=>match assoc av t with
  | some it=>match it.d with
   | .arr n e=>match assoc av e with
    | some ie=>if 0<=i/\i<n then nu ie (cs.drop (i.toNat*ie.size)) else none
    | none=>none
   | _=>none
  | none=>none
 | _=>none
theorem nD {t:TypeId}{i:TI}(hT:cE P t i)(hd:i.d=.str):P.underlying t=some .string:=by
 obtain⟨d,h1,h2⟩:=hT.BF;rw[hd] at h2;cases d<;>simp only[vH] at h2<;>first | cases h2 | skip
 exact h1
theorem Ft {av:List (Nat×TI)}(ht:aF P av){F:Nat->Prop}{t:TypeId}{x c:CV}{v:Value}{i:Int}{k:IntKind}(hv:VR w F U x v)(hc:wF av t x i=some c) :
  ∃ u,(Instr.index t v (.int k i)).run P w=.ok u w/\VR w F U c u:=by
 unfold wF at hc;split at hc
 .rename_i s';split at hc
  .rename_i it SW;split at hc
   .rename_i hd;split at hc
    .rename_i h0;obtain⟨b,hb,rfl⟩:=Option.map_eq_some_iff.1 hc;simp only[VR] at hv;subst hv;exact⟨.int .u8 b.toNat,by simp[Instr.index,asIntOf,bB (nD (ht t it SW) hd),h0,hb],dY _ _⟩
    .cases hc
   .cases hc
  .cases hc
 .rename_i cs;split at hc
  .rename_i it SW;split at hc
   .rename_i n e hd;split at hc
    .rename_i ie Rz;split at hc
     .rename_i hb;simp only[VR] at hv;obtain⟨vs,rfl,h1,h2⟩:=hv;obtain⟨f,z,e1,e2,_⟩:=(ht e ie Rz).info;obtain⟨u,k1,k2⟩:=Gf (P:=P) (ht e ie Rz) h1 h2 _ hc;exact⟨u,by simp[Instr.index,asIntOf,bB (pP (ht t it SW) hd),hb,cT e1,e2,k1],k2⟩
     .cases hc
    .cases hc
   .cases hc
  .cases hc
 .cases hc
end
end Go.Can
/- Cuts, lengths, least and greatest, composites: what each yields, and that the model yields the same. No function of the program is mentioned here. -/
namespace Go.Can
open Go.RowKit List
section
variable {P:Program}{C:Cx}{U:Nat->Option OB}{s:St}{a:Act}{w:World}
theorem L9 {F:Nat->Prop}{A:Option Addr}{cap:Nat}(h:cap<=maxLen):VR w F U (.az [] 0) (.slice A 0 cap):=by simp[VR,cj];exact⟨A,cap,⟨rfl,rfl⟩,h⟩
def Oj (av:List (Nat×TI))(t:TypeId)(x:CV):Option CV:=
 match assoc av t with
 | none=>none
 | some it=>match it.d,x with
  | .str,.str s=>some (.int .i64 s.size)
  | .sl _,.az _ n=>some (.int .i64 n)
  | .sl _,.a7 _ _ n=>some (.int .i64 n)
  | .sl _,.aj=>some (.int .i64 0)
  | .arr n _,_=>some (.int .i64 n)
  | _,_=>none
theorem Oi {av:List (Nat×TI)}(ht:aF P av){F:Nat->Prop}{t ty:TypeId}{x c:CV}{v:Value}(hv:VR w F U x v)(hc:Oj av t x=some c) :
  ∃ u,(Builtin.len_ #[t] ty #[v]).run P w=.ok u w/\VR w F U c u:=by
 unfold Oj at hc;split at hc
 .cases hc
 rename_i it SW;have hT:=ht t it SW;split at hc
 .rename_i hd;cases hc;simp only[VR] at hv;subst hv;exact⟨_,by simp[Builtin.len_,bB (nD hT hd),goInt],dY _ _⟩
 .rename_i e cs n hd;cases hc;simp only[VR,cj] at hv;obtain⟨A,cap,rfl,_⟩:=hv;exact⟨_,by simp[Builtin.len_,bB (dK hT hd),goInt],dY _ _⟩
 .rename_i e o off n hd;cases hc;simp only[VR] at hv;obtain⟨B,_,hv⟩:=hv;split at hv
  .obtain⟨rfl,_,rfl⟩:=hv;exact⟨_,by simp[Builtin.len_,bB (dK hT hd),goInt],dY _ _⟩
  .obtain⟨cap,rfl,_⟩:=hv;exact⟨_,by simp[Builtin.len_,bB (dK hT hd),goInt],dY _ _⟩
 .rename_i e hd;cases hc;simp only[VR] at hv;subst hv;exact⟨_,by simp[Builtin.len_,bB (dK hT hd),goInt],dY _ _⟩
 .rename_i n e hd;cases hc;exact⟨_,by simp[Builtin.len_,bB (pP hT hd),goInt],dY _ _⟩
 .cases hc
def mI (f:Int->Int->Int)(k:IntKind):Int->List CV->Option CV
 | x,[]=>some (.int k x)
 | x,.int _ y::r=>mI f k (f x y) r
 | _,_=>none
def QK (x y:Int):Int:=if y<x then y else x
def imax (x y:Int):Int:=if y > x then y else x
theorem GZ {F:Nat->Prop}{k:IntKind}:∀ (cs:List CV) (x:Int) (vs:List Value) (c:CV),aZ w F U cs vs->mI QK k x cs=some c ->
  ∃ u,(vs.foldlM Builtin.min2 (.int k x)).run P w=.ok u w/\VR w F U c u
 | [],x,vs,c,hv,hc=>by
  simp only[aZ,mI] at hv hc;subst hv;cases hc;exact⟨_,by simp,dY _ _⟩
 | d::cs,x,vs,c,hv,hc=>by
  unfold mI at hc;split at hc
  .rename_i e;cases e
  .rename_i e;cases e;simp only[aZ] at hv;obtain⟨v,r,rfl,h1,h2⟩:=hv;simp only[VR] at h1;subst h1;obtain⟨u,k1,k2⟩:=GZ cs _ r c h2 hc;exact⟨u,by simp only[foldlM_cons,Builtin.min2,Sem.run_bind,Sem.run_pure,Result.andThen_ok];exact k1,k2⟩
  .cases hc
theorem G0 {F:Nat->Prop}{k:IntKind}:∀ (cs:List CV) (x:Int) (vs:List Value) (c:CV),aZ w F U cs vs->mI imax k x cs=some c ->
  ∃ u,(vs.foldlM Builtin.max2 (.int k x)).run P w=.ok u w/\VR w F U c u
 | [],x,vs,c,hv,hc=>by
  simp only[aZ,mI] at hv hc;subst hv;cases hc;exact⟨_,by simp,dY _ _⟩
 | d::cs,x,vs,c,hv,hc=>by
  unfold mI at hc;split at hc
  .rename_i e;cases e
  .rename_i e;cases e;simp only[aZ] at hv;obtain⟨v,r,rfl,h1,h2⟩:=hv;simp only[VR] at h1;subst h1;obtain⟨u,k1,k2⟩:=G0 cs _ r c h2 hc;exact⟨u,by simp only[foldlM_cons,Builtin.max2,Sem.run_bind,Sem.run_pure,Result.andThen_ok];exact k1,k2⟩
  .cases hc
def dO (av:List (Nat×TI))(t:TypeId):Option TD:=(assoc av t).map (·.d)
def dM (s:St)(x:Option Operand)(d:Nat):Option Nat:=
 match x with
 | none=>some d
 | some o=>match ev s o with
  | some (.int _ i)=>if 0<=i then some i.toNat else none
  | _=>none
def mG (av:List (Nat×TI))(s:St)(t:TypeId)(x:CV)(lo hi:Option Operand):Option CV:=
 match x with
 | .str b=>match dO av t with
  | some .str=>match dM s hi b.size,dM s lo 0 with
   | some h,some l=>if l<=h/\h<=b.size then some (.str (b.extract l h)) else none
   | _,_=>none
  | _=>none
 | .az cs n=>match dO av t with
  | some (.sl e)=>match assoc av e with
   | some ie=>match dM s hi n,dM s lo 0 with
    | some h,some l=>if l<=h/\h<=n then some (.az ((cs.drop (l*ie.size)).take ((h-l)*ie.size)) (h-l)) else none
    | _,_=>none
   | none=>none
  | _=>none
 | .aj=>match dO av t with
  | some (.sl e)=>match assoc av e with
   | some _=>match dM s hi 0,dM s lo 0 with
    | some h,some l=>if l=0/\h=0 then some .aj else none
    | _,_=>none
   | none=>none
  | _=>none
 | .a7 o off n=>match dO av t with
  | some (.sl e)=>match assoc av e,assoc s.heap o with
   | some ie,some ob=>match dM s hi n,dM s lo 0 with
    | some h,some l=>if l<=h/\h<=n/\ie.size=ob.sz then (if l=0 then some (.a7 o off h) else if h=l then some (.az [] 0) else some (.a7 o (off+l*ie.size) (h-l))) else none
    | _,_=>none
   | _,_=>none
  | _=>none
 | .ax o f=>match dO av t with
  | some (.arr n e)=>match assoc av e,assoc s.heap o with
   | some _,some ob=>match lo,hi with
    | none,none=>if 0<f/\0<n/\n<=1000000/\ob.sz=0/\f<=ob.cells.length then some (.a7 o f n) else none
    | _,_=>none
   | _,_=>none
  | _=>none
 | _=>none
theorem nw (h:aQ C U s a w){x:Option Operand}{d n:Nat}(hb:dM s x d=some n) :
  (x=none/\n=d)\/∃ o k i,x=some o/\a.eval o=.int k i/\0<=i/\n=i.toNat:=by
 unfold dM at hb;split at hb
 .cases hb;exact .inl ⟨rfl,rfl⟩
 .rename_i o;split at hb
  .rename_i k i he;split at hb
   .rename_i h0;cases hb;have:=bH h he;simp only[VR] at this;exact .inr ⟨o,k,i,rfl,this,h0,rfl⟩
   .cases hb
  .cases hb
theorem fJ (h:aQ C U s a w){lo hi:Option Operand}{len cap l n:Nat}{isSlice:Bool}(hh:dM s hi len=some n)(hl:dM s lo 0=some l)(h1:l<=n)(h2:n<=cap) :
  (Instr.sliceBounds isSlice len cap (lo.map a.eval) (hi.map a.eval) none).run P w=.ok (l,n,cap) w:=by
 have e1:∀ (k:IntKind) (i:Int) (y:Nat) (code:BoundsCode),0<=i->i.toNat<=y->(Instr.sliceBound (.int k i) y code).run P w=.ok i.toNat w:=λ k i y code h0 h1=>by
  simp only[Instr.sliceBound,asIntOf,pure_bind];rw[if_pos ⟨h0,by omega⟩];rfl
 rcases nw h hh with ⟨rfl,rfl⟩ | ⟨oh,kh,ih,rfl,eh,h0,rfl⟩<;>rcases nw h hl with ⟨rfl,rfl⟩ | ⟨ol,kl,il,rfl,el,h0',rfl⟩
 .simp[Instr.sliceBounds]
 .simp[Instr.sliceBounds,el,e1 _ _ _ _ h0' h1]
 .simp[Instr.sliceBounds,eh,e1 _ _ _ _ h0 h2]
 .simp[Instr.sliceBounds,eh,el,e1 _ _ _ _ h0 h2,e1 _ _ _ _ h0' h1]
theorem Iu {av:List (Nat×TI)}(ht:aF P av)(h:aQ C U s a w){t:TypeId}{x c:CV}{v:Value}{lo hi:Option Operand}(hv:VR w (FB C U s.heap) U x v)(hc:mG av s t x lo hi=some c) :
  ∃ u,(Instr.sliceAt t v (lo.map a.eval) (hi.map a.eval) none).run P w=.ok u w/\VR w (FB C U s.heap) U c u:=by
 unfold mG at hc;split at hc
 .rename_i b;split at hc
  .rename_i hd;obtain⟨it,SW,hd⟩:=Option.map_eq_some_iff.1 hd;split at hc
   .rename_i hh l Z3 Uo;split at hc
    .rename_i hb;cases hc;simp only[VR] at hv;subst hv;exact⟨_,by simp[Instr.sliceAt,Instr.slice,bB (nD (ht t it SW) hd),fJ h Z3 Uo hb.1 hb.2],BA _⟩
    .cases hc
   .cases hc
  .cases hc
 .rename_i cs n;split at hc
  .rename_i e hd;obtain⟨it,SW,hd⟩:=Option.map_eq_some_iff.1 hd;split at hc
   .rename_i ie Rz;split at hc
    .rename_i hh l Z3 Uo;split at hc
     .rename_i hb;cases hc;obtain⟨f,z,e1,e2,_⟩:=(ht e ie Rz).info;simp only[VR,cj] at hv;obtain⟨A,cap,rfl,h1,h2,h3⟩:=hv;refine⟨.slice (if cap=l then A else A.map (·.add (l*ie.size))) (hh-l) (cap-l),?_,?_⟩
      .simp[Instr.sliceAt,Instr.slice,bB (dK (ht t it SW) hd),fJ h Z3 Uo hb.1 (Nat.le_trans hb.2 h1),cT e1,e2]
      .simp only[VR,cj];refine⟨_,_,rfl,by omega,by omega,?_⟩;rcases h3 with ⟨h3,rfl⟩ | ⟨ad,rfl,hm⟩
       .exact .inl ⟨by omega,by simp⟩
       .by_cases VE:hh=l
        .exact .inl ⟨by omega,by simp[VE]⟩
        .refine .inr ⟨ad.add (l*ie.size),?_,fH.take _ _ _ (fH.drop _ _ _ hm)⟩;rw[if_neg yA];rfl
     .cases hc
    .cases hc
   .cases hc
  .cases hc
 .split at hc
  .rename_i e hd;obtain⟨it,SW,hd⟩:=Option.map_eq_some_iff.1 hd;split at hc
   .rename_i ie Rz;split at hc
    .rename_i hh l Z3 Uo;split at hc
     .rename_i hb;obtain⟨rfl,rfl⟩:=hb;cases hc;obtain⟨f,z,e1,e2,_⟩:=(ht e ie Rz).info;simp only[VR] at hv;subst hv;refine⟨.slice none 0 0,?_,by simp[VR]⟩;simp[Instr.sliceAt,Instr.slice,bB (dK (ht t it SW) hd),fJ h Z3 Uo (Nat.le_refl _) (Nat.le_refl _),cT e1]
     .cases hc
    .cases hc
   .cases hc
  .cases hc
 .rename_i o off n;split at hc
  .rename_i e hd;obtain⟨it,SW,hd⟩:=Option.map_eq_some_iff.1 hd;split at hc
   .rename_i ie ob Rz Uv;split at hc
    .rename_i hh l Z3 Uo;split at hc
     .rename_i hb;obtain⟨f,z,e1,e2,_⟩:=(ht e ie Rz).info;obtain⟨B,hB,SB,_⟩:=h.obj o ob Uv;simp only[VR] at hv;obtain⟨B',Uz,hv⟩:=hv;rw[hB] at Uz;cases Uz;split at hv
      .obtain⟨rfl,rfl,rfl⟩:=hv;have:hh=0/\l=0:=by omega
       obtain⟨rfl,rfl⟩:=this;cases hc;rename_i UE;refine⟨.slice none 0 0,?_,by simp only[VR];exact⟨B,hB,by rw[UE];simp⟩⟩;simp[Instr.sliceAt,Instr.slice,bB (dK (ht t it SW) hd),fJ h Z3 Uo (Nat.le_refl _) (Nat.le_refl _),cT e1]
      .rename_i b UE;obtain⟨cap,rfl,h1,h2,h3,h4⟩:=hv;refine⟨.slice (if cap=l then some ⟨b,off,none⟩ else some ((⟨b,off,none⟩:Addr).add (l*ie.size))) (hh-l) (cap-l),?_,?_⟩
       .simp[Instr.sliceAt,Instr.slice,bB (dK (ht t it SW) hd),fJ h Z3 Uo hb.1 (Nat.le_trans hb.2.1 h1),cT e1,e2]
       .split at hc
        .rename_i VE;subst VE;cases hc;simp only[VR];refine⟨B,hB,?_⟩;rw[UE];exact⟨cap,by simp[add_zero],by omega,h2,h3,h4⟩
        .split at hc
         .rename_i hl;cases hc;rw[hl,Nat.sub_self];exact L9 yA
         .rename_i VE hl;cases hc;simp only[VR];refine⟨B,hB,?_⟩;rw[UE];have hm:(cap-l)*B.sz+l*B.sz=cap*B.sz:=by rw[<- Nat.add_mul];congr 1;omega
          rw[if_neg yA,add_lit];have hs:ie.size=B.sz:=by omega
          refine⟨cap-l,rfl,by omega,by omega,by rw[hs];omega,λ h0=>?_⟩;have hz:l*B.sz=0:=by rw[hs] at h0;omega
          have ho:off=0:=by omega
          have:=h4 ho;omega
     .cases hc
    .cases hc
   .cases hc
  .cases hc
 .rename_i o f;split at hc
  .rename_i n e hd;obtain⟨it,SW,hd⟩:=Option.map_eq_some_iff.1 hd;split at hc
   .rename_i ie ob Rz Uv;split at hc
    .split at hc
     .rename_i hb;cases hc;have g2:=pP (ht t it SW) hd;obtain⟨fi,z,g3,_⟩:=(ht e ie Rz).info;obtain⟨B,hB,SB,_,_,h5⟩:=h.obj o ob Uv;simp only[VR] at hv;obtain⟨B',b,Uz,WV,rfl⟩:=hv;rw[hB] at Uz;cases Uz;obtain⟨cur,n1,n2,_,_,n5,_⟩:=h5 b WV;refine⟨.slice (some ⟨b,f,none⟩) n n,?_,?_⟩
      .have XB:(Instr.sliceBounds false n n none none none).run P w=.ok (0,n,n) w:=by simp[Instr.sliceBounds]
       have SL:¬ n=0:=by omega
       simp[Instr.sliceAt,bB g2,Instr.sureAddr,XB,cT g3,SL,add_zero]
      .simp only[VR];refine⟨B,hB,?_⟩;rw[WV];exact⟨n,rfl,Nat.le_refl _,by simp only[maxLen];omega,by rw[SB,hb.2.2.2.1];omega,λ h0=>by omega⟩
     .cases hc
    .cases hc
   .cases hc
  .cases hc
 .cases hc
def gX (cells:List CV)(off:Nat)(cs:List CV):List CV:=cells.take off++cs++cells.drop (off+cs.length)
def oG (place:Nat->Option (Nat×Nat))(cells:List CV):List (Nat×CV)->Option (List CV)
 | []=>some cells
 | (i,c)::rest=>
  match place i with
  | none=>none
  | some (off,size)=>if c.cells.length≠size || off+c.cells.length > cells.length then none else oG place (gX cells off c.cells) rest
theorem zP {α:Type}:∀ (xs:List α) (j off:Nat) (arr:Array α),(xs.zipIdx j).foldl (λ cs (c,k)=>cs.setIfInBounds (off+k) c) arr =
  (if off+j+xs.length<=arr.size then (arr.toList.take (off+j)++xs++arr.toList.drop (off+j+xs.length)).toArray else (xs.zipIdx j).foldl (λ cs (c,k)=>cs.setIfInBounds (off+k) c) arr)
 | [],j,off,arr=>by simp
 | x::xs,j,off,arr=>by
  split
  .rename_i hl;simp only[zipIdx_cons,foldl_cons];rw[zP xs (j+1) off];have hs:off+(j+1)+xs.length<=(arr.setIfInBounds (off+j) x).size:=by simp at hl |-;omega
   rw[if_pos hs];have P1:off+j<arr.toList.length:=by simp at hl |-;omega
   congr 1;apply ext_getElem?;intro n;simp only[Array.toList_setIfInBounds,append_assoc];simp only[getElem?_append,getElem?_take,getElem?_drop,getElem?_set,length_take,length_set,length_cons,cons_append,getElem?_cons];have W5:off+j+(xs.length+1)<=arr.toList.length:=by simpa using hl
   simp only[Nat.min_eq_left (show off+(j+1)<=arr.toList.length by omega),Nat.min_eq_left (show off+j<=arr.toList.length by omega)];by_cases h1:n<off+j
   .simp[show n<off+(j+1) by omega,h1,show off+j≠n by omega]
   .by_cases h2:n=off+j
    .subst h2;have hlt':off+j<arr.size:=by simpa using P1
     simp[show off+j<off+(j+1) by omega,hlt']
    .have h3:¬ n<off+(j+1):=by omega
     simp only[h1,h3,if_false,show n-(off+j)≠0 by omega];have e1:n-(off+j)-1=n-(off+(j+1)):=by omega
     rw[e1];split
     .rfl
     .have e2:off+(j+1)+xs.length+(n-(off+(j+1))-xs.length)=off+j+(xs.length+1)+(n-(off+(j+1))-xs.length):=by omega
      rw[e2,if_neg yA]
  .rfl
theorem wC {F:Nat->Prop}{cells:List CV}{vs:List Value}(h:aZ w F U cells vs)(off:Nat){cs:List CV}{us:List Value}(hc:aZ w F U cs us) :
  aZ w F U (gX cells off cs) (vs.take off++us++vs.drop (off+us.length)):=by
 unfold gX;rw[<- aZ.length _ _ hc];exact aZ.append _ _ _ _ (aZ.append _ _ _ _ (aZ.take _ _ _ h) hc) (aZ.drop _ _ _ h)
theorem sW {cells cs:List CV}(off:Nat)(h1:cells.all one=true)(h2:cs.all one=true):(gX cells off cs).all one=true:=by
 unfold gX;rw[all_eq_true] at h1 h2 |-;intro x hx;rcases mem_append.1 hx with hx | hx
 .rcases mem_append.1 hx with hx | hx
  .exact h1 x (mem_of_mem_take hx)
  .exact h2 x hx
 .exact h1 x (mem_of_mem_drop hx)
def eI:CV->Bool
 | .cF _=>true
 | .iter _ _ _=>true
 | _=>false
def jd (s:St):List (Nat×Operand)->Option (List (Nat×CV))
 | []=>some []
 | (i,x)::r=>match ev s x,jd s r with
  | some c,some cs=>if eI c then none else some ((i,c)::cs)
  | _,_=>none
theorem pF {F:Nat->Prop}(place:Nat->Option (Nat×Nat)):∀ (ps:List (Nat×CV)) (qs:List (Nat×Value)) (cells out:List CV) (vs:Array Value),ps.length=qs.length ->
  (∀ (j:Nat) i c,ps[j]? = some (i,c)->eI c=false/\∃ v,qs[j]? = some (i,v)/\VR w F U c v)->aZ w F U cells vs.toList->cells.all one=true->oG place cells ps=some out ->
  ∃ us,Instr.fill place vs qs=some us/\aZ w F U out us.toList/\out.all one=true
 | [],[],cells,out,vs,_,_,h1,h2,hc=>by simp only[oG] at hc;cases hc;exact⟨vs,rfl,h1,h2⟩
 | [],_::_,_,_,_,hl,_,_,_,_=>by simp at hl
 | _::_,[],_,_,_,hl,_,_,_,_=>by simp at hl
 | (i,c)::ps,(i',v)::qs,cells,out,vs,hl,hq,h1,h2,hc=>by
  obtain⟨hn,v',Vq,hr⟩:=hq 0 i c rfl;simp at Vq;obtain⟨rfl,rfl⟩:=Vq;simp only[oG] at hc;split at hc
  .cases hc
  rename_i off size hp;split at hc
  .cases hc
  rename_i SB;simp only[ne_eq,gt_iff_lt,Bool.or_eq_true,decide_eq_true_eq,not_or,Decidable.not_not,Nat.not_lt] at SB;have hf:=VR.flat c v (λ cs e=>by subst e;simp[eI] at hn) (λ k s p e=>by subst e;simp[eI] at hn) hr;have hlen:v.cells.size=c.cells.length:=by simpa using aZ.length _ _ hf.1
  have hlc:vs.size=cells.length:=by simpa using aZ.length _ _ h1
  obtain⟨us,k1,k2⟩:=pF place ps qs (gX cells off c.cells) out (vs.toList.take off++v.cells.toList++vs.toList.drop (off+v.cells.toList.length)).toArray yBz
   (λ j i c hj=>by simpa using hq (j+1) i c (by simpa using hj)) (by simpa using wC h1 off hf.1) (sW off h2 hf.2) hc
  refine⟨us,?_,k2⟩;simp only[Instr.fill,hp];rw[if_neg Tv];have:=zP v.cells.toList 0 off vs;rw[if_pos Tv] at this;have e:v.cells.zipIdx.foldl (λ cs (x:Value×Nat)=>cs.setIfInBounds (off+x.2) x.1) vs=(v.cells.toList.zipIdx 0).foldl (λ cs (x:Value×Nat)=>cs.setIfInBounds (off+x.2) x.1) vs:=by
   rw[<- Array.foldl_toList,Array.toList_zipIdx]
  rw[e,this]
  simpa using k1
theorem nq (h:aQ C U s a w):∀ (xs:List (Nat×Operand)) (ps:List (Nat×CV)),jd s xs=some ps->ps.length=xs.length/\
  ∀ (j:Nat) i c,ps[j]? = some (i,c)->eI c=false/\∃ v,(xs.map λ (p:Nat×Operand)=>(p.1,a.eval p.2))[j]? = some (i,v)/\VR w (FB C U s.heap) U c v
 | [],ps,hp=>by simp only[jd] at hp;cases hp;exact⟨rfl,by simp⟩
 | (i,x)::r,ps,hp=>by
  simp only[jd] at hp;split at hp
  .rename_i c cs h1 h2;split at hp
   .cases hp
   .rename_i hn;cases hp;obtain⟨k1,k2⟩:=nq h r cs h2;refine⟨by simp[k1],λ j i' c' hj=>?_⟩
    cases j with
    | zero=>simp at hj;obtain⟨rfl,rfl⟩:=hj;exact⟨by simpa using hn,a.eval x,rfl,bH h h1⟩
    | succ j=>simpa using k2 j i' c' (by simpa using hj)
  .cases hp
def qe (av:List (Nat×TI)):List (Nat×TypeId)->Option (List (Nat×Nat))
 | []=>some []
 | (off,t)::r=>match assoc av t,qe av r with
  | some i,some ps=>some ((off,i.size)::ps)
  | _,_=>none
def uW (av:List (Nat×TI))(s:St)(t:TypeId)(parts:List (Nat×Operand)):Option CV:=
 match assoc av t with
 | none=>none
 | some it=>match it.d with
  | .bp fs=>match qe av fs,jd s parts with
   | some ps,some cs=>(oG (ps[·]?) it.zero cs).map CV.agg
   | _,_=>none
  | .arr _ e=>match assoc av e,jd s parts with
   | some ie,some cs=>(oG (λ i=>some (i*ie.size,ie.size)) it.zero cs).map CV.agg
   | _,_=>none
  | _=>none
theorem iV {t:TypeId}{f:TypeInfo}{z:Value}(h:P.info? t=some f)(hz:f.zero=some z)(w:World):(zeroValue t).run P w=.ok z w:=by
 simp[zeroValue,xe h,hz]
theorem oZ {av:List (Nat×TI)}(ht:aF P av):∀ (fs:List Field) (ps:List (Nat×Nat)),qe av (fs.map λ f=>(f.offset,f.type))=some ps ->
  (fs.mapM λ f=>do pure (f.offset,<- sizeOf f.type):Sem (List (Nat×Nat))).run P w=.ok ps w
 | [],ps,h=>by simp only[map_nil,qe] at h;cases h;simp
 | f::fs,ps,h=>by
  simp only[map_cons,qe] at h;split at h
  .rename_i i Ui h1 h2;cases h;obtain⟨g,z,e1,e2,_⟩:=(ht _ i h1).info;have:=oZ ht fs Ui h2;simp only[mapM_cons,Sem.run_bind,cT e1,e2,this,Result.andThen_ok,Sem.run_pure]
  .cases h
theorem ID {av:List (Nat×TI)}(ht:aF P av)(h:aQ C U s a w){t:TypeId}{parts:List (Nat×Operand)}{c:CV}(hc:uW av s t parts=some c) :
  ∃ u,(Instr.build t (parts.map λ (p:Nat×Operand)=>(p.1,a.eval p.2)).toArray).run P w=.ok u w/\VR w (FB C U s.heap) U c u:=by
 unfold uW at hc;split at hc
 .cases hc
 rename_i it SW;have hT:=ht t it SW;obtain⟨f,z,e1,_,_,e4,e5⟩:=hT.info;obtain⟨k1,k2⟩:=dr (w:=w) (F:=FB C U s.heap) _ _ e5;split at hc
 .rename_i fs hd;obtain⟨fields,hu,rfl⟩:=uh hT hd;split at hc
  .rename_i ps cs Uk S8;obtain⟨out,hf,rfl⟩:=Option.map_eq_some_iff.1 hc;obtain⟨l1,l2⟩:=nq h _ _ S8;obtain⟨us,m1,m2,m3⟩:=pF (ps[·]?) cs (parts.map λ p=>(p.1,a.eval p.2)) it.zero out z.cells (by simpa using l1) l2 (aZ.cJ _ _ k1) k2 hf;refine⟨.agg us,?_,by simp only[VR];exact⟨us.toList,by simp,m2,m3⟩⟩;have hm:=oZ (w:=w) ht fields.toList ps Uk;have hm':(fields.mapM λ f=>do pure (f.offset,<- sizeOf f.type):Sem (Array (Nat×Nat))).run P w=.ok ps.toArray w:=by
    rw[Array.mapM_eq_mapM_toList];simp only[Sem.run_map,hm,Result.andThen_ok]
   simp only[Instr.build,Sem.run_bind,iV e1 e4,bB hu,Result.andThen_ok,hm',getElem?_toArray,m1];rfl
  .cases hc
 .rename_i n e hd;split at hc
  .rename_i ie cs Rz S8;obtain⟨out,hf,rfl⟩:=Option.map_eq_some_iff.1 hc;obtain⟨l1,l2⟩:=nq h _ _ S8;obtain⟨g,zz,g1,g2,_⟩:=(ht e ie Rz).info;obtain⟨us,m1,m2,m3⟩:=pF _ cs (parts.map λ p=>(p.1,a.eval p.2)) it.zero out z.cells (by simpa using l1) l2 (aZ.cJ _ _ k1) k2 hf;refine⟨.agg us,?_,by simp only[VR];exact⟨us.toList,by simp,m2,m3⟩⟩;simp only[Instr.build,Sem.run_bind,iV e1 e4,bB (pP hT hd),Result.andThen_ok,cT g1,g2,m1];rfl
  .cases hc
 .cases hc
end
end Go.Can
