/- A reading does not hang on objects that it does not name. No -/
import Derived.Test.YtnecpnjdonibmaaGreatZ08
namespace Go.Can
open Go.RowKit
section
variable {ak:List (Nat×TI)}{s s':St}
def names (o:Nat):CV→Bool
 | .bl p _ _=>p == o
 | .ax p _=>p == o
 | _=>false
theorem CJ {c:CV}{cs:List CV}(h:fJ s c=some cs)(hh:∀ o ob,names o c=true→assoc s.heap o=some ob→assoc s'.heap o=some ob):fJ s' c=some cs:=by
 cases c<;>simp only[fJ] at h ⊢<;>first | exact h | skip
 rename_i o off
 cases ho:assoc s.heap o with
 | none=>rw[ho] at h;cases h
 | some y=>rw[hh o y (by simp[names]) ho];rw[ho] at h;exact h
theorem Bz {t:TypeId}{c r:CV}{lo hi:Option Operand}(h1:∀ y,lo=some y→ev s y=ev s' y)(h2:∀ y,hi=some y→ev s y=ev s' y)(h:lz ak s t c lo hi=some r)(hh:∀ o ob,names o c=true→assoc s.heap o=some ob→assoc s'.heap o=some ob):lz ak s' t c lo hi=some r:=by
 cases c<;>simp only[lz,jQ h1,jQ h2] at h ⊢<;>first | exact h | skip
 case bl o off n=>
  cases ho:assoc s.heap o with
  | some y=>rw[hh o y (by simp[names]) ho];rw[ho] at h;exact h
  | none=>
   rw[ho] at h;exfalso;split at h
   ·split at h
    ·rename_i e;cases e
    ·cases h
   ·cases h
 case ax o f=>
  cases ho:assoc s.heap o with
  | some y=>rw[hh o y (by simp[names]) ho];rw[ho] at h;exact h
  | none=>
   rw[ho] at h;exfalso;split at h
   ·split at h
    ·rename_i e;cases e
    ·cases h
   ·cases h
theorem zD (H:List (Nat×Ob))(x:Operand):ev { s with heap:=H } x=ev s x:=by cases x<;>rfl
theorem vN (H:List (Nat×Ob))(xs:List Operand):z8 { s with heap:=H } xs=z8 s xs:=iM xs fun x _=>zD H x
theorem BD (H:List (Nat×Ob))(xs:List (Nat×Operand)):gL { s with heap:=H } xs=gL s xs:=jN xs fun x _=>zD H x.2
theorem xe (H:List (Nat×Ob))(b:Builtin)(xs:List Operand)(ts:List TypeId):ig ak { s with heap:=H } b xs ts=ig ak s b xs ts:=by
 unfold ig;split
 ·split
  ·rw[zD]
  ·rfl
 ·rw[vN]
 ·rw[vN]
 ·rfl
theorem sP (op:Op)(h:∀ x∈op.operands,ev s x=ev s' x)(n1:∀ t x,op≠.load t x)(n2:∀ t x lo hi mx,op≠.slice t x lo hi mx):cY ak s op=cY ak s' op:=by
 have k:=gJ (ak:=ak) (s:=s) (s':={ s' with heap:=s.heap }) rfl op (fun x hx=>by rw[h x hx];cases x<;>rfl);rw[k];cases op<;>first | rfl | skip
 all_goals first | exact absurd rfl (n1 _ _) | exact absurd rfl (n2 _ _ _ _ _) | skip
 case makeFunc f first cap=>
  cases f<;>first | rfl | skip
  simp only[cY,vN]
 all_goals
  simp only[cY,sC,BD,xe]
theorem xF {op:Op}(h:∀ x∈op.operands,ev s x=ev s' x){c:CV}(hq:cY ak s op=some c)(hh:∀ x∈op.operands,∀ v,ev s x=some v→∀ o ob,names o v=true→assoc s.heap o=some ob→assoc s'.heap o=some ob):cY ak s' op=some c:=by
 cases op
 case load t x=>
  have hx:=h x Q5;have hk:=hh x Q5;simp only[cY] at hq ⊢;rw[← hx]
  cases hv:ev s x with
  | none=>rw[hv] at hq;simp at hq
  | some d=>
   rw[hv] at hq
   cases ht:assoc ak t with
   | none=>rw[ht] at hq;simp at hq
   | some ii=>
    rw[ht] at hq;simp only at hq ⊢
    cases hy:fJ s d with
    | none=>rw[hy] at hq;cases hq
    | some cs=>rw[CJ hy (hk d hv)];rw[hy] at hq;exact hq
 case slice t x lo hi mx=>
  cases mx with
  | some _=>exact hq
  | none=>
   have hx:=h x Q5;have hk:=hh x Q5;have h1:∀ y,lo=some y→ev s y=ev s' y:=fun y e=>h y (by subst e;simp[Op.operands]);have h2:∀ y,hi=some y→ev s y=ev s' y:=fun y e=>h y (by subst e;simp[Op.operands]);simp only[cY] at hq ⊢;rw[← hx]
   cases hv:ev s x with
   | none=>rw[hv] at hq;simp at hq
   | some d=>rw[hv] at hq;exact Bz h1 h2 hq (hk d hv)
 all_goals exact (sP _ h (fun _ _ e=>by cases e) (fun _ _ _ _ _ e=>by cases e)).symm.trans hq
end
end Go.Can
/- A region that draws, its readings hoisted past new objects and past stores into other objects. No function of the program is mentioned here. -/
namespace Go.Can
open Go.RowKit
section
variable {P:Program}{C:Cx}{s:St}{a:Act}{w:World}{ops:Array Oper}{ak:List (Nat×TI)}{nt:Nat}
def vQ (ak:List (Nat×TI))(s:St)(t:TypeId)(x:Operand)(v:Operand):Option (List (Nat×Ob)):=
 match ev s x,ev s v,assoc ak t with
 | some (.ax o off),some c,some i=>
  match assoc s.heap o with
  | none=>none
  | some ob=>if dP c then none else if c.cells.length=i.size∧off+c.cells.length≤ob.cells.length then some (rF s.heap o { ob with cells:=fD ob.cells off c.cells }) else none
 | _,_,_=>none
theorem By {t:TypeId}{x v:Operand}{H:List (Nat×Ob)}(h:vQ ak s t x v=some H):n8 ak s t x v=some { s with heap:=H }:=by
 unfold vQ at h;unfold n8;split at h
 ·rename_i o off c i e1 e2 e3;rw[e1,e2,e3];simp only
  cases ho:assoc s.heap o with
  | none=>rw[ho] at h;cases h
  | some ob=>
   rw[ho] at h;simp only at h ⊢;split at h
   ·cases h
   ·rename_i n1;rw[if_neg n1];split at h
    ·rename_i n2;rw[if_pos n2];cases h;rfl
    ·cases h
 ·cases h
def ni:Op→Bool
 | .move _=>true
 | .assign _=>true
 | .load _ _=>true
 | .fieldAddr _ _ _=>true
 | .indexAddr _ _ _=>true
 | .slice _ _ _ _ _=>true
 | .binOp _ _ _ _ _=>true
 | .unOp _ _ _=>true
 | .nilCheck _=>true
 | .call c=>match c.callee with
  | .builtin .len=>true
  | .builtin .min=>true
  | .builtin .max=>true
  | _=>false
 | _=>false
def sy (ak:List (Nat×TI))(s:St)(op:Op):Option (List (Nat×Ob)×Nat×Option CV):=
 match op with
 | .store t x v=>(vQ ak s t x v).map fun H=>(H,s.nx,none)
 | .box e x=>(ov ak s (.box e x)).map fun r=>((s.nx,r.1)::s.heap,s.nx+1,some (r.2 s.nx))
 | .buildSlice t n parts=>(ov ak s (.buildSlice t n parts)).map fun r=>((s.nx,r.1)::s.heap,s.nx+1,some (r.2 s.nx))
 | op=>if ni op then (cY ak s op).map fun c=>(s.heap,s.nx,some c) else none
def dW (ak:List (Nat×TI))(nt:Nat)(s:St)(o:Oper):Option St:=
 if a6 nt o.dst=true∧o.guard=none then (sy ak s o.op).map fun r=>eY ⟨s.env,r.1,r.2.1⟩ o.dst r.2.2 else none
theorem Aq {o:Oper}{s':St}(h:dW ak nt s o=some s'):fk ak nt ops s o=some s':=by
 by_cases hn:x5 o.op=true
 ·refine As ?_;unfold dW at h;unfold j4;split at h
  ·rename_i hc;rw[if_pos hc,if_pos hn];cases O8:o.op<;>rw[O8] at h hn<;>simp only[x5,Bool.false_eq_true] at hn
   all_goals
    simp only[sy] at h;rw[Option.map_map] at h;exact h
  ·cases h
 unfold dW at h;split at h
 ·rename_i hc;obtain⟨h1,h2⟩:=hc;unfold fk;rw[if_pos h1,h2];simp only;unfold kV;cases O8:o.op<;>rw[O8] at h hn<;>simp only[sy,ni,Bool.false_eq_true,if_false,if_true] at h<;>first | cases h | skip
  case move=>rw[Option.map_map] at h;exact h
  case assign=>rw[Option.map_map] at h;exact h
  case load=>rw[Option.map_map] at h;exact h
  case fieldAddr=>rw[Option.map_map] at h;exact h
  case indexAddr=>rw[Option.map_map] at h;exact h
  case slice=>rw[Option.map_map] at h;exact h
  case binOp=>rw[Option.map_map] at h;exact h
  case unOp=>rw[Option.map_map] at h;exact h
  case nilCheck=>rw[Option.map_map] at h;exact h
  case box=>exact absurd rfl hn
  case buildSlice=>exact absurd rfl hn
  case store t x v=>
   cases hs:vQ ak s t x v with
   | none=>rw[hs] at h;cases h
   | some H=>
    rw[hs] at h;cases h;simp only[By hs];rfl
  case call c=>
   obtain⟨cal,args,ats⟩:=c;cases cal
   case builtin b=>
    cases b<;>simp only[Bool.false_eq_true,if_false,if_true] at h<;>first | cases h | skip
    all_goals
     simp only[cY] at h;rw[Option.map_map] at h;exact h
   all_goals
    simp only[Bool.false_eq_true,if_false] at h;cases h
 ·cases h
theorem C2 {s':St}{t:TypeId}{x v:Operand}(hh:s.heap=s'.heap)(h1:ev s x=ev s' x)(h2:ev s v=ev s' v):vQ ak s t x v=vQ ak s' t x v:=by
 unfold vQ;rw[h1,h2,hh]
theorem yb {s':St}(hh:s.heap=s'.heap)(hn:s.nx=s'.nx)(op:Op)(h:∀ x∈op.operands,ev s x=ev s' x):sy ak s op=sy ak s' op:=by
 have hq:=gJ (ak:=ak) hh op h;have ha:=mG (ak:=ak) op h;cases op<;>simp only[sy]
 case store t x v=>rw[C2 hh (h x Q5) (h v Q5),hn]
 all_goals first | rfl | rw[hq,hh,hn] | rw[ha,hh,hn]
theorem E9 {s s' r:St}(h:mX s s'){o:Oper}(hs:dW ak nt s o=some r):∃ r',dW ak nt s' o=some r'∧mX r r':=by
 unfold dW at hs ⊢;split at hs
 ·rename_i hc;rw[if_pos hc,← yb h.2.1.symm h.2.2.symm o.op fun x _=>(h.ev x).symm]
  cases he:sy ak s o.op with
  | none=>rw[he] at hs;cases hs
  | some q=>
   rw[he] at hs;cases hs;refine⟨_,rfl,fun t=>?_,?_,?_⟩
   ·rw[cr,cr];unfold ej;split
    ·rfl
    ·exact h.1 t
   ·simp only[dg]
   ·simp only[dg]
 ·cases hs
theorem KU {s:St}{d:Option Tmp}{r:Option CV}{H:List (Nat×Ob)}{n:Nat}{o:Oper}(h:∀ t,d=some t→t∉o.looksAt ops):∀ x∈o.op.operands,ev (eY ⟨s.env,H,n⟩ d r) x=ev s x:=by
 intro x hx
 cases x with
 | tmp t=>
  have ht:t∈o.looksAt ops:=List.mem_append_left _ (List.mem_filterMap.2 ⟨.tmp t,by simpa using hx,rfl⟩);show assoc (eY ⟨s.env,H,n⟩ d r).env t=assoc s.env t;rw[cr];unfold ej;rw[if_neg fun e=>h t e ht]
 | _=>rfl
def turns (s:St)(op:Op)(o:Nat):Prop:=∃ t x v off,op=.store t x v∧ev s x=some (.ax o off)
theorem IY {op:Op}{r:List (Nat×Ob)×Nat×Option CV}(h:sy ak s op=some r){o:Nat}(O1:o<s.nx)(ht:¬ turns s op o):assoc r.1 o=assoc s.heap o:=by
 cases op<;>simp only[sy] at h
 case store t x v=>
  cases hs:vQ ak s t x v with
  | none=>rw[hs] at h;cases h
  | some H=>
   rw[hs] at h;cases h;unfold vQ at hs;split at hs
   ·rename_i p off c i e1 e2 e3;split at hs
    ·cases hs
    ·split at hs
     ·cases hs
     ·split at hs
      ·cases hs;simp only;rw[eP];rw[if_neg fun e=>ht ⟨t,x,v,off,rfl,by rw[e1,e]⟩]
      ·cases hs
   ·cases hs
 case box e x=>
  cases ha:ov ak s (.box e x) with
  | none=>rw[ha] at h;cases h
  | some q=>rw[ha] at h;cases h;simp only[assoc];rw[if_neg yA]
 case buildSlice t n parts=>
  cases ha:ov ak s (.buildSlice t n parts) with
  | none=>rw[ha] at h;cases h
  | some q=>rw[ha] at h;cases h;simp only[assoc];rw[if_neg yA]
 all_goals
  split at h
  ·rename_i hr
   first
    | (simp only[ni,Bool.false_eq_true] at hr;done)
    | (obtain⟨c,_,e⟩:=Option.map_eq_some_iff.1 h;subst e;rfl)
  ·cases h
theorem No {op:Op}{r:List (Nat×Ob)×Nat×Option CV}(h:sy ak s op=some r):s.nx≤r.2.1:=by
 cases op<;>simp only[sy] at h
 all_goals first
  | (obtain⟨c,_,e⟩:=Option.map_eq_some_iff.1 h;subst e;simp)
  | (split at h
     ·obtain⟨c,_,e⟩:=Option.map_eq_some_iff.1 h;subst e;simp
     ·cases h)
def Clear (s:St)(oi oj:Oper):Prop:=∀ x∈oi.op.operands,∀ v,ev s x=some v→∀ o,names o v=true→o<s.nx∧¬ turns s oj.op o
theorem Cf {oi oj:Oper}{c:CV}{s1:St}(PJ:oi.apart ops oj=true)(O7:Clear s oi oj)(hq:cY ak s oi.op=some c)(hs:dW ak nt (s.put oi.dst c) oj=some s1) :
  ∃ s2,dW ak nt s oj=some s2∧cY ak s2 oi.op=some c∧mX s1 (s2.put oi.dst c)∧(∀ x∈oi.op.operands,ev s2 x=ev s x)∧(∀ t,oj.dst≠some t→assoc s2.env t=assoc s.env t)∧s.nx≤s2.nx:=by
 obtain⟨h1,h2,h3⟩:=Oper.apart_spec PJ;unfold dW at hs ⊢;split at hs
 ·rename_i hc;rw[if_pos hc];rw[yb (gz s _ _).1 (gz s _ _).2 oj.op (vO h1)] at hs
  cases he:sy ak s oj.op with
  | none=>rw[he] at hs;cases hs
  | some r=>
   rw[he] at hs;cases hs;have Sb:=KU (s:=s) (d:=oj.dst) (r:=r.2.2) (H:=r.1) (n:=r.2.1) h3;refine⟨_,rfl,?_,⟨fun t=>?_,?_,?_⟩,Sb,fun t ht=>?_,?_⟩
   ·refine xF (fun x hx=>(Sb x hx).symm) hq fun x hx v hv o ob hn ho=>?_;obtain⟨k1,k2⟩:=O7 x hx v hv o hn;rw[dg.1];rw[IY he k1 k2];exact ho
   ·show assoc ((eY _ oi.dst (some c)).env) t=_;rw[cr,cr];unfold ej;rw[cr];show (if oi.dst=some t then some c else ej (assoc s.env) oj.dst r.2.2 t)=if oj.dst=some t then r.2.2 else assoc (eY s oi.dst (some c)).env t
    rw[cr];unfold ej;by_cases e:oi.dst=some t
    ·rw[if_pos e,if_neg (h2 t e),if_pos e]
    ·rw[if_neg e,if_neg e]
   ·rw[(gz _ _ _).1,dg.1,dg.1]
   ·rw[(gz _ _ _).2,dg.2,dg.2]
   ·rw[cr];unfold ej;rw[if_neg ht]
   ·rw[dg.2];exact No he
 ·cases hs
end
end Go.Can
/- The exploration of a draw with readings hoisted past new objects and stores elsewhere. No function of the program is mentioned here. -/
namespace Go.Can
open Go.RowKit
section
variable {P:Program}{C:Cx}{s:St}{a:Act}{w:World}{ops:Array Oper}{ak:List (Nat×TI)}{nt:Nat}
def Safe (ops:Array Oper)(listed:Array Bool)(s:St)(oi oj:Oper):Prop:=
 (∀ t x v,oj.op≠.store t x v)∨∃ t y v o off,oj.op=.store t y v∧ev s y=some (.ax o off)∧(∀ x∈oi.op.operands,∀ u,ev s x=some u→names o u=false)∧∀ j TK,ops[j]? = some TK→listed.getD j true=false→∀ tt,y=.tmp tt→TK.dst≠some tt
def BU (ops:Array Oper)(i:Nat)(oi:Oper)(listed:Array Bool)(s:St):Prop:=
 (∀ x∈oi.op.operands,∀ u,ev s x=some u→∀ o,names o u=true→o<s.nx)∧
  ∀ j oj,ops[j]? = some oj→j≠i→listed.getD j true=false→(∀ e∈oj.after,Region.binds .any e=true→e.on≠i)→oi.apart ops oj=true∧Safe ops listed s oi oj
theorem BU.clear {i:Nat}{oi oj:Oper}{listed:Array Bool}(h:BU ops i oi listed s)(hs:Safe ops listed s oi oj):Clear s oi oj:=by
 intro x hx v hv o hn;refine⟨h.1 x hx v hv o hn,?_⟩;rintro⟨t,y,u,off,e1,e2⟩;rcases hs with hs | ⟨t',y',u',o',off',k1,k2,k3,_⟩
 ·exact hs t y u e1
 ·rw[e1] at k1;cases k1;rw[e2] at k2;cases k2;have:=k3 x hx v hv;rw[hn] at this;cases this
theorem mq {i j:Nat}{listed:Array Bool}(h:(listed.setIfInBounds j true).getD i true=false):listed.getD i true=false:=by
 by_cases e:j=i
 ·subst e;rcases Nat.lt_or_ge j listed.size with hl | hl
  ·simp[hl] at h
  ·simp at h
 ·rwa [getD_set_ne true e] at h
theorem BU.next {i j:Nat}{oi oj:Oper}{listed:Array Bool}{s2:St}(h:BU ops i oi listed s)(hj:ops[j]? = some oj)(hl:listed.getD j true=false)(h1:∀ x∈oi.op.operands,ev s2 x=ev s x)(h2:∀ t,oj.dst≠some t→assoc s2.env t=assoc s.env t)(h3:s.nx≤s2.nx):BU ops i oi (listed.setIfInBounds j true) s2:=by
 refine⟨fun x hx u hu o hn=>?_,fun m om hm Pf P3 PW=>?_⟩
 ·rw[h1 x hx] at hu;have:=h.1 x hx u hu o hn;omega
 ·obtain⟨k1,k2⟩:=h.2 m om hm Pf (mq P3) PW;refine⟨k1,?_⟩;rcases k2 with k2 | ⟨t,y,v,o,off,e1,e2,e3,e4⟩
  ·exact .inl k2
  ·refine .inr ⟨t,y,v,o,off,e1,?_,fun x hx u hu=>e3 x hx u (by rw[← h1 x hx];exact hu),fun m' om' UQ RS=>e4 m' om' UQ (mq RS)⟩;rw[← e2]
   cases y with
   | tmp tt=>exact h2 tt (e4 j oj hj hl tt rfl)
   | _=>rfl
theorem Hf {o:Oper}{s':St}(hr:ni o.op=true)(h:dW ak nt s o=some s'):∃ c,cY ak s o.op=some c∧s'=s.put o.dst c:=by
 unfold dW at h;split at h
 ·obtain⟨r,e1,e2⟩:=Option.map_eq_some_iff.1 h;have:sy ak s o.op=(cY ak s o.op).map fun c=>(s.heap,s.nx,some c):=by
   cases O8:o.op<;>rw[O8] at hr<;>simp only[sy]
   all_goals first
    | (simp only[ni,Bool.false_eq_true] at hr;done)
    | rw[if_pos hr]
  rw[this] at e1;obtain⟨c,k1,k2⟩:=Option.map_eq_some_iff.1 e1;subst k2;exact⟨c,k1,e2.symm⟩
 ·cases h
def Hu (ops:Array Oper)(listed:Array Bool)(s:St)(oi oj:Oper):Bool:=
 match oj.op with
 | .store _ y _=>match y with
  | .tmp tt=>match assoc s.env tt with
   | some (.ax o _)=>(oi.op.operands.toList.all fun x=>match ev s x with
     | some u=>!names o u
     | none=>true) && (List.range ops.size).all fun j=>listed.getD j true || match ops[j]? with
     | some TK=>TK.dst != some tt
     | none=>true
   | _=>false
  | _=>false
 | _=>true
def lowB (s:St)(oi:Oper):Bool:=oi.op.operands.toList.all fun x=>match ev s x with
 | some (.bl p _ _)=>decide (p<s.nx)
 | some (.ax p _)=>decide (p<s.nx)
 | _=>true
theorem Cn {listed:Array Bool}{oi oj:Oper}(h:Hu ops listed s oi oj=true):Safe ops listed s oi oj:=by
 unfold Hu at h;split at h
 ·rename_i t y v O8;split at h
  ·rename_i tt;split at h
   ·rename_i o off he;simp only[Bool.and_eq_true,List.all_eq_true,List.mem_range] at h;refine .inr ⟨t,.tmp tt,v,o,off,O8,he,fun x hx u hu=>?_,fun j TK hj hl t' ht'=>?_⟩
    ·have:=h.1 x WB;rw[hu] at this
     simpa using this
    ·cases ht';have:=h.2 j (Array.getElem?_eq_some_iff.1 hj).1;rw[hl,hj] at this
     simpa using this
   ·cases h
  ·cases h
 ·rename_i hn;exact .inl fun t x v e=>hn t x v e
end
def iter (g:St→Option (Exit×St)):Nat→St→Option (Exit×St)
 | 0,_=>none
 | n+1,s=>match g s with
  | some (.normal,s')=>iter g n s'
  | r=>r
def Bb (l:Nat)(g:St→Option (Exit×St)):Nat→St→Option (Exit×St)
 | 0,_=>none
 | n+1,s=>match g s with
  | some (.goto m,s')=>if m=l then Bb l g n s' else none
  | r=>r
def outB (id:Nat):Exit×St→Exit×St
 | (.exit i,s)=>if i=id then (.normal,s) else (.exit i,s)
 | r=>r
def nq (R3:Nat→Array Oper→Bool→St→Option St):Nat→Code→St→Option (Exit×St)
 | 0,_,_=>none
 | _+1,.skip,s=>some (.normal,s)
 | _+1,.region id ops d,s=>(R3 id ops d s).map fun s'=>(.normal,s')
 | f+1,.seq x y,s=>match nq R3 f x s with
  | some (.normal,s')=>nq R3 f y s'
  | r=>r
 | f+1,.cond c x y,s=>match ev s c with
  | some (.bool b)=>nq R3 f (if b then x else y) s
  | _=>none
 | f+1,.block id c,s=>(nq R3 f c s).map (outB id)
 | f+1,.scope c,s=>match nq R3 f c s with
  | some (.goto l,s')=>match findLabel c l with
   | some rest=>Bb l (nq R3 f rest) f s'
   | none=>none
  | r=>r
 | f+1,.loop c,s=>iter (nq R3 f c) f s
 | _+1,.exit id,s=>some (.exit id,s)
 | _+1,.ret,s=>some (.ret,s)
 | _+1,.label _,s=>some (.normal,s)
 | _+1,.goto l,s=>some (.goto l,s)
 | _+1,_,_=>none
section
variable {P:Program}{C:Cx}{s:St}{ak:List (Nat×TI)}{R3:Nat→Array Oper→Bool→St→Option St}
def gT (gd:Nat→Array Oper→Bool→Bool):Code→Bool
 | .region id ops d=>gd id ops d
 | .seq x y=>gT gd x && gT gd y
 | .cond _ x y=>gT gd x && gT gd y
 | .block _ c=>gT gd c
 | .loop c=>gT gd c
 | .scope c=>gT gd c
 | _=>true
def JE (P:Program)(C:Cx)(gd:Nat→Array Oper→Bool→Bool)(R3:Nat→Array Oper→Bool→St→Option St):Prop:=∀ id ops d s s',gd id ops d=true→R3 id ops d s=some s'→T P C (.region id ops d) s fun e x=>e=.normal∧x=s'
def Ends (r:Exit×St):Exit→St→Prop:=fun e x=>e=r.1∧x=r.2
theorem pU {gd:Nat→Array Oper→Bool→Bool}{l:Nat}:∀ (c rest:Code),gT gd c=true→findLabel c l=some rest→gT gd rest=true
 | .seq a b,rest,hg,h=>by
  simp only[gT,Bool.and_eq_true] at hg;simp only[findLabel] at h;split at h
  ·rename_i r hr;cases h;simp only[gT,Bool.and_eq_true];exact⟨pU a r hg.1 hr,hg.2⟩
  ·exact pU b rest hg.2 h
 | .label l',rest,_,h=>by
  simp only[findLabel] at h;split at h
  ·cases h;rfl
  ·cases h
 | .skip,_,_,h=>by simp[findLabel] at h
 | .region _ _ _,_,_,h=>by simp[findLabel] at h
 | .cond _ _ _,_,_,h=>by simp[findLabel] at h
 | .block _ _,_,_,h=>by simp[findLabel] at h
 | .loop _,_,_,h=>by simp[findLabel] at h
 | .rangeFunc _ _ _ _,_,_,h=>by simp[findLabel] at h
 | .exit _,_,_,h=>by simp[findLabel] at h
 | .scope _,_,_,h=>by simp[findLabel] at h
 | .goto _,_,_,h=>by simp[findLabel] at h
 | .ret,_,_,h=>by simp[findLabel] at h
theorem T.Hc {c:Code}{Q:Exit→St→Prop}(h:T P C c s fun e x=>(∀ l,e≠.goto l)∧Q e x):T P C (.scope c) s Q:=fun a w hr=>
 wp_scope_straight (wp_mono (h a w hr) fun e a' w' ⟨s',q,r⟩=>by
  cases e with
  | goto l=>exact absurd rfl (q.1 l)
  | _=>exact⟨s',q.2,r⟩)
theorem Ez {gd:Nat→Array Oper→Bool→Bool}(hR:JE P C gd R3):∀ (f:Nat) (c:Code) (s:St) (r:Exit×St),gT gd c=true→nq R3 f c s=some r→T P C c s (Ends r)
 | 0,_,_,_,_,h=>by simp[nq] at h
 | f+1,c,s,r,hG,h=>by
  have ih:=Ez hR f;cases c<;>simp only[nq] at h<;>first | cases h | skip
  case skip=>exact T.skip ⟨rfl,rfl⟩
  case exit=>exact T.exit ⟨rfl,rfl⟩
  case ret=>exact T.ret ⟨rfl,rfl⟩
  case label=>exact T.label ⟨rfl,rfl⟩
  case goto=>exact T.goto ⟨rfl,rfl⟩
  case region id ops d=>
   obtain⟨s',h1,rfl⟩:=Option.map_eq_some_iff.1 h;exact hR id ops d s s' hG h1
  case seq x y=>
   simp only[gT,Bool.and_eq_true] at hG;refine T.seq ?_
   cases hx:nq R3 f x s with
   | none=>rw[hx] at h;cases h
   | some q=>
    rw[hx] at h;obtain⟨e,s1⟩:=q;refine T.mono (ih x s _ hG.1 hx) ?_;rintro e' s' ⟨e1,e2⟩;simp only at e1 e2;subst e1;subst e2;cases e'<;>simp only at h<;>first
     | exact ih y s' r hG.2 h
     | (cases h;exact⟨rfl,rfl⟩)
  case cond c x y=>
   split at h
   ·rename_i b hb;simp only[gT,Bool.and_eq_true] at hG;exact T.cond hb (ih _ s r (by cases b<;>simp[hG.1,hG.2]) h)
   ·cases h
  case block id c=>
   obtain⟨q,h1,rfl⟩:=Option.map_eq_some_iff.1 h;refine T.block (T.mono (ih c s q (by simpa only[gT] using hG) h1) ?_);rintro e' s' ⟨e1,e2⟩;obtain⟨e,s1⟩:=q;simp only at e1 e2;subst e1;subst e2;cases e'<;>simp only[og,outB]<;>first
    | exact⟨rfl,rfl⟩
    | (split<;>exact⟨rfl,rfl⟩)
  case scope c=>
   simp only[gT] at hG
   cases hx:nq R3 f c s with
   | none=>rw[hx] at h;cases h
   | some q=>
    rw[hx] at h;obtain⟨e,s1⟩:=q;have k:=ih c s _ hG hx;cases e<;>simp only at h
    case goto l=>
     cases hl:findLabel c l with
     | none=>rw[hl] at h;cases h
     | some rest=>
      rw[hl] at h;refine T.J8 l (fun n s=>Bb l (nq R3 f rest) n s=some r) hl (T.mono k ?_) fun n s hn=>?_
      ·rintro e' s' ⟨e1,e2⟩;simp only at e1 e2;subst e1;subst e2;exact⟨rfl,f,ae.here h⟩
      ·cases n with
       | zero=>simp[Bb] at hn
       | succ n=>
        simp only[Bb] at hn
        cases hy:nq R3 f rest s with
        | none=>rw[hy] at hn;cases hn
        | some q=>
         rw[hy] at hn;obtain⟨e,s2⟩:=q;refine T.mono (ih rest s _ (pU c rest hG hl) hy) ?_;rintro e' s' ⟨e1,e2⟩;simp only at e1 e2;subst e1;subst e2;cases e'<;>simp only at hn
         case goto m=>
          split at hn
          ·rename_i e;exact⟨e,n,Nat.lt_succ_self n,ae.here hn⟩
          ·cases hn
         all_goals
          cases hn;exact⟨rfl,rfl⟩
    all_goals
     cases h;refine T.Hc (T.mono k ?_);rintro e' s' ⟨e1,e2⟩;simp only at e1 e2;subst e1;subst e2;exact⟨fun l e=>(by cases e),rfl,rfl⟩
  case loop c=>
   refine T.loop (fun n s=>iter (nq R3 f c) n s=some r) h fun n s hn=>?_
   cases n with
   | zero=>simp[iter] at hn
   | succ n=>
    simp only[iter] at hn
    cases hx:nq R3 f c s with
    | none=>rw[hx] at hn;cases hn
    | some q=>
     rw[hx] at hn;obtain⟨e,s1⟩:=q;refine T.mono (ih c s _ (by simpa only[gT] using hG) hx) ?_;rintro e' s' ⟨e1,e2⟩;simp only at e1 e2;subst e1;subst e2;cases e'<;>simp only at hn<;>first
      | exact⟨n,Nat.lt_succ_self n,hn⟩
      | (cases hn;exact⟨rfl,rfl⟩)
end
end Go.Can
