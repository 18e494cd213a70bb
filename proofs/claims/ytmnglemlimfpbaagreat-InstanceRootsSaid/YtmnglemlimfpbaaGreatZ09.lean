/- A region that draws, its loads hoisted past new objects: where nothing else turns memory than new objects, reading comes first without loss. No function of the program is mentioned here. | A reading does not hang on objects that it does not name. No function of the program is mentioned here. -/
import Derived.Test.YtmnglemlimfpbaaGreatZ08
namespace Go.Can
open Go.RowKit
section
variable {P:Program}{C:Cx}{s:St}{a:Act}{w:World}{ops:Array Oper}{aj:List (Nat×TI)}{nt:Nat}
def mC (aj:List (Nat×TI))(s:St):Op→Option (Ob×(Nat→CV))
 | .box e x=>match ev s x with
  | some c=>if dF c then none else some (⟨e,0,c.cells⟩,fun m=>.aq m 0)
  | none=>none
 | .buildSlice t len parts=>match dm aj t with
  | some (.sl e)=>match assoc aj e,fQ s parts.toList with
   | some ie,some cs=>if len*ie.size≤16777216∧len≤16777216 then (kS (fun i=>some (i*ie.size,ie.size)) (aX ie.zero len) cs).map fun out=>(⟨e,ie.size,out⟩,fun m=>.bw m 0 len) else none
   | _,_=>none
  | _=>none
 | _=>none
def u5:Op→Bool
 | .box _ _=>true
 | .buildSlice _ _ _=>true
 | _=>false
def ke:Op→Bool
 | .move _=>true
 | .assign _=>true
 | .load _ _=>true
 | .fieldAddr _ _ _=>true
 | .indexAddr _ _ _=>true
 | _=>false
def St.push (s:St)(ob:Ob):St:={ s with heap:=(s.nx,ob)::s.heap,nx:=s.nx+1 }
def gu (aj:List (Nat×TI))(nt:Nat)(s:St)(o:Oper):Option St:=
 if aW nt o.dst=true∧o.guard=none then
  if u5 o.op then (mC aj s o.op).map fun r=>(s.push r.1).put o.dst (r.2 s.nx)
  else if ke o.op then (cQ aj s o.op).map (s.put o.dst) else none
 else none
theorem xw {o:Oper}{s':St}(h:gu aj nt s o=some s'):eL aj nt ops s o=some s':=by
 unfold gu at h
 split at h
 ·rename_i hc
  obtain⟨h1,h2⟩:=hc
  unfold eL
  rw[if_pos h1,h2]
  simp only
  unfold jX
  cases hop:o.op<;>rw[hop] at h<;>simp only[u5,ke,Bool.false_eq_true,if_false,if_true] at h<;>first | cases h | skip
  case move=>exact h
  case assign=>exact h
  case load=>exact h
  case fieldAddr=>exact h
  case indexAddr=>exact h
  case box e x=>
   simp only[mC] at h
   simp only[E5]
   cases hx:ev s x with
   | none=>rw[hx] at h;cases h
   | some c=>
    rw[hx] at h
    simp only at h ⊢
    split at h
    ·cases h
    ·rename_i hn
     rw[if_neg hn]
     exact h
  case buildSlice t len parts=>
   simp only[mC] at h
   simp only[iD]
   cases ht:dm aj t with
   | none=>rw[ht] at h;cases h
   | some d=>
    rw[ht] at h
    cases d<;>simp only at h ⊢<;>first | cases h | skip
    rename_i e
    cases he:assoc aj e with
    | none=>rw[he] at h;cases h
    | some ie=>
     rw[he] at h
     cases hp:fQ s parts.toList with
     | none=>rw[hp] at h;cases h
     | some cs=>
      rw[hp] at h
      simp only at h ⊢
      split at h
      ·rename_i hb
       rw[if_pos hb]
       cases hf:kS (fun i=>some (i*ie.size,ie.size)) (aX ie.zero len) cs with
       | none=>rw[hf] at h;cases h
       | some out=>rw[hf] at h;exact h
      ·cases h
 ·cases h
theorem lv {s':St}(op:Op)(h:∀ x∈op.operands,ev s x=ev s' x):mC aj s op=mC aj s' op:=by
 cases op<;>first | rfl | skip
 case box e x=>simp only[mC];rw[h x (by simp[Op.operands])]
 case buildSlice t len parts=>
  simp only[mC]
  rw[jc parts.toList fun x hx=>h x.2 (by simp only[Op.operands];simp only[List.mem_toArray,List.mem_map];exact⟨x,hx,rfl⟩)]
def lH (s s':St):Prop:=(∀ t,assoc s'.env t=assoc s.env t)∧s'.heap=s.heap∧s'.nx=s.nx
theorem lH.refl (s:St):lH s s:=⟨fun _=>rfl,rfl,rfl⟩
theorem lH.trans {s s' s'':St}(h:lH s s')(k:lH s' s''):lH s s'':=⟨fun t=>(k.1 t).trans (h.1 t),k.2.1.trans h.2.1,k.2.2.trans h.2.2⟩
theorem lH.symm {s s':St}(h:lH s s'):lH s' s:=⟨fun t=>(h.1 t).symm,h.2.1.symm,h.2.2.symm⟩
theorem lH.ev {s s':St}(h:lH s s')(x:Operand):ev s' x=ev s x:=by
 cases x<;>first | exact h.1 _ | rfl
theorem lH.put {s s':St}(h:lH s s')(d:Option Tmp)(c:CV):lH (s.put d c) (s'.put d c):=by
 have e:∀ s:St,s.put d c=cA s d (some c):=fun _=>rfl
 refine⟨fun t=>?_,?_,?_⟩
 ·rw[e,e,bW,bW]
  unfold iS
  split
  ·rfl
  ·exact h.1 t
 ·cases d<;>exact h.2.1
 ·cases d<;>exact h.2.2
theorem lH.push {s s':St}(h:lH s s')(ob:Ob):lH (s.push ob) (s'.push ob):=⟨h.1,by simp[St.push,h.2.1,h.2.2],by simp[St.push,h.2.2]⟩
theorem BD {s s' r:St}(h:lH s s'){o:Oper}(hs:gu aj nt s o=some r):∃ r',gu aj nt s' o=some r'∧lH r r':=by
 unfold gu at hs ⊢
 split at hs
 ·rename_i hc
  rw[if_pos hc]
  split at hs
  ·rename_i hn
   rw[if_pos hn,← lv o.op fun x _=>(h.ev x).symm]
   cases ha:mC aj s o.op with
   | none=>rw[ha] at hs;cases hs
   | some q=>
    rw[ha] at hs
    cases hs
    exact⟨_,rfl,by rw[h.2.2];exact (h.push _).put _ _⟩
  ·rename_i hn
   rw[if_neg hn]
   split at hs
   ·rename_i hq
    rw[if_pos hq,← fO h.2.1.symm o.op fun x _=>(h.ev x).symm]
    cases ha:cQ aj s o.op with
    | none=>rw[ha] at hs;cases hs
    | some q=>
     rw[ha] at hs
     cases hs
     exact⟨_,rfl,h.put _ _⟩
   ·cases hs
 ·cases hs
def lI (s:St):Prop:=∀ o ob,assoc s.heap o=some ob→o<s.nx
theorem Rel.fresh (h:Rel C s a w):lI s:=by
 obtain⟨σ,h⟩:=h
 intro o ob ho
 obtain⟨B,hB,_⟩:=h.obj o ob ho
 rcases Nat.lt_or_ge o s.nx with hl | hl
 ·exact hl
 ·rw[h.nx o hl] at hB;cases hB
theorem lI.push (h:lI s)(ob:Ob):lI (s.push ob):=by
 intro o x ho
 simp only[St.push,assoc] at ho ⊢
 split at ho
 ·omega
 ·have:=h o x ho;omega
theorem fI (s:St)(d:Option Tmp)(c:CV):(s.put d c).heap=s.heap∧(s.put d c).nx=s.nx:=by cases d<;>exact⟨rfl,rfl⟩
theorem lI.put (h:lI s)(d:Option Tmp)(c:CV):lI (s.put d c):=by
 intro o x ho
 rw[(fI s d c).1] at ho
 rw[(fI s d c).2]
 exact h o x ho
theorem BP (hf:lI s)(ob:Ob){op:Op}(hr:ke op=true){c:CV}(h:cQ aj s op=some c):cQ aj (s.push ob) op=some c:=by
 have hev:∀ x,ev (s.push ob) x=ev s x:=fun x=>by cases x<;>rfl
 have hm:∀ x cs,fa s x=some cs→fa (s.push ob) x=some cs:=fun x cs hx=>by
  cases x<;>simp only[fa] at hx ⊢<;>first | exact hx | skip
  rename_i o off
  cases ho:assoc s.heap o with
  | none=>rw[ho] at hx;cases hx
  | some y=>
   have:=hf o y ho
   rw[ho] at hx
   simp only[St.push,assoc]
   rw[if_neg (by omega),ho]
   exact hx
 cases op<;>simp only[ke,Bool.false_eq_true] at hr
 case move x=>exact h
 case assign x=>exact h
 case fieldAddr t x f=>simp only[cQ] at h ⊢;rw[hev];exact h
 case indexAddr t x i=>simp only[cQ] at h ⊢;rw[hev,hev];exact h
 case load t x=>
  simp only[cQ] at h ⊢
  rw[hev]
  cases hx:ev s x with
  | none=>rw[hx] at h;simp at h
  | some d=>
   rw[hx] at h
   cases ht:assoc aj t with
   | none=>rw[ht] at h;simp at h
   | some ii=>
    rw[ht] at h
    simp only at h ⊢
    cases hy:fa s d with
    | none=>rw[hy] at h;cases h
    | some cs=>rw[hm d cs hy];rw[hy] at h;exact h
theorem xF {d e:Option Tmp}{c x:CV}(h:∀ t,d=some t→e≠some t):lH ((s.put d c).put e x) ((s.put e x).put d c):=by
 have eq:∀ (s:St) d c,s.put d c=cA s d (some c):=fun _ _ _=>rfl
 refine⟨fun t=>?_,?_,?_⟩
 ·rw[eq,eq,eq,eq,bW,bW]
  unfold iS
  rw[bW,bW]
  unfold iS
  by_cases h1:d=some t
  ·rw[if_pos h1,if_neg (h t h1),if_pos h1]
  ·rw[if_neg h1,if_neg h1]
 ·cases d<;>cases e<;>rfl
 ·cases d<;>cases e<;>rfl
theorem DE (d:Option Tmp)(c:CV)(ob:Ob):(s.put d c).push ob=(s.push ob).put d c:=by cases d<;>rfl
theorem sS {d:Option Tmp}{c:CV}{o:Oper}(h:∀ t,d=some t→t∉o.looksAt ops):∀ x∈o.op.operands,ev (s.put d c) x=ev s x:=by
 intro x hx
 cases x with
 | tmp t=>
  have ht:t∈o.looksAt ops:=List.mem_append_left _ (List.mem_filterMap.2 ⟨.tmp t,by simpa using hx,rfl⟩)
  have e:assoc (cA s d (some c)).env t=assoc s.env t:=by
   rw[bW]
   unfold iS
   rw[if_neg fun e=>h t e ht]
  exact e
 | _=>rfl
theorem zh {oi oj:Oper}{c:CV}{s1:St}(hap:oi.apart ops oj=true)(hf:lI s)(hr:ke oi.op=true)(hq:cQ aj s oi.op=some c)(hs:gu aj nt (s.put oi.dst c) oj=some s1) :
  ∃ s2,gu aj nt s oj=some s2∧cQ aj s2 oi.op=some c∧lH s1 (s2.put oi.dst c)∧lI s2:=by
 obtain⟨h1,h2,h3⟩:=Oper.apart_spec hap
 unfold gu at hs ⊢
 split at hs
 ·rename_i hc
  rw[if_pos hc]
  split at hs
  ·rename_i hn
   rw[if_pos hn]
   rw[lv oj.op (sS h1)] at hs
   cases ha:mC aj s oj.op with
   | none=>rw[ha] at hs;cases hs
   | some q=>
    rw[ha] at hs
    cases hs
    refine⟨_,rfl,?_,?_,(hf.push q.1).put _ _⟩
    ·rw[fO (s':=s.push q.1) (fI _ _ _).1 oi.op (sS h3)]
     exact BP hf _ hr hq
    ·have e:((s.put oi.dst c).push q.1).put oj.dst (q.2 (s.put oi.dst c).nx)=((s.push q.1).put oi.dst c).put oj.dst (q.2 s.nx):=by rw[DE,(fI _ _ _).2]
     show lH (((s.put oi.dst c).push q.1).put oj.dst (q.2 (s.put oi.dst c).nx)) _
     rw[e]
     exact xF h2
  ·rename_i hn
   rw[if_neg hn]
   split at hs
   ·rename_i hr'
    rw[if_pos hr']
    rw[fO (fI s _ _).1 oj.op (sS h1)] at hs
    cases ha:cQ aj s oj.op with
    | none=>rw[ha] at hs;cases hs
    | some q=>
     rw[ha] at hs
     cases hs
     refine⟨_,rfl,?_,xF h2,hf.put _ _⟩
     rw[fO (fI s _ _).1 oi.op (sS h3)]
     exact hq
   ·cases hs
 ·cases hs
theorem rJ {o:Oper}{c:CV}(hr:ke o.op=true)(hg:o.guard=none)(hd:aW nt o.dst=true)(hq:cQ aj s o.op=some c):gu aj nt s o=some (s.put o.dst c):=by
 have hnn:¬ u5 o.op=true:=by
  intro hn
  cases hop:o.op<;>rw[hop] at hr hn<;>first | (simp only[u5,Bool.false_eq_true] at hn;done) | simp only[ke,Bool.false_eq_true] at hr
 unfold gu
 rw[if_pos ⟨hd,hg⟩,if_neg hnn,if_pos hr,hq]
 rfl
def XA (aj:List (Nat×TI))(nt:Nat)(ops:Array Oper)(K:St→Prop):Nat→Array Bool→St→Prop
 | 0,listed,s=>Region.ready .any ops listed=[]∧K s
 | f+1,listed,s=>(Region.ready .any ops listed=[]→K s)∧∀ i∈Region.ready .any ops listed,∃ o s',ops[i]? = some o∧gu aj nt s o=some s'∧XA aj nt ops K f (listed.setIfInBounds i true) s'
theorem XA.Dl {K:St→Prop}(hK:∀ s s',lH s s'→K s→K s'):∀ (f:Nat) (listed:Array Bool) (s s':St),lH s s'→XA aj nt ops K f listed s→XA aj nt ops K f listed s'
 | 0,_,s,s',h,hx=>⟨hx.1,hK s s' h hx.2⟩
 | f+1,listed,s,s',h,hx=>by
  refine⟨fun he=>hK s s' h (hx.1 he),fun i hi=>?_⟩
  obtain⟨o,s1,ho,hs,hk⟩:=hx.2 i hi
  obtain⟨s2,h2,h3⟩:=BD h hs
  exact⟨o,s2,ho,h2,XA.Dl hK f _ s1 s2 h3 hk⟩
theorem jk {i j:Nat}{listed:Array Bool}(h:j∈Region.ready .any ops listed)(hne:i≠j):j∈Region.ready .any ops (listed.setIfInBounds i true):=by
 obtain⟨h1,o,ho,h2⟩:=mem_ready.1 h
 exact mem_ready.2 ⟨by rw[getD_set_ne true hne];exact h1,o,ho,fun e he hb=>getD_set_true (h2 e he hb)⟩
theorem XA.hoist {K:St→Prop}(hK:∀ s s',lH s s'→K s→K s'){i:Nat}{oi:Oper}(hi:ops[i]? = some oi)(hr:ke oi.op=true)(hg:oi.guard=none)(hd:aW nt oi.dst=true){c:CV}:∀ (f:Nat) (listed:Array Bool) (s:St),
  i∈Region.ready .any ops listed→(∀ j oj,ops[j]? = some oj→j≠i→listed.getD j true=false→(∀ e∈oj.after,Region.binds .any e=true→e.on≠i)→oi.apart ops oj=true)→lI s→cQ aj s oi.op=some c →
  XA aj nt ops K f (listed.setIfInBounds i true) (s.put oi.dst c)→XA aj nt ops K (f+1) listed s:=by
 intro f
 induction f with
 | zero=>
  intro listed s hm hap hf hq hx
  refine⟨fun he=>by rw[he] at hm;simp at hm,fun j hj=>?_⟩
  by_cases e:i=j
  ·subst e
   exact⟨oi,_,hi,rJ hr hg hd hq,hx⟩
  ·have:=jk hj e
   rw[hx.1] at this
   simp at this
 | succ f ih=>
  intro listed s hm hap hf hq hx
  refine⟨fun he=>by rw[he] at hm;simp at hm,fun j hj=>?_⟩
  by_cases e:i=j
  ·subst e
   exact⟨oi,_,hi,rJ hr hg hd hq,hx⟩
  ·obtain⟨oj,s1,ho,hs,hk⟩:=hx.2 j (jk hj e)
   obtain⟨j1,oj',hoj',j2⟩:=mem_ready.1 hj
   have:oj'=oj:=Option.some.inj (hoj'.symm.trans ho)
   subst this
   obtain⟨i1,oi',hoi',i2⟩:=mem_ready.1 hm
   have hij:=hap j oj' ho (Ne.symm e) j1 fun e' he' hb hon=>by
    have:=j2 e' he' hb
    rw[hon] at this
    rw[getD_both i1] at this;cases this
   obtain⟨s2,k1,k2,k3,k4⟩:=zh hij hf hr hq hs
   refine⟨oj',s2,ho,k1,ih _ s2 (jk hm (Ne.symm e)) (fun m om hom hne hl hno=>hap m om hom hne ?_ hno) k4 k2 ?_⟩
   ·by_cases e2:j=m
    ·subst e2
     cases hl':listed.getD j true with
     | false=>rfl
     | true=>rw[hl'] at j1;cases j1
    ·rwa [getD_set_ne true e2] at hl
   ·rw[Array.setIfInBounds_comm _ _ (Ne.symm e)]
    exact XA.Dl hK f _ s1 _ k3 hk
def Ia (ops:Array Oper):List Nat→Array Bool→Bool
 | [],_=>true
 | i::r,listed=>(Region.ready .any ops listed).contains i && Region.free .any ops listed i && (match ops[i]? with
   | some o=>o.guard.isNone && ke o.op
   | none=>false) && Ia ops r (listed.setIfInBounds i true)
theorem XA.pre {K:St→Prop}(hK:∀ s s',lH s s'→K s→K s'){g:Nat}:∀ (pre:List Nat) (L0:Array Bool) (s:St),Ia ops pre L0=true→lI s →
  TH P aj nt ops pre s (fun s'=>XA aj nt ops K g (cf pre L0) s')→XA aj nt ops K (pre.length+g) L0 s
 | [],L0,s,_,_,hk=>by rw[List.length_nil,Nat.zero_add];exact hk
 | i::r,L0,s,hp,hf,hk=>by
  simp only[Ia,Bool.and_eq_true] at hp
  obtain⟨⟨⟨h1,h2⟩,h3⟩,h4⟩:=hp
  obtain⟨o,res,ho,hq,hk'⟩:=hk
  rw[ho] at h3
  simp only[Bool.and_eq_true] at h3
  have hg:o.guard=none:=by simpa using h3.1
  obtain⟨hd,hq⟩:=hq
  rcases hq with ⟨j,want,t,e1,_⟩ | ⟨_,c,rfl,hc⟩
  ·rw[hg] at e1;cases e1
  ·rcases hc with hc | ⟨cl,e,_⟩
   ·rw[show (i::r).length+g=(r.length+g)+1 by simp;omega]
    exact XA.hoist hK ho h3.2 hg hd (r.length+g) L0 s (by simpa using h1) (Region.free_spec ho h2) hf hc (XA.pre hK r _ _ h4 (hf.put _ _) hk')
   ·rw[e] at h3;simp[ke] at h3
def KS (K:St→Prop)(s:St):Prop:=∃ s0,lH s0 s∧K s0
theorem KS.Dl {K:St→Prop}(s s':St)(h:lH s s')(hk:KS K s):KS K s':=by
 obtain⟨s0,h0,k⟩:=hk
 exact⟨s0,h0.trans h,k⟩
theorem XA.go {K:St→Prop}{f:Nat}{listed:Array Bool}(r:Nat)(rs:List Nat)(hr:Region.ready .any ops listed=r::rs)(h:∀ i∈r::rs,∃ o s',ops[i]? = some o∧gu aj nt s o=some s'∧XA aj nt ops K f (listed.setIfInBounds i true) s'):XA aj nt ops K (f+1) listed s:=
 ⟨fun he=>(by rw[hr] at he;cases he),fun i hi=>h i (by rw[hr] at hi;exact hi)⟩
end
end Go.Can
/- Steps of explored draws, for walks. No function of the program is mentioned here. -/
namespace Go.Can
open Go.RowKit
section
variable {P:Program}{C:Cx}{s:St}{ops:Array Oper}{aj:List (Nat×TI)}{nt:Nat}{K:St→Prop}{f:Nat}{listed:Array Bool}
theorem XA.step {i:Nat}{o:Oper}(ho:ops[i]? = some o)(h:sj (fun s'=>XA aj nt ops K f (listed.setIfInBounds i true) s') (gu aj nt s o)):∃ o s',ops[i]? = some o∧gu aj nt s o=some s'∧XA aj nt ops K f (listed.setIfInBounds i true) s':=by
 cases hs:gu aj nt s o with
 | none=>rw[hs] at h;exact h.elim
 | some s'=>rw[hs] at h;exact⟨o,s',ho,hs,h⟩
theorem XA.one {i:Nat}{o:Oper}(hr:Region.ready .any ops listed=[i])(ho:ops[i]? = some o)(h:sj (fun s'=>XA aj nt ops K f (listed.setIfInBounds i true) s') (gu aj nt s o)):XA aj nt ops K (f+1) listed s:=
 XA.go i [] hr fun k hk=>by
  simp only[List.mem_singleton] at hk
  subst hk
  exact XA.step ho h
theorem XA.two {i j:Nat}{o o':Oper}(hr:Region.ready .any ops listed=[i,j])(ho:ops[i]? = some o)(ho':ops[j]? = some o')(h:sj (fun s'=>XA aj nt ops K f (listed.setIfInBounds i true) s') (gu aj nt s o))(h':sj (fun s'=>XA aj nt ops K f (listed.setIfInBounds j true) s') (gu aj nt s o')):XA aj nt ops K (f+1) listed s:=
 XA.go i [j] hr fun k hk=>by
  simp only[List.mem_cons,List.not_mem_nil,or_false] at hk
  rcases hk with rfl | rfl
  ·exact XA.step ho h
  ·exact XA.step ho' h'
theorem TX.one {i:Nat}{o:Oper}(hr:Region.ready .any ops listed=[i])(ho:ops[i]? = some o)(h:TL P C ops [o] s fun s'=>TX P C ops K f (listed.setIfInBounds i true) s'):TX P C ops K (f+1) listed s:=
 TX.go i [] hr fun k hk=>by
  simp only[List.mem_singleton] at hk
  subst hk
  exact⟨o,ho,h⟩
theorem TX.two {i j:Nat}{o o':Oper}(hr:Region.ready .any ops listed=[i,j])(ho:ops[i]? = some o)(ho':ops[j]? = some o')(h:TL P C ops [o] s fun s'=>TX P C ops K f (listed.setIfInBounds i true) s')(h':TL P C ops [o'] s fun s'=>TX P C ops K f (listed.setIfInBounds j true) s'):TX P C ops K (f+1) listed s:=
 TX.go i [j] hr fun k hk=>by
  simp only[List.mem_cons,List.not_mem_nil,or_false] at hk
  rcases hk with rfl | rfl
  ·exact⟨o,ho,h⟩
  ·exact⟨o',ho',h'⟩
end
end Go.Can
namespace Go.Can
open Go.RowKit
section
variable {aj:List (Nat×TI)}{s s':St}
def names (o:Nat):CV→Bool
 | .bw p _ _=>p == o
 | .aq p _=>p == o
 | _=>false
theorem zC {c:CV}{cs:List CV}(h:fa s c=some cs)(hh:∀ o ob,names o c=true→assoc s.heap o=some ob→assoc s'.heap o=some ob):fa s' c=some cs:=by
 cases c<;>simp only[fa] at h ⊢<;>first | exact h | skip
 rename_i o off
 cases ho:assoc s.heap o with
 | none=>rw[ho] at h;cases h
 | some y=>rw[hh o y (by simp[names]) ho];rw[ho] at h;exact h
theorem yy {t:TypeId}{c r:CV}{lo hi:Option Operand}(h1:∀ y,lo=some y→ev s y=ev s' y)(h2:∀ y,hi=some y→ev s y=ev s' y)(h:kk aj s t c lo hi=some r)(hh:∀ o ob,names o c=true→assoc s.heap o=some ob→assoc s'.heap o=some ob):kk aj s' t c lo hi=some r:=by
 cases c<;>simp only[kk,je h1,je h2] at h ⊢<;>first | exact h | skip
 case bw o off n=>
  cases ho:assoc s.heap o with
  | some y=>rw[hh o y (by simp[names]) ho];rw[ho] at h;exact h
  | none=>
   rw[ho] at h
   exfalso
   split at h
   ·split at h
    ·rename_i e;cases e
    ·cases h
   ·cases h
 case aq o f=>
  cases ho:assoc s.heap o with
  | some y=>rw[hh o y (by simp[names]) ho];rw[ho] at h;exact h
  | none=>
   rw[ho] at h
   exfalso
   split at h
   ·split at h
    ·rename_i e;cases e
    ·cases h
   ·cases h
theorem wA (H:List (Nat×Ob))(x:Operand):ev { s with heap:=H } x=ev s x:=by cases x<;>rfl
theorem sR (H:List (Nat×Ob))(xs:List Operand):ym { s with heap:=H } xs=ym s xs:=gZ xs fun x _=>wA H x
theorem yC (H:List (Nat×Ob))(xs:List (Nat×Operand)):fQ { s with heap:=H } xs=fQ s xs:=jc xs fun x _=>wA H x.2
theorem uq (H:List (Nat×Ob))(b:Builtin)(xs:List Operand)(ts:List TypeId):gF aj { s with heap:=H } b xs ts=gF aj s b xs ts:=by
 unfold gF
 split
 ·split
  ·rw[wA]
  ·rfl
 ·rw[sR]
 ·rw[sR]
 ·rfl
theorem qo (op:Op)(h:∀ x∈op.operands,ev s x=ev s' x)(n1:∀ t x,op≠.load t x)(n2:∀ t x lo hi mx,op≠.slice t x lo hi mx):cQ aj s op=cQ aj s' op:=by
 have k:=fO (aj:=aj) (s:=s) (s':={ s' with heap:=s.heap }) rfl op (fun x hx=>by rw[h x hx];cases x<;>rfl)
 rw[k]
 cases op<;>first | rfl | skip
 all_goals first | exact absurd rfl (n1 _ _) | exact absurd rfl (n2 _ _ _ _ _) | skip
 case makeFunc f first cap=>
  cases f<;>first | rfl | skip
  simp only[cQ,sR]
 all_goals
  simp only[cQ,qd,yC,uq]
theorem uL {op:Op}(h:∀ x∈op.operands,ev s x=ev s' x){c:CV}(hq:cQ aj s op=some c)(hh:∀ x∈op.operands,∀ v,ev s x=some v→∀ o ob,names o v=true→assoc s.heap o=some ob→assoc s'.heap o=some ob):cQ aj s' op=some c:=by
 cases op
 case load t x=>
  have hx:=h x (by simp[Op.operands])
  have hk:=hh x (by simp[Op.operands])
  simp only[cQ] at hq ⊢
  rw[← hx]
  cases hv:ev s x with
  | none=>rw[hv] at hq;simp at hq
  | some d=>
   rw[hv] at hq
   cases ht:assoc aj t with
   | none=>rw[ht] at hq;simp at hq
   | some ii=>
    rw[ht] at hq
    simp only at hq ⊢
    cases hy:fa s d with
    | none=>rw[hy] at hq;cases hq
    | some cs=>rw[zC hy (hk d hv)];rw[hy] at hq;exact hq
 case slice t x lo hi mx=>
  cases mx with
  | some _=>exact hq
  | none=>
   have hx:=h x (by simp[Op.operands])
   have hk:=hh x (by simp[Op.operands])
   have h1:∀ y,lo=some y→ev s y=ev s' y:=fun y e=>h y (by subst e;simp[Op.operands])
   have h2:∀ y,hi=some y→ev s y=ev s' y:=fun y e=>h y (by subst e;simp[Op.operands])
   simp only[cQ] at hq ⊢
   rw[← hx]
   cases hv:ev s x with
   | none=>rw[hv] at hq;simp at hq
   | some d=>rw[hv] at hq;exact yy h1 h2 hq (hk d hv)
 all_goals exact (qo _ h (fun _ _ e=>by cases e) (fun _ _ _ _ _ e=>by cases e)).symm.trans hq
end
end Go.Can
/- A region that draws, its readings hoisted past new objects and past stores into other objects. No function of the program is mentioned here. -/
namespace Go.Can
open Go.RowKit
section
variable {P:Program}{C:Cx}{s:St}{a:Act}{w:World}{ops:Array Oper}{aj:List (Nat×TI)}{nt:Nat}
def sV (aj:List (Nat×TI))(s:St)(t:TypeId)(x:Operand)(v:Operand):Option (List (Nat×Ob)):=
 match ev s x,ev s v,assoc aj t with
 | some (.aq o off),some c,some i=>
  match assoc s.heap o with
  | none=>none
  | some ob=>if dF c then none else if c.cells.length=i.size∧off+c.cells.length≤ob.cells.length then some (ou s.heap o { ob with cells:=eA ob.cells off c.cells }) else none
 | _,_,_=>none
theorem yx {t:TypeId}{x v:Operand}{H:List (Nat×Ob)}(h:sV aj s t x v=some H):mu aj s t x v=some { s with heap:=H }:=by
 unfold sV at h
 unfold mu
 split at h
 ·rename_i o off c i e1 e2 e3
  rw[e1,e2,e3]
  simp only
  cases ho:assoc s.heap o with
  | none=>rw[ho] at h;cases h
  | some ob=>
   rw[ho] at h
   simp only at h ⊢
   split at h
   ·cases h
   ·rename_i n1
    rw[if_neg n1]
    split at h
    ·rename_i n2;rw[if_pos n2];cases h;rfl
    ·cases h
 ·cases h
def dW:Op→Bool
 | .move _=>true
 | .assign _=>true
 | .load _ _=>true
 | .fieldAddr _ _ _=>true
 | .indexAddr _ _ _=>true
 | .slice _ _ _ _ _=>true
 | .binOp _ _ _ _ _=>true
 | .unOp _ _ _=>true
 | .nilCheck _=>true
 | .call c=>match c.callee with
  | .builtin .len=>true
  | .builtin .min=>true
  | .builtin .max=>true
  | _=>false
 | _=>false
def iK (aj:List (Nat×TI))(s:St)(op:Op):Option (List (Nat×Ob)×Nat×Option CV):=
 match op with
 | .store t x v=>(sV aj s t x v).map fun H=>(H,s.nx,none)
 | .box e x=>(mC aj s (.box e x)).map fun r=>((s.nx,r.1)::s.heap,s.nx+1,some (r.2 s.nx))
 | .buildSlice t n parts=>(mC aj s (.buildSlice t n parts)).map fun r=>((s.nx,r.1)::s.heap,s.nx+1,some (r.2 s.nx))
 | op=>if dW op then (cQ aj s op).map fun c=>(s.heap,s.nx,some c) else none
def bQ (aj:List (Nat×TI))(nt:Nat)(s:St)(o:Oper):Option St:=
 if aW nt o.dst=true∧o.guard=none then (iK aj s o.op).map fun r=>cA ⟨s.env,r.1,r.2.1⟩ o.dst r.2.2 else none
theorem xv {o:Oper}{s':St}(h:bQ aj nt s o=some s'):eL aj nt ops s o=some s':=by
 by_cases hn:u5 o.op=true
 ·refine xw ?_
  unfold bQ at h
  unfold gu
  split at h
  ·rename_i hc
   rw[if_pos hc,if_pos hn]
   cases hop:o.op<;>rw[hop] at h hn<;>simp only[u5,Bool.false_eq_true] at hn
   all_goals
    simp only[iK] at h
    rw[Option.map_map] at h
    exact h
  ·cases h
 unfold bQ at h
 split at h
 ·rename_i hc
  obtain⟨h1,h2⟩:=hc
  unfold eL
  rw[if_pos h1,h2]
  simp only
  unfold jX
  cases hop:o.op<;>rw[hop] at h hn<;>simp only[iK,dW,Bool.false_eq_true,if_false,if_true] at h<;>first | cases h | skip
  case move=>rw[Option.map_map] at h;exact h
  case assign=>rw[Option.map_map] at h;exact h
  case load=>rw[Option.map_map] at h;exact h
  case fieldAddr=>rw[Option.map_map] at h;exact h
  case indexAddr=>rw[Option.map_map] at h;exact h
  case slice=>rw[Option.map_map] at h;exact h
  case binOp=>rw[Option.map_map] at h;exact h
  case unOp=>rw[Option.map_map] at h;exact h
  case nilCheck=>rw[Option.map_map] at h;exact h
  case box=>exact absurd rfl hn
  case buildSlice=>exact absurd rfl hn
  case store t x v=>
   cases hs:sV aj s t x v with
   | none=>rw[hs] at h;cases h
   | some H=>
    rw[hs] at h
    cases h
    simp only[yx hs]
    rfl
  case call c=>
   obtain⟨cal,args,ats⟩:=c
   cases cal
   case builtin b=>
    cases b<;>simp only[Bool.false_eq_true,if_false,if_true] at h<;>first | cases h | skip
    all_goals
     simp only[cQ] at h
     rw[Option.map_map] at h
     exact h
   all_goals
    simp only[Bool.false_eq_true,if_false] at h
    cases h
 ·cases h
theorem zU {s':St}{t:TypeId}{x v:Operand}(hh:s.heap=s'.heap)(h1:ev s x=ev s' x)(h2:ev s v=ev s' v):sV aj s t x v=sV aj s' t x v:=by
 unfold sV
 rw[h1,h2,hh]
theorem vd {s':St}(hh:s.heap=s'.heap)(hn:s.nx=s'.nx)(op:Op)(h:∀ x∈op.operands,ev s x=ev s' x):iK aj s op=iK aj s' op:=by
 have hq:=fO (aj:=aj) hh op h
 have ha:=lv (aj:=aj) op h
 cases op<;>simp only[iK]
 case store t x v=>rw[zU hh (h x (by simp[Op.operands])) (h v (by simp[Op.operands])),hn]
 all_goals first | rfl | rw[hq,hh,hn] | rw[ha,hh,hn]
theorem BB {s s' r:St}(h:lH s s'){o:Oper}(hs:bQ aj nt s o=some r):∃ r',bQ aj nt s' o=some r'∧lH r r':=by
 unfold bQ at hs ⊢
 split at hs
 ·rename_i hc
  rw[if_pos hc,← vd h.2.1.symm h.2.2.symm o.op fun x _=>(h.ev x).symm]
  cases he:iK aj s o.op with
  | none=>rw[he] at hs;cases hs
  | some q=>
   rw[he] at hs
   cases hs
   refine⟨_,rfl,fun t=>?_,?_,?_⟩
   ·rw[bW,bW]
    unfold iS
    split
    ·rfl
    ·exact h.1 t
   ·simp only[cV]
   ·simp only[cV]
 ·cases hs
theorem GB {s:St}{d:Option Tmp}{r:Option CV}{H:List (Nat×Ob)}{n:Nat}{o:Oper}(h:∀ t,d=some t→t∉o.looksAt ops):∀ x∈o.op.operands,ev (cA ⟨s.env,H,n⟩ d r) x=ev s x:=by
 intro x hx
 cases x with
 | tmp t=>
  have ht:t∈o.looksAt ops:=List.mem_append_left _ (List.mem_filterMap.2 ⟨.tmp t,by simpa using hx,rfl⟩)
  show assoc (cA ⟨s.env,H,n⟩ d r).env t=assoc s.env t
  rw[bW]
  unfold iS
  rw[if_neg fun e=>h t e ht]
 | _=>rfl
def turns (s:St)(op:Op)(o:Nat):Prop:=∃ t x v off,op=.store t x v∧ev s x=some (.aq o off)
theorem EL {op:Op}{r:List (Nat×Ob)×Nat×Option CV}(h:iK aj s op=some r){o:Nat}(hlt:o<s.nx)(ht:¬ turns s op o):assoc r.1 o=assoc s.heap o:=by
 cases op<;>simp only[iK] at h
 case store t x v=>
  cases hs:sV aj s t x v with
  | none=>rw[hs] at h;cases h
  | some H=>
   rw[hs] at h
   cases h
   unfold sV at hs
   split at hs
   ·rename_i p off c i e1 e2 e3
    split at hs
    ·cases hs
    ·split at hs
     ·cases hs
     ·split at hs
      ·cases hs
       simp only
       rw[eD]
       rw[if_neg fun e=>ht ⟨t,x,v,off,rfl,by rw[e1,e]⟩]
      ·cases hs
   ·cases hs
 case box e x=>
  cases ha:mC aj s (.box e x) with
  | none=>rw[ha] at h;cases h
  | some q=>rw[ha] at h;cases h;simp only[assoc];rw[if_neg (by omega)]
 case buildSlice t n parts=>
  cases ha:mC aj s (.buildSlice t n parts) with
  | none=>rw[ha] at h;cases h
  | some q=>rw[ha] at h;cases h;simp only[assoc];rw[if_neg (by omega)]
 all_goals
  split at h
  ·rename_i hr
   first
    | (simp only[dW,Bool.false_eq_true] at hr;done)
    | (obtain⟨c,_,e⟩:=Option.map_eq_some_iff.1 h;subst e;rfl)
  ·cases h
theorem IF {op:Op}{r:List (Nat×Ob)×Nat×Option CV}(h:iK aj s op=some r):s.nx≤r.2.1:=by
 cases op<;>simp only[iK] at h
 all_goals first
  | (obtain⟨c,_,e⟩:=Option.map_eq_some_iff.1 h;subst e;simp)
  | (split at h
     ·obtain⟨c,_,e⟩:=Option.map_eq_some_iff.1 h;subst e;simp
     ·cases h)
def Clear (s:St)(oi oj:Oper):Prop:=∀ x∈oi.op.operands,∀ v,ev s x=some v→∀ o,names o v=true→o<s.nx∧¬ turns s oj.op o
theorem zg {oi oj:Oper}{c:CV}{s1:St}(hap:oi.apart ops oj=true)(hcl:Clear s oi oj)(hq:cQ aj s oi.op=some c)(hs:bQ aj nt (s.put oi.dst c) oj=some s1) :
  ∃ s2,bQ aj nt s oj=some s2∧cQ aj s2 oi.op=some c∧lH s1 (s2.put oi.dst c)∧(∀ x∈oi.op.operands,ev s2 x=ev s x)∧(∀ t,oj.dst≠some t→assoc s2.env t=assoc s.env t)∧s.nx≤s2.nx:=by
 obtain⟨h1,h2,h3⟩:=Oper.apart_spec hap
 unfold bQ at hs ⊢
 split at hs
 ·rename_i hc
  rw[if_pos hc]
  rw[vd (fI s _ _).1 (fI s _ _).2 oj.op (sS h1)] at hs
  cases he:iK aj s oj.op with
  | none=>rw[he] at hs;cases hs
  | some r=>
   rw[he] at hs
   cases hs
   have hev:=GB (s:=s) (d:=oj.dst) (r:=r.2.2) (H:=r.1) (n:=r.2.1) h3
   refine⟨_,rfl,?_,⟨fun t=>?_,?_,?_⟩,hev,fun t ht=>?_,?_⟩
   ·refine uL (fun x hx=>(hev x hx).symm) hq fun x hx v hv o ob hn ho=>?_
    obtain⟨k1,k2⟩:=hcl x hx v hv o hn
    rw[cV.1]
    rw[EL he k1 k2]
    exact ho
   ·show assoc ((cA _ oi.dst (some c)).env) t=_
    rw[bW,bW]
    unfold iS
    rw[bW]
    show (if oi.dst=some t then some c else iS (assoc s.env) oj.dst r.2.2 t)=if oj.dst=some t then r.2.2 else assoc (cA s oi.dst (some c)).env t
    rw[bW]
    unfold iS
    by_cases e:oi.dst=some t
    ·rw[if_pos e,if_neg (h2 t e),if_pos e]
    ·rw[if_neg e,if_neg e]
   ·rw[(fI _ _ _).1,cV.1,cV.1]
   ·rw[(fI _ _ _).2,cV.2,cV.2]
   ·rw[bW]
    unfold iS
    rw[if_neg ht]
   ·rw[cV.2]
    exact IF he
 ·cases hs
end
end Go.Can
/- The exploration of a draw with readings hoisted past new objects and stores elsewhere. No function of the program is mentioned here. -/
namespace Go.Can
open Go.RowKit
section
variable {P:Program}{C:Cx}{s:St}{a:Act}{w:World}{ops:Array Oper}{aj:List (Nat×TI)}{nt:Nat}
def Safe (ops:Array Oper)(listed:Array Bool)(s:St)(oi oj:Oper):Prop:=
 (∀ t x v,oj.op≠.store t x v)∨∃ t y v o off,oj.op=.store t y v∧ev s y=some (.aq o off)∧(∀ x∈oi.op.operands,∀ u,ev s x=some u→names o u=false)∧∀ j oj',ops[j]? = some oj'→listed.getD j true=false→∀ tt,y=.tmp tt→oj'.dst≠some tt
def yV (ops:Array Oper)(i:Nat)(oi:Oper)(listed:Array Bool)(s:St):Prop:=
 (∀ x∈oi.op.operands,∀ u,ev s x=some u→∀ o,names o u=true→o<s.nx)∧
  ∀ j oj,ops[j]? = some oj→j≠i→listed.getD j true=false→(∀ e∈oj.after,Region.binds .any e=true→e.on≠i)→oi.apart ops oj=true∧Safe ops listed s oi oj
theorem yV.clear {i _j:Nat}{oi oj:Oper}{listed:Array Bool}(h:yV ops i oi listed s)(hs:Safe ops listed s oi oj):Clear s oi oj:=by
 intro x hx v hv o hn
 refine⟨h.1 x hx v hv o hn,?_⟩
 rintro⟨t,y,u,off,e1,e2⟩
 rcases hs with hs | ⟨t',y',u',o',off',k1,k2,k3,_⟩
 ·exact hs t y u e1
 ·rw[e1] at k1
  cases k1
  rw[e2] at k2
  cases k2
  have:=k3 x hx v hv
  rw[hn] at this
  cases this
theorem ld {i j:Nat}{listed:Array Bool}(h:(listed.setIfInBounds j true).getD i true=false):listed.getD i true=false:=by
 by_cases e:j=i
 ·subst e
  rcases Nat.lt_or_ge j listed.size with hl | hl
  ·simp[hl] at h
  ·simp at h
 ·rwa [getD_set_ne true e] at h
theorem yV.next {i j:Nat}{oi oj:Oper}{listed:Array Bool}{s2:St}(h:yV ops i oi listed s)(hj:ops[j]? = some oj)(hl:listed.getD j true=false)(h1:∀ x∈oi.op.operands,ev s2 x=ev s x)(h2:∀ t,oj.dst≠some t→assoc s2.env t=assoc s.env t)(h3:s.nx≤s2.nx):yV ops i oi (listed.setIfInBounds j true) s2:=by
 refine⟨fun x hx u hu o hn=>?_,fun m om hm hne hml hno=>?_⟩
 ·rw[h1 x hx] at hu
  have:=h.1 x hx u hu o hn
  omega
 ·obtain⟨k1,k2⟩:=h.2 m om hm hne (ld hml) hno
  refine⟨k1,?_⟩
  rcases k2 with k2 | ⟨t,y,v,o,off,e1,e2,e3,e4⟩
  ·exact .inl k2
  ·refine .inr ⟨t,y,v,o,off,e1,?_,fun x hx u hu=>e3 x hx u (by rw[← h1 x hx];exact hu),fun m' om' hm' hl'=>e4 m' om' hm' (ld hl')⟩
   rw[← e2]
   cases y with
   | tmp tt=>exact h2 tt (e4 j oj hj hl tt rfl)
   | _=>rfl
theorem De {o:Oper}{s':St}(hr:dW o.op=true)(h:bQ aj nt s o=some s'):∃ c,cQ aj s o.op=some c∧s'=s.put o.dst c:=by
 unfold bQ at h
 split at h
 ·obtain⟨r,e1,e2⟩:=Option.map_eq_some_iff.1 h
  have:iK aj s o.op=(cQ aj s o.op).map fun c=>(s.heap,s.nx,some c):=by
   cases hop:o.op<;>rw[hop] at hr<;>simp only[iK]
   all_goals first
    | (simp only[dW,Bool.false_eq_true] at hr;done)
    | rw[if_pos hr]
  rw[this] at e1
  obtain⟨c,k1,k2⟩:=Option.map_eq_some_iff.1 e1
  subst k2
  exact⟨c,k1,e2.symm⟩
 ·cases h
def Ds (ops:Array Oper)(listed:Array Bool)(s:St)(oi oj:Oper):Bool:=
 match oj.op with
 | .store _ y _=>match y with
  | .tmp tt=>match assoc s.env tt with
   | some (.aq o _)=>(oi.op.operands.toList.all fun x=>match ev s x with
     | some u=>!names o u
     | none=>true) && (List.range ops.size).all fun j=>listed.getD j true || match ops[j]? with
     | some oj'=>oj'.dst != some tt
     | none=>true
   | _=>false
  | _=>false
 | _=>true
def lowB (s:St)(oi:Oper):Bool:=oi.op.operands.toList.all fun x=>match ev s x with
 | some (.bw p _ _)=>decide (p<s.nx)
 | some (.aq p _)=>decide (p<s.nx)
 | _=>true
theorem zm {listed:Array Bool}{oi oj:Oper}(h:Ds ops listed s oi oj=true):Safe ops listed s oi oj:=by
 unfold Ds at h
 split at h
 ·rename_i t y v hop
  split at h
  ·rename_i tt
   split at h
   ·rename_i o off he
    simp only[Bool.and_eq_true,List.all_eq_true,List.mem_range] at h
    refine .inr ⟨t,.tmp tt,v,o,off,hop,he,fun x hx u hu=>?_,fun j oj' hj hl t' ht'=>?_⟩
    ·have:=h.1 x (by simpa using hx)
     rw[hu] at this
     simpa using this
    ·cases ht'
     have:=h.2 j (Array.getElem?_eq_some_iff.1 hj).1
     rw[hl,hj] at this
     simpa using this
   ·cases h
  ·cases h
 ·rename_i hn
  exact .inl fun t x v e=>hn t x v e
end
end Go.Can
