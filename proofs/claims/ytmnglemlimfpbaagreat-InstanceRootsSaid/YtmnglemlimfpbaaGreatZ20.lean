/- Regions that do not draw, with conversions among their operations. No function of the program is mentioned here. | The exploration of a draw with calls: readings hoisted past what may come before them. No function of the program is mentioned here. | lockordermade's programs as plain functions of the numbers: statements and programs. No function of the program is mentioned here. | lockordermade.Pro -/
import Derived.Test.YtmnglemlimfpbaaGreatZ19
import Derived.Test.YtmnglemlimfpbaaGreatZ18
namespace Go.Can
open Go.RowKit
section
variable {P:Program}{C:Cx}{s:St}{ops:Array Oper}{aj:List (Nat×TI)}{Q:Exit→St→Prop}
def Ee (o:Oper):Bool:=match o.op with
 | .convert _ _ _=>true
 | _=>false
def cvS (aj:List (Nat×TI))(s:St)(o:Oper):Option St:=match o.op with
 | .convert t u x=>match pj aj s t u x with
  | some c=>some (s.put o.dst c)
  | none=>match ev s x,dm aj t,dm aj u with
   | some (.str b),some .str,some (.sl e)=>match dm aj e with
    | some (.int .u8)=>if b.size≤1000000 then some (s.put o.dst (.ax (oa b) b.size)) else none
    | _=>none
   | _,_,_=>none
 | _=>none
theorem IM (ht:aF P aj){o:Oper}{s':St}(hd:aW C.nt o.dst=true)(h:cvS aj s o=some s'):pA P C o s s':=by
 refine xa ht hd ?_
 unfold cvS at h
 unfold Ae
 split at h
 ·rename_i t u x ho
  rw[ho]
  simp only
  split at h
  ·rename_i c hc
   rw[hc]
   exact h
  ·rename_i hc
   rw[hc]
   simp only
   split at h
   ·rename_i b e h1 h2 h3
    rw[h1,h2,h3]
    simp only
    split at h
    ·rename_i h4
     rw[h4]
     simp only
     split at h
     ·rename_i hb
      rw[if_pos hb]
      exact h
     ·cases h
    ·cases h
   ·cases h
 ·cases h
def FC (aj:List (Nat×TI))(nt:Nat)(ops:Array Oper)(K:List Oper→St→Prop):List Oper→St→Prop
 | [],s=>K [] s
 | o::r,s=>if wc o then
   match bK ops s o with
   | some false=>sj (FC aj nt ops K r) (eL aj nt ops s o)
   | _=>K (o::r) s
  else if Ee o then
   match bK ops s o with
   | some true=>if aW nt o.dst=true then sj (FC aj nt ops K r) (cvS aj s o) else False
   | _=>sj (FC aj nt ops K r) (eL aj nt ops s o)
  else sj (FC aj nt ops K r) (eL aj nt ops s o)
theorem zJ (ht:aF P aj){K:St→Prop}:∀ (l:List Oper) (s:St),FC aj C.nt ops (CD P C ops K) l s→TL P C ops l s K
 | [],s,h=>TL.nil h
 | o::r,s,h=>by
  have fin:sj (FC aj C.nt ops (CD P C ops K) r) (eL aj C.nt ops s o)→TL P C ops (o::r) s K:=fun h=>by
   cases hs:eL aj C.nt ops s o with
   | none=>rw[hs] at h;exact h.elim
   | some s'=>rw[hs] at h;exact TL.step ht hs (zJ ht r s' h)
  unfold FC at h
  split at h
  ·split at h
   ·exact fin h
   ·exact h
  ·split at h
   ·split at h
    ·rename_i hg
     split at h
     ·rename_i hd
      cases hs:cvS aj s o with
      | none=>rw[hs] at h;exact h.elim
      | some s'=>rw[hs] at h;exact mq hg (IM ht hd hs) (zJ ht r s' h)
     ·exact h.elim
    ·exact fin h
   ·exact fin h
theorem TL.yX (ht:aF P aj){K:St→Prop}{l:List Oper}(h:FC aj C.nt ops (CD P C ops K) l s):TL P C ops l s K:=zJ ht l s h
theorem T.yX (ht:aF P aj){id:Nat}{l:List Oper}(h:FC aj C.nt l.toArray (CD P C l.toArray (Q .normal)) l s):T P C (.region id l.toArray false) s Q:=T.region (TL.yX ht h)
attribute [simp] Ee cvS FC pj bytesOf cells?
end
end Go.Can
namespace Go.Can
open Go.RowKit
section
variable {P:Program}{C:Cx}{s:St}{ops:Array Oper}{aj:List (Nat×TI)}
def Et (o:Oper):Bool:=match o.op with | .store _ _ _=>false | .box _ _=>false | .buildSlice _ _ _=>false | op=>!dW op
def XZ (P:Program)(C:Cx)(aj:List (Nat×TI))(ops:Array Oper)(K:St→Prop):Nat→Array Bool→St→Prop
 | 0,listed,s=>Region.ready .any ops listed=[]∧K s
 | f+1,listed,s=>(Region.ready .any ops listed=[]→K s)∧∀ i∈Region.ready .any ops listed,∃ o,ops[i]? = some o∧
   ((∃ s',bQ aj C.nt s o=some s'∧XZ P C aj ops K f (listed.setIfInBounds i true) s')∨(Et o=true∧TL P C ops [o] s fun s'=>XZ P C aj ops K f (listed.setIfInBounds i true) s'))
@[congr] theorem XZ_congr {s s':St}{K:St→Prop}{f:Nat}{l:Array Bool}(h:s=s'):XZ P C aj ops K f l s=XZ P C aj ops K f l s':=by rw[h]
def kr (P:Program)(C:Cx)(aj:List (Nat×TI))(ops:Array Oper)(K:St→Prop)(f:Nat)(listed:Array Bool)(s:St)(i:Nat):Prop:=
 ∃ o,ops[i]? = some o∧((∃ s',bQ aj C.nt s o=some s'∧XZ P C aj ops K f (listed.setIfInBounds i true) s')∨(Et o=true∧TL P C ops [o] s fun s'=>XZ P C aj ops K f (listed.setIfInBounds i true) s'))
theorem TL.Dl {l:List Oper}{K:St→Prop}{s s':St}(h:lH s s')(hx:TL P C ops l s K):TL P C ops l s' K:=fun a w Q hr hQ=>hx a w Q (hr.congr (fun t=>(h.1 t).symm) h.2.1.symm h.2.2.symm) hQ
theorem XZ.Dl {K:St→Prop}(hK:∀ s s',lH s s'→K s→K s'):∀ (f:Nat) (listed:Array Bool) (s s':St),lH s s'→XZ P C aj ops K f listed s→XZ P C aj ops K f listed s'
 | 0,_,s,s',h,hx=>⟨hx.1,hK s s' h hx.2⟩
 | f+1,listed,s,s',h,hx=>by
  refine⟨fun he=>hK s s' h (hx.1 he),fun i hi=>?_⟩
  obtain⟨o,ho,⟨s1,hs,hk⟩ | ⟨hu,hk⟩⟩:=hx.2 i hi
  ·obtain⟨s2,h2,h3⟩:=BB h hs
   exact⟨o,ho,.inl ⟨s2,h2,XZ.Dl hK f _ s1 s2 h3 hk⟩⟩
  ·exact⟨o,ho,.inr ⟨hu,TL.Dl h hk⟩⟩
def og (ops:Array Oper)(i:Nat)(oi:Oper)(listed:Array Bool)(s:St):Prop:=
 (∀ x∈oi.op.operands,∀ u,ev s x=some u→∀ o,names o u=true→o<s.nx)∧
  ∀ j oj,ops[j]? = some oj→j≠i→listed.getD j true=false→Bq ops j i∨(Et oj=false∧oi.apart ops oj=true∧Safe ops listed s oi oj)
theorem og.clear {i _j:Nat}{oi oj:Oper}{listed:Array Bool}(h:og ops i oi listed s)(hs:Safe ops listed s oi oj):Clear s oi oj:=by
 intro x hx v hv o hn
 refine⟨h.1 x hx v hv o hn,?_⟩
 rintro⟨t,y,u,off,e1,e2⟩
 rcases hs with hs | ⟨t',y',u',o',off',k1,k2,k3,_⟩
 ·exact hs t y u e1
 ·rw[e1] at k1
  cases k1
  rw[e2] at k2
  cases k2
  have:=k3 x hx v hv
  rw[hn] at this
  cases this
theorem og.next {i j:Nat}{oi oj:Oper}{listed:Array Bool}{s2:St}(h:og ops i oi listed s)(hj:ops[j]? = some oj)(hl:listed.getD j true=false)(h1:∀ x∈oi.op.operands,ev s2 x=ev s x)(h2:∀ t,oj.dst≠some t→assoc s2.env t=assoc s.env t)(h3:s.nx≤s2.nx):og ops i oi (listed.setIfInBounds j true) s2:=by
 refine⟨fun x hx u hu o hn=>?_,fun m om hm hne hml=>?_⟩
 ·rw[h1 x hx] at hu
  have:=h.1 x hx u hu o hn
  omega
 ·rcases h.2 m om hm hne (ld hml) with k0 | ⟨k0,k1,k2⟩
  ·exact .inl k0
  refine .inr ⟨k0,k1,?_⟩
  rcases k2 with k2 | ⟨t,y,v,o,off,e1,e2,e3,e4⟩
  ·exact .inl k2
  ·refine .inr ⟨t,y,v,o,off,e1,?_,fun x hx u hu=>e3 x hx u (by rw[← h1 x hx];exact hu),fun m' om' hm' hl'=>e4 m' om' hm' (ld hl')⟩
   rw[← e2]
   cases y with
   | tmp tt=>exact h2 tt (e4 j oj hj hl tt rfl)
   | _=>rfl
theorem hZ.set {listed:Array Bool}(hc:hZ ops listed){j:Nat}(hj:j∈Region.ready .any ops listed):hZ ops (listed.setIfInBounds j true):=by
 obtain⟨_,oi,hoi,hready⟩:=mem_ready.1 hj
 intro k ok hk hl e he hb
 by_cases hij:j=k
 ·subst hij
  have:ok=oi:=Option.some.inj (hk.symm.trans hoi)
  subst this
  exact getD_set_true (hready e he hb)
 ·rw[getD_set_ne false hij] at hl
  exact getD_set_true (hc k ok hk hl e he hb)
theorem XZ.hoist {K:St→Prop}(hK:∀ s s',lH s s'→K s→K s'){i:Nat}{oi:Oper}(hi:ops[i]? = some oi){c:CV}:∀ (f:Nat) (listed:Array Bool) (s:St),hZ ops listed →
  i∈Region.ready .any ops listed→og ops i oi listed s→cQ aj s oi.op=some c→(∀ s,cQ aj s oi.op=some c→bQ aj C.nt s oi=some (s.put oi.dst c)) →
  XZ P C aj ops K f (listed.setIfInBounds i true) (s.put oi.dst c)→XZ P C aj ops K (f+1) listed s:=by
 intro f
 induction f with
 | zero=>
  intro listed s _ hm _ hq hst hx
  refine⟨fun he=>by rw[he] at hm;simp at hm,fun j hj=>?_⟩
  by_cases e:i=j
  ·subst e
   exact⟨oi,hi,.inl ⟨_,hst s hq,hx⟩⟩
  ·have:=jk hj e
   rw[hx.1] at this
   simp at this
 | succ f ih=>
  intro listed s hcl hm hap hq hst hx
  refine⟨fun he=>by rw[he] at hm;simp at hm,fun j hj=>?_⟩
  by_cases e:i=j
  ·subst e
   exact⟨oi,hi,.inl ⟨_,hst s hq,hx⟩⟩
  ·obtain⟨oj,ho,hk0⟩:=hx.2 j (jk hj e)
   obtain⟨j1,oj',hoj',j2⟩:=mem_ready.1 hj
   have:oj'=oj:=Option.some.inj (hoj'.symm.trans ho)
   subst this
   obtain⟨i1,oi',hoi',i2⟩:=mem_ready.1 hm
   have hun:=getD_both i1
   rcases hap.2 j oj' ho (Ne.symm e) j1 with hb | ⟨hnc,hij,hsf⟩
   ·have:=hb listed hcl fun ok hok e' he' hb'=>by
     rw[ho] at hok;cases hok
     exact j2 e' he' hb'
    rw[hun] at this;cases this
   ·rcases hk0 with ⟨s1,hs,hk⟩ | ⟨hu,_⟩
    ·obtain⟨s2,k1,k2,k3,k4,k5,k6⟩:=zg hij (hap.clear (_j:=j) hsf) hq hs
     refine⟨oj',ho,.inl ⟨s2,k1,ih _ s2 (hcl.set hj) (jk hm (Ne.symm e)) (hap.next ho j1 k4 k5 k6) k2 hst ?_⟩⟩
     rw[Array.setIfInBounds_comm _ _ (Ne.symm e)]
     exact XZ.Dl hK f _ s1 _ k3 hk
    ·rw[hnc] at hu;cases hu
def Bg (ops:Array Oper)(listed:Array Bool):Bool:=(List.range ops.size).all fun j=>!listed.getD j false || match ops[j]? with
 | some o=>o.after.all fun e=>!Region.binds .any e || listed.getD e.on false
 | none=>true
theorem zW {listed:Array Bool}(h:Bg ops listed=true):hZ ops listed:=by
 intro j oj hj hl e he hb
 have hlt:=(Array.getElem?_eq_some_iff.1 hj).1
 have:=List.all_eq_true.1 h j (List.mem_range.2 hlt)
 simp only[hl,hj,Bool.not_true,Bool.false_or] at this
 have h2:=(Array.all_eq_true'.1 this) e he
 simpa [hb] using h2
def wv (ops:Array Oper)(listed:Array Bool)(s:St)(i:Nat):Bool:=
 Bg ops listed && (Region.ready .any ops listed).contains i && match ops[i]? with
  | none=>false
  | some oi=>dW oi.op && lowB s oi && (List.range ops.size).all fun j=>j == i || listed.getD j true || match ops[j]? with
   | some oj=>lW ops ops.size j i || (!Et oj && oi.apart ops oj && Ds ops listed s oi oj)
   | none=>true
theorem wu {i:Nat}{listed:Array Bool}{oi:Oper}(hi:ops[i]? = some oi)(h:wv ops listed s i=true):hZ ops listed∧i∈Region.ready .any ops listed∧dW oi.op=true∧og ops i oi listed s:=by
 unfold wv at h
 rw[hi] at h
 simp only[Bool.and_eq_true] at h
 obtain⟨⟨h0,h1⟩,⟨h2,h3⟩,h4⟩:=h
 refine⟨zW h0,by simpa using h1,h2,fun x hx u hu o hn=>?_,fun j oj hj hne hl=>?_⟩
 ·have:=List.all_eq_true.1 h3 x (by simpa using hx)
  rw[hu] at this
  cases u<;>simp only[names,Bool.false_eq_true] at hn
  ·simp only[decide_eq_true_eq] at this;simp only[beq_iff_eq] at hn;omega
  ·simp only[decide_eq_true_eq] at this;simp only[beq_iff_eq] at hn;omega
 ·have:=List.all_eq_true.1 h4 j (List.mem_range.2 (Array.getElem?_eq_some_iff.1 hj).1)
  simp only[hj,Bool.or_eq_true,beq_iff_eq,hne,false_or,hl,Bool.false_eq_true,Bool.and_eq_true] at this
  rcases this with h5 | ⟨⟨h5,h6⟩,h7⟩
  ·exact .inl (fN _ _ _ h5)
  ·exact .inr ⟨by simpa using h5,h6,zm h7⟩
theorem XZ.read {K:St→Prop}{f:Nat}{listed:Array Bool}{i:Nat}{o:Oper}(hb:wv ops listed s i=true)(ho:ops[i]? = some o)(h:sj (fun s'=>XZ P C aj ops (KS K) f (listed.setIfInBounds i true) s') (bQ aj C.nt s o)):XZ P C aj ops (KS K) (f+1) listed s:=by
 obtain⟨h0,h1,h2,h3⟩:=wu ho hb
 cases hs:bQ aj C.nt s o with
 | none=>rw[hs] at h;exact h.elim
 | some s'=>
  rw[hs] at h
  obtain⟨c,k1,rfl⟩:=De h2 hs
  refine XZ.hoist KS.Dl ho f listed s h0 h1 h3 k1 (fun u hu=>?_) h
  have hc:aW C.nt o.dst=true∧o.guard=none:=by
   unfold bQ at hs
   split at hs
   ·assumption
   ·cases hs
  unfold bQ
  rw[if_pos hc]
  have:iK aj u o.op=(cQ aj u o.op).map fun c=>(u.heap,u.nx,some c):=by
   cases hop:o.op<;>rw[hop] at h2<;>simp only[iK]
   all_goals first
    | (simp only[dW,Bool.false_eq_true] at h2;done)
    | rw[if_pos h2]
  rw[this,hu]
  rfl
theorem XZ.one {K:St→Prop}{f:Nat}{listed:Array Bool}{i:Nat}(hr:Region.ready .any ops listed=[i])(h:kr P C aj ops K f listed s i):XZ P C aj ops K (f+1) listed s:=by
 refine⟨fun he=>(by rw[hr] at he;cases he),fun k hk=>?_⟩
 rw[hr] at hk
 simp only[List.mem_singleton] at hk
 subst hk
 exact h
theorem XZ.two {K:St→Prop}{f:Nat}{listed:Array Bool}{i j:Nat}(hr:Region.ready .any ops listed=[i,j])(h:kr P C aj ops K f listed s i)(h':kr P C aj ops K f listed s j):XZ P C aj ops K (f+1) listed s:=by
 refine⟨fun he=>(by rw[hr] at he;cases he),fun k hk=>?_⟩
 rw[hr] at hk
 simp only[List.mem_cons,List.not_mem_nil,or_false] at hk
 rcases hk with rfl | rfl
 ·exact h
 ·exact h'
theorem kr.op {K:St→Prop}{f:Nat}{listed:Array Bool}{i:Nat}{o:Oper}(ho:ops[i]? = some o)(h:sj (fun s'=>XZ P C aj ops K f (listed.setIfInBounds i true) s') (bQ aj C.nt s o)):kr P C aj ops K f listed s i:=by
 cases hs:bQ aj C.nt s o with
 | none=>rw[hs] at h;exact h.elim
 | some s'=>rw[hs] at h;exact⟨o,ho,.inl ⟨s',hs,h⟩⟩
theorem kr.call {K:St→Prop}{f:Nat}{listed:Array Bool}{i:Nat}{o:Oper}(ho:ops[i]? = some o)(hu:Et o=true)(h:TL P C ops [o] s fun s'=>XZ P C aj ops K f (listed.setIfInBounds i true) s'):kr P C aj ops K f listed s i:=⟨o,ho,.inr ⟨hu,h⟩⟩
theorem XZ.end {K:St→Prop}{f:Nat}{listed:Array Bool}(hr:Region.ready .any ops listed=[])(h:K s):XZ P C aj ops (KS K) f listed s:=by
 cases f with
 | zero=>exact⟨hr,s,lH.refl s,h⟩
 | succ f=>exact⟨fun _=>⟨s,lH.refl s,h⟩,fun i hi=>(by rw[hr] at hi;cases hi)⟩
theorem TL.mono {l:List Oper}{K K':St→Prop}(h:∀ s,K s→K' s)(hx:TL P C ops l s K):TL P C ops l s K':=fun a w Q hr hQ=>hx a w Q hr fun s' a' w' hk hr'=>hQ s' a' w' (h s' hk) hr'
theorem XZ.tx (ht:aF P aj){K:St→Prop}:∀ (f:Nat) (listed:Array Bool) (s:St),XZ P C aj ops K f listed s→TX P C ops K f listed s
 | 0,_,_,h=>h
 | f+1,listed,s,h=>⟨h.1,fun i hi=>by
  obtain⟨o,ho,⟨s',hs,hk⟩ | ⟨_,hk⟩⟩:=h.2 i hi
  ·exact⟨o,ho,TL.step ht (xv hs) (TL.nil (XZ.tx ht f _ s' hk))⟩
  ·exact⟨o,ho,TL.mono (fun s' h'=>XZ.tx ht f _ s' h') hk⟩⟩
end
end Go.Can
namespace Go.Can
section
variable {P:Program}{C:Cx}{s:St}{aj:List (Nat×TI)}
theorem Le.Dl {s s':St}(h:lH s' s):Le C s s':=fun _a _w hr=>hr.congr (fun t=>(h.1 t).symm) h.2.1.symm h.2.2.symm
theorem TH.imp {nt:Nat}{ops:Array Oper}{K K':St→Prop}(hk:∀ s,K s→K' s):∀ {ord:List Nat} {s:St},TH P aj nt ops ord s K→TH P aj nt ops ord s K'
 | [],_,h=>hk _ h
 | _::_,_,⟨o,r,h1,h2,h3⟩=>⟨o,r,h1,h2,TH.imp hk h3⟩
theorem T.mo (ht:aF P aj)(hm:P.follows .mixedOrders=true){id:Nat}{l:List Oper}{Q:Exit→St→Prop}(pre:List Nat)(n:Nat)(hs:Region.noSelect l.toArray=true)(hp:xK l.toArray pre (Array.replicate l.toArray.size false)=true)(hl:pre.length≤l.toArray.size)(hn:l.toArray.size-pre.length=n)
  (h:AN aj C.nt l.toArray (Jc P aj C.nt l.toArray (fun s'=>XZ P C aj l.toArray (KS (Q .normal)) n (cf pre (Array.replicate l.toArray.size false)) s')) pre s):T P C (.region id l.toArray true) s Q:=by
 subst hn
 have h2:TH P aj C.nt l.toArray pre s fun s'=>TX P C l.toArray (KS (Q .normal)) (l.toArray.size-pre.length) (cf pre (Array.replicate l.toArray.size false)) s':=TH.imp (fun s' hx=>XZ.tx ht _ _ s' hx) (TH.go' h)
 refine T.post (Q':=thenS (KS (Q .normal)) Q) (T.explore (C:=C) (Q:=thenS (KS (Q .normal)) Q) ht hm pre hs hp hl h2) fun e s' q=>?_
 cases e with
 | normal=>
  obtain⟨s0,h1,h2⟩:=q
  exact⟨s0,h2,Le.Dl h1⟩
 | _=>exact⟨s',q,Le.refl _⟩
end
end Go.Can
namespace Go.bg
open Go.Can
def eY (left:Nat):ByteArray:=⟨#[118]⟩++⟨#[UInt8.ofNat (97+left % 26),UInt8.ofNat (97+left / 26 % 26)]⟩
structure HD where
 out:List Sm
 vars:List ByteArray
 i:Nat
 left:Nat
structure Wr where
 L:List Int
 ar:Bool
 ms:List Mx
 fs:List (ByteArray×List Pm)
abbrev Rec:=List ByteArray→Nat→Nat→Nat→Nat→List Sm×Nat×Nat
def yu (w:Wr)(rec:Rec)(ps:List Pm)(vars:List ByteArray)(i left:Nat):HD:=
 ⟨.dg false (iM w.L w.ar w.ms ps vars i).1::(rec vars 0 2 (iM w.L w.ar w.ms ps vars i).2 left).1++[.dg true (iM w.L w.ar w.ms ps vars i).1],vars,(rec vars 0 2 (iM w.L w.ar w.ms ps vars i).2 left).2.1,(rec vars 0 2 (iM w.L w.ar w.ms ps vars i).2 left).2.2⟩
def gk (w:Wr)(ps:List Pm)(vars:List ByteArray)(go:Bool)(i left:Nat):HD:=
 ⟨[.dI go (w.fs.getD (bS w.L i w.fs.length).1 (eS,[])).1 (cU w.L w.ar w.ms ps vars (w.fs.getD (bS w.L i w.fs.length).1 (eS,[])).2 (bS w.L i w.fs.length).2).1],vars,(cU w.L w.ar w.ms ps vars (w.fs.getD (bS w.L i w.fs.length).1 (eS,[])).2 (bS w.L i w.fs.length).2).2,left⟩
def JU (w:Wr)(rec:Rec)(vars:List ByteArray)(deep i left:Nat):HD:=
 let e:=da w.L w.ar vars i
 let th:=rec vars (deep-1) 3 e.2 left
 let c:=bS w.L th.2.1 2
 if c.1=1 then
  let el:=rec vars (deep-1) 3 c.2 th.2.2
  ⟨[.ku e.1 th.1 el.1],vars,el.2.1,el.2.2⟩
 else ⟨[.ku e.1 th.1 []],vars,c.2,th.2.2⟩
def Ja (w:Wr)(rec:Rec)(vars:List ByteArray)(deep i left:Nat):HD:=
 let e:=da w.L w.ar vars i
 let th:=rec vars (deep-1) 3 e.2 left
 ⟨[.cj e.1 th.1],vars,th.2.1,th.2.2⟩
def wY (w:Wr)(rec:Rec)(ps:List Pm)(vars:List ByteArray)(deep i0 left:Nat):HD:=
 let k:=(bS w.L i0 14).1
 let i:=(bS w.L i0 14).2
 if k<4 then ⟨[.dg false (iM w.L w.ar w.ms ps vars i).1],vars,(iM w.L w.ar w.ms ps vars i).2,left⟩
 else if k<7 then ⟨[.dg true (iM w.L w.ar w.ms ps vars i).1],vars,(iM w.L w.ar w.ms ps vars i).2,left⟩
 else if k=7 then ⟨[.gr (eY left) (da w.L w.ar vars i).1],vars++[eY left],(da w.L w.ar vars i).2,left⟩
 else if k=8∧0<vars.length then ⟨[.gV (vars.getD (bS w.L i vars.length).1 eS) (da w.L w.ar vars (bS w.L i vars.length).2).1],vars,(da w.L w.ar vars (bS w.L i vars.length).2).2,left⟩
 else if k=9 then gk w ps vars false i left
 else if k=10 then gk w ps vars true i left
 else if k=11∧0<deep then JU w rec vars deep i left
 else if k=12∧0<deep then Ja w rec vars deep i left
 else if k=13∧(bS w.L i 3).1=1 then ⟨[.iU],vars,(bS w.L i 3).2,left⟩
 else if k=13 then yu w rec ps vars (bS w.L i 3).2 left
 else yu w rec ps vars i left
def qt (w:Wr)(rec:Rec)(ps:List Pm)(deep:Nat):Nat→List ByteArray→Nat→Nat→List Sm×Nat×Nat
 | 0,_,i,left=>([],i,left)
 | n+1,vars,i,left=>
  if left=0 then ([],i,left) else
  let s:=wY w rec ps vars deep i (left-1)
  let r:=qt w rec ps deep n s.vars s.i s.left
  (s.out++r.1,r.2)
def lQ (w:Wr)(ps:List Pm):Nat→Rec
 | 0=>fun _ _ most i left=>([],(bS w.L i (most+1)).2,left)
 | f+1=>fun vars deep most i left=>qt w (lQ w ps f) ps deep (bS w.L i (most+1)).1 vars (bS w.L i (most+1)).2 left
def tB (L:List Int)(rec:Rec):Prop:=∀ vars deep most i left,i≤L.length→(rec vars deep most i left).2.1≤L.length∧(rec vars deep most i left).1.length+2*(rec vars deep most i left).2.2≤2*left
structure Fp (L:List Int)(vars:List ByteArray)(left:Nat)(b:HD):Prop where
 i:b.i≤L.length
 n:b.out.length+2*b.left≤2*(left+1)
 v:b.vars.length+b.left≤vars.length+left+1
 l:b.left≤left
 p:0<b.out.length
theorem A9 {w:Wr}{rec:Rec}(h:tB w.L rec)(ps:List Pm)(vars:List ByteArray){i:Nat}(left:Nat)(hi:i≤w.L.length):Fp w.L vars left (yu w rec ps vars i left):=by
 obtain⟨h1,h2⟩:=h vars 0 2 _ left (oL w.L w.ar w.ms ps vars hi)
 refine⟨h1,?_,?_,?_,?_⟩<;>simp only[yu,List.length_append,List.length_cons,List.length_nil]<;>omega
theorem yL {w:Wr}(ps:List Pm)(vars:List ByteArray)(go:Bool){i:Nat}(left:Nat)(hi:i≤w.L.length):Fp w.L vars left (gk w ps vars go i left):=by
 refine⟨pw _ _ _ _ _ _ (a8 _ _ hi),?_,?_,?_,?_⟩<;>simp only[gk,List.length_cons,List.length_nil]<;>omega
theorem HI {w:Wr}{rec:Rec}(h:tB w.L rec)(vars:List ByteArray)(deep:Nat){i:Nat}(left:Nat)(hi:i≤w.L.length):Fp w.L vars left (Ja w rec vars deep i left):=by
 obtain⟨h1,h2⟩:=h vars (deep-1) 3 _ left (jw w.L w.ar vars hi)
 refine⟨h1,?_,?_,?_,?_⟩<;>simp only[Ja,List.length_cons,List.length_nil]<;>omega
theorem IA {w:Wr}{rec:Rec}(h:tB w.L rec)(vars:List ByteArray)(deep:Nat){i:Nat}(left:Nat)(hi:i≤w.L.length):Fp w.L vars left (JU w rec vars deep i left):=by
 obtain⟨h1,h2⟩:=h vars (deep-1) 3 _ left (jw w.L w.ar vars hi)
 obtain⟨h3,h4⟩:=h vars (deep-1) 3 (bS w.L (rec vars (deep-1) 3 (da w.L w.ar vars i).2 left).2.1 2).2 (rec vars (deep-1) 3 (da w.L w.ar vars i).2 left).2.2 (a8 _ _ h1)
 unfold JU
 simp only
 split
 ·refine⟨h3,?_,?_,?_,?_⟩<;>simp only[List.length_cons,List.length_nil]<;>omega
 ·refine⟨a8 _ _ h1,?_,?_,?_,?_⟩<;>simp only[List.length_cons,List.length_nil]<;>omega
theorem Dg {w:Wr}{rec:Rec}(h:tB w.L rec)(ps:List Pm)(vars:List ByteArray)(deep:Nat){i:Nat}(left:Nat)(hi:i≤w.L.length):Fp w.L vars left (wY w rec ps vars deep i left):=by
 have hi1:=a8 w.L 14 hi
 unfold wY
 simp only
 split
 ·exact⟨oL _ _ _ _ _ hi1,by simp<;>omega,by simp<;>omega,Nat.le_refl _,by simp⟩
 split
 ·exact⟨oL _ _ _ _ _ hi1,by simp<;>omega,by simp<;>omega,Nat.le_refl _,by simp⟩
 split
 ·exact⟨jw _ _ _ hi1,by simp<;>omega,by simp<;>omega,Nat.le_refl _,by simp⟩
 split
 ·exact⟨jw _ _ _ (a8 _ _ hi1),by simp<;>omega,by simp<;>omega,Nat.le_refl _,by simp⟩
 split
 ·exact yL ps vars false left hi1
 split
 ·exact yL ps vars true left hi1
 split
 ·exact IA h vars deep left hi1
 split
 ·exact HI h vars deep left hi1
 split
 ·exact⟨a8 _ _ hi1,by simp<;>omega,by simp<;>omega,Nat.le_refl _,by simp⟩
 split
 ·exact A9 h ps vars left (a8 _ _ hi1)
 ·exact A9 h ps vars left hi1
theorem D2 {w:Wr}{rec:Rec}(h:tB w.L rec)(ps:List Pm)(deep:Nat):∀ (n:Nat) (vars:List ByteArray) (i left:Nat),i≤w.L.length→(qt w rec ps deep n vars i left).2.1≤w.L.length∧(qt w rec ps deep n vars i left).1.length+2*(qt w rec ps deep n vars i left).2.2≤2*left
 | 0,vars,i,left,hi=>⟨hi,by simp[qt]⟩
 | n+1,vars,i,left,hi=>by
  rw[qt]
  split
  ·exact⟨hi,by simp⟩
  ·have h1:=Dg h ps vars deep (left-1) hi
   obtain⟨h2,h3⟩:=D2 h ps deep n (wY w rec ps vars deep i (left-1)).vars (wY w rec ps vars deep i (left-1)).i (wY w rec ps vars deep i (left-1)).left h1.i
   refine⟨h2,?_⟩
   have:=h1.n
   simp only[List.length_append]
   omega
theorem ry (w:Wr)(ps:List Pm):∀ f:Nat,tB w.L (lQ w ps f)
 | 0=>fun vars deep most i left hi=>⟨a8 _ _ hi,by simp[lQ]⟩
 | f+1=>fun vars deep most i left hi=>D2 (ry w ps f) ps deep _ vars _ left (a8 _ _ hi)
end Go.bg
namespace Go.bg
open Go.Can
def dK (n:Nat):ByteArray:=⟨#[UInt8.ofNat n]⟩
def pD (L:List Int):Nat→Nat→Nat→List Mx×Nat
 | 0,_,i=>([],i)
 | n+1,j,i=>
  if (bS L i 5).1=1 then (⟨dK (97+j),true,0⟩ :: (pD L n (j+1) (bS L i 5).2).1,(pD L n (j+1) (bS L i 5).2).2)
  else if (bS L i 5).1=2 then (⟨dK (97+j),false,1+(bS L (bS L i 5).2 3).1⟩ :: (pD L n (j+1) (bS L (bS L i 5).2 3).2).1,(pD L n (j+1) (bS L (bS L i 5).2 3).2).2)
  else (⟨dK (97+j),false,0⟩ :: (pD L n (j+1) (bS L i 5).2).1,(pD L n (j+1) (bS L i 5).2).2)
def uj (L:List Int):Nat→Nat→Nat→List Gl×Nat
 | 0,_,i=>([],i)
 | n+1,j,i=>(⟨⟨#[103]⟩++dK (48+j),((bS L i 5).1:Int)-2⟩ :: (uj L n (j+1) (bS L i 5).2).1,(uj L n (j+1) (bS L i 5).2).2)
def Au (L:List Int):Nat→Nat→List Pm×Nat
 | 0,i=>([],i)
 | n+1,i=>(⟨⟨#[112]⟩++dK (48+(n+1)),decide (0<(bS L i 3).1)⟩ :: (Au L n (bS L i 3).2).1,(Au L n (bS L i 3).2).2)
def sP (L:List Int):Nat→Nat→Nat→List Fu×Nat
 | 0,_,i=>([],i)
 | n+1,j,i=>
  let p:=Au L (if j=0 then 0 else (bS L i 3).1) (bS L i 3).2
  (⟨if j=0 then ⟨#[109,97,105,110]⟩ else ⟨#[102]⟩++dK (48+j),p.1,[]⟩ :: (sP L n (j+1) p.2).1,(sP L n (j+1) p.2).2)
def iY (gs:List Gl)(ps:List Pm):List ByteArray:=gs.map (·.name)++ps.flatMap fun p=>if p.mutex=true then [] else [p.name]
def GQ (w:Wr)(gs:List Gl):Nat→Nat→List Fu→Nat→Nat→List Fu
 | 0,_,fs,_,_=>fs
 | n+1,j,fs,i,left=>
  match fs[j]? with
  | none=>fs
  | some f=>
   let b:=lQ w f.params left (iY gs f.params) 2 6 i left
   GQ w gs n (j+1) (fs.set j ⟨f.name,f.params,b.1⟩) b.2.1 b.2.2
def ss (l:List Int):Pg:=
 let L:=l.take 400
 let a:=bS L 0 3
 let nm:=bS L a.2 4
 let ms:=pD L (1+nm.1) 0 nm.2
 let ng:=bS L ms.2 3
 let gs:=uj L ng.1 0 ng.2
 let nf:=bS L gs.2 4
 let fs:=sP L (nf.1+1) 0 nf.2
 ⟨gs.1,ms.1,GQ ⟨L,decide (a.1=1),ms.1,fs.1.map fun f=>(f.name,f.params)⟩ gs.1 (nf.1+1) 0 fs.1 fs.2 24⟩
end Go.bg
