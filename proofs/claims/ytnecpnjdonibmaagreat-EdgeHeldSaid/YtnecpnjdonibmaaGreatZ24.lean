/- The exploration of a draw with calls: readings hoisted past  -/
import Derived.Test.YtnecpnjdonibmaaGreatZ23
import Derived.Laws.Strings
namespace Go.Can
open Go.RowKit
section
variable {P:Program}{C:Cx}{s:St}{ops:Array Oper}{ak:List (Nat×TI)}
def IB (o:Oper):Bool:=match o.op with | .store _ _ _=>false | .box _ _=>false | .buildSlice _ _ _=>false | op=>!ni op
def XZ (P:Program)(C:Cx)(ak:List (Nat×TI))(ops:Array Oper)(K:St→Prop):Nat→Array Bool→St→Prop
 | 0,listed,s=>Region.ready .any ops listed=[]∧K s
 | f+1,listed,s=>(Region.ready .any ops listed=[]→K s)∧∀ i∈Region.ready .any ops listed,∃ o,ops[i]? = some o∧
   ((∃ s',dW ak C.nt s o=some s'∧XZ P C ak ops K f (listed.setIfInBounds i true) s')∨(IB o=true∧TL P C ops [o] s fun s'=>XZ P C ak ops K f (listed.setIfInBounds i true) s'))
@[congr] theorem XZ_congr {s s':St}{K:St→Prop}{f:Nat}{l:Array Bool}(h:s=s'):XZ P C ak ops K f l s=XZ P C ak ops K f l s':=by rw[h]
def BR (P:Program)(C:Cx)(ak:List (Nat×TI))(ops:Array Oper)(K:St→Prop)(f:Nat)(listed:Array Bool)(s:St)(i:Nat):Prop:=
 ∃ o,ops[i]? = some o∧((∃ s',dW ak C.nt s o=some s'∧XZ P C ak ops K f (listed.setIfInBounds i true) s')∨(IB o=true∧TL P C ops [o] s fun s'=>XZ P C ak ops K f (listed.setIfInBounds i true) s'))
theorem TL.Hl {l:List Oper}{K:St→Prop}{s s':St}(h:mX s s')(hx:TL P C ops l s K):TL P C ops l s' K:=fun a w Q hr hQ=>hx a w Q (hr.congr (fun t=>(h.1 t).symm) h.2.1.symm h.2.2.symm) hQ
theorem XZ.Hl {K:St→Prop}(hK:∀ s s',mX s s'→K s→K s'):∀ (f:Nat) (listed:Array Bool) (s s':St),mX s s'→XZ P C ak ops K f listed s→XZ P C ak ops K f listed s'
 | 0,_,s,s',h,hx=>⟨hx.1,hK s s' h hx.2⟩
 | f+1,listed,s,s',h,hx=>by
  refine⟨fun he=>hK s s' h (hx.1 he),fun i hi=>?_⟩;obtain⟨o,ho,⟨s1,hs,hk⟩ | ⟨hu,hk⟩⟩:=hx.2 i hi
  ·obtain⟨s2,h2,h3⟩:=E9 h hs;exact⟨o,ho,.inl ⟨s2,h2,XZ.Hl hK f _ s1 s2 h3 hk⟩⟩
  ·exact⟨o,ho,.inr ⟨hu,TL.Hl h hk⟩⟩
def p8 (ops:Array Oper)(i:Nat)(oi:Oper)(listed:Array Bool)(s:St):Prop:=
 (∀ x∈oi.op.operands,∀ u,ev s x=some u→∀ o,names o u=true→o<s.nx)∧
  ∀ j oj,ops[j]? = some oj→j≠i→listed.getD j true=false→EU ops j i∨(IB oj=false∧oi.apart ops oj=true∧Safe ops listed s oi oj)
theorem p8.clear {i:Nat}{oi oj:Oper}{listed:Array Bool}(h:p8 ops i oi listed s)(hs:Safe ops listed s oi oj):Clear s oi oj:=by
 intro x hx v hv o hn;refine⟨h.1 x hx v hv o hn,?_⟩;rintro⟨t,y,u,off,e1,e2⟩;rcases hs with hs | ⟨t',y',u',o',off',k1,k2,k3,_⟩
 ·exact hs t y u e1
 ·rw[e1] at k1;cases k1;rw[e2] at k2;cases k2;have:=k3 x hx v hv;rw[hn] at this;cases this
theorem p8.next {i j:Nat}{oi oj:Oper}{listed:Array Bool}{s2:St}(h:p8 ops i oi listed s)(hj:ops[j]? = some oj)(hl:listed.getD j true=false)(h1:∀ x∈oi.op.operands,ev s2 x=ev s x)(h2:∀ t,oj.dst≠some t→assoc s2.env t=assoc s.env t)(h3:s.nx≤s2.nx):p8 ops i oi (listed.setIfInBounds j true) s2:=by
 refine⟨fun x hx u hu o hn=>?_,fun m om hm Pf P3=>?_⟩
 ·rw[h1 x hx] at hu;have:=h.1 x hx u hu o hn;omega
 ·rcases h.2 m om hm Pf (mq P3) with k0 | ⟨k0,k1,k2⟩
  ·exact .inl k0
  refine .inr ⟨k0,k1,?_⟩;rcases k2 with k2 | ⟨t,y,v,o,off,e1,e2,e3,e4⟩
  ·exact .inl k2
  ·refine .inr ⟨t,y,v,o,off,e1,?_,fun x hx u hu=>e3 x hx u (by rw[← h1 x hx];exact hu),fun m' om' UQ RS=>e4 m' om' UQ (mq RS)⟩;rw[← e2]
   cases y with
   | tmp tt=>exact h2 tt (e4 j oj hj hl tt rfl)
   | _=>rfl
theorem iS.set {listed:Array Bool}(hc:iS ops listed){j:Nat}(hj:j∈Region.ready .any ops listed):iS ops (listed.setIfInBounds j true):=by
 obtain⟨_,oi,Qo,PU⟩:=mem_ready.1 hj;intro k ok hk hl e he hb;by_cases Qr:j=k
 ·subst Qr;have:ok=oi:=Option.some.inj (hk.symm.trans Qo);subst this;exact getD_set_true (PU e he hb)
 ·rw[getD_set_ne false Qr] at hl;exact getD_set_true (hc k ok hk hl e he hb)
theorem XZ.hoist {K:St→Prop}(hK:∀ s s',mX s s'→K s→K s'){i:Nat}{oi:Oper}(hi:ops[i]? = some oi){c:CV}:∀ (f:Nat) (listed:Array Bool) (s:St),iS ops listed →
  i∈Region.ready .any ops listed→p8 ops i oi listed s→cY ak s oi.op=some c→(∀ s,cY ak s oi.op=some c→dW ak C.nt s oi=some (s.put oi.dst c)) →
  XZ P C ak ops K f (listed.setIfInBounds i true) (s.put oi.dst c)→XZ P C ak ops K (f+1) listed s:=by
 intro f
 induction f with
 | zero=>
  intro listed s _ hm _ hq Pw hx;refine⟨fun he=>by rw[he] at hm;simp at hm,fun j hj=>?_⟩;by_cases e:i=j
  ·subst e;exact⟨oi,hi,.inl ⟨_,Pw s hq,hx⟩⟩
  ·have:=jY hj e;rw[hx.1] at this;simp at this
 | succ f ih=>
  intro listed s O7 hm PJ hq Pw hx;refine⟨fun he=>by rw[he] at hm;simp at hm,fun j hj=>?_⟩;by_cases e:i=j
  ·subst e;exact⟨oi,hi,.inl ⟨_,Pw s hq,hx⟩⟩
  ·obtain⟨oj,ho,Zj⟩:=hx.2 j (jY hj e);obtain⟨j1,TK,W3,j2⟩:=mem_ready.1 hj;have:TK=oj:=Option.some.inj (W3.symm.trans ho);subst this;obtain⟨i1,oi',W4,i2⟩:=mem_ready.1 hm;have Tq:=getD_both i1;rcases PJ.2 j TK ho (Ne.symm e) j1 with hb | ⟨W6,Qr,Wh⟩
   ·have:=hb listed O7 fun ok Pe e' Zx Po=>by
     rw[ho] at Pe;cases Pe;exact j2 e' Zx Po
    rw[Tq] at this;cases this
   ·rcases Zj with ⟨s1,hs,hk⟩ | ⟨hu,_⟩
    ·obtain⟨s2,k1,k2,k3,k4,k5,k6⟩:=Cf Qr (PJ.clear Wh) hq hs;refine⟨TK,ho,.inl ⟨s2,k1,ih _ s2 (O7.set hj) (jY hm (Ne.symm e)) (PJ.next ho j1 k4 k5 k6) k2 Pw ?_⟩⟩;rw[Array.setIfInBounds_comm _ _ (Ne.symm e)];exact XZ.Hl hK f _ s1 _ k3 hk
    ·rw[W6] at hu;cases hu
def EE (ops:Array Oper)(listed:Array Bool):Bool:=(List.range ops.size).all fun j=>!listed.getD j false || match ops[j]? with
 | some o=>o.after.all fun e=>!Region.binds .any e || listed.getD e.on false
 | none=>true
theorem C4 {listed:Array Bool}(h:EE ops listed=true):iS ops listed:=by
 intro j oj hj hl e he hb;have O1:=(Array.getElem?_eq_some_iff.1 hj).1;have:=List.all_eq_true.1 h j (List.mem_range.2 O1);simp only[hl,hj,Bool.not_true,Bool.false_or] at this;have h2:=(Array.all_eq_true'.1 this) e he
 simpa [hb] using h2
def zx (ops:Array Oper)(listed:Array Bool)(s:St)(i:Nat):Bool:=
 EE ops listed && (Region.ready .any ops listed).contains i && match ops[i]? with
  | none=>false
  | some oi=>ni oi.op && lowB s oi && (List.range ops.size).all fun j=>j == i || listed.getD j true || match ops[j]? with
   | some oj=>nA ops ops.size j i || (!IB oj && oi.apart ops oj && Hu ops listed s oi oj)
   | none=>true
theorem zw {i:Nat}{listed:Array Bool}{oi:Oper}(hi:ops[i]? = some oi)(h:zx ops listed s i=true):iS ops listed∧i∈Region.ready .any ops listed∧ni oi.op=true∧p8 ops i oi listed s:=by
 unfold zx at h;rw[hi] at h;simp only[Bool.and_eq_true] at h;obtain⟨⟨h0,h1⟩,⟨h2,h3⟩,h4⟩:=h;refine⟨C4 h0,by simpa using h1,h2,fun x hx u hu o hn=>?_,fun j oj hj Pf hl=>?_⟩
 ·have:=List.all_eq_true.1 h3 x WB;rw[hu] at this;cases u<;>simp only[names,Bool.false_eq_true] at hn
  ·simp only[decide_eq_true_eq] at this;simp only[beq_iff_eq] at hn;omega
  ·simp only[decide_eq_true_eq] at this;simp only[beq_iff_eq] at hn;omega
 ·have:=List.all_eq_true.1 h4 j (List.mem_range.2 (Array.getElem?_eq_some_iff.1 hj).1);simp only[hj,Bool.or_eq_true,beq_iff_eq,Pf,false_or,hl,Bool.false_eq_true,Bool.and_eq_true] at this;rcases this with h5 | ⟨⟨h5,h6⟩,h7⟩
  ·exact .inl (gH _ _ _ h5)
  ·exact .inr ⟨by simpa using h5,h6,Cn h7⟩
theorem XZ.read {K:St→Prop}{f:Nat}{listed:Array Bool}{i:Nat}{o:Oper}(hb:zx ops listed s i=true)(ho:ops[i]? = some o)(h:xM (fun s'=>XZ P C ak ops (KS K) f (listed.setIfInBounds i true) s') (dW ak C.nt s o)):XZ P C ak ops (KS K) (f+1) listed s:=by
 obtain⟨h0,h1,h2,h3⟩:=zw ho hb
 cases hs:dW ak C.nt s o with
 | none=>rw[hs] at h;exact h.elim
 | some s'=>
  rw[hs] at h;obtain⟨c,k1,rfl⟩:=Hf h2 hs;refine XZ.hoist KS.Hl ho f listed s h0 h1 h3 k1 (fun u hu=>?_) h;have hc:a6 C.nt o.dst=true∧o.guard=none:=by
   unfold dW at hs;split at hs
   ·assumption
   ·cases hs
  unfold dW;rw[if_pos hc];have:sy ak u o.op=(cY ak u o.op).map fun c=>(u.heap,u.nx,some c):=by
   cases O8:o.op<;>rw[O8] at h2<;>simp only[sy]
   all_goals first
    | (simp only[ni,Bool.false_eq_true] at h2;done)
    | rw[if_pos h2]
  rw[this,hu];rfl
theorem XZ.one {K:St→Prop}{f:Nat}{listed:Array Bool}{i:Nat}(hr:Region.ready .any ops listed=[i])(h:BR P C ak ops K f listed s i):XZ P C ak ops K (f+1) listed s:=by
 refine⟨fun he=>(by rw[hr] at he;cases he),fun k hk=>?_⟩;rw[hr] at hk;simp only[List.mem_singleton] at hk;subst hk;exact h
theorem XZ.two {K:St→Prop}{f:Nat}{listed:Array Bool}{i j:Nat}(hr:Region.ready .any ops listed=[i,j])(h:BR P C ak ops K f listed s i)(h':BR P C ak ops K f listed s j):XZ P C ak ops K (f+1) listed s:=by
 refine⟨fun he=>(by rw[hr] at he;cases he),fun k hk=>?_⟩;rw[hr] at hk;simp only[List.mem_cons,List.not_mem_nil,or_false] at hk;rcases hk with rfl | rfl
 ·exact h
 ·exact h'
theorem BR.op {K:St→Prop}{f:Nat}{listed:Array Bool}{i:Nat}{o:Oper}(ho:ops[i]? = some o)(h:xM (fun s'=>XZ P C ak ops K f (listed.setIfInBounds i true) s') (dW ak C.nt s o)):BR P C ak ops K f listed s i:=by
 cases hs:dW ak C.nt s o with
 | none=>rw[hs] at h;exact h.elim
 | some s'=>rw[hs] at h;exact⟨o,ho,.inl ⟨s',hs,h⟩⟩
theorem BR.call {K:St→Prop}{f:Nat}{listed:Array Bool}{i:Nat}{o:Oper}(ho:ops[i]? = some o)(hu:IB o=true)(h:TL P C ops [o] s fun s'=>XZ P C ak ops K f (listed.setIfInBounds i true) s'):BR P C ak ops K f listed s i:=⟨o,ho,.inr ⟨hu,h⟩⟩
theorem XZ.end {K:St→Prop}{f:Nat}{listed:Array Bool}(hr:Region.ready .any ops listed=[])(h:K s):XZ P C ak ops (KS K) f listed s:=by
 cases f with
 | zero=>exact⟨hr,s,mX.refl s,h⟩
 | succ f=>exact⟨fun _=>⟨s,mX.refl s,h⟩,fun i hi=>(by rw[hr] at hi;cases hi)⟩
theorem TL.mono {l:List Oper}{K K':St→Prop}(h:∀ s,K s→K' s)(hx:TL P C ops l s K):TL P C ops l s K':=fun a w Q hr hQ=>hx a w Q hr fun s' a' w' hk Pp=>hQ s' a' w' (h s' hk) Pp
theorem XZ.tx (ht:aG P ak){K:St→Prop}:∀ (f:Nat) (listed:Array Bool) (s:St),XZ P C ak ops K f listed s→TX P C ops K f listed s
 | 0,_,_,h=>h
 | f+1,listed,s,h=>⟨h.1,fun i hi=>by
  obtain⟨o,ho,⟨s',hs,hk⟩ | ⟨_,hk⟩⟩:=h.2 i hi
  ·exact⟨o,ho,TL.step ht (Aq hs) (TL.nil (XZ.tx ht f _ s' hk))⟩
  ·exact⟨o,ho,TL.mono (fun s' h'=>XZ.tx ht f _ s' h') hk⟩⟩
end
end Go.Can
namespace Go.Can
section
variable {P:Program}{C:Cx}{s:St}{ak:List (Nat×TI)}
theorem Le.Hl {s s':St}(h:mX s' s):Le C s s':=fun _a _w hr=>hr.congr (fun t=>(h.1 t).symm) h.2.1.symm h.2.2.symm
theorem TH.imp {nt:Nat}{ops:Array Oper}{K K':St→Prop}(hk:∀ s,K s→K' s):∀ {ord:List Nat} {s:St},TH P ak nt ops ord s K→TH P ak nt ops ord s K'
 | [],_,h=>hk _ h
 | _::_,_,⟨o,r,h1,h2,h3⟩=>⟨o,r,h1,h2,TH.imp hk h3⟩
theorem T.IL (ht:aG P ak)(hm:P.follows .mixedOrders=true){id:Nat}{l:List Oper}{Q:Exit→St→Prop}(pre:List Nat)(n:Nat)(hs:Region.noSelect l.toArray=true)(hp:AL l.toArray pre (Array.replicate l.toArray.size false)=true)(hl:pre.length≤l.toArray.size)(hn:l.toArray.size-pre.length=n)
  (h:Ee ak C.nt l.toArray (NX P ak C.nt l.toArray (fun s'=>XZ P C ak l.toArray (KS (Q .normal)) n (cF pre (Array.replicate l.toArray.size false)) s')) pre s):T P C (.region id l.toArray true) s Q:=by
 subst hn;have h2:TH P ak C.nt l.toArray pre s fun s'=>TX P C l.toArray (KS (Q .normal)) (l.toArray.size-pre.length) (cF pre (Array.replicate l.toArray.size false)) s':=TH.imp (fun s' hx=>XZ.tx ht _ _ s' hx) (TH.go' h);refine T.post (Q':=eU (KS (Q .normal)) Q) (T.explore (C:=C) (Q:=eU (KS (Q .normal)) Q) ht hm pre hs hp hl h2) fun e s' q=>?_
 cases e with
 | normal=>
  obtain⟨s0,h1,h2⟩:=q;exact⟨s0,h2,Le.Hl h1⟩
 | _=>exact⟨s',q,Le.refl _⟩
end
end Go.Can
namespace Go.aP
open Go.Can
section
variable {ms:List Mx}{fs:List (ByteArray×List Pm)}{ps:List Pm}(Qx:∀ m∈ms,dn m.name)(Q4:∀ f∈fs,dn f.1)(QN:∀ p∈ps,dn p.name)
theorem iV (c:UInt8)(h:c∈me∧c≠60∧c≠62∧c≠61∧c≠33∧c≠47):cb Any ⟨#[c]⟩ 1 1:=cb.sign h.1 h.2
theorem cb.Ll {s:ByteArray}(h:(bs s).all iJ=true):cb Any s 0 (bs s).length:=by
 refine⟨Nat.le_refl _,fun r n _ hl=>?_⟩;generalize bs s=l at h
 induction l with
 | nil=>exact hl
 | cons c t ih=>
  simp only[List.all_cons,Bool.and_eq_true] at h;exact Lx.sp h.1 (ih h.2)
include Qx QN in
theorem cb.rf {V:List ByteArray}(hV:∀ s∈V,dn s){r:Rf}(h:Gy ms ps V r):cb Stop (Cq r) 10 186:=by
 have hn:dn r.name:=by
  rcases h with ⟨m,h1,h2,_⟩ | ⟨p,h1,_,h2,_⟩
  ·rw[h2];exact Qx m h1
  ·rw[h2];exact QN p h1
 have h0:=cb.nm hn;unfold Cq
 cases hi:r.index with
 | none=>exact h0.mono yA yA
 | some e=>
  have he:fS V 1 e:=by
   rcases h with ⟨m,_,_,h3 | ⟨e',h3,_,h5⟩⟩ | ⟨_,_,_,_,h3⟩
   ·rw[h3.1] at hi;cases hi
   ·rw[h3] at hi;cases hi;exact h5
   ·rw[h3] at hi;cases hi
  have h1:=(h0.app (iV 91 Pb) fun r _=>Stop.cons _ Pb).app (cb.ex hV 1 e he) fun _ _=>trivial;have h2:=h1.app (iV 93 Pb) fun r _=>Stop.cons _ Pb;exact (h2.any Stop).mono (by simp[B1]) (by simp[B1])
theorem ph (l:List UInt8)(s:ByteArray)(hs:bs s=l++[32])(h:(∃ c t,l=c::t∧isLet c=true)∧l.all fK=true∧l.length≤16):cb Any s 1 17:=cb.word h.1 h.2.1 h.2.2 s hs
theorem xo:cb Any ⟨#[109,117,116,101,120,32]⟩ 1 17:=ph [109,117,116,101,120] _ rfl ⟨⟨_,_,rfl,by decide⟩,by decide,by decide⟩
include Qx QN in
theorem cb.ar {V:List ByteArray}(hV:∀ s∈V,dn s){p:Pm}{a:Ar}(h:ArW ms ps V p a):cb Stop (OS a) 19 456:=by
 cases a with
 | vm r=>
  simp only[ArW] at h;exact (xo.app (cb.rf Qx QN hV h.2) fun _ _=>trivial).mono yA yA
 | exp e=>
  simp only[ArW] at h;exact (cb.ex hV 2 e h.2).mono (by simp[B1]) (by simp[B1])
theorem BE:cb Any ⟨#[44,32]⟩ 1 2:=⟨Nat.le_refl _,fun _ _ _ hl=>Lx.zg Pb Pb (Lx.sp Pb hl)⟩
theorem Gh (l:List Ar)(r:List UInt8)(hr:Stop r):Stop (bs (wv false l)++r):=by
 cases l with
 | nil=>exact hr
 | cons a t=>
  rw[wv];simp only[Bool.false_eq_true,if_false,gM];exact Stop.cons _ Pb
include Qx QN in
theorem cb.aR {V:List ByteArray}(hV:∀ s∈V,dn s):∀ (first:Bool) {gp:List Pm} {l:List Ar},jw ms ps V gp l→cb Stop (wv first l) (20*l.length) (458*l.length)
 | _,[],[],_=>cb.nil _
 | first,p::gp,a::l,h=>by
  simp only[jw] at h;have h1:=(cb.ar Qx QN hV h.1).app (cb.aR hV false h.2) fun r hr=>Gh l r hr;rw[Go.aP.wv,ByteArray.append_assoc]
  cases first with
  | true=>exact (((cb.nil Any).app h1 fun _ _=>trivial)).mono XI XI
  | false=>exact ((BE.app h1 fun _ _=>trivial)).mono XI XI
 | _,[],_::_,h=>h.elim
 | _,_::_,[],h=>h.elim
include Qx QN in
theorem cb.ars {V:List ByteArray}(hV:∀ s∈V,dn s){gp:List Pm}{l:List Ar}(h:jw ms ps V gp l):cb Any (tM l) (2+20*l.length) (2+458*l.length):=by
 have h1:=(iV 40 Pb).app (cb.aR Qx QN hV true h) fun _ _=>trivial;have h2:=h1.app (iV 41 Pb) fun r _=>Stop.cons _ Pb;exact h2.mono yA yA
theorem yT:cb Any Am 1 17:=ph [118,97,114] _ rfl ⟨⟨_,_,rfl,by decide⟩,by decide,by decide⟩
theorem Mm:cb Any NZ 1 17:=ph [103,111] _ rfl ⟨⟨_,_,rfl,by decide⟩,by decide,by decide⟩
theorem G8:cb Any xp 1 17:=ph [108,111,99,107] _ rfl ⟨⟨_,_,rfl,by decide⟩,by decide,by decide⟩
theorem Cd:cb Any oD 1 17:=ph [117,110,108,111,99,107] _ rfl ⟨⟨_,_,rfl,by decide⟩,by decide,by decide⟩
theorem Ml:cb Any NY 1 17:=ph [105,102] _ rfl ⟨⟨_,_,rfl,by decide⟩,by decide,by decide⟩
theorem E7:cb Any yS 1 17:=ph [119,104,105,108,101] _ rfl ⟨⟨_,_,rfl,by decide⟩,by decide,by decide⟩
theorem Ce:cb Any G9 1 3:=⟨Nat.le_refl _,fun _ _ _ hl=>Lx.sp Pb (Lx.one Pb OU (Lx.sp Pb hl))⟩
theorem qj:cb Any jh 1 1:=iV 59 Pb
theorem An:cb Any qk 1 3:=⟨Nat.le_refl _,fun _ _ _ hl=>Lx.sp Pb (Lx.zg Pb Pb (Lx.sp Pb hl))⟩
theorem rJ:cb Any kU 1 1:=iV 125 Pb
theorem Ha:cb Any Ao 2 8:=⟨Nat.le_refl _,fun r n _ hl=>by
 refine Lx.sp Pb ?_;have h:=Li.name (s:=[101,108,115,101]) ⟨_,_,rfl,by decide⟩ Pb (.inl Pb) (32::123::10::r) (n+1) (Stop.cons _ Pb) (Lx.sp Pb (Lx.zg Pb Pb (Lx.sp Pb hl)));exact h⟩
theorem JV:cb Any JW 2 7:=⟨Nat.le_refl _,fun r n _ hl=>by
 have h:=Li.name (s:=[114,101,116,117,114,110]) ⟨_,_,rfl,by decide⟩ Pb (.inl Pb) (59::r) (n+1) (Stop.cons _ Pb) (Lx.zg Pb Pb hl);exact h⟩
theorem cb.st {S:List UInt8→Prop}{a b:ByteArray}{k k' m m':Nat}(h:cb Stop a k m)(h':cb S b k' m')(c:UInt8)(t:List UInt8)(hb:bs b=c::t)(hc:fK c=false∧c≠61∧c≠47):cb S (a++b) (k' + k) (m+m'):=
 h.app h' fun r _=>by rw[hb];exact Stop.cons _ hc
theorem cb.an {S:List UInt8→Prop}{a b:ByteArray}{k k' m m':Nat}(h:cb Any a k m)(h':cb S b k' m'):cb S (a++b) (k' + k) (m+m'):=h.app h' fun _ _=>trivial
def gN (d:Nat)(s:ByteArray):Prop:=(bs s).all iJ=true∧(bs s).length+d≤3
theorem gN.FH {d:Nat}{s:ByteArray}(h:gN (d+1) s):gN d (s++qi):=by
 refine⟨by rw[gM,List.all_append,h.1];rfl,?_⟩;rw[gM,List.length_append];have:=h.2;show _+1+d≤3;omega
theorem gN.seg {d:Nat}{s:ByteArray}(h:gN d s):cb Any s 0 3:=(cb.Ll h.1).mono (Nat.le_refl _) (by have:=h.2;omega)
include Qx QN Q4
theorem cb.lines:(∀ s:Sm,∀ d V OW,(∀ x∈V,dn x)→gN d OW→dU ms fs ps d V s→(∀ x,dZ s=[x]→dn x)→cb Any (kW OW s) (eB s) (64*eB s-10))∧
  (∀ l:List Sm,∀ d V OW,(∀ x∈V,dn x)→gN d OW→cR ms fs ps d V l→cb Any (jy OW l) (bO l) (64*bO l)):=by
 have Vj:∀ k,k<24→dn (fG k):=by
  intro k hk;refine⟨⟨118,_,gx k,by decide⟩,?_,by rw[gx];simp⟩;rw[gx];have:∀ k,k<24→List.all [118,UInt8.ofNat (97+k % 26),UInt8.ofNat (97+k / 26 % 26)] fK=true:=by decide
  exact this k hk
 have Rh:∀ s:Sm,2≤eB s:=by intro s;cases s<;>simp only[eB]<;>omega
 have A1:∀ (s:ByteArray) (e:Ex) d V OW,(∀ x∈V,dn x)→gN d OW→dU ms fs ps d V (.g6 s e)→cb Any (kW OW (.g6 s e)) (eB (.g6 s e)) (64*eB (.g6 s e)-10):=by
  intro s e d V OW hV ht hw;simp only[dU] at hw;obtain⟨⟨k,hk,rfl⟩,_,he⟩:=hw;simp only[kW,eB];exact ((((yT.an (cb.nm (Vj k hk))).st Ce 32 _ rfl Pb).an (cb.ex hV 2 e he)).st qj 59 _ rfl Pb).mono (by simp[B1]) (by simp[B1])
 have A2:∀ (s:ByteArray) (e:Ex) d V OW,(∀ x∈V,dn x)→gN d OW→dU ms fs ps d V (.iD s e)→cb Any (kW OW (.iD s e)) (eB (.iD s e)) (64*eB (.iD s e)-10):=by
  intro s e d V OW hV ht hw;simp only[dU] at hw;simp only[kW,eB];exact ((((cb.nm (hV s hw.1)).st Ce 32 _ rfl Pb).an (cb.ex hV 2 e hw.2)).st qj 59 _ rfl Pb).mono (by simp[B1]) (by simp[B1])
 have A3:∀ (g:Bool) (s:ByteArray) (l:List Ar) d V OW,(∀ x∈V,dn x)→gN d OW→dU ms fs ps d V (.ef g s l)→cb Any (kW OW (.ef g s l)) (eB (.ef g s l)) (64*eB (.ef g s l)-10):=by
  intro g s l d V OW hV ht hw;simp only[dU] at hw;obtain⟨gp,h1,h2⟩:=hw;have hn:=cb.nm (Q4 _ h1);have ha:=cb.ars Qx QN hV h2;have hb:bs (tM l)=40::(bs (wv true l)++[41]):=by simp only[tM,gM];rfl
  have hg:cb Stop (if g=true then NZ++s else s) 2 33:=by
   cases g with
   | true=>exact (Mm.an hn).mono yA yA
   | false=>exact hn.mono yA yA
  simp only[kW,eB];exact ((hg.st ha 40 _ hb Pb).an qj).mono yA yA
 have A4:∀ (u:Bool) (r:Rf) d V OW,(∀ x∈V,dn x)→gN d OW→dU ms fs ps d V (.dA u r)→cb Any (kW OW (.dA u r)) (eB (.dA u r)) (64*eB (.dA u r)-10):=by
  intro u r d V OW hV ht hw;simp only[dU] at hw;have hr:=cb.rf Qx QN hV hw;have hg:cb Any (if u=true then oD else xp) 1 17:=by
   cases u with
   | true=>exact Cd
   | false=>exact G8
  simp only[kW,eB];exact ((hg.an hr).st qj 59 _ rfl Pb).mono yA yA
 have A5:∀ (e:Ex) (th el:List Sm),(∀ d V OW,(∀ x∈V,dn x)→gN d OW→cR ms fs ps d V th→cb Any (jy OW th) (bO th) (64*bO th))→(∀ d V OW,(∀ x∈V,dn x)→gN d OW→cR ms fs ps d V el→cb Any (jy OW el) (bO el) (64*bO el))→∀ d V OW,(∀ x∈V,dn x)→gN d OW→dU ms fs ps d V (.lE e th el)→cb Any (kW OW (.lE e th el)) (eB (.lE e th el)) (64*eB (.lE e th el)-10):=by
  intro e th el i1 i2 d V OW hV ht hw
  cases d with
  | zero=>simp[dU] at hw
  | succ d=>
   simp only[dU] at hw;have h1:=i1 d V _ hV ht.FH hw.2.1;have h2:=i2 d V _ hV ht.FH hw.2.2;have h3:=((((Ml.an (cb.ex hV 2 e hw.1)).st An 32 _ rfl Pb).an h1).an ht.seg).an rJ;simp only[kW,eB];split
   ·exact (h3.an (cb.nil Any)).mono Up Up
   ·exact (h3.an (((Ha.an h2).an ht.seg).an rJ)).mono Up Up
 have A6:∀ (e:Ex) (th:List Sm),(∀ d V OW,(∀ x∈V,dn x)→gN d OW→cR ms fs ps d V th→cb Any (jy OW th) (bO th) (64*bO th))→∀ d V OW,(∀ x∈V,dn x)→gN d OW→dU ms fs ps d V (.cJ e th)→cb Any (kW OW (.cJ e th)) (eB (.cJ e th)) (64*eB (.cJ e th)-10):=by
  intro e th i1 d V OW hV ht hw
  cases d with
  | zero=>simp[dU] at hw
  | succ d=>
   simp only[dU] at hw;have h1:=i1 d V _ hV ht.FH hw.2;have h3:=((((E7.an (cb.ex hV 2 e hw.1)).st An 32 _ rfl Pb).an h1).an ht.seg).an rJ;simp only[kW,eB];exact h3.mono Up Up
 have A8:∀ (s:Sm) (r:List Sm),(∀ d V OW,(∀ x∈V,dn x)→gN d OW→dU ms fs ps d V s→cb Any (kW OW s) (eB s) (64*eB s-10))→(∀ d V OW,(∀ x∈V,dn x)→gN d OW→cR ms fs ps d V r→cb Any (jy OW r) (bO r) (64*bO r))→∀ d V OW,(∀ x∈V,dn x)→gN d OW→cR ms fs ps d V (s::r)→cb Any (jy OW (s::r)) (bO (s::r)) (64*bO (s::r)):=by
  intro s r i1 i2 d V OW hV ht hw;simp only[cR] at hw;have ZM:∀ x∈V++dZ s,dn x:=by
   intro x hx;rcases List.mem_append.1 hx with hx | hx
   ·exact hV x hx
   ·cases s<;>simp only[dZ,List.mem_singleton,List.not_mem_nil] at hx;subst hx;have:=hw.1;simp only[dU] at this;obtain⟨⟨k,hk,rfl⟩,_⟩:=this;exact Vj k hk
  have h1:=i1 d V OW hV ht hw.1;have h2:=i2 d _ OW ZM ht hw.2;have hp:=Rh s;have Qe:cb Any tNl 0 1:=cb.Ll Pb;simp only[jy,bO];exact (((ht.seg.an h1).an Qe).an h2).mono yA yA
 have A7:∀ d V OW,(∀ x∈V,dn x)→gN d OW→dU ms fs ps d V .jF→cb Any (kW OW .jF) (eB .jF) (64*eB .jF-10):=by
  intro d V OW _ _ _;simp only[kW,eB];exact JV.mono yA yA
 have A0:∀ d V OW,(∀ x∈V,dn x)→gN d OW→cR ms fs ps d V []→cb Any (jy OW []) (bO []) (64*bO []):=by
  intro d V OW _ _ _;simp only[jy,bO];exact cb.nil _
 refine⟨fun s d V OW h1 h2 h3 _=>?_,fun l=>?_⟩
 ·exact Sm.rec (motive_1:=fun s=>∀ d V OW,(∀ x∈V,dn x)→gN d OW→dU ms fs ps d V s→cb Any (kW OW s) (eB s) (64*eB s-10)) (motive_2:=fun l=>∀ d V OW,(∀ x∈V,dn x)→gN d OW→cR ms fs ps d V l→cb Any (jy OW l) (bO l) (64*bO l)) A1 A2 A3 A4 A5 A6 A7 A0 A8 s d V OW h1 h2 h3
 ·exact Sm.rec_1 (motive_1:=fun s=>∀ d V OW,(∀ x∈V,dn x)→gN d OW→dU ms fs ps d V s→cb Any (kW OW s) (eB s) (64*eB s-10)) (motive_2:=fun l=>∀ d V OW,(∀ x∈V,dn x)→gN d OW→cR ms fs ps d V l→cb Any (jy OW l) (bO l) (64*bO l)) A1 A2 A3 A4 A5 A6 A7 A0 A8 l
end
theorem cb.nT {n:Int}(h : -9223372036854775807≤n∧n≤9223372036854775807):cb Stop (lj n) 2 20:=by
 unfold Go.aP.lj;split
 ·exact ((iV 45 Pb).an (cb.dig (n:=(-n).toNat) yA)).mono yA yA
 ·exact (cb.dig (n:=n.toNat) yA).mono yA yA
theorem oG:cb Any ⟨#[59,10]⟩ 1 2:=⟨Nat.le_refl _,fun _ _ _ hl=>Lx.zg Pb Pb (Lx.sp Pb hl)⟩
theorem cb.gl {g:Gl}(h:dn g.name)(hi : -2≤g.init∧g.init≤2):cb Any (LI g) 6 64:=by
 unfold LI;split
 ·exact (((yT.an (cb.nm h)).app (cb.nil Stop) fun r hr=>hr).st oG 59 _ rfl Pb).mono yA yA
 ·have h1:cb Stop (G9++lj g.init) 3 23:=(Ce.an (cb.nT yA)).mono yA yA;exact (((yT.an (cb.nm h)).st h1 32 _ rfl Pb).st oG 59 _ rfl Pb).mono yA yA
theorem cb.mx {m:Mx}(h:dn m.name)(hi:m.size≤3):cb Any (KC m) 7 64:=by
 unfold KC;have h0:cb Any ((if m.re=true then ⟨#[114]⟩ else ⟨#[]⟩)++⟨#[109,117,116,101,120,32]⟩) 1 17:=by
  cases m.re with
  | true=>exact ph [114,109,117,116,101,120] _ Pb ⟨⟨_,_,rfl,by decide⟩,by decide,by decide⟩
  | false=>exact ph [109,117,116,101,120] _ Pb ⟨⟨_,_,rfl,by decide⟩,by decide,by decide⟩
 generalize (if m.re=true then (⟨#[114]⟩:ByteArray) else ⟨#[]⟩)++⟨#[109,117,116,101,120,32]⟩=pre at h0 ⊢;split
 ·exact (((h0.an (cb.nm h)).app (cb.nil Stop) fun r hr=>hr).st oG 59 _ rfl Pb).mono yA yA
 ·have h1:cb Any (⟨#[91]⟩++lj m.size++⟨#[93]⟩) 4 22:=(((iV 91 Pb).an (cb.nT yA)).st (iV 93 Pb) 93 _ rfl Pb).mono yA yA;exact (((h0.an (cb.nm h)).st h1 91 _ (by rw[gM,gM];rfl) Pb).an oG).mono yA yA
theorem Fx (l:List Pm)(r:List UInt8)(hr:Stop r):Stop (bs (vb false l)++r):=by
 cases l with
 | nil=>exact hr
 | cons a t=>
  rw[vb];simp only[Bool.false_eq_true,if_false,gM];exact Stop.cons _ Pb
theorem cb.pR:∀ (first:Bool) {l:List Pm},(∀ p∈l,dn p.name)→cb Stop (vb first l) (3*l.length) (40*l.length)
 | _,[],_=>cb.nil _
 | first,p::l,h=>by
  have hn:=(cb.nm (h p List.mem_cons_self)).app (cb.pR false fun q hq=>h q (List.mem_cons_of_mem _ hq)) fun r hr=>Fx l r hr;have hm:cb Any (if p.mutex=true then ⟨#[109,117,116,101,120,32]⟩ else ⟨#[]⟩) 1 17:=by
   cases p.mutex with
   | true=>exact xo
   | false=>exact (cb.nil Any).mono yA yA
  have hf:cb Any (if first=true then ⟨#[]⟩ else ⟨#[44,32]⟩) 1 2:=by
   cases first with
   | true=>exact (cb.nil Any).mono yA yA
   | false=>exact BE
  rw[Go.aP.vb];have h1:=(hf.an hm).an hn;rw[← ByteArray.append_assoc] at h1;exact h1.mono XI XI
theorem cb.cat {α:Type}(f:α→ByteArray)(k:α→Nat):∀ {l:List α},(∀ a∈l,cb Any (f a) (k a) (64*k a))→cb Any (jR f l) (l.map k).sum (64*(l.map k).sum)
 | [],_=>cb.nil _
 | a::r,h=>by
  rw[jR];have h1:=(h a List.mem_cons_self).an (cb.cat f k fun b hb=>h b (List.mem_cons_of_mem _ hb));exact h1.mono QS QS
theorem DZ (s:ByteArray)(h:(match bs s with | c::_=>isLet c | []=>false)=true∧(bs s).all fK=true∧(bs s).length≤16):dn s:=by
 refine⟨?_,h.2⟩;have h1:=h.1
 cases hb:bs s with
 | nil=>rw[hb] at h1;cases h1
 | cons c t=>
  rw[hb] at h1;exact⟨c,t,rfl,h1⟩
theorem nG_ok:∀ s∈nG,dn s:=fun s hs=>DZ s ((by decide:∀ s∈nG,(match bs s with | c::_=>isLet c | []=>false)=true∧(bs s).all fK=true∧(bs s).length≤16) s hs)
theorem nM_ok:∀ s∈nM,dn s:=fun s hs=>DZ s ((by decide:∀ s∈nM,(match bs s with | c::_=>isLet c | []=>false)=true∧(bs s).all fK=true∧(bs s).length≤16) s hs)
theorem nF_ok:∀ s∈nF,dn s:=fun s hs=>DZ s ((by decide:∀ s∈nF,(match bs s with | c::_=>isLet c | []=>false)=true∧(bs s).all fK=true∧(bs s).length≤16) s hs)
theorem nP_ok:∀ s∈nP,dn s:=fun s hs=>DZ s ((by decide:∀ s∈nP,(match bs s with | c::_=>isLet c | []=>false)=true∧(bs s).all fK=true∧(bs s).length≤16) s hs)
theorem zo {α:Type}{f:α→ByteArray}{l:List α}{ns:List ByteArray}(h:∀ s∈l.map f,s∈ns)(hn:∀ s∈ns,dn s):∀ a∈l,dn (f a):=fun _a ha=>hn _ (h _ (List.mem_map_of_mem ha))
theorem kC.ng {p:Pg}(h:kC p):∀ g∈p.gs,dn g.name:=by
 obtain⟨k,_,hk⟩:=h.gn;exact zo (fun s hs=>by rw[hk] at hs;exact List.mem_of_mem_take hs) nG_ok
theorem kC.nm {p:Pg}(h:kC p):∀ g∈p.ms,dn g.name:=by
 obtain⟨k,_,_,hk⟩:=h.mn;exact zo (fun s hs=>by rw[hk] at hs;exact List.mem_of_mem_take hs) nM_ok
theorem kC.nf {p:Pg}(h:kC p):∀ g∈p.fs,dn g.name:=by
 obtain⟨k,_,_,hk⟩:=h.fn;exact zo (fun s hs=>by rw[hk] at hs;exact List.mem_of_mem_take hs) nF_ok
theorem kC.np {p:Pg}(h:kC p):∀ f∈p.fs,∀ q∈f.params,dn q.name:=fun f hf=>by
 obtain⟨k,_,hk⟩:=h.pn f hf;exact zo (fun s hs=>by rw[hk,List.mem_reverse] at hs;exact List.mem_of_mem_take hs) nP_ok
theorem kC.nv {p:Pg}(h:kC p):∀ f∈p.fs,∀ s∈jJ p.gs f.params,dn s:=fun f hf s hs=>by
 rcases vh hs with hs | hs
 ·rw[List.mem_map] at hs;obtain⟨g,hg,rfl⟩:=hs;exact h.ng g hg
 ·rw[List.mem_map] at hs;obtain⟨g,hg,rfl⟩:=hs;exact h.np f hf g hg
theorem cb.fu {p:Pg}(h:kC p){f:Fu}(hf:f∈p.fs):cb Any (Gv f) (12+bO f.body) (64*(12+bO f.body)):=by
 have hb:=(cb.lines (ms:=p.ms) (fs:=p.fs.map fun f=>(f.name,f.params)) (ps:=f.params) h.nm (fun x hx=>by
  rw[List.mem_map] at hx;obtain⟨g,hg,rfl⟩:=hx;exact h.nf g hg) (h.np f hf)).2 f.body 2 (jJ p.gs f.params) qi (h.nv f hf) ⟨by decide,by decide⟩ (h.bd f hf)
 obtain⟨k,hk,Rw⟩:=h.pn f hf;have hlen:f.params.length≤2:=by
  have:=congrArg List.length Rw;simp[nP] at this;omega
 have Vu:cb Any ⟨#[102,117,110,99,32]⟩ 1 17:=ph [102,117,110,99] _ rfl ⟨⟨_,_,rfl,by decide⟩,by decide,by decide⟩;have ho:cb Any ⟨#[41,32,123,10]⟩ 2 4:=⟨Nat.le_refl _,fun _ _ _ hl=>Lx.zg Pb Pb (Lx.sp Pb (Lx.zg Pb Pb (Lx.sp Pb hl)))⟩;have hc:cb Any ⟨#[125,10]⟩ 1 2:=⟨Nat.le_refl _,fun _ _ _ hl=>Lx.zg Pb Pb (Lx.sp Pb hl)⟩;unfold Gv;exact ((((((Vu.an (cb.nm (h.nf f hf))).st (iV 40 Pb) 40 _ rfl Pb).an (cb.pR true (h.np f hf))).st ho 41 _ rfl Pb).an hb).an hc).mono yA yA
theorem E8 {α:Type}(l:List α)(c:Nat):(l.map fun _=>c).sum=c*l.length:=by
 induction l with
 | nil=>simp
 | cons _ r ih=>simp[ih,Nat.mul_add];omega
theorem sum_add {α:Type}(l:List α)(c:Nat)(f:α→Nat):(l.map fun a=>c+f a).sum=c*l.length+(l.map f).sum:=by
 induction l with
 | nil=>simp
 | cons a r ih=>simp[ih,Nat.mul_add];omega
theorem MQ {p:Pg}(h:kC p):Lx (bs (Fy p)) 4000∧(bs (Fy p)).length≤262144:=by
 have h1:=cb.cat LI (fun _=>6) (l:=p.gs) fun g hg=>(cb.gl (h.ng g hg) (h.gi g hg)).mono (Nat.le_refl _) yA;have h2:=cb.cat KC (fun _=>7) (l:=p.ms) fun g hg=>(cb.mx (h.nm g hg) (h.mz g hg).1).mono (Nat.le_refl _) yA;have h3:=cb.cat Gv (fun f=>12+bO f.body) (l:=p.fs) fun g hg=>cb.fu h hg;rw[E8] at h1 h2;rw[sum_add] at h3;have hw:=h.wt;obtain⟨k1,TW,e1⟩:=h.gn;obtain⟨k2,_,Ug,e2⟩:=h.mn;obtain⟨k3,_,hk3,e3⟩:=h.fn;have l1:=congrArg List.length e1;have l2:=congrArg List.length e2;have l3:=congrArg List.length e3;simp[nG] at l1;simp[nM] at l2;simp[nF] at l3;obtain⟨hb,hl⟩:=(h1.an h2).an h3;refine⟨?_,?_⟩
 ·have:=hl [] 0 trivial (.nil 0);rw[List.append_nil] at this;exact this.mono yA
 ·unfold Fy;omega
end Go.aP
namespace Go.Proofs.YtnecpnjdonibmaaGreat
open Go.Can Go.aP
theorem iB (x y:ByteArray):lK .eql x y=some (.bool (decide (x=y))):=by
 have h:(x.toList == y.toList)=decide (x=y):=by
  rw[ByteArray.toList_eq,ByteArray.toList_eq,Bool.eq_iff_iff];simp only[beq_iff_eq,decide_eq_true_eq,Array.toList_inj];exact⟨fun h=>ByteArray.ext h,fun h=>by rw[h]⟩
 simp only[lK,h]
theorem jW (x y:ByteArray):lK .neq x y=some (.bool (!decide (x=y))):=by
 have h:=iB x y;simp only[lK,Option.some.injEq,CV.bool.injEq] at h ⊢;rw[h]
theorem aB (x y:ByteArray)(h:x.size+y.size≤9223372036854775807):lK .add x y=some (.str (x++y)):=by
 simp only[lK,if_pos h]
theorem Ip (c:UInt8):isLet c=((decide ((97:Int)≤c.toNat) && decide ((c.toNat:Int)≤122)) || (decide ((65:Int)≤c.toNat) && decide ((c.toNat:Int)≤90)) || ((c.toNat:Int) == 95)):=by
 rw[Bool.eq_iff_iff];simp only[isLet,Bool.or_eq_true,Bool.and_eq_true,decide_eq_true_eq,beq_iff_eq];omega
theorem Iq (c:UInt8):da c=(decide ((48:Int)≤c.toNat) && decide ((c.toNat:Int)≤57)):=by
 rw[Bool.eq_iff_iff];simp only[da,Bool.and_eq_true,decide_eq_true_eq];omega
theorem lP (c:UInt8):af Tryz.prog 210 [.int .u8 c.toNat] (.bool (isLet c)):=by
 rw[Ip];generalize (c.toNat:Int)=n;refine af.aK ai Tryz.func210 rfl OV (by simp[Tryz.ntmps210]) rfl fun C hC O0=>?_;rw[Tryz.ntmps210] at hC;apply aq;simp[hC];by_cases h1:97≤n
 ·by_cases h2:n≤122
  ·apply aq;simp[hC,h1,h2];apply T.ret;apply ae.here;simp[Tryz.results210]
  ·have h3:65≤n:=by omega
   have h4:¬ n≤90:=by omega
   apply aq;simp[hC,h1,h2,h3,h4];apply T.ret;apply ae.here;simp[Tryz.results210]
 ·by_cases h3:65≤n
  ·by_cases h4:n≤90
   ·apply aq;simp[hC,h1,h3,h4];apply T.ret;apply ae.here;simp[Tryz.results210]
   ·apply aq;simp[hC,h1,h3,h4];apply T.ret;apply ae.here;simp[Tryz.results210]
  ·apply aq;simp[hC,h1,h3];apply T.ret;apply ae.here;simp[Tryz.results210]
theorem lZ (c:UInt8):af Tryz.prog 211 [.int .u8 c.toNat] (.bool (da c)):=by
 rw[Iq];generalize (c.toNat:Int)=n;refine af.aK ai Tryz.func211 rfl OV (by simp[Tryz.ntmps211]) rfl fun C hC O0=>?_;rw[Tryz.ntmps211] at hC;apply aq;simp[hC];by_cases h1:48≤n
 ·apply aq;simp[hC,h1];apply T.ret;apply ae.here;simp[Tryz.results211]
 ·apply aq;simp[hC,h1];apply T.ret;apply ae.here;simp[Tryz.results211]
def hasB (l:List ByteArray)(s:ByteArray):Bool:=l.any fun x=>decide (x=s)
theorem zy (l:List ByteArray)(s:ByteArray)(hl:l.length≤1000):af Tryz.prog 270 [strs l,.str s] (.bool (hasB l s)):=by
 refine af.aK ai Tryz.func270 rfl OV (by simp[Tryz.ntmps270]) rfl fun C hC O0=>?_;rw[Tryz.ntmps270] at hC;apply aq;simp[hC];apply aO;simp[hC];apply T.block;refine T.aH (fun m st=>∃ i:Nat,m=l.length-i∧i≤l.length∧hasB l s=hasB (l.drop i) s∧st=⟨[(5,I i),(0,strs l),(1,.str s)],[],0⟩) (n:=l.length) ?_ ?_
 ·refine ae.le (Le.env [5,0,1]) (ae.here ⟨0,by omega,by omega,by simp,?_⟩);simp
 ·rintro n st ⟨i,rfl,hi,hni,rfl⟩;by_cases OX:i<l.length
  ·have OZ:=ji OX;have hw:=cC ((i:Int)+1) yA yA;apply aO;simp[hC,strs,OX];refine fB ?_;simp;apply ed;apply aq;simp[hC,OX,OZ,iB];refine T.bh rfl (fun h=>?_) (fun h=>?_)
   ·have he:l.getD i eS=s:=by simpa [OX] using h
    apply aq;simp[hC];apply T.ret;apply ae.here;have hb:hasB l s=true:=by
     unfold hasB;rw[List.any_eq_true];exact⟨s,he ▸ jm OX eS,by simp⟩
    simp[Tryz.results270,hb]
   ·have he:¬ l.getD i eS=s:=by simpa [OX] using h
    apply T.skip;simp;apply aV;simp[hC,hw];refine⟨l.length-(i+1),by omega,?_⟩;refine ae.le (Le.env [5,0,1]) (ae.here ⟨i+1,rfl,by omega,?_,?_⟩)
    ·rw[hni,List.drop_eq_getElem_cons OX];have e2:l[i]=l.getD i eS:=by simp[OX]
     simp only[hasB,List.any_cons,e2,he,decide_false,Bool.false_or]
    ·simp
  ·have O6:i=l.length:=by omega
   have hb:hasB l s=false:=by rw[hni,O6,List.drop_length];rfl
   apply aO;simp[hC,strs,OX];refine a7 ?_;simp;apply T.exit;simp;apply aq;simp[hC];apply T.ret;apply ae.here;simp[Tryz.results270,hb]
end Go.Proofs.YtnecpnjdonibmaaGreat
