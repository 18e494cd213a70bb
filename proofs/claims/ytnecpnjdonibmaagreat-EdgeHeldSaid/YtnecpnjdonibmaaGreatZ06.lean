/- Regions that draw their order: whatever order is drawn, the  -/
import Derived.Test.YtnecpnjdonibmaaGreatZ05
namespace Go.Can
open Go.RowKit
theorem Rel.congr {C:Cx}{s s':St}{a:Act}{w:World}(h:Rel C s a w)(he:∀ t,assoc s'.env t=assoc s.env t)(hh:s'.heap=s.heap)(hn:s'.nx=s.nx):Rel C s' a w:=by
 obtain⟨σ,h⟩:=h;refine⟨σ,h.nk,h.tm,h.os,h.tape,h.output,h.size,h.frame,?_,?_,?_,?_,h.fh,by rw[hn];exact h.low,h.new⟩
 ·intro t c hc;rw[he] at hc;rw[hh];exact h.env t c hc
 ·rw[hh];exact h.obj
 ·rw[hh];exact h.inj
 ·rw[hn];exact h.nx
theorem Rel.drew {C:Cx}{s:St}{a:Act}{w:World}(h:Rel C s a w):Rel C s a { w with drawn:=w.drawn+1 }:=by
 obtain⟨σ,h⟩:=h;exact⟨σ,h.below (w':=w.drew) ⟨rfl,rfl,rfl,Nat.le_refl _,fun _ _=>rfl⟩⟩
section
variable {P:Program}{ak:List (Nat×TI)}{s s':St}
theorem iM:∀ (xs:List Operand),(∀ x∈xs,ev s x=ev s' x)→z8 s xs=z8 s' xs
 | [],_=>rfl
 | x::r,h=>by
  simp only[z8];rw[h x OU,iM r fun y hy=>h y (by simp[hy])]
theorem jN:∀ (xs:List (Nat×Operand)),(∀ x∈xs,ev s x.2=ev s' x.2)→gL s xs=gL s' xs
 | [],_=>rfl
 | (i,x)::r,h=>by
  simp only[gL];rw[h (i,x) OU,jN r fun y hy=>h y (by simp[hy])]
theorem jQ {x:Option Operand}(h:∀ y,x=some y→ev s y=ev s' y)(d:Nat):gu s x d=gu s' x d:=by
 cases x with
 | none=>rfl
 | some y=>simp only[gu];rw[h y rfl]
theorem sS (hh:s.heap=s'.heap)(c:CV):fJ s c=fJ s' c:=by
 unfold fJ;rw[hh]
theorem zI (hh:s.heap=s'.heap){lo hi:Option Operand}(h1:∀ y,lo=some y→ev s y=ev s' y)(h2:∀ y,hi=some y→ev s y=ev s' y)(t:TypeId)(c:CV):lz ak s t c lo hi=lz ak s' t c lo hi:=by
 unfold lz;rw[hh];simp only[jQ h1,jQ h2]
theorem CK (hh:s.heap=s'.heap)(c:CV):AZ s c=AZ s' c:=by
 unfold AZ;rw[hh]
theorem sU (hh:s.heap=s'.heap):∀ cs,nV s cs=nV s' cs
 | []=>rfl
 | c::cs=>by simp only[nV];rw[CK hh,sU hh cs]
theorem gJ (hh:s.heap=s'.heap)(op:Op)(h:∀ x∈op.operands,ev s x=ev s' x):cY ak s op=cY ak s' op:=by
 cases op
 case move x=>exact h x Q5
 case assign x=>exact h x Q5
 case pick c x y=>
  simp only[cY];rw[h c Q5,h x Q5,h y Q5]
 case binOp op t x y yt=>
  simp only[cY];rw[h x Q5,h y Q5]
 case unOp op t x=>simp only[cY];rw[h x Q5]
 case load t x=>simp only[cY];rw[h x Q5];simp only[sS hh]
 case slice t x lo hi mx=>
  have h1:∀ y,lo=some y→ev s y=ev s' y:=fun y e=>h y (by subst e;simp[Op.operands]);have h2:∀ y,hi=some y→ev s y=ev s' y:=fun y e=>h y (by subst e;simp[Op.operands])
  cases mx with
  | none=>simp only[cY];rw[h x Q5];simp only[zI hh h1 h2]
  | some _=>rfl
 case fieldAddr t x f=>simp only[cY];rw[h x Q5]
 case field t x f=>simp only[cY];rw[h x Q5]
 case indexAddr t x i=>simp only[cY];rw[h x Q5,h i Q5]
 case index t x i=>simp only[cY];rw[h x Q5,h i Q5]
 case extract x i=>simp only[cY];rw[h x Q5]
 case makeFunc f first cap=>
  cases f<;>first | rfl | skip
  simp only[cY];rw[iM cap.toList fun x hx=>h x (by simp only[Op.operands,Array.mem_append];exact .inr WB)]
 case nilCheck x=>simp only[cY];rw[h x Q5]
 case build t parts=>
  simp only[cY,sC];rw[jN parts.toList fun x hx=>h x.2 yDa]
 case call c=>
  simp only[cY];split
  ·rename_i b hb;have ha:∀ x∈c.args.toList,ev s x=ev s' x:=fun x hx=>h x (by simp only[Op.operands,Call.operands,Array.mem_append];exact .inr WB);unfold ig;split
   ·split
    ·rename_i x t e _;rw[ha x (by rw[e];simp)]
    ·rfl
   ·rw[iM _ ha]
   ·rw[iM _ ha]
   ·rfl
  ·rfl
 all_goals rfl
theorem bN.congr (hh:s.heap=s'.heap){c:Call}{r:CV}(h:∀ x∈c.operands,ev s x=ev s' x)(hc:bN P s c r):bN P s' c r:=by
 obtain⟨g,cs,h1,h2⟩:=hc;have ha:∀ x∈c.args.toList,ev s x=ev s' x:=fun x hx=>h x (by simp only[Call.operands,Array.mem_append];exact .inr WB);refine⟨g,cs,?_,?_⟩
 ·rw[← h1];unfold bm;split
  ·rename_i f hf;rw[h f (by simp[Call.operands,hf]),iM _ ha]
  ·rfl
 ·rcases h2 with h2 | ⟨ds,k1,k2⟩
  ·exact .inl h2
  ·exact .inr ⟨ds,by rw[← sU hh];exact k1,k2⟩
end
def eY (s:St)(d:Option Tmp):Option CV→St
 | some c=>s.put d c
 | none=>s.del d
def tv (P:Program)(ak:List (Nat×TI))(nt:Nat)(ops:Array Oper)(s:St)(o:Oper)(r:Option CV):Prop:=
 a6 nt o.dst=true∧
  ((∃ j want t,o.guard=some (j,want)∧(ops[j]?).bind (·.dst)=some t∧mo (assoc s.env t) want=some false∧r=some (.dS []))∨
   ((o.guard=none∨∃ j want t,o.guard=some (j,want)∧(ops[j]?).bind (·.dst)=some t∧assoc s.env t=some (.bool want))∧
    ∃ c,r=some c∧(cY ak s o.op=some c∨∃ cl,o.op=.call cl∧bN P s cl c)))
section
variable {P:Program}{C:Cx}{s:St}{a:Act}{w:World}{ops:Array Oper}{ak:List (Nat×TI)}
theorem JF (ht:aG P ak)(hr:Rel C s a w){i:Nat}{o:Oper}(hi:ops[i]? = some o){r:Option CV}(hq:tv P ak C.nt ops s o r){K:Act→World→Prop}{Q:Exit→Act→World→Prop}
  (hK:∀ a' w',Rel C (eY s o.dst r) a' w'→K a' w'):wpOp P ops Q i K a w:=by
 obtain⟨hd,hq⟩:=hq;unfold wpOp;simp only[hi];rcases hq with ⟨j,want,t,hg,hj,hb,rfl⟩ | ⟨hg,c,rfl,hc⟩
 ·rw[if_neg (by simp[jU hr hg hj hb])];exact hK _ _ (hr.skip hd)
 ·have hw:Region.wanted o (yielded ops a.tmps)=true:=by
   rcases hg with hg | ⟨j,want,t,hg,hj,hb⟩
   ·simp[Region.wanted,hg]
   ·simp[Region.wanted,hg,pF hr hj hb]
  rw[if_pos hw];refine .inl ?_;obtain⟨σ,hr⟩:=hr;have PB:∀ {w'} (_:aM C σ s a w') t,o.dst=some t→t<a.tmps.size:=fun {w'} h t e=>by
   rw[h.tm];rw[e] at hd
   simpa [a6] using hd
  rcases hc with hc | ⟨cl,ho,hc⟩
  ·obtain⟨z,k1,k2⟩:=zd ht hr o hc;unfold Oper.wp;rw[k1];exact hK _ _ ⟨σ,hr.put (PB hr) k2⟩
  ·exact wG hr ho hc _ _ fun v w' Pp hv=>hK _ _ ⟨σ,Pp.put (PB Pp) hv⟩
theorem tv.congr {s':St}{o:Oper}{r:Option CV}(hh:s.heap=s'.heap)(h:∀ t∈o.looksAt ops,assoc s.env t=assoc s'.env t)(hq:tv P ak C.nt ops s o r):tv P ak C.nt ops s' o r:=by
 obtain⟨hd,hq⟩:=hq;have hg:∀ j want t,o.guard=some (j,want)→(ops[j]?).bind (·.dst)=some t→assoc s.env t=assoc s'.env t:=fun j want t hg hj=>h t (by simp[Oper.looksAt,hg,hj]);have hx:∀ x∈o.op.operands,ev s x=ev s' x:=fun x hx=>by
  cases x with
  | tmp t=>exact h t (List.mem_append_left _ (List.mem_filterMap.2 ⟨.tmp t,by simpa using hx,rfl⟩))
  | _=>rfl
 refine⟨hd,?_⟩;rcases hq with ⟨j,want,t,e1,e2,e3,e5⟩ | ⟨e1,c,e2,e3⟩
 ·exact .inl ⟨j,want,t,e1,e2,by rw[← hg j want t e1 e2];exact e3,e5⟩
 ·refine .inr ⟨?_,c,e2,?_⟩
  ·rcases e1 with e1 | ⟨j,want,t,f1,f2,f3⟩
   ·exact .inl e1
   ·exact .inr ⟨j,want,t,f1,f2,by rw[← hg j want t f1 f2];exact f3⟩
  ·rcases e3 with e3 | ⟨cl,f1,f2⟩
   ·exact .inl (by rw[← gJ hh o.op hx];exact e3)
   ·exact .inr ⟨cl,f1,f2.congr hh fun x QG=>hx x (by rw[f1];exact QG)⟩
def TH (P:Program)(ak:List (Nat×TI))(nt:Nat)(ops:Array Oper):List Nat→St→(St→Prop)→Prop
 | [],s,K=>K s
 | i::r,s,K=>∃ o res,ops[i]? = some o∧tv P ak nt ops s o res∧TH P ak nt ops r (eY s o.dst res) K
def kB (P:Program)(ak:List (Nat×TI))(nt:Nat)(ops:Array Oper)(res:Nat→Option CV):List Nat→St→St→Prop
 | [],s,s'=>s=s'
 | i::r,s,s'=>∃ o,ops[i]? = some o∧tv P ak nt ops s o (res i)∧kB P ak nt ops res r (eY s o.dst (res i)) s'
theorem kB.ext {nt:Nat}{res QT:Nat→Option CV}:∀ (l:List Nat) (s s':St),(∀ i∈l,res i=QT i)→kB P ak nt ops res l s s'→kB P ak nt ops QT l s s'
 | [],_,_,_,h=>h
 | i::r,s,s',he,h=>by
  obtain⟨o,h1,h2,h3⟩:=h;have e:=he i OU;rw[e] at h2 h3;exact⟨o,h1,h2,kB.ext r _ s' (fun j hj=>he j (by simp[hj])) h3⟩
theorem TH.run {nt:Nat}{K:St→Prop}:∀ (l:List Nat) (s:St),l.Nodup→TH P ak nt ops l s K→∃ res s',kB P ak nt ops res l s s'∧K s'
 | [],s,_,h=>⟨fun _=>none,s,rfl,h⟩
 | i::r,s,hn,h=>by
  obtain⟨o,x,h1,h2,h3⟩:=h;rw[List.nodup_cons] at hn;obtain⟨res,s',k1,k2⟩:=TH.run r _ hn.2 h3;refine⟨fun j=>if j=i then x else res j,s',⟨o,h1,by simpa using h2,?_⟩,k2⟩;simp only[if_true];exact kB.ext r _ s' (fun j hj=>by rw[if_neg (fun e=>hn.1 (by subst e;exact hj))]) k1
def ej (E:Nat→Option CV)(d:Option Tmp)(r:Option CV):Nat→Option CV:=fun t=>if d=some t then r else E t
def bU (ops:Array Oper)(i:Nat):Option Tmp:=(ops[i]?).bind (·.dst)
def eE (ops:Array Oper)(res:Nat→Option CV)(L:Nat→Bool):List Nat→(Nat→Option CV)→Nat→Option CV
 | [],E=>E
 | i::r,E=>eE ops res L r (if L i then ej E (bU ops i) (res i) else E)
theorem ib {res:Nat→Option CV}{L L':Nat→Bool}{t:Nat}:∀ (l:List Nat) (E E':Nat→Option CV),E t=E' t→(∀ i∈l,bU ops i=some t→L i=L' i)→eE ops res L l E t=eE ops res L' l E' t
 | [],_,_,h,_=>h
 | i::r,E,E',h,hl=>by
  simp only[eE];refine ib r _ _ ?_ fun j hj=>hl j (by simp[hj]);by_cases hd:bU ops i=some t
  ·rw[hl i OU hd];split
   ·simp[ej,hd]
   ·exact h
  ·have:∀ (b:Bool) (X:Nat→Option CV),(if b then ej X (bU ops i) (res i) else X) t=X t:=fun b X=>by
    cases b<;>simp[ej,hd]
   rw[this,this];exact h
theorem jM {res:Nat→Option CV}{L:Nat→Bool}:∀ (l m:List Nat) (E:Nat→Option CV),eE ops res L (l++m) E=eE ops res L m (eE ops res L l E)
 | [],_,_=>rfl
 | i::r,m,E=>by simp only[List.cons_append,eE];exact jM r m _
theorem mv {res:Nat→Option CV}{L:Nat→Bool}:∀ (l:List Nat) (E:Nat→Option CV),(∀ i∈l,L i=false)→eE ops res L l E=E
 | [],_,_=>rfl
 | i::r,E,h=>by
  simp only[eE];rw[h i OU];exact mv r _ fun j hj=>h j (by simp[hj])
theorem cr {s:St}{d:Option Tmp}{r:Option CV}(t:Nat):assoc (eY s d r).env t=ej (assoc s.env) d r t:=by
 cases r with
 | none=>
  cases d with
  | none=>simp[eY,St.del,ej]
  | some x=>simp[eY,St.del,ej,fe]
 | some c=>
  cases d with
  | none=>simp[eY,St.put,ej]
  | some x=>
   simp only[eY,St.put,ej,assoc,fe,Option.some.injEq];split<;>rfl
theorem dg {s:St}{d:Option Tmp}{r:Option CV}:(eY s d r).heap=s.heap∧(eY s d r).nx=s.nx:=by
 cases r<;>cases d<;>exact⟨rfl,rfl⟩
theorem kB.at_ {nt:Nat}{res:Nat→Option CV}:∀ (pre post:List Nat) (s s':St),kB P ak nt ops res (pre++post) s s'→∃ m,kB P ak nt ops res pre s m∧kB P ak nt ops res post m s'
 | [],_,s,s',h=>⟨s,rfl,h⟩
 | i::r,post,s,s',h=>by
  obtain⟨o,h1,h2,h3⟩:=h;obtain⟨m,k1,k2⟩:=kB.at_ r post _ s' h3;exact⟨m,⟨o,h1,h2,k1⟩,k2⟩
theorem kB.env {nt:Nat}{res:Nat→Option CV}:∀ (l:List Nat) (s s':St),kB P ak nt ops res l s s'→(∀ t,assoc s'.env t=eE ops res (fun _=>true) l (assoc s.env) t)∧s'.heap=s.heap∧s'.nx=s.nx
 | [],s,s',h=>by cases h;exact⟨fun _=>rfl,rfl,rfl⟩
 | i::r,s,s',h=>by
  obtain⟨o,h1,h2,h3⟩:=h;obtain⟨k1,k2,k3⟩:=kB.env r _ s' h3;refine⟨fun t=>?_,k2.trans dg.1,k3.trans dg.2⟩;rw[k1];simp only[eE,if_true];have:bU ops i=o.dst:=by simp[bU,h1]
  rw[this];exact ib r _ _ (cr t) fun _ _ _=>rfl
def vG (md:Region.Mode)(ops:Array Oper):List Nat→Array Bool→Bool
 | [],_=>true
 | i::r,listed=>(Region.ready md ops listed).contains i && Region.free md ops listed i && vG md ops r (listed.setIfInBounds i true)
def cF:List Nat→Array Bool→Array Bool
 | [],l=>l
 | i::r,l=>cF r (l.setIfInBounds i true)
def xw (md:Region.Mode)(ops:Array Oper)(t:Nat):List Nat→Bool
 | []=>true
 | i::r=>(Region.waitsFor md ops t i || r.any fun j=>Region.waitsFor md ops j i) && xw md ops t r
def Ht (md:Region.Mode)(ops:Array Oper):List Nat→Array Bool→Bool
 | [],listed=>(Region.ready md ops listed).isEmpty
 | k::r,listed=>decide (Region.ready md ops listed=[k]) && Ht md ops r (listed.setIfInBounds k true)
theorem ez:∀ (l:List Nat) (a:Array Bool) (j:Nat),(cF l a).size=a.size∧((cF l a).getD j false=true↔a.getD j false=true∨(j∈l∧j<a.size))
 | [],a,j=>by simp[cF]
 | i::r,a,j=>by
  obtain⟨h1,h2⟩:=ez r (a.setIfInBounds i true) j;simp only[cF];refine⟨by simpa using h1,?_⟩;rw[h2];by_cases Qr:i=j
  ·subst Qr;by_cases hl:i<a.size
   ·simp[hl]
   ·simp[hl]
  ·rw[getD_set_ne false Qr];simp[Ne.symm Qr]
theorem pg {md:Region.Mode}{Q':Exit→Act→World→Prop}:∀ (idx:List Nat) (listed:Array Bool) (a:Act) (w:World),(∀ i∈idx,i<ops.size)→Ht md ops idx listed=true →
  wpList P ops Q' (idx.map (ops.getD · default)) a w→wpAny P md ops Q' idx.length listed a w
 | [],_,_,_,_,hB,h=>⟨by simpa [Ht] using hB,h⟩
 | k::r,listed,a,w,O1,hB,h=>by
  simp only[Ht,Bool.and_eq_true,decide_eq_true_eq] at hB;refine⟨fun h1=>(by rw[hB.1] at h1;cases h1),fun i hi=>?_⟩;rw[hB.1] at hi;have Uh:i=k:=by simpa using hi
  subst Uh;have UY:=O1 i OU;have h0:ops[i]? = some (ops.getD i default):=by simp[UY]
  have hw:wpOp P ops Q' i (wpList P ops Q' (r.map (ops.getD · default))) a w:=by
   unfold wpOp;simp only[h0]
   simpa only[List.map_cons,wpList] using h
  exact wpOp_mono (fun a' w' h'=>pg r _ a' w' (fun j hj=>O1 j (by simp[hj])) hB.2 h') hw
end
section
variable {P:Program}{C:Cx}{s:St}{a:Act}{w:World}{ops:Array Oper}{ak:List (Nat×TI)}
theorem nX {md:Region.Mode}:∀ (pre:List Nat) (i:Nat) (post:List Nat) (L:Array Bool),vG md ops (pre++i::post) L=true →
  (Region.ready md ops (cF pre L)).contains i=true∧Region.free md ops (cF pre L) i=true
 | [],i,post,L,h=>by
  simp only[List.nil_append,vG,Bool.and_eq_true] at h;exact h.1
 | k::pre,i,post,L,h=>by
  simp only[List.cons_append,vG,Bool.and_eq_true] at h;simp only[cF];exact nX pre i post _ h.2
theorem count_set:∀ (ord:List Nat) (i:Nat) (listed:Array Bool),ord.Nodup→i∈ord→i<listed.size→listed.getD i false=false →
  (ord.countP fun j=>!(listed.setIfInBounds i true).getD j false)+1=ord.countP fun j=>!listed.getD j false
 | [],_,_,_,h,_,_=>by cases h
 | k::r,i,listed,hn,hi,O1,hu=>by
  rw[List.nodup_cons] at hn;simp only[List.countP_cons];by_cases hk:k=i
  ·subst hk;have h1:((listed.setIfInBounds k true).getD k false)=true:=by simp[O1]
   have h2:(r.countP fun j=>!(listed.setIfInBounds k true).getD j false)=r.countP fun j=>!listed.getD j false:=by
    refine List.countP_congr fun j hj=>?_;rw[getD_set_ne false (fun e=>hn.1 (by subst e;exact hj))]
   rw[h1,h2,hu];simp
  ·have hir:i∈r:=by
    rcases List.mem_cons.1 hi with e | e
    ·exact absurd e.symm hk
    ·exact e
   have:=count_set r i listed hn.2 hir O1 hu;rw[getD_set_ne false (Ne.symm hk)];omega
structure JH (ops:Array Oper)(L0:Array Bool)(ord:List Nat)(listed:Array Bool):Prop where
 size:listed.size=ops.size
 closed:∀ j oj,ops[j]? = some oj→listed.getD j false=true→∀ e∈oj.after,Region.binds .any e=true→listed.getD e.on false=true
 sub:∀ j,listed.getD j false=true→L0.getD j false=true∨j∈ord
 mono:∀ j,L0.getD j false=true→listed.getD j false=true
theorem JH.set {L0:Array Bool}{ord:List Nat}{listed:Array Bool}{i:Nat}(inv:JH ops L0 ord listed)(hi:i∈Region.ready .any ops listed)(RM:i∈ord):JH ops L0 ord (listed.setIfInBounds i true):=by
 obtain⟨_,oi,Qo,Pt⟩:=mem_ready.1 hi;refine⟨by simp[inv.size],fun j oj hj hl e he hb=>?_,fun j hj=>?_,fun j hj=>getD_set_true (inv.mono j hj)⟩
 ·by_cases Qr:i=j
  ·subst Qr;have:oj=oi:=Option.some.inj (hj.symm.trans Qo);subst this;exact getD_set_true (Pt e he hb)
  ·rw[getD_set_ne false Qr] at hl;exact getD_set_true (inv.closed j oj hj hl e he hb)
 ·by_cases Qr:i=j
  ·subst Qr;exact .inr RM
  ·rw[getD_set_ne false Qr] at hj;exact inv.sub j hj
theorem sL {L0:Array Bool}{ord:List Nat}{listed:Array Bool}{t:Nat}(inv:JH ops L0 ord listed)(ht:t∈Region.ready .any ops listed):∀ (l:List Nat),xw .any ops t l=true→∀ i∈l,listed.getD i false=true
 | [],_,i,hi=>by cases hi
 | k::r,h,i,hi=>by
  simp only[xw,Bool.and_eq_true,Bool.or_eq_true] at h;have hr:=sL inv ht r h.2;rcases List.mem_cons.1 hi with e | hi
  ·subst e;rcases h.1 with h1 | h1
   ·obtain⟨_,ot,hot,Pt⟩:=mem_ready.1 ht;obtain⟨o',Py,e,he,hb,rfl⟩:=Region.waitsFor_spec h1;have:o'=ot:=Option.some.inj (Py.symm.trans hot);subst this;exact Pt e he hb
   ·obtain⟨j,hj,hw⟩:=List.any_eq_true.1 h1;obtain⟨o',Py,e,he,hb,rfl⟩:=Region.waitsFor_spec hw;exact inv.closed j o' Py (hr j hj) e he hb
  ·exact hr i hi
theorem jl (m j:Nat):(Array.replicate m false).getD j false=false:=getD_replicate_false m j
theorem iT {listed:Array Bool}{j:Nat}(hs:j<listed.size)(h:listed.getD j false=false):listed.getD j true=false:=getD_in hs h
theorem vF {L0:Array Bool}(R5:L0.size=ops.size){ord pre post:List Nat}(h0:∀ j∈ord,L0.getD j false=false){i j:Nat}{oi oj:Oper}(Qg:ord=pre++i::post)(hh:vG .any ops ord L0=true)(hn:ord.Nodup)(hj:j∈post)(Qo:ops[i]? = some oi)(Tf:ops[j]? = some oj) :
  (∃ e∈oj.after,Region.binds .any e=true∧e.on=i)∨oi.apart ops oj=true:=by
 subst Qg;obtain⟨_,hf⟩:=nX pre i post _ hh;by_cases hw:∃ e∈oj.after,Region.binds .any e=true∧e.on=i
 ·exact .inl hw
 ·refine .inr (Region.free_spec Qo hf j oj Tf ?_ ?_ fun e he hb QO=>hw ⟨e,he,hb,QO⟩)
  ·intro e;subst e;rw[List.nodup_append] at hn;exact (List.nodup_cons.1 hn.2.1).1 hj
  ·obtain⟨h1,h2⟩:=ez pre L0 j;refine iT ?_ ?_
   ·rw[h1,R5];exact (Array.getElem?_eq_some_iff.1 Tf).1
   ·cases hl:(cF pre L0).getD j false with
    | false=>rfl
    | true=>
     rw[h2,h0 j (by simp[hj])] at hl;rcases hl with hl | hl
     ·cases hl
     ·rw[List.nodup_append] at hn;exact absurd rfl (hn.2.2 j hl.1 j (List.mem_cons_of_mem _ hj))
theorem Iy (ht:aG P ak){L0:Array Bool}(R5:L0.size=ops.size){ord:List Nat}{res:Nat→Option CV}{s0 sN:St}(Pz:kB P ak C.nt ops res ord s0 sN)(hn:ord.Nodup)(h00:∀ j∈ord,L0.getD j false=false)(hh:vG .any ops ord L0=true)
  (UC:∀ j,j<ops.size→j∉ord→L0.getD j false=false→xw .any ops j ord=true∨∃ u,u∉ord∧L0.getD u false=false∧Region.waitsFor .any ops j u=true) {Q':Exit→Act→World→Prop} {g:Nat}
  (RT:∀ a w,Rel C sN a w→wpAny P .any ops Q' g (cF ord L0) a w) :
  ∀ (m:Nat) (listed:Array Bool) (a:Act) (w:World),JH ops L0 ord listed→(ord.countP fun j=>!listed.getD j false)=m →
   (∃ s:St,s.heap=s0.heap∧s.nx=s0.nx∧(∀ t,assoc s.env t=eE ops res (fun i=>listed.getD i false) ord (assoc s0.env) t)∧Rel C s a w)→wpAny P .any ops Q' (m+g) listed a w:=by
 have VL:∀ i∈ord,∃ o,ops[i]? = some o:=fun i hi=>by
  obtain⟨pre,post,rfl⟩:=List.append_of_mem hi;obtain⟨_,_,k2⟩:=kB.at_ pre (i::post) s0 sN Pz;obtain⟨o,h,_⟩:=k2;exact⟨o,h⟩
 have O1:∀ i∈ord,i<ops.size:=fun i hi=>by
  obtain⟨o,h⟩:=VL i hi;exact (Array.getElem?_eq_some_iff.1 h).1
 intro m
 induction m with
 | zero=>
  intro listed a w inv hc ⟨s,e1,e2,e3,hr⟩;have Pt:∀ j∈ord,listed.getD j false=true:=fun j hj=>by
   have:=List.countP_eq_zero.1 hc j hj
   simpa using this
  have hL:listed=cF ord L0:=by
   obtain⟨k1,_⟩:=ez ord L0 0;refine Array.ext (by rw[k1,inv.size,R5]) fun j h1 h2=>?_;obtain⟨_,k2⟩:=ez ord L0 j;have g1:listed.getD j false=listed[j]:=by simp[h1]
   have g2:(cF ord L0).getD j false=(cF ord L0)[j]:=by simp[h2]
   rw[← g1,← g2];rw[Bool.eq_iff_iff,k2];constructor
   ·intro h;rcases inv.sub j h with h' | h'
    ·exact .inl h'
    ·exact .inr ⟨h',by rw[R5,← inv.size];exact h1⟩
   ·rintro (h | h)
    ·exact inv.mono j h
    ·exact Pt j h.1
  rw[Nat.zero_add,hL];refine RT a w (hr.congr ?_ ?_ ?_)
  ·intro t;obtain⟨k1,_⟩:=kB.env ord s0 sN Pz;rw[k1,e3];exact ib ord _ _ rfl fun i hi _=>(Pt i hi).symm
  ·obtain⟨_,k2,_⟩:=kB.env ord s0 sN Pz;rw[k2,e1]
  ·obtain⟨_,_,k3⟩:=kB.env ord s0 sN Pz;rw[k3,e2]
 | succ m ih=>
  intro listed a w inv hc ⟨s,e1,e2,e3,hr⟩;have hex:∃ i∈ord,listed.getD i false=false:=by
   have:0<ord.countP fun j=>!listed.getD j false:=by omega
   obtain⟨i,hi,h⟩:=List.countP_pos_iff.1 this;exact⟨i,hi,by simpa using h⟩
  rw[show m+1+g=(m+g)+1 by omega];refine⟨fun h0=>?_,fun i hi=>?_⟩
  ·-- the first of the head that is not listed may come up
   exfalso;have:∀ (l pre:List Nat),ord=pre++l→(∀ j∈pre,listed.getD j false=true)→(∃ i∈l,listed.getD i false=false)→False:=by
    intro l
    induction l with
    | nil=>rintro pre _ _ ⟨i,hi,_⟩;cases hi
    | cons k r Yp=>
     intro pre ho hp hx
     cases hk:listed.getD k false with
     | true=>
      refine Yp (pre++[k]) (by simp[ho]) ?_ ?_
      ·intro j hj;rcases List.mem_append.1 hj with hj | hj
       ·exact hp j hj
       ·have:j=k:=by simpa using hj
        subst this;exact hk
      ·obtain⟨i,hi,hu⟩:=hx;rcases List.mem_cons.1 hi with e | hi
       ·subst e;rw[hk] at hu;cases hu
       ·exact⟨i,hi,hu⟩
     | false=>
      obtain⟨Tt,_⟩:=nX pre k r _ (ho ▸ hh);have hrd':k∈Region.ready .any ops (cF pre L0):=by simpa using Tt
      obtain⟨_,ok,Pe,Pt⟩:=mem_ready.1 hrd';have:k∈Region.ready .any ops listed:=by
       refine mem_ready.2 ⟨iT ?_ hk,ok,Pe,fun e he hb=>?_⟩
       ·rw[inv.size];exact O1 k (by rw[ho];simp)
       ·have h1:=Pt e he hb;obtain⟨_,k2⟩:=ez pre L0 e.on;rw[k2] at h1;rcases h1 with h1 | h1
        ·exact inv.mono _ h1
        ·exact hp _ h1.1
      rw[h0] at this;cases this
   exact this ord [] rfl OU hex
  ·by_cases RM:i∈ord
   ·obtain⟨pre,post,Qg⟩:=List.append_of_mem RM;obtain⟨oi,Qo⟩:=VL i RM;have QM:listed.getD i false=false:=getD_both (mem_ready.1 hi).1;obtain⟨_,oi',W4,PU⟩:=mem_ready.1 hi;have Tz:oi'=oi:=Option.some.inj (W4.symm.trans Qo);subst Tz;obtain⟨sm,q1,q2⟩:=kB.at_ pre (i::post) s0 sN (Qg ▸ Pz);obtain⟨o',Py,hq,_⟩:=q2;have Tz:o'=oi':=Option.some.inj (Py.symm.trans Qo);subst Tz;obtain⟨m1,m2,m3⟩:=kB.env pre s0 sm q1;have QY:=hn;rw[Qg,List.nodup_append,List.nodup_cons] at QY;have Qv:∀ {k ok},ops[k]? = some ok→bU ops k=ok.dst:=fun {k ok} h=>by simp[bU,h]
    -- who comes behind i and is listed is apart from i
    have Re:∀ k∈post,listed.getD k false=true→∃ ok,ops[k]? = some ok∧o'.apart ops ok=true:=fun k hk hl=>by
     obtain⟨ok,Pe⟩:=VL k (by rw[Qg];simp[hk]);rcases vF R5 h00 Qg hh hn hk Qo Pe with ⟨e,he,hb,QO⟩ | PJ
     ·have:=inv.closed k ok Pe hl e he hb;rw[QO,QM] at this;cases this
     ·exact⟨ok,Pe,PJ⟩
    -- who stands ahead of i and is not listed is apart from i
    have UH:∀ k∈pre,listed.getD k false=false→∃ ok,ops[k]? = some ok∧ok.apart ops o'=true:=fun k hk hl=>by
     obtain⟨p1,p2,hp⟩:=List.append_of_mem hk;obtain⟨ok,Pe⟩:=VL k (by rw[Qg,hp];simp);have UM:ord=p1++k::(p2++i::post):=by rw[Qg,hp];simp
     rcases vF R5 h00 UM hh hn OU Pe Qo with ⟨e,he,hb,QO⟩ | PJ
     ·have:=PU e he hb;rw[QO,hl] at this;cases this
     ·exact⟨ok,Pe,PJ⟩
    have Za:∀ t∈o'.looksAt ops,assoc sm.env t=assoc s.env t:=fun t PK=>by
     rw[m1,e3,Qg,jM];simp only[eE];have Ui:listed.getD i false=false:=QM;simp only[Ui,Bool.false_eq_true,if_false];have s1:eE ops res (fun i=>listed.getD i false) post (eE ops res (fun i=>listed.getD i false) pre (assoc s0.env)) t=eE ops res (fun _=>false) post (eE ops res (fun i=>listed.getD i false) pre (assoc s0.env)) t:=
      ib post _ _ rfl fun k hk hd=>by
       cases hl:listed.getD k false with
       | false=>rfl
       | true=>
        obtain⟨ok,Pe,PJ⟩:=Re k hk hl;obtain⟨_,_,h3⟩:=Oper.apart_spec PJ;rw[Qv Pe] at hd;exact absurd PK (h3 t hd)
     rw[s1,mv post _ (fun _ _=>rfl)];refine ib pre _ _ rfl fun k hk hd=>?_
     cases hl:listed.getD k false with
     | true=>rfl
     | false=>
      obtain⟨ok,Pe,PJ⟩:=UH k hk hl;obtain⟨h1,_,_⟩:=Oper.apart_spec PJ;rw[Qv Pe] at hd;exact absurd PK (h1 t hd)
    have RQ:tv P ak C.nt ops s o' (res i):=hq.congr (by rw[m2,e1]) Za;refine JF ht hr Qo RQ fun a' w' Pp=>?_;have OX:i<listed.size:=by rw[inv.size];exact O1 i RM
    refine ih _ a' w' (inv.set hi RM) ?_ ⟨_,by rw[dg.1,e1],by rw[dg.2,e2],fun t=>?_,Pp⟩
    ·have:=count_set ord i listed hn RM OX QM;omega
    ·rw[cr,Qg,jM];simp only[eE];have Qn:(listed.setIfInBounds i true).getD i false=true:=by simp[OX]
     simp only[Qn,if_true];have hX:eE ops res (fun j=>(listed.setIfInBounds i true).getD j false) pre (assoc s0.env)=eE ops res (fun j=>listed.getD j false) pre (assoc s0.env):=funext fun u=>
      ib pre _ _ rfl fun k hk _=>getD_set_ne false (fun e=>by subst e;exact QY.2.2 i hk i OU rfl)
     have hY:∀ (E:Nat→Option CV) u,eE ops res (fun j=>(listed.setIfInBounds i true).getD j false) post E u=eE ops res (fun j=>listed.getD j false) post E u:=fun E u=>
      ib post _ _ rfl fun k hk _=>getD_set_ne false (fun e=>by subst e;exact QY.2.1.1 hk)
     rw[hX,hY,Qv Qo];unfold ej;rw[e3,Qg,jM];simp only[eE,QM,Bool.false_eq_true,if_false];by_cases hd:o'.dst=some t
     ·rw[if_pos hd];have s1:eE ops res (fun j=>listed.getD j false) post (fun u=>if o'.dst=some u then res i else eE ops res (fun j=>listed.getD j false) pre (assoc s0.env) u) t=eE ops res (fun _=>false) post (fun u=>if o'.dst=some u then res i else eE ops res (fun j=>listed.getD j false) pre (assoc s0.env) u) t:=
       ib post _ _ rfl fun k hk Xr=>by
        cases hl:listed.getD k false with
        | false=>rfl
        | true=>
         obtain⟨ok,Pe,PJ⟩:=Re k hk hl;obtain⟨_,h2,_⟩:=Oper.apart_spec PJ;rw[Qv Pe] at Xr;exact absurd Xr (h2 t hd)
      rw[s1,mv post _ (fun _ _=>rfl)];simp[hd]
     ·rw[if_neg hd];exact ib post _ _ (by simp[hd]) fun _ _ _=>rfl
   ·exfalso;obtain⟨i0,Ui,XT⟩:=hex;obtain⟨_,ot,hot,Pt⟩:=mem_ready.1 hi;have Uf:L0.getD i false=false:=by
     cases hl:L0.getD i false with
     | false=>rfl
     | true=>
      have:=inv.mono i hl;rw[getD_both (mem_ready.1 hi).1] at this;cases this
    rcases UC i (Array.getElem?_eq_some_iff.1 hot).1 RM Uf with h1 | ⟨u,hu,hu',hw⟩
    ·have:=sL inv hi ord h1 i0 Ui;rw[XT] at this;cases this
    ·obtain⟨o',Py,e,he,hb,rfl⟩:=Region.waitsFor_spec hw;have:o'=ot:=Option.some.inj (Py.symm.trans hot);subst this;rcases inv.sub _ (Pt e he hb) with h | h
     ·rw[hu'] at h;cases h
     ·exact hu h
def AL (ops:Array Oper):List Nat→Array Bool→Bool
 | [],_=>true
 | i::r,listed=>(Region.ready .any ops listed).contains i && Region.free .any ops listed i && (match ops[i]? with
   | some o=>o.guard.isNone && (match o.op with | .move _=>true | .indexAddr _ _ _=>true | .fieldAddr _ _ _=>true | .nilCheck _=>true | _=>false)
   | none=>false) && AL ops r (listed.setIfInBounds i true)
theorem ze (ht:aG P ak)(YK:Region.noSelect ops=true){Q':Exit→Act→World→Prop}(hQ:∀ c a w,¬ Q' (.panic c) a w){g:Nat}{K:St→Prop}:∀ (pre:List Nat) (L0:Array Bool) (s:St) (a:Act) (w:World),AL ops pre L0=true→Rel C s a w →
  TH P ak C.nt ops pre s K→(∀ s' a',K s'→Rel C s' a' w→wpAny P .any ops Q' g (cF pre L0) a' w)→wpAny P .any ops Q' (pre.length+g) L0 a w
 | [],L0,s,a,w,_,hr,hk,RT=>by rw[List.length_nil,Nat.zero_add];exact RT s a hk hr
 | i::r,L0,s,a,w,hp,hr,hk,RT=>by
  simp only[AL,Bool.and_eq_true] at hp;obtain⟨⟨⟨h1,h2⟩,h3⟩,h4⟩:=hp;obtain⟨o,res,ho,hq,Zk⟩:=hk;rw[ho] at h3;simp only[Bool.and_eq_true] at h3;have hg:o.guard=none:=by simpa using h3.1
  obtain⟨hd,hq⟩:=hq;rcases hq with ⟨j,want,t,e1,_⟩ | ⟨_,c,rfl,hc⟩
  ·rw[hg] at e1;cases e1
  ·obtain⟨σ,hr⟩:=hr;have hv:∃ v,(∀ w,(execOp a.eval o).run P w=.ok (.value v) w)∧VR w (FB C σ s.heap) σ c v:=by
    rcases hc with hc | ⟨cl,e,_⟩
    ·cases O8:o.op<;>rw[O8] at h3<;>simp at h3
     case move x=>
      rw[O8] at hc;exact⟨a.eval x,fun w=>by simp[execOp,O8],bK hr hc⟩
     case indexAddr t x i=>
      rw[O8] at hc;simp only[cY] at hc;split at hc
      ·rename_i c' k n hx hi;have hn:=bK hr hi;simp only[VR] at hn;obtain⟨z,k1,k2⟩:=yg (P:=P) (k:=k) ht (bK hr hx) hc;exact⟨z,fun w=>by simp[execOp,O8,hn,k1],k2⟩
      ·cases hc
     case fieldAddr t x f=>
      rw[O8] at hc;simp only[cY] at hc;split at hc
      ·rename_i c' hx;obtain⟨z,k1,k2⟩:=pA (P:=P) ht (bK hr hx) hc;exact⟨z,fun w=>by simp[execOp,O8,k1],k2⟩
      ·cases hc
     case nilCheck x=>
      rw[O8] at hc;simp only[cY] at hc;split at hc
      ·rename_i o' p hx;cases hc;have hv:=bK hr hx;have RJ:=hv;simp only[VR] at RJ;obtain⟨B,b,_,_,e⟩:=RJ;exact⟨_,fun w=>by simp only[execOp,O8,e];rfl,by rw[← e];exact hv⟩
      ·rename_i cs hx;cases hc;have hv:=bK hr hx;have RJ:=hv;simp only[VR,cq] at RJ;obtain⟨ad,e,_⟩:=RJ;exact⟨_,fun w=>by simp only[execOp,O8,e];rfl,by rw[← e];exact hv⟩
      ·rename_i f cs hx;cases hc;have hv:=bK hr hx;have RJ:=hv;simp only[VR] at RJ;obtain⟨vs,e,_⟩:=RJ;exact⟨_,fun w=>by simp only[execOp,O8,e];rfl,by rw[← e];exact hv⟩
      ·cases hc
    ·rw[e] at h3;simp at h3
   obtain⟨v,hv1,hv2⟩:=hv;have hy:Yields P ops o v a:=.inl ⟨by simp[Region.wanted,hg],hv1⟩;rw[show (i::r).length+g=(r.length+g)+1 by simp;omega];refine wpAny_take ho YK h2 h1 (fun c a w h=>absurd h (hQ c _ w)) hy ?_;refine ze ht YK hQ r (L0.setIfInBounds i true) _ _ w h4 ⟨σ,hr.put ?_ hv2⟩ Zk (fun s' a' Sz Pp=>RT s' a' Sz Pp);intro t e;rw[hr.tm];rw[e] at hd
   simpa [a6] using hd
def Bs (ops:Array Oper)(pre ord tail:List Nat):Bool:=
 let L1:=cF pre (Array.replicate ops.size false)
 Region.noSelect ops && AL ops pre (Array.replicate ops.size false) && vG .any ops ord L1 && decide (pre++ord).Nodup && Ht .any ops tail (cF ord L1) &&
 decide (pre.length+(ord.length+tail.length)=ops.size) && tail.all (fun t=>decide (t<ops.size) && !ord.contains t && !pre.contains t && (xw .any ops t ord || tail.any fun u=>Region.waitsFor .any ops t u)) &&
 (List.range ops.size).all fun j=>pre.contains j || ord.contains j || tail.contains j
theorem TH.split {nt:Nat}{K:St→Prop}:∀ (l m:List Nat) (s:St),TH P ak nt ops (l++m) s K→TH P ak nt ops l s fun s'=>TH P ak nt ops m s' K
 | [],_,_,h=>h
 | _::l,m,_,⟨o,r,h1,h2,h3⟩=>⟨o,r,h1,h2,TH.split l m _ h3⟩
theorem DO:∀ (pre:List Nat) (L0:Array Bool),L0.size=ops.size→AL ops pre L0=true→(∀ j oj,ops[j]? = some oj→L0.getD j false=true→∀ e∈oj.after,Region.binds .any e=true→L0.getD e.on false=true) →
  ∀ j oj,ops[j]? = some oj→(cF pre L0).getD j false=true→∀ e∈oj.after,Region.binds .any e=true→(cF pre L0).getD e.on false=true
 | [],L0,_,_,h=>h
 | i::r,L0,hs,hp,h=>by
  simp only[AL,Bool.and_eq_true] at hp;obtain⟨⟨⟨h1,_⟩,_⟩,h4⟩:=hp;have hi:i∈Region.ready .any ops L0:=by simpa using h1
  obtain⟨_,oi,Qo,Pt⟩:=mem_ready.1 hi;refine DO r _ (by simpa using hs) h4 fun j oj hj hl e he hb=>?_;by_cases Qr:i=j
  ·subst Qr;have:oj=oi:=Option.some.inj (hj.symm.trans Qo);subst this;exact getD_set_true (Pt e he hb)
  ·rw[getD_set_ne false Qr] at hl;exact getD_set_true (h j oj hj hl e he hb)
theorem T.draw (ht:aG P ak)(hm:P.follows .mixedOrders=true){id:Nat}{l:List Oper}{Q:Exit→St→Prop}(pre ord tail:List Nat)(hB:Bs l.toArray pre ord tail=true)
  (h:TH P ak C.nt l.toArray (pre++ord) s fun s'=>TL P C l.toArray (tail.map (l.toArray.getD · default)) s' (Q .normal)):T P C (.region id l.toArray true) s Q:=by
 intro a w hr;simp only[Bs,Bool.and_eq_true,decide_eq_true_eq] at hB;obtain⟨⟨⟨⟨⟨⟨⟨h0,hp⟩,h1⟩,h2⟩,h3⟩,h4⟩,h5⟩,h6⟩:=hB;have QY:=List.nodup_append.1 h2;have hL:∀ j,(cF pre (Array.replicate l.toArray.size false)).getD j false=true→j∈pre:=fun j hj=>by
  obtain⟨_,k2⟩:=ez pre (Array.replicate l.toArray.size false) j;rw[k2,jl] at hj;rcases hj with hj | hj
  ·cases hj
  ·exact hj.1
 have hLf:∀ j,j∉pre→(cF pre (Array.replicate l.toArray.size false)).getD j false=false:=fun j hj=>by
  cases hl:(cF pre (Array.replicate l.toArray.size false)).getD j false with
  | false=>rfl
  | true=>exact absurd (hL j hl) hj
 have R5:(cF pre (Array.replicate l.toArray.size false)).size=l.toArray.size:=by rw[(ez pre _ 0).1];simp
 refine wp_mono (Q:=fun e a' w'=>e=.normal∧∃ s',Q .normal s'∧Rel C s' a' w') (wp_region_any hm ?_) (fun e a' w' ⟨he,s',k1,k2⟩=>by subst he;exact⟨s',k1,k2⟩);have PK:∀ t∈tail,t<l.toArray.size∧t∉ord∧t∉pre:=fun t ht=>by
  have:=List.all_eq_true.1 h5 t ht;simp only[Bool.and_eq_true,decide_eq_true_eq,Bool.not_eq_true',List.contains_eq_mem,decide_eq_false_iff_not] at this;exact⟨this.1.1.1,this.1.1.2,this.1.2⟩
 have UC:∀ j,j<l.toArray.size→j∉ord→(cF pre (Array.replicate l.toArray.size false)).getD j false=false →
   xw .any l.toArray j ord=true∨∃ u,u∉ord∧(cF pre (Array.replicate l.toArray.size false)).getD u false=false∧Region.waitsFor .any l.toArray j u=true:=fun j hj hjo Pn=>by
  have:=List.all_eq_true.1 h6 j (List.mem_range.2 hj);simp only[Bool.or_eq_true,List.contains_eq_mem,decide_eq_true_eq] at this;rcases this with (e | e) | e
  ·exfalso;obtain⟨_,k2⟩:=ez pre (Array.replicate l.toArray.size false) j;have:=k2.2 (.inr ⟨e,by simpa using hj⟩);rw[Pn] at this;cases this
  ·exact absurd e hjo
  ·have h7:=List.all_eq_true.1 h5 j e;simp only[Bool.and_eq_true,Bool.or_eq_true] at h7;rcases h7.2 with h8 | h8
   ·exact .inl h8
   ·obtain⟨u,hu,hw⟩:=List.any_eq_true.1 h8;exact .inr ⟨u,(PK u hu).2.1,hLf u (PK u hu).2.2,hw⟩
 have Pq:=ze (P:=P) (ak:=ak) (C:=C) (Q':=fun e a' w'=>e=.normal∧∃ s',Q .normal s'∧Rel C s' a' w') ht h0 (fun c a w h=>by cases h.1) (g:=ord.length+tail.length) pre (Array.replicate l.toArray.size false) s a { w with drawn:=w.drawn+1 } hp hr.drew (TH.split pre ord s h) (fun s1 a1 TW PQ=>by
  obtain⟨res,sN,Pz,hN⟩:=TH.run ord s1 QY.2.1 TW;refine Iy (g:=tail.length) ht R5 Pz QY.2.1 (fun j hj=>hLf j fun e=>QY.2.2 j e j hj rfl) h1 UC (fun a w hr=>pg tail _ a w (fun i hi=>(PK i hi).1) h3 (hN a w _ hr fun s' _ _ hk Pp=>⟨rfl,s',hk,Pp⟩))
   ord.length _ a1 _ ⟨R5,DO pre _ OU hp fun j oj _ hl=>(by rw[jl] at hl;cases hl),fun j hl=>.inl hl,fun j hl=>hl⟩
   (by rw[List.countP_eq_length];intro j hj;rw[hLf j fun e=>QY.2.2 j e j hj rfl];rfl)
   ⟨s1,rfl,rfl,fun t=>by rw[mv ord _ (fun i hi=>hLf i fun e=>QY.2.2 i e i hi rfl)],PQ⟩)
 rw[h4] at Pq;exact Pq
end
end Go.Can
