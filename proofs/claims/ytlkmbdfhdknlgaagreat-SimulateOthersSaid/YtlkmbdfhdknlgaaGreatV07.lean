/- Regions that draw their or -/
import Derived.Test.YtlkmbdfhdknlgaaGreatV06
namespace Go.Can
open Go.RowKit List
theorem Rel.congr {C:Cx}{s s':St}{a:Act}{w:World}(h:Rel C s a w)(he:∀ t,assoc s'.env t=assoc s.env t)(hh:s'.heap=s.heap)(hn:s'.nx=s.nx):Rel C s' a w:=by
 obtain⟨σ,h⟩:=h;refine⟨σ,h.oz,h.tm,h.os,h.tape,h.output,h.size,h.frame,?_,?_,?_,?_,h.fX,by rw[hn];exact h.low,h.new⟩
 ·intro t c hc;rw[he] at hc;rw[hh];exact h.env t c hc
 ·rw[hh];exact h.obj
 ·rw[hh];exact h.inj
 ·rw[hn];exact h.nx
theorem Rel.drew {C:Cx}{s:St}{a:Act}{w:World}(h:Rel C s a w):Rel C s a { w with drawn:=w.drawn+1 }:=by
 obtain⟨σ,h⟩:=h;exact⟨σ,h.below (w':=w.drew) ⟨rfl,rfl,rfl,Nat.le_refl _,λ _ _=>rfl⟩⟩
section
variable {P:Program}{av:List (Nat×TI)}{s s':St}
theorem je:∀ (xs:List Operand),(∀ x∈xs,ev s x=ev s' x)->Bk s xs=Bk s' xs
 | [],_=>rfl
 | x::r,h=>by
  simp only[Bk];rw[h x xr,je r λ y hy=>h y (by simp[hy])]
theorem jV:∀ (xs:List (Nat×Operand)),(∀ x∈xs,ev s x.2=ev s' x.2)->iy s xs=iy s' xs
 | [],_=>rfl
 | (i,x)::r,h=>by
  simp only[iy];rw[h (i,x) xr,jV r λ y hy=>h y (by simp[hy])]
theorem jX {x:Option Operand}(h:∀ y,x=some y->ev s y=ev s' y)(d:Nat):dJ s x d=dJ s' x d:=by
 cases x with
 | none=>rfl
 | some y=>simp only[dJ];rw[h y rfl]
theorem sY (hh:s.heap=s'.heap)(c:CV):gS s c=gS s' c:=by
 unfold gS;rw[hh]
theorem zp (hh:s.heap=s'.heap){lo hi:Option Operand}(h1:∀ y,lo=some y->ev s y=ev s' y)(h2:∀ y,hi=some y->ev s y=ev s' y)(t:TypeId)(c:CV):lJ av s t c lo hi=lJ av s' t c lo hi:=by
 unfold lJ;rw[hh];simp only[jX h1,jX h2]
theorem CS (hh:s.heap=s'.heap)(c:CV):zb s c=zb s' c:=by
 unfold zb;rw[hh]
theorem s7 (hh:s.heap=s'.heap):∀ cs,nr s cs=nr s' cs
 | []=>rfl
 | c::cs=>by simp only[nr];rw[CS hh,s7 hh cs]
theorem u9 (hh:s.heap=s'.heap)(op:Op)(h:∀ x∈op.operands,ev s x=ev s' x):fp av s op=fp av s' op:=by
 cases op
 case move x=>exact h x Rn
 case assign x=>exact h x Rn
 case pick c x y=>
  simp only[fp];rw[h c Rn,h x Rn,h y Rn]
 case binOp op t x y yt=>
  simp only[fp];rw[h x Rn,h y Rn]
 case unOp op t x=>simp only[fp];rw[h x Rn]
 case load t x=>simp only[fp];rw[h x Rn];simp only[sY hh]
 case slice t x lo hi mx=>
  have h1:∀ y,lo=some y->ev s y=ev s' y:=λ y e=>h y (by subst e;simp[Op.operands]);have h2:∀ y,hi=some y->ev s y=ev s' y:=λ y e=>h y (by subst e;simp[Op.operands])
  cases mx with
  | none=>simp only[fp];rw[h x Rn];simp only[zp hh h1 h2]
  | some _=>rfl
 case fieldAddr t x f=>simp only[fp];rw[h x Rn]
 case field t x f=>simp only[fp];rw[h x Rn]
 case indexAddr t x i=>simp only[fp];rw[h x Rn,h i Rn]
 case index t x i=>simp only[fp];rw[h x Rn,h i Rn]
 case extract x i=>simp only[fp];rw[h x Rn]
 case makeFunc f first cap=>
  cases f<;>first | rfl | skip
  simp only[fp];rw[je cap.toList λ x hx=>h x (by simp only[Op.operands,Array.mem_append];exact .inr (by simpa using hx))]
 case nilCheck x=>simp only[fp];rw[h x Rn]
 case build t parts=>
  simp only[fp,sF];rw[jV parts.toList λ x hx=>h x.2 yEa]
 case call c=>
  simp only[fp];split
  ·rename_i b hb;have ha:∀ x∈c.args.toList,ev s x=ev s' x:=λ x hx=>h x (by simp only[Op.operands,Call.operands,Array.mem_append];exact .inr (by simpa using hx));unfold iz;split
   ·split
    ·rename_i x t e _;rw[ha x (by rw[e];simp)]
    ·rfl
   ·rw[je _ ha]
   ·rw[je _ ha]
   ·rfl
  ·rfl
 all_goals rfl
theorem bR.congr (hh:s.heap=s'.heap){c:Call}{r:CV}(h:∀ x∈c.operands,ev s x=ev s' x)(hc:bR P s c r):bR P s' c r:=by
 obtain⟨g,cs,h1,h2⟩:=hc;have ha:∀ x∈c.args.toList,ev s x=ev s' x:=λ x hx=>h x (by simp only[Call.operands,Array.mem_append];exact .inr (by simpa using hx));refine⟨g,cs,?_,?_⟩
 ·rw[<- h1];unfold bJ;split
  ·rename_i f hf;rw[h f (by simp[Call.operands,hf]),je _ ha]
  ·rfl
 ·rcases h2 with h2 | ⟨ds,k1,k2⟩
  ·exact .inl h2
  ·exact .inr ⟨ds,by rw[<- s7 hh];exact k1,k2⟩
end
def nA (s:St)(d:Option Tmp):Option CV->St
 | some c=>s.put d c
 | none=>s.del d
def tY (P:Program)(av:List (Nat×TI))(nt:Nat)(ops:Array Oper)(s:St)(o:Oper)(r:Option CV):Prop:=
 bl nt o.dst=true/\
  ((∃ j want t,o.guard=some (j,want)/\(ops[j]?).bind (·.dst)=some t/\mI (assoc s.env t) want=some false/\r=some (.bY []))\/
   ((o.guard=none\/∃ j want t,o.guard=some (j,want)/\(ops[j]?).bind (·.dst)=some t/\assoc s.env t=some (.bool want))/\
    ∃ c,r=some c/\(fp av s o.op=some c\/∃ cl,o.op=.call cl/\bR P s cl c)))
section
variable {P:Program}{C:Cx}{s:St}{a:Act}{w:World}{ops:Array Oper}{av:List (Nat×TI)}
theorem IU (ht:aD P av)(hr:Rel C s a w){i:Nat}{o:Oper}(hi:ops[i]? = some o){r:Option CV}(hq:tY P av C.nt ops s o r){K:Act->World->Prop}{Q:Exit->Act->World->Prop}
  (hK:∀ a' w',Rel C (nA s o.dst r) a' w'->K a' w'):wpOp P ops Q i K a w:=by
 obtain⟨hd,hq⟩:=hq;unfold wpOp;simp only[hi];rcases hq with ⟨j,want,t,hg,hj,hb,rfl⟩ | ⟨hg,c,rfl,hc⟩
 ·rw[if_neg (by simp[iR hr hg hj hb])];exact hK _ _ (hr.skip hd)
 ·have hw:Region.wanted o (yielded ops a.tmps)=true:=by
   rcases hg with hg | ⟨j,want,t,hg,hj,hb⟩
   ·simp[Region.wanted,hg]
   ·simp[Region.wanted,hg,pO hr hj hb]
  rw[if_pos hw];refine .inl ?_;obtain⟨σ,hr⟩:=hr;have PG:∀ {w'} (_:aO C σ s a w') t,o.dst=some t->t<a.tmps.size:=λ {w'} h t e=>by
   rw[h.tm];rw[e] at hd
   simpa [bl] using hd
  rcases hc with hc | ⟨cl,ho,hc⟩
  ·obtain⟨z,k1,k2⟩:=uA ht hr o hc;unfold Oper.wp;rw[k1];exact hK _ _ ⟨σ,hr.put (PG hr) k2⟩
  ·exact wE hr ho hc _ _ λ v w' Pu hv=>hK _ _ ⟨σ,Pu.put (PG Pu) hv⟩
theorem tY.congr {s':St}{o:Oper}{r:Option CV}(hh:s.heap=s'.heap)(h:∀ t∈o.looksAt ops,assoc s.env t=assoc s'.env t)(hq:tY P av C.nt ops s o r):tY P av C.nt ops s' o r:=by
 obtain⟨hd,hq⟩:=hq;have hg:∀ j want t,o.guard=some (j,want)->(ops[j]?).bind (·.dst)=some t->assoc s.env t=assoc s'.env t:=λ j want t hg hj=>h t (by simp[Oper.looksAt,hg,hj]);have hx:∀ x∈o.op.operands,ev s x=ev s' x:=λ x hx=>by
  cases x with
  | tmp t=>exact h t (mem_append_left _ (mem_filterMap.2 ⟨.tmp t,by simpa using hx,rfl⟩))
  | _=>rfl
 refine⟨hd,?_⟩;rcases hq with ⟨j,want,t,e1,e2,e3,e5⟩ | ⟨e1,c,e2,e3⟩
 ·exact .inl ⟨j,want,t,e1,e2,by rw[<- hg j want t e1 e2];exact e3,e5⟩
 ·refine .inr ⟨?_,c,e2,?_⟩
  ·rcases e1 with e1 | ⟨j,want,t,f1,f2,f3⟩
   ·exact .inl e1
   ·exact .inr ⟨j,want,t,f1,f2,by rw[<- hg j want t f1 f2];exact f3⟩
  ·rcases e3 with e3 | ⟨cl,f1,f2⟩
   ·exact .inl (by rw[<- u9 hh o.op hx];exact e3)
   ·exact .inr ⟨cl,f1,f2.congr hh λ x QD=>hx x (by rw[f1];exact QD)⟩
def TH (P:Program)(av:List (Nat×TI))(nt:Nat)(ops:Array Oper):List Nat->St->(St->Prop)->Prop
 | [],s,K=>K s
 | i::r,s,K=>∃ o res,ops[i]? = some o/\tY P av nt ops s o res/\TH P av nt ops r (nA s o.dst res) K
def kK (P:Program)(av:List (Nat×TI))(nt:Nat)(ops:Array Oper)(res:Nat->Option CV):List Nat->St->St->Prop
 | [],s,s'=>s=s'
 | i::r,s,s'=>∃ o,ops[i]? = some o/\tY P av nt ops s o (res i)/\kK P av nt ops res r (nA s o.dst (res i)) s'
theorem kK.ext {nt:Nat}{res SK:Nat->Option CV}:∀ (l:List Nat) (s s':St),(∀ i∈l,res i=SK i)->kK P av nt ops res l s s'->kK P av nt ops SK l s s'
 | [],_,_,_,h=>h
 | i::r,s,s',he,h=>by
  obtain⟨o,h1,h2,h3⟩:=h;have e:=he i xr;rw[e] at h2 h3;exact⟨o,h1,h2,kK.ext r _ s' (λ j hj=>he j (by simp[hj])) h3⟩
theorem TH.run {nt:Nat}{K:St->Prop}:∀ (l:List Nat) (s:St),l.Nodup->TH P av nt ops l s K->∃ res s',kK P av nt ops res l s s'/\K s'
 | [],s,_,h=>⟨λ _=>none,s,rfl,h⟩
 | i::r,s,hn,h=>by
  obtain⟨o,x,h1,h2,h3⟩:=h;rw[nodup_cons] at hn;obtain⟨res,s',k1,k2⟩:=TH.run r _ hn.2 h3;refine⟨λ j=>if j=i then x else res j,s',⟨o,h1,by simpa using h2,?_⟩,k2⟩;simp only[if_true];exact kK.ext r _ s' (λ j hj=>by rw[if_neg (λ e=>hn.1 (by subst e;exact hj))]) k1
def ql (E:Nat->Option CV)(d:Option Tmp)(r:Option CV):Nat->Option CV:=λ t=>if d=some t then r else E t
def dg (ops:Array Oper)(i:Nat):Option Tmp:=(ops[i]?).bind (·.dst)
def eT (ops:Array Oper)(res:Nat->Option CV)(L:Nat->Bool):List Nat->(Nat->Option CV)->Nat->Option CV
 | [],E=>E
 | i::r,E=>eT ops res L r (if L i then ql E (dg ops i) (res i) else E)
theorem iv {res:Nat->Option CV}{L L':Nat->Bool}{t:Nat}:∀ (l:List Nat) (E E':Nat->Option CV),E t=E' t->(∀ i∈l,dg ops i=some t->L i=L' i)->eT ops res L l E t=eT ops res L' l E' t
 | [],_,_,h,_=>h
 | i::r,E,E',h,hl=>by
  simp only[eT];refine iv r _ _ ?_ λ j hj=>hl j (by simp[hj]);by_cases hd:dg ops i=some t
  ·rw[hl i xr hd];split
   ·simp[ql,hd]
   ·exact h
  ·have:∀ (b:Bool) (X:Nat->Option CV),(if b then ql X (dg ops i) (res i) else X) t=X t:=λ b X=>by
    cases b<;>simp[ql,hd]
   rw[this,this];exact h
theorem jT {res:Nat->Option CV}{L:Nat->Bool}:∀ (l m:List Nat) (E:Nat->Option CV),eT ops res L (l++m) E=eT ops res L m (eT ops res L l E)
 | [],_,_=>rfl
 | i::r,m,E=>by simp only[cons_append,eT];exact jT r m _
theorem mM {res:Nat->Option CV}{L:Nat->Bool}:∀ (l:List Nat) (E:Nat->Option CV),(∀ i∈l,L i=false)->eT ops res L l E=E
 | [],_,_=>rfl
 | i::r,E,h=>by
  simp only[eT];rw[h i xr];exact mM r _ λ j hj=>h j (by simp[hj])
theorem mZ {s:St}{d:Option Tmp}{r:Option CV}(t:Nat):assoc (nA s d r).env t=ql (assoc s.env) d r t:=by
 cases r with
 | none=>
  cases d with
  | none=>simp[nA,St.del,ql]
  | some x=>simp[nA,St.del,ql,fv]
 | some c=>
  cases d with
  | none=>simp[nA,St.put,ql]
  | some x=>
   simp only[nA,St.put,ql,assoc,fv,Option.some.injEq];split<;>rfl
theorem gO {s:St}{d:Option Tmp}{r:Option CV}:(nA s d r).heap=s.heap/\(nA s d r).nx=s.nx:=by
 cases r<;>cases d<;>exact⟨rfl,rfl⟩
theorem kK.at_ {nt:Nat}{res:Nat->Option CV}:∀ (pre post:List Nat) (s s':St),kK P av nt ops res (pre++post) s s'->∃ m,kK P av nt ops res pre s m/\kK P av nt ops res post m s'
 | [],_,s,s',h=>⟨s,rfl,h⟩
 | i::r,post,s,s',h=>by
  obtain⟨o,h1,h2,h3⟩:=h;obtain⟨m,k1,k2⟩:=kK.at_ r post _ s' h3;exact⟨m,⟨o,h1,h2,k1⟩,k2⟩
theorem kK.env {nt:Nat}{res:Nat->Option CV}:∀ (l:List Nat) (s s':St),kK P av nt ops res l s s'->(∀ t,assoc s'.env t=eT ops res (λ _=>true) l (assoc s.env) t)/\s'.heap=s.heap/\s'.nx=s.nx
 | [],s,s',h=>by cases h;exact⟨λ _=>rfl,rfl,rfl⟩
 | i::r,s,s',h=>by
  obtain⟨o,h1,h2,h3⟩:=h;obtain⟨k1,k2,k3⟩:=kK.env r _ s' h3;refine⟨λ t=>?_,k2.trans gO.1,k3.trans gO.2⟩;rw[k1];simp only[eT,if_true];have:dg ops i=o.dst:=by simp[dg,h1]
  rw[this];exact iv r _ _ (mZ t) λ _ _ _=>rfl
def vM (md:Region.Mode)(ops:Array Oper):List Nat->Array Bool->Bool
 | [],_=>true
 | i::r,listed=>(Region.ready md ops listed).contains i && Region.free md ops listed i && vM md ops r (listed.setIfInBounds i true)
def dk:List Nat->Array Bool->Array Bool
 | [],l=>l
 | i::r,l=>dk r (l.setIfInBounds i true)
def xn (md:Region.Mode)(ops:Array Oper)(t:Nat):List Nat->Bool
 | []=>true
 | i::r=>(Region.waitsFor md ops t i || r.any λ j=>Region.waitsFor md ops j i) && xn md ops t r
def GV (md:Region.Mode)(ops:Array Oper):List Nat->Array Bool->Bool
 | [],listed=>(Region.ready md ops listed).isEmpty
 | k::r,listed=>decide (Region.ready md ops listed=[k]) && GV md ops r (listed.setIfInBounds k true)
theorem eL:∀ (l:List Nat) (a:Array Bool) (j:Nat),(dk l a).size=a.size/\((dk l a).getD j false=true↔a.getD j false=true\/(j∈l/\j<a.size))
 | [],a,j=>by simp[dk]
 | i::r,a,j=>by
  obtain⟨h1,h2⟩:=eL r (a.setIfInBounds i true) j;simp only[dk];refine⟨by simpa using h1,?_⟩;rw[h2];by_cases Rg:i=j
  ·subst Rg;by_cases hl:i<a.size
   ·simp[hl]
   ·simp[hl]
  ·rw[getD_set_ne false Rg];simp[Ne.symm Rg]
theorem py {md:Region.Mode}{Q':Exit->Act->World->Prop}:∀ (idx:List Nat) (listed:Array Bool) (a:Act) (w:World),(∀ i∈idx,i<ops.size)->GV md ops idx listed=true ->
  wpList P ops Q' (idx.map (ops.getD · default)) a w->wpAny P md ops Q' idx.length listed a w
 | [],_,_,_,_,hB,h=>⟨by simpa [GV] using hB,h⟩
 | k::r,listed,a,w,OT,hB,h=>by
  simp only[GV,Bool.and_eq_true,decide_eq_true_eq] at hB;refine⟨λ h1=>(by rw[hB.1] at h1;cases h1),λ i hi=>?_⟩;rw[hB.1] at hi;have Zu:i=k:=by simpa using hi
  subst Zu;have TQ:=OT i xr;have h0:ops[i]? = some (ops.getD i default):=by simp[TQ]
  have hw:wpOp P ops Q' i (wpList P ops Q' (r.map (ops.getD · default))) a w:=by
   unfold wpOp;simp only[h0]
   simpa only[map_cons,wpList] using h
  exact wpOp_mono (λ a' w' h'=>py r _ a' w' (λ j hj=>OT j (by simp[hj])) hB.2 h') hw
end
section
variable {P:Program}{C:Cx}{s:St}{a:Act}{w:World}{ops:Array Oper}{av:List (Nat×TI)}
theorem oq {md:Region.Mode}:∀ (pre:List Nat) (i:Nat) (post:List Nat) (L:Array Bool),vM md ops (pre++i::post) L=true ->
  (Region.ready md ops (dk pre L)).contains i=true/\Region.free md ops (dk pre L) i=true
 | [],i,post,L,h=>by
  simp only[nil_append,vM,Bool.and_eq_true] at h;exact h.1
 | k::pre,i,post,L,h=>by
  simp only[cons_append,vM,Bool.and_eq_true] at h;simp only[dk];exact oq pre i post _ h.2
theorem count_set:∀ (ord:List Nat) (i:Nat) (listed:Array Bool),ord.Nodup->i∈ord->i<listed.size->listed.getD i false=false ->
  (ord.countP λ j=>!(listed.setIfInBounds i true).getD j false)+1=ord.countP λ j=>!listed.getD j false
 | [],_,_,_,h,_,_=>by cases h
 | k::r,i,listed,hn,hi,OT,hu=>by
  rw[nodup_cons] at hn;simp only[countP_cons];by_cases hk:k=i
  ·subst hk;have h1:((listed.setIfInBounds k true).getD k false)=true:=by simp[OT]
   have h2:(r.countP λ j=>!(listed.setIfInBounds k true).getD j false)=r.countP λ j=>!listed.getD j false:=by
    refine countP_congr λ j hj=>?_;rw[getD_set_ne false (λ e=>hn.1 (by subst e;exact hj))]
   rw[h1,h2,hu];simp
  ·have hir:i∈r:=by
    rcases mem_cons.1 hi with e | e
    ·exact absurd e.symm hk
    ·exact e
   have:=count_set r i listed hn.2 hir OT hu;rw[getD_set_ne false (Ne.symm hk)];omega
structure IW (ops:Array Oper)(L0:Array Bool)(ord:List Nat)(listed:Array Bool):Prop where
 size:listed.size=ops.size
 closed:∀ j oj,ops[j]? = some oj->listed.getD j false=true->∀ e∈oj.after,Region.binds .any e=true->listed.getD e.on false=true
 sub:∀ j,listed.getD j false=true->L0.getD j false=true\/j∈ord
 mono:∀ j,L0.getD j false=true->listed.getD j false=true
theorem IW.set {L0:Array Bool}{ord:List Nat}{listed:Array Bool}{i:Nat}(inv:IW ops L0 ord listed)(hi:i∈Region.ready .any ops listed)(QM:i∈ord):IW ops L0 ord (listed.setIfInBounds i true):=by
 obtain⟨_,oi,Q6,PJ⟩:=mem_ready.1 hi;refine⟨by simp[inv.size],λ j oj hj hl e he hb=>?_,λ j hj=>?_,λ j hj=>getD_set_true (inv.mono j hj)⟩
 ·by_cases Rg:i=j
  ·subst Rg;have:oj=oi:=Option.some.inj (hj.symm.trans Q6);subst this;exact getD_set_true (PJ e he hb)
  ·rw[getD_set_ne false Rg] at hl;exact getD_set_true (inv.closed j oj hj hl e he hb)
 ·by_cases Rg:i=j
  ·subst Rg;exact .inr QM
  ·rw[getD_set_ne false Rg] at hj;exact inv.sub j hj
theorem sO {L0:Array Bool}{ord:List Nat}{listed:Array Bool}{t:Nat}(inv:IW ops L0 ord listed)(ht:t∈Region.ready .any ops listed):∀ (l:List Nat),xn .any ops t l=true->∀ i∈l,listed.getD i false=true
 | [],_,i,hi=>by cases hi
 | k::r,h,i,hi=>by
  simp only[xn,Bool.and_eq_true,Bool.or_eq_true] at h;have hr:=sO inv ht r h.2;rcases mem_cons.1 hi with e | hi
  ·subst e;rcases h.1 with h1 | h1
   ·obtain⟨_,ot,hot,PJ⟩:=mem_ready.1 ht;obtain⟨o',Pt,e,he,hb,rfl⟩:=Region.waitsFor_spec h1;have:o'=ot:=Option.some.inj (Pt.symm.trans hot);subst this;exact PJ e he hb
   ·obtain⟨j,hj,hw⟩:=any_eq_true.1 h1;obtain⟨o',Pt,e,he,hb,rfl⟩:=Region.waitsFor_spec hw;exact inv.closed j o' Pt (hr j hj) e he hb
  ·exact hr i hi
theorem ov (m j:Nat):(Array.replicate m false).getD j false=false:=getD_replicate_false m j
theorem jf {listed:Array Bool}{j:Nat}(hs:j<listed.size)(h:listed.getD j false=false):listed.getD j true=false:=getD_in hs h
theorem vL {L0:Array Bool}(Se:L0.size=ops.size){ord pre post:List Nat}(h0:∀ j∈ord,L0.getD j false=false){i j:Nat}{oi oj:Oper}(Ql:ord=pre++i::post)(hh:vM .any ops ord L0=true)(hn:ord.Nodup)(hj:j∈post)(Q6:ops[i]? = some oi)(W7:ops[j]? = some oj) :
  (∃ e∈oj.after,Region.binds .any e=true/\e.on=i)\/oi.apart ops oj=true:=by
 subst Ql;obtain⟨_,hf⟩:=oq pre i post _ hh;by_cases hw:∃ e∈oj.after,Region.binds .any e=true/\e.on=i
 ·exact .inl hw
 ·refine .inr (Region.free_spec Q6 hf j oj W7 ?_ ?_ λ e he hb TM=>hw ⟨e,he,hb,TM⟩)
  ·intro e;subst e;rw[nodup_append] at hn;exact (nodup_cons.1 hn.2.1).1 hj
  ·obtain⟨h1,h2⟩:=eL pre L0 j;refine jf ?_ ?_
   ·rw[h1,Se];exact (Array.getElem?_eq_some_iff.1 W7).1
   ·cases hl:(dk pre L0).getD j false with
    | false=>rfl
    | true=>
     rw[h2,h0 j (by simp[hj])] at hl;rcases hl with hl | hl
     ·cases hl
     ·rw[nodup_append] at hn;exact absurd rfl (hn.2.2 j hl.1 j (mem_cons_of_mem _ hj))
theorem HU (ht:aD P av){L0:Array Bool}(Se:L0.size=ops.size){ord:List Nat}{res:Nat->Option CV}{s0 sN:St}(P1:kK P av C.nt ops res ord s0 sN)(hn:ord.Nodup)(h00:∀ j∈ord,L0.getD j false=false)(hh:vM .any ops ord L0=true)
  (UD:∀ j,j<ops.size->j∉ord->L0.getD j false=false->xn .any ops j ord=true\/∃ u,u∉ord/\L0.getD u false=false/\Region.waitsFor .any ops j u=true) {Q':Exit->Act->World->Prop} {g:Nat}
  (RW:∀ a w,Rel C sN a w->wpAny P .any ops Q' g (dk ord L0) a w) :
  ∀ (m:Nat) (listed:Array Bool) (a:Act) (w:World),IW ops L0 ord listed->(ord.countP λ j=>!listed.getD j false)=m ->
   (∃ s:St,s.heap=s0.heap/\s.nx=s0.nx/\(∀ t,assoc s.env t=eT ops res (λ i=>listed.getD i false) ord (assoc s0.env) t)/\Rel C s a w)->wpAny P .any ops Q' (m+g) listed a w:=by
 have VS:∀ i∈ord,∃ o,ops[i]? = some o:=λ i hi=>by
  obtain⟨pre,post,rfl⟩:=append_of_mem hi;obtain⟨_,_,k2⟩:=kK.at_ pre (i::post) s0 sN P1;obtain⟨o,h,_⟩:=k2;exact⟨o,h⟩
 have OT:∀ i∈ord,i<ops.size:=λ i hi=>by
  obtain⟨o,h⟩:=VS i hi;exact (Array.getElem?_eq_some_iff.1 h).1
 intro m
 induction m with
 | zero=>
  intro listed a w inv hc ⟨s,e1,e2,e3,hr⟩;have PJ:∀ j∈ord,listed.getD j false=true:=λ j hj=>by
   have:=countP_eq_zero.1 hc j hj
   simpa using this
  have hL:listed=dk ord L0:=by
   obtain⟨k1,_⟩:=eL ord L0 0;refine Array.ext (by rw[k1,inv.size,Se]) λ j h1 h2=>?_;obtain⟨_,k2⟩:=eL ord L0 j;have g1:listed.getD j false=listed[j]:=by simp[h1]
   have g2:(dk ord L0).getD j false=(dk ord L0)[j]:=by simp[h2]
   rw[<- g1,<- g2];rw[Bool.eq_iff_iff,k2];constructor
   ·intro h;rcases inv.sub j h with h' | h'
    ·exact .inl h'
    ·exact .inr ⟨h',by rw[Se,<- inv.size];exact h1⟩
   ·rintro (h | h)
    ·exact inv.mono j h
    ·exact PJ j h.1
  rw[Nat.zero_add,hL];refine RW a w (hr.congr ?_ ?_ ?_)
  ·intro t;obtain⟨k1,_⟩:=kK.env ord s0 sN P1;rw[k1,e3];exact iv ord _ _ rfl λ i hi _=>(PJ i hi).symm
  ·obtain⟨_,k2,_⟩:=kK.env ord s0 sN P1;rw[k2,e1]
  ·obtain⟨_,_,k3⟩:=kK.env ord s0 sN P1;rw[k3,e2]
 | succ m ih=>
  intro listed a w inv hc ⟨s,e1,e2,e3,hr⟩;have hex:∃ i∈ord,listed.getD i false=false:=by
   have:0<ord.countP λ j=>!listed.getD j false:=by omega
   obtain⟨i,hi,h⟩:=countP_pos_iff.1 this;exact⟨i,hi,by simpa using h⟩
  rw[show m+1+g=(m+g)+1 by omega];refine⟨λ h0=>?_,λ i hi=>?_⟩
  ·-- the first of the head that is not listed may come up
   exfalso;have:∀ (l pre:List Nat),ord=pre++l->(∀ j∈pre,listed.getD j false=true)->(∃ i∈l,listed.getD i false=false)->False:=by
    intro l
    induction l with
    | nil=>rintro pre _ _ ⟨i,hi,_⟩;cases hi
    | cons k r YE=>
     intro pre ho hp hx
     cases hk:listed.getD k false with
     | true=>
      refine YE (pre++[k]) (by simp[ho]) ?_ ?_
      ·intro j hj;rcases mem_append.1 hj with hj | hj
       ·exact hp j hj
       ·have:j=k:=by simpa using hj
        subst this;exact hk
      ·obtain⟨i,hi,hu⟩:=hx;rcases mem_cons.1 hi with e | hi
       ·subst e;rw[hk] at hu;cases hu
       ·exact⟨i,hi,hu⟩
     | false=>
      obtain⟨Wo,_⟩:=oq pre k r _ (ho ▸ hh);have hrd':k∈Region.ready .any ops (dk pre L0):=by simpa using Wo
      obtain⟨_,ok,O8,PJ⟩:=mem_ready.1 hrd';have:k∈Region.ready .any ops listed:=by
       refine mem_ready.2 ⟨jf ?_ hk,ok,O8,λ e he hb=>?_⟩
       ·rw[inv.size];exact OT k (by rw[ho];simp)
       ·have h1:=PJ e he hb;obtain⟨_,k2⟩:=eL pre L0 e.on;rw[k2] at h1;rcases h1 with h1 | h1
        ·exact inv.mono _ h1
        ·exact hp _ h1.1
      rw[h0] at this;cases this
   exact this ord [] rfl xr hex
  ·by_cases QM:i∈ord
   ·obtain⟨pre,post,Ql⟩:=append_of_mem QM;obtain⟨oi,Q6⟩:=VS i QM;have Q1:listed.getD i false=false:=getD_both (mem_ready.1 hi).1;obtain⟨_,oi',hoi',Qf⟩:=mem_ready.1 hi;have X6:oi'=oi:=Option.some.inj (hoi'.symm.trans Q6);subst X6;obtain⟨sm,q1,q2⟩:=kK.at_ pre (i::post) s0 sN (Ql ▸ P1);obtain⟨o',Pt,hq,_⟩:=q2;have X6:o'=oi':=Option.some.inj (Pt.symm.trans Q6);subst X6;obtain⟨m1,m2,m3⟩:=kK.env pre s0 sm q1;have QU:=hn;rw[Ql,nodup_append,nodup_cons] at QU;have Q7:∀ {k ok},ops[k]? = some ok->dg ops k=ok.dst:=λ {k ok} h=>by simp[dg,h]
    -- who comes behind i and is listed is apart from i
    have Rb:∀ k∈post,listed.getD k false=true->∃ ok,ops[k]? = some ok/\o'.apart ops ok=true:=λ k hk hl=>by
     obtain⟨ok,O8⟩:=VS k (by rw[Ql];simp[hk]);rcases vL Se h00 Ql hh hn hk Q6 O8 with ⟨e,he,hb,TM⟩ | Tw
     ·have:=inv.closed k ok O8 hl e he hb;rw[TM,Q1] at this;cases this
     ·exact⟨ok,O8,Tw⟩
    -- who stands ahead of i and is not listed is apart from i
    have UH:∀ k∈pre,listed.getD k false=false->∃ ok,ops[k]? = some ok/\ok.apart ops o'=true:=λ k hk hl=>by
     obtain⟨p1,p2,hp⟩:=append_of_mem hk;obtain⟨ok,O8⟩:=VS k (by rw[Ql,hp];simp);have VT:ord=p1++k::(p2++i::post):=by rw[Ql,hp];simp
     rcases vL Se h00 VT hh hn xr O8 Q6 with ⟨e,he,hb,TM⟩ | Tw
     ·have:=Qf e he hb;rw[TM,hl] at this;cases this
     ·exact⟨ok,O8,Tw⟩
    have Zj:∀ t∈o'.looksAt ops,assoc sm.env t=assoc s.env t:=λ t O5=>by
     rw[m1,e3,Ql,jT];simp only[eT];have TP:listed.getD i false=false:=Q1;simp only[TP,Bool.false_eq_true,if_false];have s1:eT ops res (λ i=>listed.getD i false) post (eT ops res (λ i=>listed.getD i false) pre (assoc s0.env)) t=eT ops res (λ _=>false) post (eT ops res (λ i=>listed.getD i false) pre (assoc s0.env)) t:=
      iv post _ _ rfl λ k hk hd=>by
       cases hl:listed.getD k false with
       | false=>rfl
       | true=>
        obtain⟨ok,O8,Tw⟩:=Rb k hk hl;obtain⟨_,_,h3⟩:=Oper.apart_spec Tw;rw[Q7 O8] at hd;exact absurd O5 (h3 t hd)
     rw[s1,mM post _ (λ _ _=>rfl)];refine iv pre _ _ rfl λ k hk hd=>?_
     cases hl:listed.getD k false with
     | true=>rfl
     | false=>
      obtain⟨ok,O8,Tw⟩:=UH k hk hl;obtain⟨h1,_,_⟩:=Oper.apart_spec Tw;rw[Q7 O8] at hd;exact absurd O5 (h1 t hd)
    have QS:tY P av C.nt ops s o' (res i):=hq.congr (by rw[m2,e1]) Zj;refine IU ht hr Q6 QS λ a' w' Pu=>?_;have OP:i<listed.size:=by rw[inv.size];exact OT i QM
    refine ih _ a' w' (inv.set hi QM) ?_ ⟨_,by rw[gO.1,e1],by rw[gO.2,e2],λ t=>?_,Pu⟩
    ·have:=count_set ord i listed hn QM OP Q1;omega
    ·rw[mZ,Ql,jT];simp only[eT];have Qu:(listed.setIfInBounds i true).getD i false=true:=by simp[OP]
     simp only[Qu,if_true];have hX:eT ops res (λ j=>(listed.setIfInBounds i true).getD j false) pre (assoc s0.env)=eT ops res (λ j=>listed.getD j false) pre (assoc s0.env):=funext λ u=>
      iv pre _ _ rfl λ k hk _=>getD_set_ne false (λ e=>by subst e;exact QU.2.2 i hk i xr rfl)
     have hY:∀ (E:Nat->Option CV) u,eT ops res (λ j=>(listed.setIfInBounds i true).getD j false) post E u=eT ops res (λ j=>listed.getD j false) post E u:=λ E u=>
      iv post _ _ rfl λ k hk _=>getD_set_ne false (λ e=>by subst e;exact QU.2.1.1 hk)
     rw[hX,hY,Q7 Q6];unfold ql;rw[e3,Ql,jT];simp only[eT,Q1,Bool.false_eq_true,if_false];by_cases hd:o'.dst=some t
     ·rw[if_pos hd];have s1:eT ops res (λ j=>listed.getD j false) post (λ u=>if o'.dst=some u then res i else eT ops res (λ j=>listed.getD j false) pre (assoc s0.env) u) t=eT ops res (λ _=>false) post (λ u=>if o'.dst=some u then res i else eT ops res (λ j=>listed.getD j false) pre (assoc s0.env) u) t:=
       iv post _ _ rfl λ k hk ZI=>by
        cases hl:listed.getD k false with
        | false=>rfl
        | true=>
         obtain⟨ok,O8,Tw⟩:=Rb k hk hl;obtain⟨_,h2,_⟩:=Oper.apart_spec Tw;rw[Q7 O8] at ZI;exact absurd ZI (h2 t hd)
      rw[s1,mM post _ (λ _ _=>rfl)];simp[hd]
     ·rw[if_neg hd];exact iv post _ _ (by simp[hd]) λ _ _ _=>rfl
   ·exfalso;obtain⟨i0,TP,XR⟩:=hex;obtain⟨_,ot,hot,PJ⟩:=mem_ready.1 hi;have Re:L0.getD i false=false:=by
     cases hl:L0.getD i false with
     | false=>rfl
     | true=>
      have:=inv.mono i hl;rw[getD_both (mem_ready.1 hi).1] at this;cases this
    rcases UD i (Array.getElem?_eq_some_iff.1 hot).1 QM Re with h1 | ⟨u,hu,hu',hw⟩
    ·have:=sO inv hi ord h1 i0 TP;rw[XR] at this;cases this
    ·obtain⟨o',Pt,e,he,hb,rfl⟩:=Region.waitsFor_spec hw;have:o'=ot:=Option.some.inj (Pt.symm.trans hot);subst this;rcases inv.sub _ (PJ e he hb) with h | h
     ·rw[hu'] at h;cases h
     ·exact hu h
def CF (ops:Array Oper):List Nat->Array Bool->Bool
 | [],_=>true
 | i::r,listed=>(Region.ready .any ops listed).contains i && Region.free .any ops listed i && (match ops[i]? with
   | some o=>o.guard.isNone && (match o.op with | .move _=>true | .indexAddr _ _ _=>true | .fieldAddr _ _ _=>true | .nilCheck _=>true | _=>false)
   | none=>false) && CF ops r (listed.setIfInBounds i true)
theorem yW (ht:aD P av)(Y0:Region.noSelect ops=true){Q':Exit->Act->World->Prop}(hQ:∀ c a w,¬ Q' (.panic c) a w){g:Nat}{K:St->Prop}:∀ (pre:List Nat) (L0:Array Bool) (s:St) (a:Act) (w:World),CF ops pre L0=true->Rel C s a w ->
  TH P av C.nt ops pre s K->(∀ s' a',K s'->Rel C s' a' w->wpAny P .any ops Q' g (dk pre L0) a' w)->wpAny P .any ops Q' (pre.length+g) L0 a w
 | [],L0,s,a,w,_,hr,hk,RW=>by rw[length_nil,Nat.zero_add];exact RW s a hk hr
 | i::r,L0,s,a,w,hp,hr,hk,RW=>by
  simp only[CF,Bool.and_eq_true] at hp;obtain⟨⟨⟨h1,h2⟩,h3⟩,h4⟩:=hp;obtain⟨o,res,ho,hq,X2⟩:=hk;rw[ho] at h3;simp only[Bool.and_eq_true] at h3;have hg:o.guard=none:=by simpa using h3.1
  obtain⟨hd,hq⟩:=hq;rcases hq with ⟨j,want,t,e1,_⟩ | ⟨_,c,rfl,hc⟩
  ·rw[hg] at e1;cases e1
  ·obtain⟨σ,hr⟩:=hr;have hv:∃ v,(∀ w,(execOp a.eval o).run P w=.ok (.value v) w)/\VR w (FB C σ s.heap) σ c v:=by
    rcases hc with hc | ⟨cl,e,_⟩
    ·cases Pj:o.op<;>rw[Pj] at h3<;>simp at h3
     case move x=>
      rw[Pj] at hc;exact⟨a.eval x,λ w=>by simp[execOp,Pj],bG hr hc⟩
     case indexAddr t x i=>
      rw[Pj] at hc;simp only[fp] at hc;split at hc
      ·rename_i c' k n hx hi;have hn:=bG hr hi;simp only[VR] at hn;obtain⟨z,k1,k2⟩:=yg (P:=P) (k:=k) ht (bG hr hx) hc;exact⟨z,λ w=>by simp[execOp,Pj,hn,k1],k2⟩
      ·cases hc
     case fieldAddr t x f=>
      rw[Pj] at hc;simp only[fp] at hc;split at hc
      ·rename_i c' hx;obtain⟨z,k1,k2⟩:=pH (P:=P) ht (bG hr hx) hc;exact⟨z,λ w=>by simp[execOp,Pj,k1],k2⟩
      ·cases hc
     case nilCheck x=>
      rw[Pj] at hc;simp only[fp] at hc;split at hc
      ·rename_i o' p hx;cases hc;have hv:=bG hr hx;have RM:=hv;simp only[VR] at RM;obtain⟨B,b,_,_,e⟩:=RM;exact⟨_,λ w=>by simp only[execOp,Pj,e];rfl,by rw[<- e];exact hv⟩
      ·rename_i cs hx;cases hc;have hv:=bG hr hx;have RM:=hv;simp only[VR,cr] at RM;obtain⟨ad,e,_⟩:=RM;exact⟨_,λ w=>by simp only[execOp,Pj,e];rfl,by rw[<- e];exact hv⟩
      ·rename_i f cs hx;cases hc;have hv:=bG hr hx;have RM:=hv;simp only[VR] at RM;obtain⟨vs,e,_⟩:=RM;exact⟨_,λ w=>by simp only[execOp,Pj,e];rfl,by rw[<- e];exact hv⟩
      ·cases hc
    ·rw[e] at h3;simp at h3
   obtain⟨v,Sd,Vg⟩:=hv;have hy:Yields P ops o v a:=.inl ⟨by simp[Region.wanted,hg],Sd⟩;rw[show (i::r).length+g=(r.length+g)+1 by simp;omega];refine wpAny_take ho Y0 h2 h1 (λ c a w h=>absurd h (hQ c _ w)) hy ?_;refine yW ht Y0 hQ r (L0.setIfInBounds i true) _ _ w h4 ⟨σ,hr.put ?_ Vg⟩ X2 (λ s' a' SP Pu=>RW s' a' SP Pu);intro t e;rw[hr.tm];rw[e] at hd
   simpa [bl] using hd
def Ih (ops:Array Oper)(pre ord tail:List Nat):Bool:=
 let L1:=dk pre (Array.replicate ops.size false)
 Region.noSelect ops && CF ops pre (Array.replicate ops.size false) && vM .any ops ord L1 && decide (pre++ord).Nodup && GV .any ops tail (dk ord L1) &&
 decide (pre.length+(ord.length+tail.length)=ops.size) && tail.all (λ t=>decide (t<ops.size) && !ord.contains t && !pre.contains t && (xn .any ops t ord || tail.any λ u=>Region.waitsFor .any ops t u)) &&
 (range ops.size).all λ j=>pre.contains j || ord.contains j || tail.contains j
theorem TH.split {nt:Nat}{K:St->Prop}:∀ (l m:List Nat) (s:St),TH P av nt ops (l++m) s K->TH P av nt ops l s λ s'=>TH P av nt ops m s' K
 | [],_,_,h=>h
 | _::l,m,_,⟨o,r,h1,h2,h3⟩=>⟨o,r,h1,h2,TH.split l m _ h3⟩
theorem DF:∀ (pre:List Nat) (L0:Array Bool),L0.size=ops.size->CF ops pre L0=true->(∀ j oj,ops[j]? = some oj->L0.getD j false=true->∀ e∈oj.after,Region.binds .any e=true->L0.getD e.on false=true) ->
  ∀ j oj,ops[j]? = some oj->(dk pre L0).getD j false=true->∀ e∈oj.after,Region.binds .any e=true->(dk pre L0).getD e.on false=true
 | [],L0,_,_,h=>h
 | i::r,L0,hs,hp,h=>by
  simp only[CF,Bool.and_eq_true] at hp;obtain⟨⟨⟨h1,_⟩,_⟩,h4⟩:=hp;have hi:i∈Region.ready .any ops L0:=by simpa using h1
  obtain⟨_,oi,Q6,PJ⟩:=mem_ready.1 hi;refine DF r _ (by simpa using hs) h4 λ j oj hj hl e he hb=>?_;by_cases Rg:i=j
  ·subst Rg;have:oj=oi:=Option.some.inj (hj.symm.trans Q6);subst this;exact getD_set_true (PJ e he hb)
  ·rw[getD_set_ne false Rg] at hl;exact getD_set_true (h j oj hj hl e he hb)
theorem T.draw (ht:aD P av)(hm:P.follows .mixedOrders=true){id:Nat}{l:List Oper}{Q:Exit->St->Prop}(pre ord tail:List Nat)(hB:Ih l.toArray pre ord tail=true)
  (h:TH P av C.nt l.toArray (pre++ord) s λ s'=>TL P C l.toArray (tail.map (l.toArray.getD · default)) s' (Q .normal)):T P C (.region id l.toArray true) s Q:=by
 intro a w hr;simp only[Ih,Bool.and_eq_true,decide_eq_true_eq] at hB;obtain⟨⟨⟨⟨⟨⟨⟨h0,hp⟩,h1⟩,h2⟩,h3⟩,h4⟩,h5⟩,h6⟩:=hB;have QU:=nodup_append.1 h2;have hL:∀ j,(dk pre (Array.replicate l.toArray.size false)).getD j false=true->j∈pre:=λ j hj=>by
  obtain⟨_,k2⟩:=eL pre (Array.replicate l.toArray.size false) j;rw[k2,ov] at hj;rcases hj with hj | hj
  ·cases hj
  ·exact hj.1
 have hLf:∀ j,j∉pre->(dk pre (Array.replicate l.toArray.size false)).getD j false=false:=λ j hj=>by
  cases hl:(dk pre (Array.replicate l.toArray.size false)).getD j false with
  | false=>rfl
  | true=>exact absurd (hL j hl) hj
 have Se:(dk pre (Array.replicate l.toArray.size false)).size=l.toArray.size:=by rw[(eL pre _ 0).1];simp
 refine wp_mono (Q:=λ e a' w'=>e=.normal/\∃ s',Q .normal s'/\Rel C s' a' w') (wp_region_any hm ?_) (λ e a' w' ⟨he,s',k1,k2⟩=>by subst he;exact⟨s',k1,k2⟩);have O5:∀ t∈tail,t<l.toArray.size/\t∉ord/\t∉pre:=λ t ht=>by
  have:=all_eq_true.1 h5 t ht;simp only[Bool.and_eq_true,decide_eq_true_eq,Bool.not_eq_true',contains_eq_mem,decide_eq_false_iff_not] at this;exact⟨this.1.1.1,this.1.1.2,this.1.2⟩
 have UD:∀ j,j<l.toArray.size->j∉ord->(dk pre (Array.replicate l.toArray.size false)).getD j false=false ->
   xn .any l.toArray j ord=true\/∃ u,u∉ord/\(dk pre (Array.replicate l.toArray.size false)).getD u false=false/\Region.waitsFor .any l.toArray j u=true:=λ j hj hjo QL=>by
  have:=all_eq_true.1 h6 j (mem_range.2 hj);simp only[Bool.or_eq_true,contains_eq_mem,decide_eq_true_eq] at this;rcases this with (e | e) | e
  ·exfalso;obtain⟨_,k2⟩:=eL pre (Array.replicate l.toArray.size false) j;have:=k2.2 (.inr ⟨e,by simpa using hj⟩);rw[QL] at this;cases this
  ·exact absurd e hjo
  ·have h7:=all_eq_true.1 h5 j e;simp only[Bool.and_eq_true,Bool.or_eq_true] at h7;rcases h7.2 with h8 | h8
   ·exact .inl h8
   ·obtain⟨u,hu,hw⟩:=any_eq_true.1 h8;exact .inr ⟨u,(O5 u hu).2.1,hLf u (O5 u hu).2.2,hw⟩
 have Rq:=yW (P:=P) (av:=av) (C:=C) (Q':=λ e a' w'=>e=.normal/\∃ s',Q .normal s'/\Rel C s' a' w') ht h0 (λ c a w h=>by cases h.1) (g:=ord.length+tail.length) pre (Array.replicate l.toArray.size false) s a { w with drawn:=w.drawn+1 } hp hr.drew (TH.split pre ord s h) (λ s1 a1 RU Qg=>by
  obtain⟨res,sN,P1,hN⟩:=TH.run ord s1 QU.2.1 RU;refine HU (g:=tail.length) ht Se P1 QU.2.1 (λ j hj=>hLf j λ e=>QU.2.2 j e j hj rfl) h1 UD (λ a w hr=>py tail _ a w (λ i hi=>(O5 i hi).1) h3 (hN a w _ hr λ s' _ _ hk Pu=>⟨rfl,s',hk,Pu⟩))
   ord.length _ a1 _ ⟨Se,DF pre _ xr hp λ j oj _ hl=>(by rw[ov] at hl;cases hl),λ j hl=>.inl hl,λ j hl=>hl⟩
   (by rw[countP_eq_length];intro j hj;rw[hLf j λ e=>QU.2.2 j e j hj rfl];rfl)
   ⟨s1,rfl,rfl,λ t=>by rw[mM ord _ (λ i hi=>hLf i λ e=>QU.2.2 i e i hi rfl)],Qg⟩)
 rw[h4] at Rq;exact Rq
end
end Go.Can
