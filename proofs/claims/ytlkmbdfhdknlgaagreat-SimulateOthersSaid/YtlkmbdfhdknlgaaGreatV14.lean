/- **A region that draws, wal -/
import Derived.Test.YtlkmbdfhdknlgaaGreatV13
namespace Go.Can
open List
section
variable {P:Program}{ops:Array Oper}
theorem xX {dst:Nat->Option Tmp}{E E':Nat->Ef}{L:Nat->Bool}:∀ (l:List Nat) (x:FS),(∀ i∈l,E i=E' i)->ck dst E L l x=ck dst E' L l x
 | [],_,_=>rfl
 | i::r,x,h=>by
  simp only[ck];rw[h i mem_cons_self];exact xX r _ λ j hj=>h j (mem_cons_of_mem _ hj)
theorem Hn {b:Bool}(h:b≠false):b=true:=by cases b<;>simp_all
theorem DS {b:Bool}(h:b≠true):b=false:=by cases b<;>simp_all
theorem EU {pre r:List Nat}{k:Nat}{dst:Nat->Option Tmp}{E:Nat->Ef}{V:Nat->Vw}{Vk:Vw}{OUT:Ef->Prop}{x0:FS}{R:Array Bool->FS->Act->World->Prop}{Q':Exit->Act->World->Prop}
  (hn:(pre++k::r).Nodup) (Sq:∀ j,j<ops.size->j∈pre++k::r) (OT:∀ i∈pre++k::r,i<ops.size)
  (Wo:∀ p i q,pre++k::r=p++i::q->∀ oi,ops[i]? = some oi->∀ e∈oi.after,Region.binds .any e=true->e.on∈p)
  (UT:∀ p i q,pre=p++i::q->∀ j∈q,B6 ops j i\/F5 (dst i) (dst j) (E i) (E j) (V i) (V j))
  (SM:∀ j∈r,B6 ops j k)
  (hk:∀ i∈pre,B6 ops k i\/∀ z,eA Vk (ap (dst i) (E i) z) z)
  (jF:∀ p i q,pre=p++i::q->∀ (listed:Array Bool) (x:FS) (a:Act) (w:World) (K:Act->World->Prop),listed.size=ops.size->listed.getD i false=false->R listed x a w->eA (V i) x (ck dst E (λ _=>true) p x0) ->
   (∀ a' w',R (listed.setIfInBounds i true) (ap (dst i) (E i) x) a' w'->K a' w')->wpOp P ops Q' i K a w)
  (ZQ:∀ (listed:Array Bool) (x:FS) (a:Act) (w:World) (K:Act->World->Prop),listed.size=ops.size->listed.getD k false=false->R listed x a w->eA Vk x (ck dst E (λ _=>true) pre x0) ->
   (∀ Ek a' w',OUT Ek->R (listed.setIfInBounds k true) (ap (dst k) Ek x) a' w'->K a' w')->wpOp P ops Q' k K a w)
  (Zc:∀ Ek,OUT Ek->∀ (m:Nat) (listed:Array Bool) (a:Act) (w:World),listed.size=ops.size->sJ ops listed->listed.getD k false=true->(∀ j∈r,listed.getD j false=false)->((pre++k::r).countP λ j=>!listed.getD j false)=m ->
   R listed (ap (dst k) Ek (ck dst E (λ j=>listed.getD j false) pre x0)) a w->wpAny P .any ops Q' m listed a w) :
  ∀ (m:Nat) (listed:Array Bool) (a:Act) (w:World),listed.size=ops.size->sJ ops listed->listed.getD k false=false->((pre++k::r).countP λ j=>!listed.getD j false)=m->R listed (ck dst E (λ j=>listed.getD j false) pre x0) a w->wpAny P .any ops Q' m listed a w:=by
 intro m
 induction m with
 | zero=>
  intro listed a w O0 O2 Pa hc hR;have:=countP_eq_zero.1 hc k xr;simp[Pa] at this
 | succ m ih=>
  intro listed a w O0 O2 Pa hc hR;refine⟨λ h0=>?_,λ i hi=>?_⟩
  ·exfalso;have:∀ (l p:List Nat),pre++k::r=p++l->(∀ j∈p,listed.getD j false=true)->(∃ i∈l,listed.getD i false=false)->False:=by
    intro l
    induction l with
    | nil=>rintro p _ _ ⟨i,hi,_⟩;cases hi
    | cons j q YE=>
     intro p ho hp hx
     cases hj:listed.getD j false with
     | true=>
      refine YE (p++[j]) (by simp[ho]) ?_ ?_
      ·intro t ht;rcases mem_append.1 ht with ht | ht
       ·exact hp t ht
       ·have:t=j:=by simpa using ht
        subst this;exact hj
      ·obtain⟨i,hi,hu⟩:=hx;rcases mem_cons.1 hi with e | hi
       ·subst e;rw[hj] at hu;cases hu
       ·exact⟨i,hi,hu⟩
     | false=>
      have QL:=OT j (by rw[ho];simp);have O8:ops[j]? = some ops[j]:=by simp[QL]
      have:j∈Region.ready .any ops listed:=by
       refine mem_ready.2 ⟨jf (by rw[O0];exact QL) hj,_,O8,λ e he hb=>?_⟩;exact hp _ (Wo p j q ho _ O8 e he hb)
      rw[h0] at this;cases this
   exact this _ [] rfl xr ⟨k,by simp,Pa⟩
  ·have Q1:listed.getD i false=false:=getD_both (mem_ready.1 hi).1;obtain⟨_,oi,Q6,Qf⟩:=mem_ready.1 hi;have QM:=Sq i (Array.getElem?_eq_some_iff.1 Q6).1;have OP:i<listed.size:=by rw[O0];exact OT i QM
   have Ss:sJ ops (listed.setIfInBounds i true):=by
    intro j oj hj hl e he hb;by_cases Rg:i=j
    ·subst Rg;have:oj=oi:=Option.some.inj (hj.symm.trans Q6);subst this;exact getD_set_true (Qf e he hb)
    ·rw[getD_set_ne false Rg] at hl;exact getD_set_true (O2 j oj hj hl e he hb)
   have ZM:((pre++k::r).countP λ j=>!(listed.setIfInBounds i true).getD j false)=m:=by
    have:=count_set (pre++k::r) i listed hn QM OP Q1;omega
   have QU:=hn;rw[nodup_append,nodup_cons] at QU;rcases mem_append.1 QM with VZ | VZ
   ·have Zu:i≠k:=λ e=>QU.2.2 i VZ k xr e;obtain⟨p,q,R4⟩:=append_of_mem VZ;have Uk:=QU.1;rw[R4,nodup_append,nodup_cons] at Uk;have Rb:∀ t∈q,listed.getD t false=true->F5 (dst i) (dst t) (E i) (E t) (V i) (V t):=λ t ht hl=>by
     rcases UT p i q R4 t ht with h | h
     ·have:=h listed O2 λ ok O8 e he hb=>O2 t ok O8 hl e he hb;rw[Q1] at this;cases this
     ·exact h
    have UH:∀ t∈p,listed.getD t false=false->F5 (dst t) (dst i) (E t) (E i) (V t) (V i):=λ t ht hl=>by
     obtain⟨p1,p2,hp⟩:=append_of_mem ht;have VT:pre=p1++t::(p2++i::q):=by rw[R4,hp];simp
     rcases UT p1 t _ VT i xr with h | h
     ·have:=h listed O2 λ ok O8 e he hb=>by
       rw[Q6] at O8;cases O8;exact Qf e he hb
      rw[hl] at this;cases this
     ·exact h
    have Ry:ck dst E (λ j=>listed.getD j false) pre x0=ck dst E (λ j=>listed.getD j false) q (ck dst E (λ j=>listed.getD j false) p x0):=by
     rw[R4,dZ];simp only[ck,Q1,Bool.false_eq_true,if_false]
    refine jF p i q R4 listed _ a w _ O0 Q1 hR ?_ λ a' w' Z1=>?_
    ·rw[Ry];have e1:eA (V i) (ck dst E (λ j=>listed.getD j false) q (ck dst E (λ j=>listed.getD j false) p x0)) (ck dst E (λ j=>listed.getD j false) p x0):=by
      have:=gV (V:=V i) (dst:=dst) (E:=E) (L:=λ j=>listed.getD j false) (L':=λ _=>false) q _ _ (λ t ht Pp z=>by
       have hl:listed.getD t false=true:=Hn Pp;have h:=Rb t ht hl;exact oD h.s2 h.h2 h.n2 h.a2 z) (eA.refl (V i) (ck dst E (λ j=>listed.getD j false) p x0))
      rwa [p7] at this
     refine e1.trans (gV p _ _ (λ t ht Pp z=>?_) (eA.refl _ _));have hl:listed.getD t false=false:=DS Pp;have h:=UH t ht hl;exact oD h.s1 h.h1 h.n1 h.a1 z
    ·refine ih _ a' w' (by simpa using O0) Ss (by rw[getD_set_ne false Zu];exact Pa) ZM ?_;have Qu:(listed.setIfInBounds i true).getD i false=true:=by simp[OP]
     have key:ck dst E (λ j=>(listed.setIfInBounds i true).getD j false) pre x0=ap (dst i) (E i) (ck dst E (λ j=>listed.getD j false) pre x0):=by
      rw[Ry,R4,dZ];simp only[ck,Qu,if_true];rw[fN p x0 (L':=λ j=>listed.getD j false) λ t ht=>getD_set_ne false (λ e=>by subst e;exact Uk.2.2 i ht i xr rfl)];rw[fN q _ (L':=λ j=>listed.getD j false) λ t ht=>getD_set_ne false (λ e=>by subst e;exact Uk.2.1.1 ht)];exact mJ q _ λ t ht hl z=>Et (Rb t ht hl) z
     rw[key];exact Z1
   ·rcases mem_cons.1 VZ with Zu | hir
    ·subst Zu;refine ZQ listed _ a w _ O0 Q1 hR ?_ λ Ek a' w' hO Z1=>?_
     ·refine gV pre _ _ (λ t ht Pp z=>?_) (eA.refl _ _);have hl:listed.getD t false=false:=DS Pp;rcases hk t ht with h | h
      ·have:=h listed O2 λ ok O8 e he hb=>by
        rw[Q6] at O8;cases O8;exact Qf e he hb
       rw[hl] at this;cases this
      ·exact h z
     ·refine Zc Ek hO _ _ a' w' (by simpa using O0) Ss (by simp[OP]) (λ j hj=>?_) ZM ?_
      ·rw[getD_set_ne false λ e=>by subst e;exact QU.2.1.1 hj]
       cases hj':listed.getD j false with
       | false=>rfl
       | true=>
        have:=SM j hj listed O2 λ oj W7 e he hb=>O2 j oj W7 hj' e he hb;rw[Q1] at this;cases this
      ·rw[fN pre x0 (L':=λ j=>listed.getD j false) λ t ht=>getD_set_ne false λ e=>by subst e;exact QU.2.2 i ht i xr rfl];exact Z1
    ·have:=SM i hir listed O2 λ ok O8 e he hb=>by
      rw[Q6] at O8;cases O8;exact Qf e he hb
     rw[Pa] at this;cases this
end
def Ce (res:Nat->Er)(i:Nat)(x:Er):Nat->Er:=λ j=>if j=i then x else res j
def chk (dyn:List (Nat×Nat))(res:Nat->Er)(i:Nat)(x:Er):Bool:=dyn.all λ p=>p.2 != i || vJ (res p.1) x
def zy (dyn:List (Nat×Nat))(res:Nat->Er)(i:Nat)(ks:List Nat):Bool:=dyn.all λ p=>p.2 != i || (((res p.1).1.w.all λ q=>!ks.contains q.1) && (res p.1).1.k == 0)
def note (dyn:List (Nat×Nat))(res:Nat->Er)(i:Nat)(x:Er):Nat->Er:=if dyn.any (λ p=>p.1 == i) then Ce res i x else res
def qd (v:CV)(ks g8:List Nat)(H':List (Nat×Ob)):Er:=(⟨some v,g8.map λ p=>(p,assoc H' p),0⟩,ks,true,none)
def iB (v:CV)(ks g8:List Nat)(d:Nat)(H':List (Nat×Ob)):Er:=(⟨some v,g8.map λ p=>(p,assoc H' p),d⟩,ks,true,none)
def iY (v:CV):Er:=(⟨some v,[],0⟩,[],false,none)
abbrev rz:=Nat×Nat×List CV
def zS (c:rz)(ob:Option Ob):Prop:=∃ x,ob=some x/\(x.cells.drop c.2.1).take c.2.2.length=c.2.2
def Nz (W:List rz)(w:List (Nat×Option Ob)):Prop:=∀ c∈W,∀ q∈w,q.1=c.1->zS c q.2
theorem Eu (w:List (Nat×Option Ob)):Nz [] w:=λ _ h=>by cases h
def wG (W:List rz)(h:Nat->Option Ob):Prop:=∀ c∈W,zS c (h c.1)
theorem yr {W:List rz}{d:Option Tmp}{E:Ef}{x:FS}(h:wG W x.h)(hw:Nz W E.w):wG W (ap d E x).h:=λ c hc=>by
 show zS c (kD x.h E.w c.1);unfold kD;split
 ·rename_i y hy;exact hw c hc _ (bF _ _ _ hy) rfl
 ·exact h c hc
def um (W:List rz)(dyn:List (Nat×Nat))(res:Nat->Er)(i:Nat)(x:Er):Prop:=chk dyn res i x=true/\Nz W x.1.w
def DQ:fW:=λ _ _ _ _=>none
def DP:FuncId->List CV->Option CV:=λ _ _=>none
section
variable {P:Program}{C:Cx}{s:St}{ops:Array Oper}{av:List (Nat×TI)}{mt:iO}{call:fW}{pc:FuncId->List CV->Option CV}
theorem j8 (res:Nat->Er)(i:Nat)(x:Er):Ce res i x i=x:=if_pos rfl
theorem Cd (res:Nat->Er){i j:Nat}(x:Er)(h:j≠i):Ce res i x j=res j:=if_neg h
def zO (ops:Array Oper)(x:Er)(i:Nat):Vw:=⟨(match ops[i]? with | some o=>o.looksAt ops | none=>[]),x.2.1,x.2.2.1,x.2.2.2⟩
theorem xV (x:Er)(v:CV):vJ x (iY v)=true:=by
 simp[vJ,iY,oR,u6]
def IT (x:Er):Prop:=x.1.w=[]/\x.1.k=0/\x.2.2.1=false/\x.2.2.2=none
def Rr (C:Cx)(N:Nat)(ops:Array Oper)(cl:List Nat)(listed:Array Bool)(x:FS)(a:Act)(w:World):Prop:=
 (∃ s σ,fs s=x/\aO C σ s a w/\N+ops.size<=s.nx/\∀ j,j<ops.size->listed.getD j false=false->σ (N+j)=none)/\∀ c∈cl,listed.getD c false=true
def Kn (P:Program)(C:Cx)(ops:Array Oper)(N:Nat)(W:List rz)(r:Er)(i:Nat)(f:FS):Prop:=∃ o,ops[i]? = some o/\(jr o=false->IT r)/\(pC o=true->r.2.1=[])/\Nz W r.1.w/\
 ∀ (cl:List Nat) (Q':Exit->Act->World->Prop) (listed:Array Bool) (x:FS) (a:Act) (w:World) (K:Act->World->Prop),listed.size=ops.size->i<ops.size->listed.getD i false=false->Rr C N ops cl listed x a w->wG W x.h->eA (zO ops r i) x f ->
  (∀ a' w',Rr C N ops cl (listed.setIfInBounds i true) (ap (dg ops i) r.1 x) a' w'->K a' w')->wpOp P ops Q' i K a w
theorem JL {dyn:List (Nat×Nat)}{N:Nat}{W:List rz}{r x:Er}{i j:Nat}{oj:Oper}{f:FS}(hp:xE ops dyn i j=true)(hi:Kn P C ops N W r i f)(W7:ops[j]? = some oj)
  (hq:jr oj=false->IT x) (hs:pC oj=true->x.2.1=[]) (hd:(i,j)∈dyn->vJ r x=true) :
  F5 (dg ops i) (dg ops j) r.1 x.1 (zO ops r i) ⟨oj.looksAt ops,x.2.1,x.2.2.1,x.2.2.2⟩:=by
 obtain⟨oi,q1,q2,q3,_⟩:=hi;unfold xE at hp;rw[q1,W7] at hp;simp only[Bool.or_eq_true,Bool.and_eq_true] at hp;obtain⟨Tw,hp⟩:=hp;obtain⟨a1,a2,a3⟩:=Oper.apart_spec Tw;have hV:zO ops r i=⟨oi.looksAt ops,r.2.1,r.2.2.1,r.2.2.2⟩:=by simp only[zO,q1]
 rw[hV,show dg ops i=oi.dst by simp[dg,q1],show dg ops j=oj.dst by simp[dg,W7]];have hb:vJ r x=true:=by
  rcases hp with ((hp | hp) | hp) | hp
  ·exact hd (by simpa using hp)
  ·simp only[Bool.not_eq_true'] at hp;obtain⟨u1,u2,u3,u4⟩:=q2 hp.1;obtain⟨v1,v2,v3,v4⟩:=hq hp.2;simp[vJ,oR,u1,u2,u3,u4,v1,v2,v3,v4]
  ·obtain⟨u1,u2,u3,u4⟩:=q2 yDe;simp[vJ,u6,oR,u1,u2,u3,u4,q3 hp]
  ·obtain⟨u1,u2,u3,u4⟩:=hq yDe;simp[vJ,u6,oR,u1,u2,u3,u4,hs hp]
 exact MW hb a1 a3 a2
theorem FU {o:Oper}{c:Call}(h:cB o=some c):jr o=true:=by
 have Pj:=gN h;unfold cB at h;rw[Pj] at h;unfold jr;rw[Pj];simp only at h |-;split at h
 ·cases h
 ·split<;>simp_all
theorem xL:j0 P []:=λ x hx=>by cases hx
theorem FV {c:Call}{x:FuncId×List CV}(h:bJ s c=some x):jE [] s c=some x:=by
 unfold jE
 cases hc:c.callee with
 | value f=>exact h
 | _=>simp[bJ,hc] at h
theorem vP {σ:Nat->Option OB}{N i:Nat}{listed:Array Bool}(O0:listed.size=ops.size)(OP:i<ops.size)(QF:∀ j,j<ops.size->listed.getD j false=false->σ (N+j)=none)(j:Nat)(hj:j<ops.size)(hl:(listed.setIfInBounds i true).getD j false=false):σ (N+j)=none:=by
 have Rg:i≠j:=λ e=>by
  subst e;rw[Array.getD_eq_getD_getElem?] at hl;simp[O0,OP] at hl
 exact QF j hj (by rwa [getD_set_ne false Rg] at hl)
theorem Kn.eff (ht:aD P av)(R6:j0 P mt)(O2:gF P av call)(gJ:wW P pc){N:Nat}(Z3:C.n0<=N){W:List rz}{r:Er}{i:Nat}{o:Oper}{sm:St}(q1:ops[i]? = some o)(q2:bl C.nt o.dst=true)(q3:vT av mt ops call pc N (N+ops.size) (N+i) sm o=some r)(hW:Nz W r.1.w):Kn P C ops N W r i (fs sm):=by
 refine⟨o,q1,E6 q3,GP q3,hW,?_⟩;intro cl Q' listed x a w K O0 OP Q1 ⟨⟨s1,σ1,e1,Qg,hle,QF⟩,hcL⟩ _ Rk hK;have hd:dg ops i=o.dst:=by simp[dg,q1]
 subst e1;rw[show zO ops r i=⟨o.looksAt ops,r.2.1,r.2.2.1,r.2.2.2⟩ by simp only[zO,q1]] at Rk;refine Ky ht R6 O2 gJ (m:=N+i) q3 q2 q1 Rk Qg (QF i OP Q1) yA yA K λ a' w' σ' Q5 h1 h2 h3=>?_;refine hK a' w' ⟨⟨Q5,σ',by rw[h1,hd],h2,?_,λ j hj hl=>?_⟩,λ c hc=>getD_set_true (hcL c hc)⟩
 ·have:(fs Q5).n=(fs s1).n+r.1.k:=by rw[h1];rfl
  simp only[fs] at this;omega
 ·have Rg:i≠j:=λ e=>by
   subst e;rw[Array.getD_eq_getD_getElem?] at hl;simp[O0,OP] at hl
  rw[h3 (N+j) yA yA];exact QF j hj (by rwa [getD_set_ne false Rg] at hl)
def XV (P:Program)(W:List rz)(o:Oper)(s:St)(v:CV):Prop:=∀ (C:Cx) (σ:Nat->Option OB) (s1:St) (a:Act) (w:World),(∀ x∈o.op.operands,ev s1 x=ev s x)->wG W (assoc s1.heap)->aO C σ s1 a w->∃ z,(execOp a.eval o).run P w=.ok (.value z) w/\VR w (FB C σ s1.heap) σ v z
theorem Kn.quiet {N:Nat}{W:List rz}{i:Nat}{o:Oper}{sm:St}{v:CV}(q1:ops[i]? = some o)(q2:bl C.nt o.dst=true)(hg:bW ops sm o=some true)(hx:XV P W o sm v):Kn P C ops N W (iY v) i (fs sm):=by
 refine⟨o,q1,λ _=>⟨rfl,rfl,rfl,rfl⟩,λ _=>rfl,(λ _ _ _ h=>by cases h),?_⟩;intro cl Q' listed x a w K O0 OP Q1 ⟨⟨s1,σ1,e1,Qg,hle,QF⟩,hcL⟩ hw Rk hK;subst e1;rw[show zO ops (iY v) i=⟨o.looksAt ops,[],false,none⟩ by simp only[zO,q1,iY]] at Rk;have Sj:=pZ (ops:=ops) (s:=sm) (s':=s1) Rk.1;rw[hg] at Sj;obtain⟨z,hz,hv⟩:=hx C σ1 s1 a w (zk Rk.1) hw Qg;unfold wpOp;simp only[q1];rw[if_pos (eH (ops:=ops) ⟨σ1,Qg⟩ Sj)];refine .inl ?_;unfold Oper.wp;rw[hz];refine hK _ _ ⟨⟨s1.put o.dst v,σ1,?_,kf q2 Qg hv,?_,vP O0 OP QF⟩,λ c hc=>getD_set_true (hcL c hc)⟩
 ·rw[show dg ops i=o.dst by simp[dg,q1]];exact ox _ _ _
 ·cases o.dst<;>exact hle
theorem Eo {o:Oper}{c:Call}{g:FuncId}{cs:List CV}{sc s1:St}{σ:Nat->Option OB}{a:Act}{w:World}(hc:cB o=some c)(Pc:bJ sc c=some (g,cs))(hg:bW ops sc o=some true)(hE:kC P g)
  (RA:∀ t∈o.looksAt ops,assoc s1.env t=assoc sc.env t) (hr:aO C σ s1 a w):Region.wanted o (yielded ops a.tmps)=true/\yn P C s1 o g cs:=by
 have Pj:=gN hc;have Pv:=zk RA;have Sj:=pZ (ops:=ops) RA;rw[hg] at Sj;have Up:jE [] s1 c=some (g,cs):=by
  rw[tu (λ x hx=>Pv x (by rw[Pj];exact hx)),FV Pc]
 exact⟨eH (ops:=ops) ⟨σ,hr⟩ Sj,yn.to xL Pj Up hE⟩
def KX (P:Program)(av:List (Nat×TI))(ops:Array Oper)(nt N i:Nat)(o:Oper)(sc:St)(ks:List Nat)(nb:Bool)(OUT:Er->St->Prop):Prop:=
 aD P av->∀ (C:Cx) (cl:List Nat) (Q':Exit->Act->World->Prop) (listed:Array Bool) (x:FS) (a:Act) (w:World) (K:Act->World->Prop),C.nt=nt->listed.size=ops.size->i<ops.size->Rr C N ops cl listed x a w->eA ⟨o.looksAt ops,ks,nb,none⟩ x (fs sc) ->
  (∀ e s' a' w',OUT e s'->Rr C N ops cl (listed.setIfInBounds i true) (ap (dg ops i) e.1 x) a' w'->K a' w')->wpOp P ops Q' i K a w
def LN (P:Program)(av:List (Nat×TI))(mt:iO)(call:fW)(pc:FuncId->List CV->Option CV)(q:Bool)(W:List rz)(nt:Nat)(ops:Array Oper)(N:Nat)(dyn:List (Nat×Nat))(K:St->Prop):List Nat->(Nat->Er)->St->Prop
 | [],_,s=>K s
 | i::r,res,s=>∃ o,ops[i]? = some o/\bl nt o.dst=true/\
   ((∃ x,vT av mt ops call pc N (N+ops.size) (N+i) s o=some x/\um W dyn res i x/\LN P av mt call pc q W nt ops N dyn K r (note dyn res i x) (OM o.dst x.1 s))\/
    (bW ops s o=some true/\∃ v,XV P W o s v/\LN P av mt call pc q W nt ops N dyn K r (note dyn res i (iY v)) (s.put o.dst v))\/
    (∃ ks nb OUT,q=true/\(cB o).isSome=true/\KX P av ops nt N i o s ks nb OUT/\
     (∀ p∈dyn,p.2=i->(∀ q∈(res p.1).1.w,q.1∉ks)/\(nb=true->(res p.1).1.k=0))/\
     ∀ e s',OUT e s'->fs s'=ap o.dst e.1 (fs s)/\um W dyn res i e/\LN P av mt call pc q W nt ops N dyn K r (note dyn res i e) s'))
abbrev RX (P:Program)(av:List (Nat×TI))(W:List rz)(nt:Nat)(ops:Array Oper)(N:Nat)(dyn:List (Nat×Nat))(K:St->Prop):=LN P av [] DQ DP true W nt ops N dyn K
theorem KX.pure {nt N i:Nat}{o:Oper}{c:Call}{g:FuncId}{cs:List CV}{sc:St}{G:CV->Prop}(hi:ops[i]? = some o)(hd:bl nt o.dst=true)(hc:cB o=some c)(Pc:bJ sc c=some (g,cs))(hg:bW ops sc o=some true)(O1:trees cs=true)(hP:ny P g cs G) :
  KX P av ops nt N i o sc [] false λ e s'=>∃ v,G v/\e=iY v/\s'=sc.put o.dst v:=by
 rintro _ C cl Q' listed x a w K rfl O0 OP ⟨⟨s1,σ1,e1,Qg,hle,QF⟩,O2⟩ Rk hK;subst e1;obtain⟨hw,Xl⟩:=Eo hc Pc hg hP.1 Rk.1 Qg;unfold wpOp;simp only[hi];rw[if_pos hw];refine .inl (Ai Xl O1 hP Qg _ _ λ v v1 w' hG Pu hv=>?_);refine hK (iY v) _ _ _ ⟨v,hG,rfl,rfl⟩ ⟨⟨s1.put o.dst v,σ1,?_,kf hd Pu hv,?_,vP O0 OP QF⟩,λ c hc=>getD_set_true (O2 c hc)⟩
 ·rw[show dg ops i=o.dst by simp[dg,hi]];exact ox _ _ _
 ·cases o.dst<;>exact hle
theorem sU {G G':List (Nat×Ob)}:∀ (ks:List Nat),(∀ o∈ks,assoc G o=assoc G' o)->eK G ks=eK G' ks
 | [],_=>rfl
 | k::ks,h=>by
  simp only[eK];rw[h k mem_cons_self,sU ks λ o ho=>h o (mem_cons_of_mem _ ho)]
theorem tU {G H H':List (Nat×Ob)}{ks g8:List Nat}(hp:eK G ks=some H)(k3:∀ p,p∉g8->assoc H' p=assoc H p)(k4:∀ p∈g8,p∈ks\/(assoc H' p).isSome=true)(p:Nat) :
  assoc (H'++ec G ks) p=kD (assoc G) (g8.map λ p=>(p,assoc H' p)) p:=by
 rw[gZ,fk];have RD:assoc (g8.map λ p=>(p,assoc H' p)) p=if p∈g8 then some (assoc H' p) else none:=by
  clear k3 k4
  induction g8 with
  | nil=>simp[assoc]
  | cons q r ih=>
   simp only[map_cons,assoc,mem_cons];by_cases e:q=p
   ·simp[e]
   ·have e':¬ p=q:=λ h=>e h.symm;simp[e,e',ih]
 unfold kD;rw[RD];by_cases hc:p∈g8
 ·rw[if_pos hc];rcases k4 p hc with h | h
  ·rw[if_pos h];cases assoc H' p<;>rfl
  ·obtain⟨y,hy⟩:=Option.isSome_iff_exists.1 h;rw[hy]
 ·rw[if_neg hc,k3 p hc];obtain⟨i1,i2⟩:=j5 hp;by_cases hk:p∈ks
  ·rw[if_pos hk]
   cases h1:assoc G p with
   | none=>
    cases h2:assoc H p with
    | none=>rfl
    | some y=>rw[(i1 p y h2).2] at h1;cases h1
   | some y=>rw[i2 p y hk h1]
  ·rw[if_neg hk]
   cases h2:assoc H p with
   | none=>rfl
   | some y=>exact (hk (i1 p y h2).1).elim
theorem KX.body {nt N i:Nat}{o:Oper}{c:Call}{g:FuncId}{cs:List CV}{sc:St}{ks g8:List Nat}{d:Nat}{H:List (Nat×Ob)}{R:CV->St->Prop}(hi:ops[i]? = some o)(hd:bl nt o.dst=true)(hc:cB o=some c)(Pc:bJ sc c=some (g,cs))(hg:bW ops sc o=some true)
  (hp:eK sc.heap ks=some H) (hB:Body P av g cs H sc.nx R) (hRR:∀ v s1,R v s1->s1.nx=sc.nx+d/\(∀ p ob,assoc s1.heap p=some ob->p∈ks\/sc.nx<=p)/\(∀ p,p∉g8->assoc s1.heap p=assoc H p)/\∀ p∈g8,p∈ks\/(assoc s1.heap p).isSome=true) :
  KX P av ops nt N i o sc ks true λ e s'=>∃ v s1,R v s1/\e=iB v ks g8 d s1.heap/\s'=St.put ⟨sc.env,s1.heap++ec sc.heap ks,sc.nx+d⟩ o.dst v:=by
 rintro ht C cl Q' listed x a w K rfl O0 OP ⟨⟨s1,σ1,e1,Qg,hle,QF⟩,O2⟩ Rk hK;subst e1;have hE:kC P g:=by
  obtain⟨fn,code,hf,Qw,P5,_⟩:=hB;exact⟨fn,hf,P5,by simp[Qw]⟩
 obtain⟨hw,Xl⟩:=Eo hc Pc hg hE Rk.1 Qg;have QP:s1.nx=sc.nx:=Rk.2.2.1 rfl;have Ws:eK s1.heap ks=some H:=by rw[sU ks λ p hp=>Rk.2.1 p hp];exact hp
 rw[<- QP] at hB;unfold wpOp;simp only[hi];rw[if_pos hw];refine .inl (q9 ht (oE.of Ws) Xl hB (λ v s2 h p y z h1 h2=>?_) Qg _ _ λ v s2 v1 w' σ' h Pu hv hold=>?_)
 ·rw[fk] at h2;split at h2
  ·cases h2
  ·rename_i hnk;rcases (hRR v s2 h).2.1 p y h1 with hm | hm
   ·exact hnk hm
   ·obtain⟨B,m1,_⟩:=Qg.obj p z h2;rw[Qg.nx p yA] at m1;cases m1
 ·obtain⟨k1,k2,k3,k4⟩:=hRR v s2 h;refine hK (iB v ks g8 d s2.heap) _ _ _ ⟨v,s2,h,rfl,rfl⟩ ⟨⟨nA ⟨s1.env,s2.heap++ec s1.heap ks,s2.nx⟩ o.dst (some v),σ',?_,kf hd Pu hv,?_,vP O0 OP λ j hj hl=>by rw[hold (N+j) yA];exact QF j hj hl⟩,λ c hc=>getD_set_true (O2 c hc)⟩
  ·rw[show dg ops i=o.dst by simp[dg,hi]];exact gU (s:=s1) (k:=d) (tU Ws k3 k4) (by rw[k1,QP])
  ·have:s2.nx=s1.nx+d:=by rw[k1,QP]
   cases o.dst<;>simp only[nA,St.put,this]<;>exact Nat.le_trans hle (Nat.le_add_right _ _)
theorem KX.fs {sc:St}{ks g8:List Nat}{d:Nat}{H H1:List (Nat×Ob)}{o:Oper}{v:CV}(hp:eK sc.heap ks=some H)(k3:∀ p,p∉g8->assoc H1 p=assoc H p)(k4:∀ p∈g8,p∈ks\/(assoc H1 p).isSome=true):fs (St.put ⟨sc.env,H1++ec sc.heap ks,sc.nx+d⟩ o.dst v)=ap o.dst (iB v ks g8 d H1).1 (fs sc):=
 gU (s:=sc) (k:=d) (r:=some v) (tU hp k3 k4) rfl
end
end Go.Can
