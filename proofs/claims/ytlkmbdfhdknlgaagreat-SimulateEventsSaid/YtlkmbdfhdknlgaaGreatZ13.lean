/- **A region that draws, wal -/
import Derived.Test.YtlkmbdfhdknlgaaGreatZ12
namespace Go.Can
open List
section
variable {P:Program}{ops:Array Oper}
theorem zy {dst:Nat->Option Tmp}{E E':Nat->Ef}{L:Nat->Bool}:∀ (l:List Nat) (x:FS),(∀ i∈l,E i=E' i)->cf dst E L l x=cf dst E' L l x
 | [],_,_=>rfl
 | i::r,x,h=>by
  simp only[cf];rw[h i mem_cons_self];exact zy r _ λ j hj=>h j (mem_cons_of_mem _ hj)
theorem JW {b:Bool}(h:b≠false):b=true:=by cases b<;>simp_all
theorem F4 {b:Bool}(h:b≠true):b=false:=by cases b<;>simp_all
theorem Hf {pre r:List Nat}{k:Nat}{dst:Nat->Option Tmp}{E:Nat->Ef}{V:Nat->Vw}{Vk:Vw}{OUT:Ef->Prop}{x0:FS}{R:Array Bool->FS->Act->World->Prop}{Q':Exit->Act->World->Prop}
  (hn:(pre++k::r).Nodup) (Ve:∀ j,j<ops.size->j∈pre++k::r) (RS:∀ i∈pre++k::r,i<ops.size)
  (Zg:∀ p i q,pre++k::r=p++i::q->∀ oi,ops[i]? = some oi->∀ e∈oi.after,Region.binds .any e=true->e.on∈p)
  (XW:∀ p i q,pre=p++i::q->∀ j∈q,DR ops j i\/Io (dst i) (dst j) (E i) (E j) (V i) (V j))
  (VD:∀ j∈r,DR ops j k)
  (hk:∀ i∈pre,DR ops k i\/∀ z,eL Vk (ap (dst i) (E i) z) z)
  (du:∀ p i q,pre=p++i::q->∀ (listed:Array Bool) (x:FS) (a:Act) (w:World) (K:Act->World->Prop),listed.size=ops.size->listed.getD i false=false->R listed x a w->eL (V i) x (cf dst E (λ _=>true) p x0) ->
   (∀ a' w',R (listed.setIfInBounds i true) (ap (dst i) (E i) x) a' w'->K a' w')->wpOp P ops Q' i K a w)
  (hcall:∀ (listed:Array Bool) (x:FS) (a:Act) (w:World) (K:Act->World->Prop),listed.size=ops.size->listed.getD k false=false->R listed x a w->eL Vk x (cf dst E (λ _=>true) pre x0) ->
   (∀ Ek a' w',OUT Ek->R (listed.setIfInBounds k true) (ap (dst k) Ek x) a' w'->K a' w')->wpOp P ops Q' k K a w)
  (hnext:∀ Ek,OUT Ek->∀ (m:Nat) (listed:Array Bool) (a:Act) (w:World),listed.size=ops.size->uK ops listed->listed.getD k false=true->(∀ j∈r,listed.getD j false=false)->((pre++k::r).countP λ j=>!listed.getD j false)=m ->
   R listed (ap (dst k) Ek (cf dst E (λ j=>listed.getD j false) pre x0)) a w->wpAny P .any ops Q' m listed a w) :
  ∀ (m:Nat) (listed:Array Bool) (a:Act) (w:World),listed.size=ops.size->uK ops listed->listed.getD k false=false->((pre++k::r).countP λ j=>!listed.getD j false)=m->R listed (cf dst E (λ j=>listed.getD j false) pre x0) a w->wpAny P .any ops Q' m listed a w:=by
 intro m
 induction m with
 | zero=>
  intro listed a w R0 RY R8 hc hR;have:=countP_eq_zero.1 hc k xr;simp[R8] at this
 | succ m ih=>
  intro listed a w R0 RY R8 hc hR;refine⟨λ h0=>?_,λ i hi=>?_⟩
  ·exfalso;have:∀ (l p:List Nat),pre++k::r=p++l->(∀ j∈p,listed.getD j false=true)->(∃ i∈l,listed.getD i false=false)->False:=by
    intro l
    induction l with
    | nil=>rintro p _ _ ⟨i,hi,_⟩;cases hi
    | cons j q ihl=>
     intro p ho hp hx
     cases hj:listed.getD j false with
     | true=>
      refine ihl (p++[j]) (by simp[ho]) ?_ ?_
      ·intro t ht;rcases mem_append.1 ht with ht | ht
       ·exact hp t ht
       ·have:t=j:=by simpa using ht
        subst this;exact hj
      ·obtain⟨i,hi,hu⟩:=hx;rcases mem_cons.1 hi with e | hi
       ·subst e;rw[hj] at hu;cases hu
       ·exact⟨i,hi,hu⟩
     | false=>
      have Sv:=RS j (by rw[ho];simp);have Sg:ops[j]? = some ops[j]:=by simp[Sv]
      have:j∈Region.ready .any ops listed:=by
       refine mem_ready.2 ⟨qe (by rw[R0];exact Sv) hj,_,Sg,λ e he hb=>?_⟩;exact hp _ (Zg p j q ho _ Sg e he hb)
      rw[h0] at this;cases this
   exact this _ [] rfl xr ⟨k,by simp,R8⟩
  ·have Us:listed.getD i false=false:=getD_both (mem_ready.1 hi).1;obtain⟨_,oi,WD,TB⟩:=mem_ready.1 hi;have UK:=Ve i (Array.getElem?_eq_some_iff.1 WD).1;have Og:i<listed.size:=by rw[R0];exact RS i UK
   have Vg:uK ops (listed.setIfInBounds i true):=by
    intro j oj hj hl e he hb;by_cases W0:i=j
    ·subst W0;have:oj=oi:=Option.some.inj (hj.symm.trans WD);subst this;exact getD_set_true (TB e he hb)
    ·rw[getD_set_ne false W0] at hl;exact getD_set_true (RY j oj hj hl e he hb)
   have hcnt:((pre++k::r).countP λ j=>!(listed.setIfInBounds i true).getD j false)=m:=by
    have:=count_set (pre++k::r) i listed hn UK Og Us;omega
   have U9:=hn;rw[nodup_append,nodup_cons] at U9;rcases mem_append.1 UK with YP | YP
   ·have hik:i≠k:=λ e=>U9.2.2 i YP k xr e;obtain⟨p,q,Tw⟩:=append_of_mem YP;have Xd:=U9.1;rw[Tw,nodup_append,nodup_cons] at Xd;have VM:∀ t∈q,listed.getD t false=true->Io (dst i) (dst t) (E i) (E t) (V i) (V t):=λ t ht hl=>by
     rcases XW p i q Tw t ht with h | h
     ·have:=h listed RY λ ok Sg e he hb=>RY t ok Sg hl e he hb;rw[Us] at this;cases this
     ·exact h
    have Z1:∀ t∈p,listed.getD t false=false->Io (dst t) (dst i) (E t) (E i) (V t) (V i):=λ t ht hl=>by
     obtain⟨p1,p2,hp⟩:=append_of_mem ht;have Z6:pre=p1++t::(p2++i::q):=by rw[Tw,hp];simp
     rcases XW p1 t _ Z6 i xr with h | h
     ·have:=h listed RY λ ok Sg e he hb=>by
       rw[WD] at Sg;cases Sg;exact TB e he hb
      rw[hl] at this;cases this
     ·exact h
    have Uv:cf dst E (λ j=>listed.getD j false) pre x0=cf dst E (λ j=>listed.getD j false) q (cf dst E (λ j=>listed.getD j false) p x0):=by
     rw[Tw,ej];simp only[cf,Us,Bool.false_eq_true,if_false]
    refine du p i q Tw listed _ a w _ R0 Us hR ?_ λ a' w' hR'=>?_
    ·rw[Uv];have e1:eL (V i) (cf dst E (λ j=>listed.getD j false) q (cf dst E (λ j=>listed.getD j false) p x0)) (cf dst E (λ j=>listed.getD j false) p x0):=by
      have:=ik (V:=V i) (dst:=dst) (E:=E) (L:=λ j=>listed.getD j false) (L':=λ _=>false) q _ _ (λ t ht Sb z=>by
       have hl:listed.getD t false=true:=JW Sb;have h:=VM t ht hl;exact ph h.s2 h.h2 h.n2 h.a2 z) (eL.refl (V i) (cf dst E (λ j=>listed.getD j false) p x0))
      rwa [qH] at this
     refine e1.trans (ik p _ _ (λ t ht Sb z=>?_) (eL.refl _ _));have hl:listed.getD t false=false:=F4 Sb;have h:=Z1 t ht hl;exact ph h.s1 h.h1 h.n1 h.a1 z
    ·refine ih _ a' w' (by simpa using R0) Vg (by rw[getD_set_ne false hik];exact R8) hcnt ?_;have TR:(listed.setIfInBounds i true).getD i false=true:=by simp[Og]
     have key:cf dst E (λ j=>(listed.setIfInBounds i true).getD j false) pre x0=ap (dst i) (E i) (cf dst E (λ j=>listed.getD j false) pre x0):=by
      rw[Uv,Tw,ej];simp only[cf,TR,if_true];rw[gh p x0 (L':=λ j=>listed.getD j false) λ t ht=>getD_set_ne false (λ e=>by subst e;exact Xd.2.2 i ht i xr rfl)];rw[gh q _ (L':=λ j=>listed.getD j false) λ t ht=>getD_set_ne false (λ e=>by subst e;exact Xd.2.1.1 ht)];exact nA q _ λ t ht hl z=>GU (VM t ht hl) z
     rw[key];exact hR'
   ·rcases mem_cons.1 YP with hik | hir
    ·subst hik;refine hcall listed _ a w _ R0 Us hR ?_ λ Ek a' w' hO hR'=>?_
     ·refine ik pre _ _ (λ t ht Sb z=>?_) (eL.refl _ _);have hl:listed.getD t false=false:=F4 Sb;rcases hk t ht with h | h
      ·have:=h listed RY λ ok Sg e he hb=>by
        rw[WD] at Sg;cases Sg;exact TB e he hb
       rw[hl] at this;cases this
      ·exact h z
     ·refine hnext Ek hO _ _ a' w' (by simpa using R0) Vg (by simp[Og]) (λ j hj=>?_) hcnt ?_
      ·rw[getD_set_ne false λ e=>by subst e;exact U9.2.1.1 hj]
       cases hj':listed.getD j false with
       | false=>rfl
       | true=>
        have:=VD j hj listed RY λ oj hoj e he hb=>RY j oj hoj hj' e he hb;rw[Us] at this;cases this
      ·rw[gh pre x0 (L':=λ j=>listed.getD j false) λ t ht=>getD_set_ne false λ e=>by subst e;exact U9.2.2 i ht i xr rfl];exact hR'
    ·have:=VD i hir listed RY λ ok Sg e he hb=>by
      rw[WD] at Sg;cases Sg;exact TB e he hb
     rw[R8] at this;cases this
end
def D0 (res:Nat->Er)(i:Nat)(x:Er):Nat->Er:=λ j=>if j=i then x else res j
def chk (dyn:List (Nat×Nat))(res:Nat->Er)(i:Nat)(x:Er):Bool:=dyn.all λ p=>p.2 != i || xv (res p.1) x
def Bi (dyn:List (Nat×Nat))(res:Nat->Er)(i:Nat)(ks:List Nat):Bool:=dyn.all λ p=>p.2 != i || (((res p.1).1.w.all λ q=>!ks.contains q.1) && (res p.1).1.k == 0)
def note (dyn:List (Nat×Nat))(res:Nat->Er)(i:Nat)(x:Er):Nat->Er:=if dyn.any (λ p=>p.1 == i) then D0 res i x else res
def qP (v:CV)(ks eT:List Nat)(H':List (Nat×Ob)):Er:=(⟨some v,eT.map λ p=>(p,assoc H' p),0⟩,ks,true,none)
def iN (v:CV)(ks eT:List Nat)(d:Nat)(H':List (Nat×Ob)):Er:=(⟨some v,eT.map λ p=>(p,assoc H' p),d⟩,ks,true,none)
def je (v:CV):Er:=(⟨some v,[],0⟩,[],false,none)
abbrev uI:=Nat×Nat×List CV
def BE (c:uI)(ob:Option Ob):Prop:=∃ x,ob=some x/\(x.cells.drop c.2.1).take c.2.2.length=c.2.2
def QG (W:List uI)(w:List (Nat×Option Ob)):Prop:=∀ c∈W,∀ q∈w,q.1=c.1->BE c q.2
theorem GX (w:List (Nat×Option Ob)):QG [] w:=λ _ h=>by cases h
def yh (W:List uI)(h:Nat->Option Ob):Prop:=∀ c∈W,BE c (h c.1)
theorem zZ {W:List uI}{d:Option Tmp}{E:Ef}{x:FS}(h:yh W x.h)(hw:QG W E.w):yh W (ap d E x).h:=λ c hc=>by
 show BE c (kY x.h E.w c.1);unfold kY;split
 ·rename_i y hy;exact hw c hc _ (bx _ _ _ hy) rfl
 ·exact h c hc
def vu (W:List uI)(dyn:List (Nat×Nat))(res:Nat->Er)(i:Nat)(x:Er):Prop:=chk dyn res i x=true/\QG W x.1.w
def F2:gv:=λ _ _ _ _=>none
def F1:FuncId->List CV->Option CV:=λ _ _=>none
section
variable {P:Program}{C:Cx}{s:St}{ops:Array Oper}{av:List (Nat×TI)}{mt:iX}{call:gv}{pc:FuncId->List CV->Option CV}
theorem kg (res:Nat->Er)(i:Nat)(x:Er):D0 res i x i=x:=if_pos rfl
theorem DZ (res:Nat->Er){i j:Nat}(x:Er)(h:j≠i):D0 res i x j=res j:=if_neg h
def BA (ops:Array Oper)(x:Er)(i:Nat):Vw:=⟨(match ops[i]? with | some o=>o.looksAt ops | none=>[]),x.2.1,x.2.2.1,x.2.2.2⟩
theorem zw (x:Er)(v:CV):xv x (je v)=true:=by
 simp[xv,je,pF,wK]
def LC (x:Er):Prop:=x.1.w=[]/\x.1.k=0/\x.2.2.1=false/\x.2.2.2=none
def Rr (C:Cx)(N:Nat)(ops:Array Oper)(cl:List Nat)(listed:Array Bool)(x:FS)(a:Act)(w:World):Prop:=
 (∃ s σ,fs s=x/\aQ C σ s a w/\N+ops.size<=s.nx/\∀ j,j<ops.size->listed.getD j false=false->σ (N+j)=none)/\∀ c∈cl,listed.getD c false=true
def Kn (P:Program)(C:Cx)(ops:Array Oper)(N:Nat)(W:List uI)(r:Er)(i:Nat)(f:FS):Prop:=∃ o,ops[i]? = some o/\(jw o=false->LC r)/\(qi o=true->r.2.1=[])/\QG W r.1.w/\
 ∀ (cl:List Nat) (Q':Exit->Act->World->Prop) (listed:Array Bool) (x:FS) (a:Act) (w:World) (K:Act->World->Prop),listed.size=ops.size->i<ops.size->listed.getD i false=false->Rr C N ops cl listed x a w->yh W x.h->eL (BA ops r i) x f ->
  (∀ a' w',Rr C N ops cl (listed.setIfInBounds i true) (ap (dz ops i) r.1 x) a' w'->K a' w')->wpOp P ops Q' i K a w
theorem MB {dyn:List (Nat×Nat)}{N:Nat}{W:List uI}{r x:Er}{i j:Nat}{oj:Oper}{f:FS}(hp:zd ops dyn i j=true)(hi:Kn P C ops N W r i f)(hoj:ops[j]? = some oj)
  (hq:jw oj=false->LC x) (hs:qi oj=true->x.2.1=[]) (hd:(i,j)∈dyn->xv r x=true) :
  Io (dz ops i) (dz ops j) r.1 x.1 (BA ops r i) ⟨oj.looksAt ops,x.2.1,x.2.2.1,x.2.2.2⟩:=by
 obtain⟨oi,q1,q2,q3,_⟩:=hi;unfold zd at hp;rw[q1,hoj] at hp;simp only[Bool.or_eq_true,Bool.and_eq_true] at hp;obtain⟨Vu,hp⟩:=hp;obtain⟨a1,a2,a3⟩:=Oper.apart_spec Vu;have hV:BA ops r i=⟨oi.looksAt ops,r.2.1,r.2.2.1,r.2.2.2⟩:=by simp only[BA,q1]
 rw[hV,show dz ops i=oi.dst by simp[dz,q1],show dz ops j=oj.dst by simp[dz,hoj]];have hb:xv r x=true:=by
  rcases hp with ((hp | hp) | hp) | hp
  ·exact hd (by simpa using hp)
  ·simp only[Bool.not_eq_true'] at hp;obtain⟨u1,u2,u3,u4⟩:=q2 hp.1;obtain⟨v1,v2,v3,v4⟩:=hq hp.2;simp[xv,pF,u1,u2,u3,u4,v1,v2,v3,v4]
  ·obtain⟨u1,u2,u3,u4⟩:=q2 yDe;simp[xv,wK,pF,u1,u2,u3,u4,q3 hp]
  ·obtain⟨u1,u2,u3,u4⟩:=hq yDe;simp[xv,wK,pF,u1,u2,u3,u4,hs hp]
 exact P3 hb a1 a3 a2
theorem Ib {o:Oper}{c:Call}(h:ct o=some c):jw o=true:=by
 have R5:=hU h;unfold ct at h;rw[R5] at h;unfold jw;rw[R5];simp only at h |-;split at h
 ·cases h
 ·split<;>simp_all
theorem zj:j5 P []:=λ x hx=>by cases hx
theorem Ic {c:Call}{x:FuncId×List CV}(h:bM s c=some x):jL [] s c=some x:=by
 unfold jL
 cases hc:c.callee with
 | value f=>exact h
 | _=>simp[bM,hc] at h
theorem xB {σ:Nat->Option OB}{N i:Nat}{listed:Array Bool}(R0:listed.size=ops.size)(Og:i<ops.size)(Tx:∀ j,j<ops.size->listed.getD j false=false->σ (N+j)=none)(j:Nat)(hj:j<ops.size)(hl:(listed.setIfInBounds i true).getD j false=false):σ (N+j)=none:=by
 have W0:i≠j:=λ e=>by
  subst e;rw[Array.getD_eq_getD_getElem?] at hl;simp[R0,Og] at hl
 exact Tx j hj (by rwa [getD_set_ne false W0] at hl)
theorem Kn.eff (ht:aD P av)(UX:j5 P mt)(RY:gT P av call)(gZ:yz P pc){N:Nat}(hN0:C.n0<=N){W:List uI}{r:Er}{i:Nat}{o:Oper}{sm:St}(q1:ops[i]? = some o)(q2:bm C.nt o.dst=true)(q3:xK av mt ops call pc N (N+ops.size) (N+i) sm o=some r)(hW:QG W r.1.w):Kn P C ops N W r i (fs sm):=by
 refine⟨o,q1,Hu q3,Jd q3,hW,?_⟩;intro cl Q' listed x a w K R0 Og Us ⟨⟨s1,σ1,e1,Tk,hle,Tx⟩,hcL⟩ _ TP hK;have hd:dz ops i=o.dst:=by simp[dz,q1]
 subst e1;rw[show BA ops r i=⟨o.looksAt ops,r.2.1,r.2.2.1,r.2.2.2⟩ by simp only[BA,q1]] at TP;refine Np ht UX RY gZ (m:=N+i) q3 q2 q1 TP Tk (Tx i Og Us) yA yA K λ a' w' σ' T2 h1 h2 h3=>?_;refine hK a' w' ⟨⟨T2,σ',by rw[h1,hd],h2,?_,λ j hj hl=>?_⟩,λ c hc=>getD_set_true (hcL c hc)⟩
 ·have:(fs T2).n=(fs s1).n+r.1.k:=by rw[h1];rfl
  simp only[fs] at this;omega
 ·have W0:i≠j:=λ e=>by
   subst e;rw[Array.getD_eq_getD_getElem?] at hl;simp[R0,Og] at hl
  rw[h3 (N+j) yA yA];exact Tx j hj (by rwa [getD_set_ne false W0] at hl)
def XV (P:Program)(W:List uI)(o:Oper)(s:St)(v:CV):Prop:=∀ (C:Cx) (σ:Nat->Option OB) (s1:St) (a:Act) (w:World),(∀ x∈o.op.operands,ev s1 x=ev s x)->yh W (assoc s1.heap)->aQ C σ s1 a w->∃ z,(execOp a.eval o).run P w=.ok (.value z) w/\VR w (FB C σ s1.heap) σ v z
theorem Kn.quiet {N:Nat}{W:List uI}{i:Nat}{o:Oper}{sm:St}{v:CV}(q1:ops[i]? = some o)(q2:bm C.nt o.dst=true)(hg:bY ops sm o=some true)(hx:XV P W o sm v):Kn P C ops N W (je v) i (fs sm):=by
 refine⟨o,q1,λ _=>⟨rfl,rfl,rfl,rfl⟩,λ _=>rfl,(λ _ _ _ h=>by cases h),?_⟩;intro cl Q' listed x a w K R0 Og Us ⟨⟨s1,σ1,e1,Tk,hle,Tx⟩,hcL⟩ hw TP hK;subst e1;rw[show BA ops (je v) i=⟨o.looksAt ops,[],false,none⟩ by simp only[BA,q1,je]] at TP;have Vc:=qE (ops:=ops) (s:=sm) (s':=s1) TP.1;rw[hg] at Vc;obtain⟨z,hz,hv⟩:=hx C σ1 s1 a w (AU TP.1) hw Tk;unfold wpOp;simp only[q1];rw[if_pos (eU (ops:=ops) ⟨σ1,Tk⟩ Vc)];refine .inl ?_;unfold Oper.wp;rw[hz];refine hK _ _ ⟨⟨s1.put o.dst v,σ1,?_,ky q2 Tk hv,?_,xB R0 Og Tx⟩,λ c hc=>getD_set_true (hcL c hc)⟩
 ·rw[show dz ops i=o.dst by simp[dz,q1]];exact oY _ _ _
 ·cases o.dst<;>exact hle
theorem GN {o:Oper}{c:Call}{g:FuncId}{cs:List CV}{sc s1:St}{σ:Nat->Option OB}{a:Act}{w:World}(hc:ct o=some c)(Se:bM sc c=some (g,cs))(hg:bY ops sc o=some true)(hE:kW P g)
  (Uw:∀ t∈o.looksAt ops,assoc s1.env t=assoc sc.env t) (hr:aQ C σ s1 a w):Region.wanted o (yielded ops a.tmps)=true/\qu P C s1 o g cs:=by
 have R5:=hU hc;have SN:=AU Uw;have Vc:=qE (ops:=ops) Uw;rw[hg] at Vc;have Zv:jL [] s1 c=some (g,cs):=by
  rw[u6 (λ x hx=>SN x (by rw[R5];exact hx)),Ic Se]
 exact⟨eU (ops:=ops) ⟨σ,hr⟩ Vc,qu.to zj R5 Zv hE⟩
def NV (P:Program)(av:List (Nat×TI))(ops:Array Oper)(nt N i:Nat)(o:Oper)(sc:St)(ks:List Nat)(nb:Bool)(OUT:Er->St->Prop):Prop:=
 aD P av->∀ (C:Cx) (cl:List Nat) (Q':Exit->Act->World->Prop) (listed:Array Bool) (x:FS) (a:Act) (w:World) (K:Act->World->Prop),C.nt=nt->listed.size=ops.size->i<ops.size->Rr C N ops cl listed x a w->eL ⟨o.looksAt ops,ks,nb,none⟩ x (fs sc) ->
  (∀ e s' a' w',OUT e s'->Rr C N ops cl (listed.setIfInBounds i true) (ap (dz ops i) e.1 x) a' w'->K a' w')->wpOp P ops Q' i K a w
def OQ (P:Program)(av:List (Nat×TI))(mt:iX)(call:gv)(pc:FuncId->List CV->Option CV)(q:Bool)(W:List uI)(nt:Nat)(ops:Array Oper)(N:Nat)(dyn:List (Nat×Nat))(K:St->Prop):List Nat->(Nat->Er)->St->Prop
 | [],_,s=>K s
 | i::r,res,s=>∃ o,ops[i]? = some o/\bm nt o.dst=true/\
   ((∃ x,xK av mt ops call pc N (N+ops.size) (N+i) s o=some x/\vu W dyn res i x/\OQ P av mt call pc q W nt ops N dyn K r (note dyn res i x) (RN o.dst x.1 s))\/
    (bY ops s o=some true/\∃ v,XV P W o s v/\OQ P av mt call pc q W nt ops N dyn K r (note dyn res i (je v)) (s.put o.dst v))\/
    (∃ ks nb OUT,q=true/\(ct o).isSome=true/\NV P av ops nt N i o s ks nb OUT/\
     (∀ p∈dyn,p.2=i->(∀ q∈(res p.1).1.w,q.1∉ks)/\(nb=true->(res p.1).1.k=0))/\
     ∀ e s',OUT e s'->fs s'=ap o.dst e.1 (fs s)/\vu W dyn res i e/\OQ P av mt call pc q W nt ops N dyn K r (note dyn res i e) s'))
abbrev RX (P:Program)(av:List (Nat×TI))(W:List uI)(nt:Nat)(ops:Array Oper)(N:Nat)(dyn:List (Nat×Nat))(K:St->Prop):=OQ P av [] F2 F1 true W nt ops N dyn K
theorem NV.pure {nt N i:Nat}{o:Oper}{c:Call}{g:FuncId}{cs:List CV}{sc:St}{G:CV->Prop}(hi:ops[i]? = some o)(hd:bm nt o.dst=true)(hc:ct o=some c)(Se:bM sc c=some (g,cs))(hg:bY ops sc o=some true)(Sa:trees cs=true)(hP:n9 P g cs G) :
  NV P av ops nt N i o sc [] false λ e s'=>∃ v,G v/\e=je v/\s'=sc.put o.dst v:=by
 rintro _ C cl Q' listed x a w K rfl R0 Og ⟨⟨s1,σ1,e1,Tk,hle,Tx⟩,RY⟩ TP hK;subst e1;obtain⟨hw,hent⟩:=GN hc Se hg hP.1 TP.1 Tk;unfold wpOp;simp only[hi];rw[if_pos hw];refine .inl (B9 hent Sa hP Tk _ _ λ v v1 w' hG So hv=>?_);refine hK (je v) _ _ _ ⟨v,hG,rfl,rfl⟩ ⟨⟨s1.put o.dst v,σ1,?_,ky hd So hv,?_,xB R0 Og Tx⟩,λ c hc=>getD_set_true (RY c hc)⟩
 ·rw[show dz ops i=o.dst by simp[dz,hi]];exact oY _ _ _
 ·cases o.dst<;>exact hle
theorem uV {G G':List (Nat×Ob)}:∀ (ks:List Nat),(∀ o∈ks,assoc G o=assoc G' o)->eZ G ks=eZ G' ks
 | [],_=>rfl
 | k::ks,h=>by
  simp only[eZ];rw[h k mem_cons_self,uV ks λ o ho=>h o (mem_cons_of_mem _ ho)]
theorem vd {G H H':List (Nat×Ob)}{ks eT:List Nat}(hp:eZ G ks=some H)(k3:∀ p,p∉eT->assoc H' p=assoc H p)(k4:∀ p∈eT,p∈ks\/(assoc H' p).isSome=true)(p:Nat) :
  assoc (H'++ep G ks) p=kY (assoc G) (eT.map λ p=>(p,assoc H' p)) p:=by
 rw[ir,fA];have Uz:assoc (eT.map λ p=>(p,assoc H' p)) p=if p∈eT then some (assoc H' p) else none:=by
  clear k3 k4
  induction eT with
  | nil=>simp[assoc]
  | cons q r ih=>
   simp only[map_cons,assoc,mem_cons];by_cases e:q=p
   ·simp[e]
   ·have e':¬ p=q:=λ h=>e h.symm;simp[e,e',ih]
 unfold kY;rw[Uz];by_cases hc:p∈eT
 ·rw[if_pos hc];rcases k4 p hc with h | h
  ·rw[if_pos h];cases assoc H' p<;>rfl
  ·obtain⟨y,hy⟩:=Option.isSome_iff_exists.1 h;rw[hy]
 ·rw[if_neg hc,k3 p hc];obtain⟨i1,i2⟩:=j9 hp;by_cases hk:p∈ks
  ·rw[if_pos hk]
   cases h1:assoc G p with
   | none=>
    cases h2:assoc H p with
    | none=>rfl
    | some y=>rw[(i1 p y h2).2] at h1;cases h1
   | some y=>rw[i2 p y hk h1]
  ·rw[if_neg hk]
   cases h2:assoc H p with
   | none=>rfl
   | some y=>exact (hk (i1 p y h2).1).elim
theorem NV.body {nt N i:Nat}{o:Oper}{c:Call}{g:FuncId}{cs:List CV}{sc:St}{ks eT:List Nat}{d:Nat}{H:List (Nat×Ob)}{R:CV->St->Prop}(hi:ops[i]? = some o)(hd:bm nt o.dst=true)(hc:ct o=some c)(Se:bM sc c=some (g,cs))(hg:bY ops sc o=some true)
  (hp:eZ sc.heap ks=some H) (hB:Body P av g cs H sc.nx R) (hRR:∀ v s1,R v s1->s1.nx=sc.nx+d/\(∀ p ob,assoc s1.heap p=some ob->p∈ks\/sc.nx<=p)/\(∀ p,p∉eT->assoc s1.heap p=assoc H p)/\∀ p∈eT,p∈ks\/(assoc s1.heap p).isSome=true) :
  NV P av ops nt N i o sc ks true λ e s'=>∃ v s1,R v s1/\e=iN v ks eT d s1.heap/\s'=St.put ⟨sc.env,s1.heap++ep sc.heap ks,sc.nx+d⟩ o.dst v:=by
 rintro ht C cl Q' listed x a w K rfl R0 Og ⟨⟨s1,σ1,e1,Tk,hle,Tx⟩,RY⟩ TP hK;subst e1;have hE:kW P g:=by
  obtain⟨fn,code,hf,Tm,SW,_⟩:=hB;exact⟨fn,hf,SW,by simp[Tm]⟩
 obtain⟨hw,hent⟩:=GN hc Se hg hE TP.1 Tk;have Te:s1.nx=sc.nx:=TP.2.2.1 rfl;have Zj:eZ s1.heap ks=some H:=by rw[uV ks λ p hp=>TP.2.1 p hp];exact hp
 rw[<- Te] at hB;unfold wpOp;simp only[hi];rw[if_pos hw];refine .inl (sJ ht (pj.of Zj) hent hB (λ v s2 h p y z h1 h2=>?_) Tk _ _ λ v s2 v1 w' σ' h So hv hold=>?_)
 ·rw[fA] at h2;split at h2
  ·cases h2
  ·rename_i hnk;rcases (hRR v s2 h).2.1 p y h1 with hm | hm
   ·exact hnk hm
   ·obtain⟨B,m1,_⟩:=Tk.obj p z h2;rw[Tk.nx p yA] at m1;cases m1
 ·obtain⟨k1,k2,k3,k4⟩:=hRR v s2 h;refine hK (iN v ks eT d s2.heap) _ _ _ ⟨v,s2,h,rfl,rfl⟩ ⟨⟨p8 ⟨s1.env,s2.heap++ep s1.heap ks,s2.nx⟩ o.dst (some v),σ',?_,ky hd So hv,?_,xB R0 Og λ j hj hl=>by rw[hold (N+j) yA];exact Tx j hj hl⟩,λ c hc=>getD_set_true (RY c hc)⟩
  ·rw[show dz ops i=o.dst by simp[dz,hi]];exact ij (s:=s1) (k:=d) (vd Zj k3 k4) (by rw[k1,Te])
  ·have:s2.nx=s1.nx+d:=by rw[k1,Te]
   cases o.dst<;>simp only[p8,St.put,this]<;>exact Nat.le_trans hle (Nat.le_add_right _ _)
theorem NV.fs {sc:St}{ks eT:List Nat}{d:Nat}{H H1:List (Nat×Ob)}{o:Oper}{v:CV}(hp:eZ sc.heap ks=some H)(k3:∀ p,p∉eT->assoc H1 p=assoc H p)(k4:∀ p∈eT,p∈ks\/(assoc H1 p).isSome=true):fs (St.put ⟨sc.env,H1++ep sc.heap ks,sc.nx+d⟩ o.dst v)=ap o.dst (iN v ks eT d H1).1 (fs sc):=
 ij (s:=sc) (k:=d) (r:=some v) (vd hp k3 k4) rfl
end
end Go.Can
