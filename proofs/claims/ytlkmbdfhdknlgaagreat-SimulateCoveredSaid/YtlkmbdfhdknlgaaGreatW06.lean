/- Lemmas. -/
import Derived.Test.YtlkmbdfhdknlgaaGreatW05
namespace Go.Can
open List
section
variable {P:Program}{ops:Array Oper}
theorem zQ {dst:Nat->Option Tmp}{E E':Nat->Ef}{L:Nat->Bool}:∀ (l:List Nat) (x:FS),(∀ i∈l,E i=E' i)->ch dst E L l x=ch dst E' L l x
 | [],_,_=>rfl
 | i::r,x,h=>by
  simp only[ch];rw[h i mem_cons_self];exact zQ r _ λ j hj=>h j (mem_cons_of_mem _ hj)
theorem Ku {b:Bool}(h:b≠false):b=true:=by cases b<;>simp_all
theorem Gt {b:Bool}(h:b≠true):b=false:=by cases b<;>simp_all
theorem HB {pre r:List Nat}{k:Nat}{dst:Nat->Option Tmp}{E:Nat->Ef}{V:Nat->Vw}{Vk:Vw}{OUT:Ef->Prop}{x0:FS}{R:Array Bool->FS->Act->World->Prop}{Q':Exit->Act->World->Prop}
  (hn:(pre++k::r).Nodup) (UY:∀ j,j<ops.size->j∈pre++k::r) (P1:∀ i∈pre++k::r,i<ops.size)
  (ZV:∀ p i q,pre++k::r=p++i::q->∀ oi,ops[i]? = some oi->∀ e∈oi.after,Region.binds .any e=true->e.on∈p)
  (YE:∀ p i q,pre=p++i::q->∀ j∈q,D8 ops j i\/IS (dst i) (dst j) (E i) (E j) (V i) (V j))
  (Wi:∀ j∈r,D8 ops j k)
  (hk:∀ i∈pre,D8 ops k i\/∀ z,eP Vk (ap (dst i) (E i) z) z)
  (cW:∀ p i q,pre=p++i::q->∀ (listed:Array Bool) (x:FS) (a:Act) (w:World) (K:Act->World->Prop),listed.size=ops.size->listed.getD i false=false->R listed x a w->eP (V i) x (ch dst E (λ _=>true) p x0) ->
   (∀ a' w',R (listed.setIfInBounds i true) (ap (dst i) (E i) x) a' w'->K a' w')->wpOp P ops Q' i K a w)
  (hcall:∀ (listed:Array Bool) (x:FS) (a:Act) (w:World) (K:Act->World->Prop),listed.size=ops.size->listed.getD k false=false->R listed x a w->eP Vk x (ch dst E (λ _=>true) pre x0) ->
   (∀ Ek a' w',OUT Ek->R (listed.setIfInBounds k true) (ap (dst k) Ek x) a' w'->K a' w')->wpOp P ops Q' k K a w)
  (hnext:∀ Ek,OUT Ek->∀ (m:Nat) (listed:Array Bool) (a:Act) (w:World),listed.size=ops.size->u6 ops listed->listed.getD k false=true->(∀ j∈r,listed.getD j false=false)->((pre++k::r).countP λ j=>!listed.getD j false)=m ->
   R listed (ap (dst k) Ek (ch dst E (λ j=>listed.getD j false) pre x0)) a w->wpAny P .any ops Q' m listed a w) :
  ∀ (m:Nat) (listed:Array Bool) (a:Act) (w:World),listed.size=ops.size->u6 ops listed->listed.getD k false=false->((pre++k::r).countP λ j=>!listed.getD j false)=m->R listed (ch dst E (λ j=>listed.getD j false) pre x0) a w->wpAny P .any ops Q' m listed a w:=by
 intro m
 induction m with
 | zero=>
  intro listed a w SB SA SO hc hR;have:=countP_eq_zero.1 hc k xr;simp[SO] at this
 | succ m ih=>
  intro listed a w SB SA SO hc hR;refine⟨λ h0=>?_,λ i hi=>?_⟩
  .exfalso;have:∀ (l p:List Nat),pre++k::r=p++l->(∀ j∈p,listed.getD j false=true)->(∃ i∈l,listed.getD i false=false)->False:=by
    intro l
    induction l with
    | nil=>rintro p _ _ ⟨i,hi,_⟩;cases hi
    | cons j q ihl=>
     intro p ho hp hx
     cases hj:listed.getD j false with
     | true=>
      refine ihl (p++[j]) (by simp[ho]) ?_ ?_
      .intro t ht;rcases mem_append.1 ht with ht | ht
       .exact hp t ht
       .have:t=j:=by simpa using ht
        subst this;exact hj
      .obtain⟨i,hi,hu⟩:=hx;rcases mem_cons.1 hi with e | hi
       .subst e;rw[hj] at hu;cases hu
       .exact⟨i,hi,hu⟩
     | false=>
      have Tl:=P1 j (by rw[ho];simp);have SU:ops[j]? = some ops[j]:=by simp[Tl]
      have:j∈Region.ready .any ops listed:=by
       refine mem_ready.2 ⟨qC (by rw[SB];exact Tl) hj,_,SU,λ e he hb=>?_⟩;exact hp _ (ZV p j q ho _ SU e he hb)
      rw[h0] at this;cases this
   exact this _ [] rfl xr ⟨k,by simp,SO⟩
  .have U9:listed.getD i false=false:=getD_both (mem_ready.1 hi).1;obtain⟨_,oi,Xm,Uj⟩:=mem_ready.1 hi;have Vu:=UY i (Array.getElem?_eq_some_iff.1 Xm).1;have Jz:i<listed.size:=by rw[SB];exact P1 i Vu
   have VZ:u6 ops (listed.setIfInBounds i true):=by
    intro j oj hj hl e he hb;by_cases XH:i=j
    .subst XH;have:oj=oi:=Option.some.inj (hj.symm.trans Xm);subst this;exact getD_set_true (Uj e he hb)
    .rw[getD_set_ne false XH] at hl;exact getD_set_true (SA j oj hj hl e he hb)
   have hcnt:((pre++k::r).countP λ j=>!(listed.setIfInBounds i true).getD j false)=m:=by
    have:=count_set (pre++k::r) i listed hn Vu Jz U9;omega
   have VP:=hn;rw[nodup_append,nodup_cons] at VP;rcases mem_append.1 Vu with Zw | Zw
   .have Z1:i≠k:=λ e=>VP.2.2 i Zw k xr e;obtain⟨p,q,TE⟩:=append_of_mem Zw;have XW:=VP.1;rw[TE,nodup_append,nodup_cons] at XW;have Wt:∀ t∈q,listed.getD t false=true->IS (dst i) (dst t) (E i) (E t) (V i) (V t):=λ t ht hl=>by
     rcases YE p i q TE t ht with h | h
     .have:=h listed SA λ ok SU e he hb=>SA t ok SU hl e he hb;rw[U9] at this;cases this
     .exact h
    have hpre:∀ t∈p,listed.getD t false=false->IS (dst t) (dst i) (E t) (E i) (V t) (V i):=λ t ht hl=>by
     obtain⟨p1,p2,hp⟩:=append_of_mem ht;have ho2:pre=p1++t::(p2++i::q):=by rw[TE,hp];simp
     rcases YE p1 t _ ho2 i xr with h | h
     .have:=h listed SA λ ok SU e he hb=>by
       rw[Xm] at SU;cases SU;exact Uj e he hb
      rw[hl] at this;cases this
     .exact h
    have Vb:ch dst E (λ j=>listed.getD j false) pre x0=ch dst E (λ j=>listed.getD j false) q (ch dst E (λ j=>listed.getD j false) p x0):=by
     rw[TE,ep];simp only[ch,U9,Bool.false_eq_true,if_false]
    refine cW p i q TE listed _ a w _ SB U9 hR ?_ λ a' w' hR'=>?_
    .rw[Vb];have e1:eP (V i) (ch dst E (λ j=>listed.getD j false) q (ch dst E (λ j=>listed.getD j false) p x0)) (ch dst E (λ j=>listed.getD j false) p x0):=by
      have:=iD (V:=V i) (dst:=dst) (E:=E) (L:=λ j=>listed.getD j false) (L':=λ _=>false) q _ _ (λ t ht SL z=>by
       have hl:listed.getD t false=true:=Ku SL;have h:=Wt t ht hl;exact pJ h.s2 h.h2 h.n2 h.a2 z) (eP.refl (V i) (ch dst E (λ j=>listed.getD j false) p x0))
      rwa [ru] at this
     refine e1.trans (iD p _ _ (λ t ht SL z=>?_) (eP.refl _ _));have hl:listed.getD t false=false:=Gt SL;have h:=hpre t ht hl;exact pJ h.s1 h.h1 h.n1 h.a1 z
    .refine ih _ a' w' (by simpa using SB) VZ (by rw[getD_set_ne false Z1];exact SO) hcnt ?_;have Uu:(listed.setIfInBounds i true).getD i false=true:=by simp[Jz]
     have key:ch dst E (λ j=>(listed.setIfInBounds i true).getD j false) pre x0=ap (dst i) (E i) (ch dst E (λ j=>listed.getD j false) pre x0):=by
      rw[Vb,TE,ep];simp only[ch,Uu,if_true];rw[gw p x0 (L':=λ j=>listed.getD j false) λ t ht=>getD_set_ne false (λ e=>by subst e;exact XW.2.2 i ht i xr rfl)];rw[gw q _ (L':=λ j=>listed.getD j false) λ t ht=>getD_set_ne false (λ e=>by subst e;exact XW.2.1.1 ht)];exact nY q _ λ t ht hl z=>Hf (Wt t ht hl) z
     rw[key];exact hR'
   .rcases mem_cons.1 Zw with Z1 | hir
    .subst Z1;refine hcall listed _ a w _ SB U9 hR ?_ λ Ek a' w' hO hR'=>?_
     .refine iD pre _ _ (λ t ht SL z=>?_) (eP.refl _ _);have hl:listed.getD t false=false:=Gt SL;rcases hk t ht with h | h
      .have:=h listed SA λ ok SU e he hb=>by
        rw[Xm] at SU;cases SU;exact Uj e he hb
       rw[hl] at this;cases this
      .exact h z
     .refine hnext Ek hO _ _ a' w' (by simpa using SB) VZ (by simp[Jz]) (λ j hj=>?_) hcnt ?_
      .rw[getD_set_ne false λ e=>by subst e;exact VP.2.1.1 hj]
       cases hj':listed.getD j false with
       | false=>rfl
       | true=>
        have:=Wi j hj listed SA λ oj hoj e he hb=>SA j oj hoj hj' e he hb;rw[U9] at this;cases this
      .rw[gw pre x0 (L':=λ j=>listed.getD j false) λ t ht=>getD_set_ne false λ e=>by subst e;exact VP.2.2 i ht i xr rfl];exact hR'
    .have:=Wi i hir listed SA λ ok SU e he hb=>by
      rw[Xm] at SU;cases SU;exact Uj e he hb
     rw[SO] at this;cases this
end
def Ej (res:Nat->Er)(i:Nat)(x:Er):Nat->Er:=λ j=>if j=i then x else res j
def chk (dyn:List (Nat×Nat))(res:Nat->Er)(i:Nat)(x:Er):Bool:=dyn.all λ p=>p.2 != i || xQ (res p.1) x
def Bq (dyn:List (Nat×Nat))(res:Nat->Er)(i:Nat)(ks:List Nat):Bool:=dyn.all λ p=>p.2 != i || (((res p.1).1.w.all λ q=>!ks.contains q.1) && (res p.1).1.k == 0)
def note (dyn:List (Nat×Nat))(res:Nat->Er)(i:Nat)(x:Er):Nat->Er:=if dyn.any (λ p=>p.1 == i) then Ej res i x else res
def rH (v:CV)(ks eT:List Nat)(H':List (Nat×Ob)):Er:=(⟨some v,eT.map λ p=>(p,assoc H' p),0⟩,ks,true,none)
def jg (v:CV)(ks eT:List Nat)(d:Nat)(H':List (Nat×Ob)):Er:=(⟨some v,eT.map λ p=>(p,assoc H' p),d⟩,ks,true,none)
def jy (v:CV):Er:=(⟨some v,[],0⟩,[],false,none)
abbrev u5:=Nat×Nat×List CV
def BP (c:u5)(ob:Option Ob):Prop:=∃ x,ob=some x/\(x.cells.drop c.2.1).take c.2.2.length=c.2.2
def Rh (W:List u5)(w:List (Nat×Option Ob)):Prop:=∀ c∈W,∀ q∈w,q.1=c.1->BP c q.2
theorem Hi (w:List (Nat×Option Ob)):Rh [] w:=λ _ h=>by cases h
def yK (W:List u5)(h:Nat->Option Ob):Prop:=∀ c∈W,BP c (h c.1)
theorem Ah {W:List u5}{d:Option Tmp}{E:Ef}{x:FS}(h:yK W x.h)(hw:Rh W E.w):yK W (ap d E x).h:=λ c hc=>by
 show BP c (lH x.h E.w c.1);unfold lH;split
 .rename_i y hy;exact hw c hc _ (bA _ _ _ hy) rfl
 .exact h c hc
def vQ (W:List u5)(dyn:List (Nat×Nat))(res:Nat->Er)(i:Nat)(x:Er):Prop:=chk dyn res i x=true/\Rh W x.1.w
def Gq:gD:=λ _ _ _ _=>none
def Gp:FuncId->List CV->Option CV:=λ _ _=>none
section
variable {P:Program}{C:Cx}{s:St}{ops:Array Oper}{av:List (Nat×TI)}{mt:jh}{call:gD}{pc:FuncId->List CV->Option CV}
theorem kX (res:Nat->Er)(i:Nat)(x:Er):Ej res i x i=x:=if_pos rfl
theorem Eh (res:Nat->Er){i j:Nat}(x:Er)(h:j≠i):Ej res i x j=res j:=if_neg h
def BL (ops:Array Oper)(x:Er)(i:Nat):Vw:=⟨(match ops[i]? with | some o=>o.looksAt ops | none=>[]),x.2.1,x.2.2.1,x.2.2.2⟩
theorem zO (x:Er)(v:CV):xQ x (jy v)=true:=by
 simp[xQ,jy,pZ,xi]
def Mc (x:Er):Prop:=x.1.w=[]/\x.1.k=0/\x.2.2.1=false/\x.2.2.2=none
def Rr (C:Cx)(N:Nat)(ops:Array Oper)(cl:List Nat)(listed:Array Bool)(x:FS)(a:Act)(w:World):Prop:=
 (∃ s U,fs s=x/\aQ C U s a w/\N+ops.size<=s.nx/\∀ j,j<ops.size->listed.getD j false=false->U (N+j)=none)/\∀ c∈cl,listed.getD c false=true
def Kn (P:Program)(C:Cx)(ops:Array Oper)(N:Nat)(W:List u5)(r:Er)(i:Nat)(f:FS):Prop:=∃ o,ops[i]? = some o/\(jS o=false->Mc r)/\(qF o=true->r.2.1=[])/\Rh W r.1.w/\
 ∀ (cl:List Nat) (Q':Exit->Act->World->Prop) (listed:Array Bool) (x:FS) (a:Act) (w:World) (K:Act->World->Prop),listed.size=ops.size->i<ops.size->listed.getD i false=false->Rr C N ops cl listed x a w->yK W x.h->eP (BL ops r i) x f ->
  (∀ a' w',Rr C N ops cl (listed.setIfInBounds i true) (ap (dE ops i) r.1 x) a' w'->K a' w')->wpOp P ops Q' i K a w
theorem Nj {dyn:List (Nat×Nat)}{N:Nat}{W:List u5}{r x:Er}{i j:Nat}{oj:Oper}{f:FS}(hp:zw ops dyn i j=true)(hi:Kn P C ops N W r i f)(hoj:ops[j]? = some oj)
  (hq:jS oj=false->Mc x) (hs:qF oj=true->x.2.1=[]) (hd:(i,j)∈dyn->xQ r x=true) :
  IS (dE ops i) (dE ops j) r.1 x.1 (BL ops r i) ⟨oj.looksAt ops,x.2.1,x.2.2.1,x.2.2.2⟩:=by
 obtain⟨oi,q1,q2,q3,_⟩:=hi;unfold zw at hp;rw[q1,hoj] at hp;simp only[Bool.or_eq_true,Bool.and_eq_true] at hp;obtain⟨Wa,hp⟩:=hp;obtain⟨a1,a2,a3⟩:=Oper.apart_spec Wa;have hV:BL ops r i=⟨oi.looksAt ops,r.2.1,r.2.2.1,r.2.2.2⟩:=by simp only[BL,q1]
 rw[hV,show dE ops i=oi.dst by simp[dE,q1],show dE ops j=oj.dst by simp[dE,hoj]];have hb:xQ r x=true:=by
  rcases hp with ((hp | hp) | hp) | hp
  .exact hd (by simpa using hp)
  .simp only[Bool.not_eq_true'] at hp;obtain⟨u1,u2,u3,u4⟩:=q2 hp.1;obtain⟨v1,v2,v3,v4⟩:=hq hp.2;simp[xQ,pZ,u1,u2,u3,u4,v1,v2,v3,v4]
  .obtain⟨u1,u2,u3,u4⟩:=q2 yDe;simp[xQ,xi,pZ,u1,u2,u3,u4,q3 hp]
  .obtain⟨u1,u2,u3,u4⟩:=hq yDe;simp[xQ,xi,pZ,u1,u2,u3,u4,hs hp]
 exact QH hb a1 a3 a2
theorem IF {o:Oper}{c:Call}(h:cz o=some c):jS o=true:=by
 have SG:=iy h;unfold cz at h;rw[SG] at h;unfold jS;rw[SG];simp only at h |-;split at h
 .cases h
 .split<;>simp_all
theorem zD:jM P []:=λ x hx=>by cases hx
theorem IG {c:Call}{x:FuncId×List CV}(h:bK s c=some x):jF [] s c=some x:=by
 unfold jF
 cases hc:c.callee with
 | value f=>exact h
 | _=>simp[bK,hc] at h
theorem xV {U:Nat->Option OB}{N i:Nat}{listed:Array Bool}(SB:listed.size=ops.size)(Jz:i<ops.size)(Uf:∀ j,j<ops.size->listed.getD j false=false->U (N+j)=none)(j:Nat)(hj:j<ops.size)(hl:(listed.setIfInBounds i true).getD j false=false):U (N+j)=none:=by
 have XH:i≠j:=λ e=>by
  subst e;rw[Array.getD_eq_getD_getElem?] at hl;simp[SB,Jz] at hl
 exact Uf j hj (by rwa [getD_set_ne false XH] at hl)
theorem Kn.eff (ht:aF P av)(VD:jM P mt)(SA:g7 P av call)(gQ:yZ P pc){N:Nat}(hN0:C.n0<=N){W:List u5}{r:Er}{i:Nat}{o:Oper}{sm:St}(q1:ops[i]? = some o)(q2:bj C.nt o.dst=true)(q3:x7 av mt ops call pc N (N+ops.size) (N+i) sm o=some r)(hW:Rh W r.1.w):Kn P C ops N W r i (fs sm):=by
 refine⟨o,q1,HQ q3,JH q3,hW,?_⟩;intro cl Q' listed x a w K SB Jz U9 ⟨⟨s1,σ1,e1,TU,hle,Uf⟩,hcL⟩ _ UF hK;have hd:dE ops i=o.dst:=by simp[dE,q1]
 subst e1;rw[show BL ops r i=⟨o.looksAt ops,r.2.1,r.2.2.1,r.2.2.2⟩ by simp only[BL,q1]] at UF;refine N6 ht VD SA gQ (m:=N+i) q3 q2 q1 UF TU (Uf i Jz U9) yA yA K λ a' w' σ' UG h1 h2 h3=>?_;refine hK a' w' ⟨⟨UG,σ',by rw[h1,hd],h2,?_,λ j hj hl=>?_⟩,λ c hc=>getD_set_true (hcL c hc)⟩
 .have:(fs UG).n=(fs s1).n+r.1.k:=by rw[h1];rfl
  simp only[fs] at this;omega
 .have XH:i≠j:=λ e=>by
   subst e;rw[Array.getD_eq_getD_getElem?] at hl;simp[SB,Jz] at hl
  rw[h3 (N+j) yA yA];exact Uf j hj (by rwa [getD_set_ne false XH] at hl)
def XV (P:Program)(W:List u5)(o:Oper)(s:St)(v:CV):Prop:=∀ (C:Cx) (U:Nat->Option OB) (s1:St) (a:Act) (w:World),(∀ x∈o.op.operands,ev s1 x=ev s x)->yK W (assoc s1.heap)->aQ C U s1 a w->∃ z,(execOp a.eval o).run P w=.ok (.value z) w/\VR w (FB C U s1.heap) U v z
theorem Kn.quiet {N:Nat}{W:List u5}{i:Nat}{o:Oper}{sm:St}{v:CV}(q1:ops[i]? = some o)(q2:bj C.nt o.dst=true)(hg:ca ops sm o=some true)(hx:XV P W o sm v):Kn P C ops N W (jy v) i (fs sm):=by
 refine⟨o,q1,λ _=>⟨rfl,rfl,rfl,rfl⟩,λ _=>rfl,(λ _ _ _ h=>by cases h),?_⟩;intro cl Q' listed x a w K SB Jz U9 ⟨⟨s1,σ1,e1,TU,hle,Uf⟩,hcL⟩ hw UF hK;subst e1;rw[show BL ops (jy v) i=⟨o.looksAt ops,[],false,none⟩ by simp only[BL,q1,jy]] at UF;have VV:=q8 (ops:=ops) (s:=sm) (s':=s1) UF.1;rw[hg] at VV;obtain⟨z,hz,hv⟩:=hx C σ1 s1 a w (Bf UF.1) hw TU;unfold wpOp;simp only[q1];rw[if_pos (eW (ops:=ops) ⟨σ1,TU⟩ VV)];refine .inl ?_;unfold Oper.wp;rw[hz];refine hK _ _ ⟨⟨s1.put o.dst v,σ1,?_,k9 q2 TU hv,?_,xV SB Jz Uf⟩,λ c hc=>getD_set_true (hcL c hc)⟩
 .rw[show dE ops i=o.dst by simp[dE,q1]];exact pz _ _ _
 .cases o.dst<;>exact hle
theorem G8 {o:Oper}{c:Call}{g:FuncId}{cs:List CV}{sc s1:St}{U:Nat->Option OB}{a:Act}{w:World}(hc:cz o=some c)(SP:bK sc c=some (g,cs))(hg:ca ops sc o=some true)(hE:ka P g)
  (Vc:∀ t∈o.looksAt ops,assoc s1.env t=assoc sc.env t) (hr:aQ C U s1 a w):Region.wanted o (yielded ops a.tmps)=true/\ql P C s1 o g cs:=by
 have SG:=iy hc;have To:=Bf Vc;have VV:=q8 (ops:=ops) Vc;rw[hg] at VV;have Z7:jF [] s1 c=some (g,cs):=by
  rw[vA (λ x hx=>To x (by rw[SG];exact hx)),IG SP]
 exact⟨eW (ops:=ops) ⟨U,hr⟩ VV,ql.to zD SG Z7 hE⟩
def OE (P:Program)(av:List (Nat×TI))(ops:Array Oper)(nt N i:Nat)(o:Oper)(sc:St)(ks:List Nat)(nb:Bool)(OUT:Er->St->Prop):Prop:=
 aF P av->∀ (C:Cx) (cl:List Nat) (Q':Exit->Act->World->Prop) (listed:Array Bool) (x:FS) (a:Act) (w:World) (K:Act->World->Prop),C.nt=nt->listed.size=ops.size->i<ops.size->Rr C N ops cl listed x a w->eP ⟨o.looksAt ops,ks,nb,none⟩ x (fs sc) ->
  (∀ e s' a' w',OUT e s'->Rr C N ops cl (listed.setIfInBounds i true) (ap (dE ops i) e.1 x) a' w'->K a' w')->wpOp P ops Q' i K a w
def PB (P:Program)(av:List (Nat×TI))(mt:jh)(call:gD)(pc:FuncId->List CV->Option CV)(q:Bool)(W:List u5)(nt:Nat)(ops:Array Oper)(N:Nat)(dyn:List (Nat×Nat))(K:St->Prop):List Nat->(Nat->Er)->St->Prop
 | [],_,s=>K s
 | i::r,res,s=>∃ o,ops[i]? = some o/\bj nt o.dst=true/\
   ((∃ x,x7 av mt ops call pc N (N+ops.size) (N+i) s o=some x/\vQ W dyn res i x/\PB P av mt call pc q W nt ops N dyn K r (note dyn res i x) (Sr o.dst x.1 s))\/
    (ca ops s o=some true/\∃ v,XV P W o s v/\PB P av mt call pc q W nt ops N dyn K r (note dyn res i (jy v)) (s.put o.dst v))\/
    (∃ ks nb OUT,q=true/\(cz o).isSome=true/\OE P av ops nt N i o s ks nb OUT/\
     (∀ p∈dyn,p.2=i->(∀ q∈(res p.1).1.w,q.1∉ks)/\(nb=true->(res p.1).1.k=0))/\
     ∀ e s',OUT e s'->fs s'=ap o.dst e.1 (fs s)/\vQ W dyn res i e/\PB P av mt call pc q W nt ops N dyn K r (note dyn res i e) s'))
abbrev RX (P:Program)(av:List (Nat×TI))(W:List u5)(nt:Nat)(ops:Array Oper)(N:Nat)(dyn:List (Nat×Nat))(K:St->Prop):=PB P av [] Gq Gp true W nt ops N dyn K
theorem OE.pure {nt N i:Nat}{o:Oper}{c:Call}{g:FuncId}{cs:List CV}{sc:St}{G:CV->Prop}(hi:ops[i]? = some o)(hd:bj nt o.dst=true)(hc:cz o=some c)(SP:bK sc c=some (g,cs))(hg:ca ops sc o=some true)(SJ:trees cs=true)(hP:oH P g cs G) :
  OE P av ops nt N i o sc [] false λ e s'=>∃ v,G v/\e=jy v/\s'=sc.put o.dst v:=by
 rintro _ C cl Q' listed x a w K rfl SB Jz ⟨⟨s1,σ1,e1,TU,hle,Uf⟩,SA⟩ UF hK;subst e1;obtain⟨hw,YH⟩:=G8 hc SP hg hP.1 UF.1 TU;unfold wpOp;simp only[hi];rw[if_pos hw];refine .inl (Ch YH SJ hP TU _ _ λ v v1 w' hG S0 hv=>?_);refine hK (jy v) _ _ _ ⟨v,hG,rfl,rfl⟩ ⟨⟨s1.put o.dst v,σ1,?_,k9 hd S0 hv,?_,xV SB Jz Uf⟩,λ c hc=>getD_set_true (SA c hc)⟩
 .rw[show dE ops i=o.dst by simp[dE,hi]];exact pz _ _ _
 .cases o.dst<;>exact hle
theorem vl {G G':List (Nat×Ob)}:∀ (ks:List Nat),(∀ o∈ks,assoc G o=assoc G' o)->eZ G ks=eZ G' ks
 | [],_=>rfl
 | k::ks,h=>by
  simp only[eZ];rw[h k mem_cons_self,vl ks λ o ho=>h o (mem_cons_of_mem _ ho)]
theorem vE {G H H':List (Nat×Ob)}{ks eT:List Nat}(hp:eZ G ks=some H)(k3:∀ p,p∉eT->assoc H' p=assoc H p)(k4:∀ p∈eT,p∈ks\/(assoc H' p).isSome=true)(p:Nat) :
  assoc (H'++eA G ks) p=lH (assoc G) (eT.map λ p=>(p,assoc H' p)) p:=by
 rw[iK,fA];have Ve:assoc (eT.map λ p=>(p,assoc H' p)) p=if p∈eT then some (assoc H' p) else none:=by
  clear k3 k4
  induction eT with
  | nil=>simp[assoc]
  | cons q r ih=>
   simp only[map_cons,assoc,mem_cons];by_cases e:q=p
   .simp[e]
   .have e':¬ p=q:=λ h=>e h.symm;simp[e,e',ih]
 unfold lH;rw[Ve];by_cases hc:p∈eT
 .rw[if_pos hc];rcases k4 p hc with h | h
  .rw[if_pos h];cases assoc H' p<;>rfl
  .obtain⟨y,hy⟩:=Option.isSome_iff_exists.1 h;rw[hy]
 .rw[if_neg hc,k3 p hc];obtain⟨i1,i2⟩:=kQ hp;by_cases hk:p∈ks
  .rw[if_pos hk]
   cases h1:assoc G p with
   | none=>
    cases h2:assoc H p with
    | none=>rfl
    | some y=>rw[(i1 p y h2).2] at h1;cases h1
   | some y=>rw[i2 p y hk h1]
  .rw[if_neg hk]
   cases h2:assoc H p with
   | none=>rfl
   | some y=>exact (hk (i1 p y h2).1).elim
theorem OE.body {nt N i:Nat}{o:Oper}{c:Call}{g:FuncId}{cs:List CV}{sc:St}{ks eT:List Nat}{d:Nat}{H:List (Nat×Ob)}{R:CV->St->Prop}(hi:ops[i]? = some o)(hd:bj nt o.dst=true)(hc:cz o=some c)(SP:bK sc c=some (g,cs))(hg:ca ops sc o=some true)
  (hp:eZ sc.heap ks=some H) (hB:Body P av g cs H sc.nx R) (hRR:∀ v s1,R v s1->s1.nx=sc.nx+d/\(∀ p ob,assoc s1.heap p=some ob->p∈ks\/sc.nx<=p)/\(∀ p,p∉eT->assoc s1.heap p=assoc H p)/\∀ p∈eT,p∈ks\/(assoc s1.heap p).isSome=true) :
  OE P av ops nt N i o sc ks true λ e s'=>∃ v s1,R v s1/\e=jg v ks eT d s1.heap/\s'=St.put ⟨sc.env,s1.heap++eA sc.heap ks,sc.nx+d⟩ o.dst v:=by
 rintro ht C cl Q' listed x a w K rfl SB Jz ⟨⟨s1,σ1,e1,TU,hle,Uf⟩,SA⟩ UF hK;subst e1;have hE:ka P g:=by
  obtain⟨fn,code,hf,T5,Tu,_⟩:=hB;exact⟨fn,hf,Tu,by simp[T5]⟩
 obtain⟨hw,YH⟩:=G8 hc SP hg hE UF.1 TU;have T6:s1.nx=sc.nx:=UF.2.2.1 rfl;have ZX:eZ s1.heap ks=some H:=by rw[vl ks λ p hp=>UF.2.1 p hp];exact hp
 rw[<- T6] at hB;unfold wpOp;simp only[hi];rw[if_pos hw];refine .inl (s8 ht (pM.of ZX) YH hB (λ v s2 h p y z h1 h2=>?_) TU _ _ λ v s2 v1 w' σ' h S0 hv hold=>?_)
 .rw[fA] at h2;split at h2
  .cases h2
  .rename_i hnk;rcases (hRR v s2 h).2.1 p y h1 with hm | hm
   .exact hnk hm
   .obtain⟨B,m1,_⟩:=TU.obj p z h2;rw[TU.nx p yA] at m1;cases m1
 .obtain⟨k1,k2,k3,k4⟩:=hRR v s2 h;refine hK (jg v ks eT d s2.heap) _ _ _ ⟨v,s2,h,rfl,rfl⟩ ⟨⟨qu ⟨s1.env,s2.heap++eA s1.heap ks,s2.nx⟩ o.dst (some v),σ',?_,k9 hd S0 hv,?_,xV SB Jz λ j hj hl=>by rw[hold (N+j) yA];exact Uf j hj hl⟩,λ c hc=>getD_set_true (SA c hc)⟩
  .rw[show dE ops i=o.dst by simp[dE,hi]];exact iC (s:=s1) (k:=d) (vE ZX k3 k4) (by rw[k1,T6])
  .have:s2.nx=s1.nx+d:=by rw[k1,T6]
   cases o.dst<;>simp only[qu,St.put,this]<;>exact Nat.le_trans hle (Nat.le_add_right _ _)
theorem OE.fs {sc:St}{ks eT:List Nat}{d:Nat}{H H1:List (Nat×Ob)}{o:Oper}{v:CV}(hp:eZ sc.heap ks=some H)(k3:∀ p,p∉eT->assoc H1 p=assoc H p)(k4:∀ p∈eT,p∈ks\/(assoc H1 p).isSome=true):fs (St.put ⟨sc.env,H1++eA sc.heap ks,sc.nx+d⟩ o.dst v)=ap o.dst (jg v ks eT d H1).1 (fs sc):=
 iC (s:=sc) (k:=d) (r:=some v) (vE hp k3 k4) rfl
end
end Go.Can
