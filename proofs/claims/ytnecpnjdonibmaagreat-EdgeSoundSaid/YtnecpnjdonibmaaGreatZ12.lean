/- **A region that draws, walked in one order, calls by their c -/
import Derived.Test.YtnecpnjdonibmaaGreatZ11
namespace Go.Can
section
variable {P:Program}{ops:Array Oper}
theorem wC {dst:Nat→Option Tmp}{E E':Nat→Ef}{L:Nat→Bool}:∀ (l:List Nat) (x:FS),(∀ i∈l,E i=E' i)→bR dst E L l x=bR dst E' L l x
 | [],_,_=>rfl
 | i::r,x,h=>by
  simp only[bR];rw[h i List.mem_cons_self];exact wC r _ fun j hj=>h j (List.mem_cons_of_mem _ hj)
theorem G6 {b:Bool}(h:b≠false):b=true:=by cases b<;>simp_all
theorem CZ {b:Bool}(h:b≠true):b=false:=by cases b<;>simp_all
theorem DX {pre r:List Nat}{k:Nat}{dst:Nat→Option Tmp}{E:Nat→Ef}{V:Nat→Vw}{Vk:Vw}{OUT:Ef→Prop}{x0:FS}{R:Array Bool→FS→Act→World→Prop}{Q':Exit→Act→World→Prop}
  (hn:(pre++k::r).Nodup) (SX:∀ j,j<ops.size→j∈pre++k::r) (PQ:∀ i∈pre++k::r,i<ops.size)
  (V5:∀ p i q,pre++k::r=p++i::q→∀ oi,ops[i]? = some oi→∀ e∈oi.after,Region.binds .any e=true→e.on∈p)
  (VE:∀ p i q,pre=p++i::q→∀ j∈q,AV ops j i∨Fm (dst i) (dst j) (E i) (E j) (V i) (V j))
  (Tj:∀ j∈r,AV ops j k)
  (hk:∀ i∈pre,AV ops k i∨∀ z,Agree Vk (ap (dst i) (E i) z) z)
  (cS:∀ p i q,pre=p++i::q→∀ (listed:Array Bool) (x:FS) (a:Act) (w:World) (K:Act→World→Prop),listed.size=ops.size→listed.getD i false=false→R listed x a w→Agree (V i) x (bR dst E (fun _=>true) p x0) →
   (∀ a' w',R (listed.setIfInBounds i true) (ap (dst i) (E i) x) a' w'→K a' w')→wpOp P ops Q' i K a w)
  (hcall:∀ (listed:Array Bool) (x:FS) (a:Act) (w:World) (K:Act→World→Prop),listed.size=ops.size→listed.getD k false=false→R listed x a w→Agree Vk x (bR dst E (fun _=>true) pre x0) →
   (∀ Ek a' w',OUT Ek→R (listed.setIfInBounds k true) (ap (dst k) Ek x) a' w'→K a' w')→wpOp P ops Q' k K a w)
  (ZL:∀ Ek,OUT Ek→∀ (m:Nat) (listed:Array Bool) (a:Act) (w:World),listed.size=ops.size→qD ops listed→listed.getD k false=true→(∀ j∈r,listed.getD j false=false)→((pre++k::r).countP fun j=>!listed.getD j false)=m →
   R listed (ap (dst k) Ek (bR dst E (fun j=>listed.getD j false) pre x0)) a w→wpAny P .any ops Q' m listed a w) :
  ∀ (m:Nat) (listed:Array Bool) (a:Act) (w:World),listed.size=ops.size→qD ops listed→listed.getD k false=false→((pre++k::r).countP fun j=>!listed.getD j false)=m→R listed (bR dst E (fun j=>listed.getD j false) pre x0) a w→wpAny P .any ops Q' m listed a w:=by
 intro m
 induction m with
 | zero=>
  intro listed a w PZ PX Qh hc hR;have:=List.countP_eq_zero.1 hc k zX;simp[Qh] at this
 | succ m ih=>
  intro listed a w PZ PX Qh hc hR;refine⟨fun h0=>?_,fun i hi=>?_⟩
  ·exfalso;have:∀ (l p:List Nat),pre++k::r=p++l→(∀ j∈p,listed.getD j false=true)→(∃ i∈l,listed.getD i false=false)→False:=by
    intro l
    induction l with
    | nil=>rintro p _ _ ⟨i,hi,_⟩;cases hi
    | cons j q ihl=>
     intro p ho hp hx
     cases hj:listed.getD j false with
     | true=>
      refine ihl (p++[j]) (by simp[ho]) ?_ ?_
      ·intro t ht;rcases List.mem_append.1 ht with ht | ht
       ·exact hp t ht
       ·have:t=j:=by simpa using ht
        subst this;exact hj
      ·obtain⟨i,hi,hu⟩:=hx;rcases List.mem_cons.1 hi with e | hi
       ·subst e;rw[hj] at hu;cases hu
       ·exact⟨i,hi,hu⟩
     | false=>
      have P7:=PQ j (by rw[ho];simp);have P9:ops[j]? = some ops[j]:=by simp[P7]
      have:j∈Region.ready .any ops listed:=by
       refine mem_ready.2 ⟨nQ (by rw[PZ];exact P7) hj,_,P9,fun e he hb=>?_⟩;exact hp _ (V5 p j q ho _ P9 e he hb)
      rw[h0] at this;cases this
   exact this _ [] rfl zX ⟨k,by simp,Qh⟩
  ·have Sd:listed.getD i false=false:=getD_both (mem_ready.1 hi).1;obtain⟨_,oi,Uo,Ry⟩:=mem_ready.1 hi;have UI:=SX i (Array.getElem?_eq_some_iff.1 Uo).1;have PJ:i<listed.size:=by rw[PZ];exact PQ i UI
   have SZ:qD ops (listed.setIfInBounds i true):=by
    intro j oj hj hl e he hb;by_cases Tc:i=j
    ·subst Tc;have:oj=oi:=Option.some.inj (hj.symm.trans Uo);subst this;exact getD_set_true (Ry e he hb)
    ·rw[getD_set_ne false Tc] at hl;exact getD_set_true (PX j oj hj hl e he hb)
   have hcnt:((pre++k::r).countP fun j=>!(listed.setIfInBounds i true).getD j false)=m:=by
    have:=count_set (pre++k::r) i listed hn UI PJ Sd;omega
   have SD:=hn;rw[List.nodup_append,List.nodup_cons] at SD;rcases List.mem_append.1 UI with hip | hip
   ·have Wa:i≠k:=fun e=>SD.2.2 i hip k zX e;obtain⟨p,q,Qe⟩:=List.append_of_mem hip;have UU:=SD.1;rw[Qe,List.nodup_append,List.nodup_cons] at UU;have Tt:∀ t∈q,listed.getD t false=true→Fm (dst i) (dst t) (E i) (E t) (V i) (V t):=fun t ht hl=>by
     rcases VE p i q Qe t ht with h | h
     ·have:=h listed PX fun ok P9 e he hb=>PX t ok P9 hl e he hb;rw[Sd] at this;cases this
     ·exact h
    have XL:∀ t∈p,listed.getD t false=false→Fm (dst t) (dst i) (E t) (E i) (V t) (V i):=fun t ht hl=>by
     obtain⟨p1,p2,hp⟩:=List.append_of_mem ht;have XR:pre=p1++t::(p2++i::q):=by rw[Qe,hp];simp
     rcases VE p1 t _ XR i zX with h | h
     ·have:=h listed PX fun ok P9 e he hb=>by
       rw[Uo] at P9;cases P9;exact Ry e he hb
      rw[hl] at this;cases this
     ·exact h
    have Sf:bR dst E (fun j=>listed.getD j false) pre x0=bR dst E (fun j=>listed.getD j false) q (bR dst E (fun j=>listed.getD j false) p x0):=by
     rw[Qe,du];simp only[bR,Sd,Bool.false_eq_true,if_false]
    refine cS p i q Qe listed _ a w _ PZ Sd hR ?_ fun a' w' hR'=>?_
    ·rw[Sf];have e1:Agree (V i) (bR dst E (fun j=>listed.getD j false) q (bR dst E (fun j=>listed.getD j false) p x0)) (bR dst E (fun j=>listed.getD j false) p x0):=by
      have:=gm (V:=V i) (dst:=dst) (E:=E) (L:=fun j=>listed.getD j false) (L':=fun _=>false) q _ _ (fun t ht P3 z=>by
       have hl:listed.getD t false=true:=G6 P3;have h:=Tt t ht hl;exact mK h.s2 h.h2 h.n2 h.a2 z) (Agree.refl (V i) (bR dst E (fun j=>listed.getD j false) p x0))
      rwa [oA] at this
     refine e1.trans (gm p _ _ (fun t ht P3 z=>?_) (Agree.refl _ _));have hl:listed.getD t false=false:=CZ P3;have h:=XL t ht hl;exact mK h.s1 h.h1 h.n1 h.a1 z
    ·refine ih _ a' w' (by simpa using PZ) SZ (by rw[getD_set_ne false Wa];exact Qh) hcnt ?_;have RH:(listed.setIfInBounds i true).getD i false=true:=by simp[PJ]
     have key:bR dst E (fun j=>(listed.setIfInBounds i true).getD j false) pre x0=ap (dst i) (E i) (bR dst E (fun j=>listed.getD j false) pre x0):=by
      rw[Sf,Qe,du];simp only[bR,RH,if_true];rw[eX p x0 (L':=fun j=>listed.getD j false) fun t ht=>getD_set_ne false (fun e=>by subst e;exact UU.2.2 i ht i zX rfl)];rw[eX q _ (L':=fun j=>listed.getD j false) fun t ht=>getD_set_ne false (fun e=>by subst e;exact UU.2.1.1 ht)];exact lA q _ fun t ht hl z=>DG (Tt t ht hl) z
     rw[key];exact hR'
   ·rcases List.mem_cons.1 hip with Wa | ZZ
    ·subst Wa;refine hcall listed _ a w _ PZ Sd hR ?_ fun Ek a' w' hO hR'=>?_
     ·refine gm pre _ _ (fun t ht P3 z=>?_) (Agree.refl _ _);have hl:listed.getD t false=false:=CZ P3;rcases hk t ht with h | h
      ·have:=h listed PX fun ok P9 e he hb=>by
        rw[Uo] at P9;cases P9;exact Ry e he hb
       rw[hl] at this;cases this
      ·exact h z
     ·refine ZL Ek hO _ _ a' w' (by simpa using PZ) SZ (by simp[PJ]) (fun j hj=>?_) hcnt ?_
      ·rw[getD_set_ne false fun e=>by subst e;exact SD.2.1.1 hj]
       cases hj':listed.getD j false with
       | false=>rfl
       | true=>
        have:=Tj j hj listed PX fun oj hoj e he hb=>PX j oj hoj hj' e he hb;rw[Sd] at this;cases this
      ·rw[eX pre x0 (L':=fun j=>listed.getD j false) fun t ht=>getD_set_ne false fun e=>by subst e;exact SD.2.2 i ht i zX rfl];exact hR'
    ·have:=Tj i ZZ listed PX fun ok P9 e he hb=>by
      rw[Uo] at P9;cases P9;exact Ry e he hb
     rw[Qh] at this;cases this
end
def A9 (res:Nat→Er)(i:Nat)(x:Er):Nat→Er:=fun j=>if j=i then x else res j
def chk (dyn:List (Nat×Nat))(res:Nat→Er)(i:Nat)(x:Er):Bool:=dyn.all fun p=>p.2 != i || uk (res p.1) x
def Au (dyn:List (Nat×Nat))(res:Nat→Er)(i:Nat)(ks:List Nat):Bool:=dyn.all fun p=>p.2 != i || (((res p.1).1.w.all fun q=>!ks.contains q.1) && (res p.1).1.k == 0)
def note (dyn:List (Nat×Nat))(res:Nat→Er)(i:Nat)(x:Er):Nat→Er:=if dyn.any (fun p=>p.1 == i) then A9 res i x else res
def oE (v:CV)(ks eP:List Nat)(H':List (Nat×Ob)):Er:=(⟨some v,eP.map fun p=>(p,assoc H' p),0⟩,ks,true,none)
def iZ (v:CV)(ks eP:List Nat)(d:Nat)(H':List (Nat×Ob)):Er:=(⟨some v,eP.map fun p=>(p,assoc H' p),d⟩,ks,true,none)
def hU (v:CV):Er:=(⟨some v,[],0⟩,[],false,none)
abbrev q9:=Nat×Nat×List CV
def yR (c:q9)(ob:Option Ob):Prop:=∃ x,ob=some x∧(x.cells.drop c.2.1).take c.2.2.length=c.2.2
def Nn (W:List q9)(w:List (Nat×Option Ob)):Prop:=∀ c∈W,∀ q∈w,q.1=c.1→yR c q.2
theorem DJ (w:List (Nat×Option Ob)):Nn [] w:=fun _ h=>by cases h
def uZ (W:List q9)(h:Nat→Option Ob):Prop:=∀ c∈W,yR c (h c.1)
theorem xp {W:List q9}{d:Option Tmp}{E:Ef}{x:FS}(h:uZ W x.h)(hw:Nn W E.w):uZ W (ap d E x).h:=fun c hc=>by
 show yR c (jJ x.h E.w c.1);unfold jJ;split
 ·rename_i y hy;exact hw c hc _ (bp _ _ _ hy) rfl
 ·exact h c hc
def uF (W:List q9)(dyn:List (Nat×Nat))(res:Nat→Er)(i:Nat)(x:Er):Prop:=chk dyn res i x=true∧Nn W x.1.w
def CX:fe:=fun _ _ _ _=>none
def CW:FuncId→List CV→Option CV:=fun _ _=>none
section
variable {P:Program}{C:Cx}{s:St}{ops:Array Oper}{au:List (Nat×TI)}{mt:gL}{call:fe}{pc:FuncId→List CV→Option CV}
theorem jv (res:Nat→Er)(i:Nat)(x:Er):A9 res i x i=x:=if_pos rfl
theorem AZ (res:Nat→Er){i j:Nat}(x:Er)(h:j≠i):A9 res i x j=res j:=if_neg h
def yO (ops:Array Oper)(x:Er)(i:Nat):Vw:=⟨(match ops[i]? with | some o=>o.looksAt ops | none=>[]),x.2.1,x.2.2.1,x.2.2.2⟩
theorem wA (x:Er)(v:CV):uk x (hU v)=true:=by
 simp[uk,hU,mY,tu]
def Quiet (x:Er):Prop:=x.1.w=[]∧x.1.k=0∧x.2.2.1=false∧x.2.2.2=none
def Rr (C:Cx)(N:Nat)(ops:Array Oper)(cl:List Nat)(listed:Array Bool)(x:FS)(a:Act)(w:World):Prop:=
 (∃ s σ,fs s=x∧aL C σ s a w∧N+ops.size≤s.nx∧∀ j,j<ops.size→listed.getD j false=false→σ (N+j)=none)∧∀ c∈cl,listed.getD c false=true
def Kn (P:Program)(C:Cx)(ops:Array Oper)(N:Nat)(W:List q9)(r:Er)(i:Nat)(f:FS):Prop:=∃ o,ops[i]? = some o∧(iJ o=false→Quiet r)∧(nU o=true→r.2.1=[])∧Nn W r.1.w∧
 ∀ (cl:List Nat) (Q':Exit→Act→World→Prop) (listed:Array Bool) (x:FS) (a:Act) (w:World) (K:Act→World→Prop),listed.size=ops.size→i<ops.size→listed.getD i false=false→Rr C N ops cl listed x a w→uZ W x.h→Agree (yO ops r i) x f →
  (∀ a' w',Rr C N ops cl (listed.setIfInBounds i true) (ap (cX ops i) r.1 x) a' w'→K a' w')→wpOp P ops Q' i K a w
theorem JD {dyn:List (Nat×Nat)}{N:Nat}{W:List q9}{r x:Er}{i j:Nat}{oj:Oper}{f:FS}(hp:vT ops dyn i j=true)(hi:Kn P C ops N W r i f)(hoj:ops[j]? = some oj)
  (hq:iJ oj=false→Quiet x) (hs:nU oj=true→x.2.1=[]) (hd:(i,j)∈dyn→uk r x=true) :
  Fm (cX ops i) (cX ops j) r.1 x.1 (yO ops r i) ⟨oj.looksAt ops,x.2.1,x.2.2.1,x.2.2.2⟩:=by
 obtain⟨oi,q1,q2,q3,_⟩:=hi;unfold vT at hp;rw[q1,hoj] at hp;simp only[Bool.or_eq_true,Bool.and_eq_true] at hp;obtain⟨RA,hp⟩:=hp;obtain⟨a1,a2,a3⟩:=Oper.apart_spec RA;have hV:yO ops r i=⟨oi.looksAt ops,r.2.1,r.2.2.1,r.2.2.2⟩:=by simp only[yO,q1]
 rw[hV,show cX ops i=oi.dst by simp[cX,q1],show cX ops j=oj.dst by simp[cX,hoj]];have hb:uk r x=true:=by
  rcases hp with ((hp | hp) | hp) | hp
  ·exact hd (by simpa using hp)
  ·simp only[Bool.not_eq_true'] at hp;obtain⟨u1,u2,u3,u4⟩:=q2 hp.1;obtain⟨v1,v2,v3,v4⟩:=hq hp.2;simp[uk,mY,u1,u2,u3,u4,v1,v2,v3,v4]
  ·obtain⟨u1,u2,u3,u4⟩:=q2 yCc;simp[uk,tu,mY,u1,u2,u3,u4,q3 hp]
  ·obtain⟨u1,u2,u3,u4⟩:=hq yCc;simp[uk,tu,mY,u1,u2,u3,u4,hs hp]
 exact MG hb a1 a3 a2
theorem Fa {o:Oper}{c:Call}(h:cc o=some c):iJ o=true:=by
 have P0:=fZ h;unfold cc at h;rw[P0] at h;unfold iJ;rw[P0];simp only at h ⊢;split at h
 ·cases h
 ·split<;>simp_all
theorem vY:iz P []:=fun x hx=>by cases hx
theorem Fb {c:Call}{x:FuncId×List CV}(h:bl s c=some x):ig [] s c=some x:=by
 unfold ig
 cases hc:c.callee with
 | value f=>exact h
 | _=>simp[bl,hc] at h
theorem uw {σ:Nat→Option OB}{N i:Nat}{listed:Array Bool}(PZ:listed.size=ops.size)(PJ:i<ops.size)(Ro:∀ j,j<ops.size→listed.getD j false=false→σ (N+j)=none)(j:Nat)(hj:j<ops.size)(hl:(listed.setIfInBounds i true).getD j false=false):σ (N+j)=none:=by
 have Tc:i≠j:=fun e=>by
  subst e;rw[Array.getD_eq_getD_getElem?] at hl;simp[PZ,PJ] at hl
 exact Ro j hj (by rwa [getD_set_ne false Tc] at hl)
theorem Kn.eff (ht:aB P au)(UW:iz P mt)(PX:fO P au call)(jN:vp P pc){N:Nat}(hN0:C.n0≤N){W:List q9}{r:Er}{i:Nat}{o:Oper}{sm:St}(q1:ops[i]? = some o)(q2:aZ C.nt o.dst=true)(q3:uz au mt ops call pc N (N+ops.size) (N+i) sm o=some r)(hW:Nn W r.1.w):Kn P C ops N W r i (fs sm):=by
 refine⟨o,q1,Ed q3,Gm q3,hW,?_⟩;intro cl Q' listed x a w K PZ PJ Sd ⟨⟨s1,σ1,e1,QG,hle,Ro⟩,hcL⟩ _ Rq hK;have hd:cX ops i=o.dst:=by simp[cX,q1]
 subst e1;rw[show yO ops r i=⟨o.looksAt ops,r.2.1,r.2.2.1,r.2.2.2⟩ by simp only[yO,q1]] at Rq;refine Kc ht UW PX jN (m:=N+i) q3 q2 q1 Rq QG (Ro i PJ Sd) yA yA K fun a' w' σ' R1 h1 h2 h3=>?_;refine hK a' w' ⟨⟨R1,σ',by rw[h1,hd],h2,?_,fun j hj hl=>?_⟩,fun c hc=>getD_set_true (hcL c hc)⟩
 ·have:(fs R1).n=(fs s1).n+r.1.k:=by rw[h1];rfl
  simp only[fs] at this;omega
 ·have Tc:i≠j:=fun e=>by
   subst e;rw[Array.getD_eq_getD_getElem?] at hl;simp[PZ,PJ] at hl
  rw[h3 (N+j) yA yA];exact Ro j hj (by rwa [getD_set_ne false Tc] at hl)
def XV (P:Program)(W:List q9)(o:Oper)(s:St)(v:CV):Prop:=∀ (C:Cx) (σ:Nat→Option OB) (s1:St) (a:Act) (w:World),(∀ x∈o.op.operands,ev s1 x=ev s x)→uZ W (assoc s1.heap)→aL C σ s1 a w→∃ z,(execOp a.eval o).run P w=.ok (.value z) w∧VR w (FB C σ s1.heap) σ v z
theorem Kn.quiet {N:Nat}{W:List q9}{i:Nat}{o:Oper}{sm:St}{v:CV}(q1:ops[i]? = some o)(q2:aZ C.nt o.dst=true)(hg:bN ops sm o=some true)(hx:XV P W o sm v):Kn P C ops N W (hU v) i (fs sm):=by
 refine⟨o,q1,fun _=>⟨rfl,rfl,rfl,rfl⟩,fun _=>rfl,(fun _ _ _ h=>by cases h),?_⟩;intro cl Q' listed x a w K PZ PJ Sd ⟨⟨s1,σ1,e1,QG,hle,Ro⟩,hcL⟩ hw Rq hK;subst e1;rw[show yO ops (hU v) i=⟨o.looksAt ops,[],false,none⟩ by simp only[yO,q1,hU]] at Rq;have SS:=ox (ops:=ops) (s:=sm) (s':=s1) Rq.1;rw[hg] at SS;obtain⟨z,hz,hv⟩:=hx C σ1 s1 a w (yd Rq.1) hw QG;unfold wpOp;simp only[q1];rw[if_pos (dw (ops:=ops) ⟨σ1,QG⟩ SS)];refine .inl ?_;unfold Oper.wp;rw[hz];refine hK _ _ ⟨⟨s1.put o.dst v,σ1,?_,jz q2 QG hv,?_,uw PZ PJ Ro⟩,fun c hc=>getD_set_true (hcL c hc)⟩
 ·rw[show cX ops i=o.dst by simp[cX,q1]];exact mB _ _ _
 ·cases o.dst<;>exact hle
theorem DC {o:Oper}{c:Call}{g:FuncId}{cs:List CV}{sc s1:St}{σ:Nat→Option OB}{a:Act}{w:World}(hc:cc o=some c)(Qb:bl sc c=some (g,cs))(hg:bN ops sc o=some true)(hE:Enters P g)
  (Sg:∀ t∈o.looksAt ops,assoc s1.env t=assoc sc.env t) (hr:aL C σ s1 a w):Region.wanted o (yielded ops a.tmps)=true∧nw P C s1 o g cs:=by
 have P0:=fZ hc;have VI:=yd Sg;have SS:=ox (ops:=ops) Sg;rw[hg] at SS;have hcv:ig [] s1 c=some (g,cs):=by
  rw[qV (fun x hx=>VI x (by rw[P0];exact hx)),Fb Qb]
 exact⟨dw (ops:=ops) ⟨σ,hr⟩ SS,nw.to vY P0 hcv hE⟩
def KF (P:Program)(au:List (Nat×TI))(ops:Array Oper)(nt N i:Nat)(o:Oper)(sc:St)(ks:List Nat)(nb:Bool)(OUT:Er→St→Prop):Prop:=
 aB P au→∀ (C:Cx) (cl:List Nat) (Q':Exit→Act→World→Prop) (listed:Array Bool) (x:FS) (a:Act) (w:World) (K:Act→World→Prop),C.nt=nt→listed.size=ops.size→i<ops.size→Rr C N ops cl listed x a w→Agree ⟨o.looksAt ops,ks,nb,none⟩ x (fs sc) →
  (∀ e s' a' w',OUT e s'→Rr C N ops cl (listed.setIfInBounds i true) (ap (cX ops i) e.1 x) a' w'→K a' w')→wpOp P ops Q' i K a w
def Lq (P:Program)(au:List (Nat×TI))(mt:gL)(call:fe)(pc:FuncId→List CV→Option CV)(q:Bool)(W:List q9)(nt:Nat)(ops:Array Oper)(N:Nat)(dyn:List (Nat×Nat))(K:St→Prop):List Nat→(Nat→Er)→St→Prop
 | [],_,s=>K s
 | i::r,res,s=>∃ o,ops[i]? = some o∧aZ nt o.dst=true∧
   ((∃ x,uz au mt ops call pc N (N+ops.size) (N+i) s o=some x∧uF W dyn res i x∧Lq P au mt call pc q W nt ops N dyn K r (note dyn res i x) (Ox o.dst x.1 s))∨
    (bN ops s o=some true∧∃ v,XV P W o s v∧Lq P au mt call pc q W nt ops N dyn K r (note dyn res i (hU v)) (s.put o.dst v))∨
    (∃ ks nb OUT,q=true∧(cc o).isSome=true∧KF P au ops nt N i o s ks nb OUT∧
     (∀ p∈dyn,p.2=i→(∀ q∈(res p.1).1.w,q.1∉ks)∧(nb=true→(res p.1).1.k=0))∧
     ∀ e s',OUT e s'→fs s'=ap o.dst e.1 (fs s)∧uF W dyn res i e∧Lq P au mt call pc q W nt ops N dyn K r (note dyn res i e) s'))
abbrev RX (P:Program)(au:List (Nat×TI))(W:List q9)(nt:Nat)(ops:Array Oper)(N:Nat)(dyn:List (Nat×Nat))(K:St→Prop):=Lq P au [] CX CW true W nt ops N dyn K
theorem KF.pure {nt N i:Nat}{o:Oper}{c:Call}{g:FuncId}{cs:List CV}{sc:St}{G:CV→Prop}(hi:ops[i]? = some o)(hd:aZ nt o.dst=true)(hc:cc o=some c)(Qb:bl sc c=some (g,cs))(hg:bN ops sc o=some true)(RQ:trees cs=true)(hP:lU P g cs G) :
  KF P au ops nt N i o sc [] false fun e s'=>∃ v,G v∧e=hU v∧s'=sc.put o.dst v:=by
 rintro _ C cl Q' listed x a w K rfl PZ PJ ⟨⟨s1,σ1,e1,QG,hle,Ro⟩,PX⟩ Rq hK;subst e1;obtain⟨hw,VJ⟩:=DC hc Qb hg hP.1 Rq.1 QG;unfold wpOp;simp only[hi];rw[if_pos hw];refine .inl (zi VJ RQ hP QG _ _ fun v v1 w' hG Qo hv=>?_);refine hK (hU v) _ _ _ ⟨v,hG,rfl,rfl⟩ ⟨⟨s1.put o.dst v,σ1,?_,jz hd Qo hv,?_,uw PZ PJ Ro⟩,fun c hc=>getD_set_true (PX c hc)⟩
 ·rw[show cX ops i=o.dst by simp[cX,hi]];exact mB _ _ _
 ·cases o.dst<;>exact hle
theorem qM {G G':List (Nat×Ob)}:∀ (ks:List Nat),(∀ o∈ks,assoc G o=assoc G' o)→dX G ks=dX G' ks
 | [],_=>rfl
 | k::ks,h=>by
  simp only[dX];rw[h k List.mem_cons_self,qM ks fun o ho=>h o (List.mem_cons_of_mem _ ho)]
theorem qZ {G H H':List (Nat×Ob)}{ks eP:List Nat}(hp:dX G ks=some H)(k3:∀ p,p∉eP→assoc H' p=assoc H p)(k4:∀ p∈eP,p∈ks∨(assoc H' p).isSome=true)(p:Nat) :
  assoc (H'++dy G ks) p=jJ (assoc G) (eP.map fun p=>(p,assoc H' p)) p:=by
 rw[gv,ed];have Sk:assoc (eP.map fun p=>(p,assoc H' p)) p=if p∈eP then some (assoc H' p) else none:=by
  clear k3 k4
  induction eP with
  | nil=>simp[assoc]
  | cons q r ih=>
   simp only[List.map_cons,assoc,List.mem_cons];by_cases e:q=p
   ·simp[e]
   ·have e':¬ p=q:=fun h=>e h.symm;simp[e,e',ih]
 unfold jJ;rw[Sk];by_cases hc:p∈eP
 ·rw[if_pos hc];rcases k4 p hc with h | h
  ·rw[if_pos h];cases assoc H' p<;>rfl
  ·obtain⟨y,hy⟩:=Option.isSome_iff_exists.1 h;rw[hy]
 ·rw[if_neg hc,k3 p hc];obtain⟨i1,i2⟩:=kP hp;by_cases hk:p∈ks
  ·rw[if_pos hk]
   cases h1:assoc G p with
   | none=>
    cases h2:assoc H p with
    | none=>rfl
    | some y=>rw[(i1 p y h2).2] at h1;cases h1
   | some y=>rw[i2 p y hk h1]
  ·rw[if_neg hk]
   cases h2:assoc H p with
   | none=>rfl
   | some y=>exact (hk (i1 p y h2).1).elim
theorem KF.body {nt N i:Nat}{o:Oper}{c:Call}{g:FuncId}{cs:List CV}{sc:St}{ks eP:List Nat}{d:Nat}{H:List (Nat×Ob)}{R:CV→St→Prop}(hi:ops[i]? = some o)(hd:aZ nt o.dst=true)(hc:cc o=some c)(Qb:bl sc c=some (g,cs))(hg:bN ops sc o=some true)
  (hp:dX sc.heap ks=some H) (hB:Body P au g cs H sc.nx R) (YM:∀ v s1,R v s1→s1.nx=sc.nx+d∧(∀ p ob,assoc s1.heap p=some ob→p∈ks∨sc.nx≤p)∧(∀ p,p∉eP→assoc s1.heap p=assoc H p)∧∀ p∈eP,p∈ks∨(assoc s1.heap p).isSome=true) :
  KF P au ops nt N i o sc ks true fun e s'=>∃ v s1,R v s1∧e=iZ v ks eP d s1.heap∧s'=St.put ⟨sc.env,s1.heap++dy sc.heap ks,sc.nx+d⟩ o.dst v:=by
 rintro ht C cl Q' listed x a w K rfl PZ PJ ⟨⟨s1,σ1,e1,QG,hle,Ro⟩,PX⟩ Rq hK;subst e1;have hE:Enters P g:=by
  obtain⟨fn,code,hf,Q9,QH,_⟩:=hB;exact⟨fn,hf,QH,by simp[Q9]⟩
 obtain⟨hw,VJ⟩:=DC hc Qb hg hE Rq.1 QG;have Q2:s1.nx=sc.nx:=Rq.2.2.1 rfl;have V7:dX s1.heap ks=some H:=by rw[qM ks fun p hp=>Rq.2.1 p hp];exact hp
 rw[← Q2] at hB;unfold wpOp;simp only[hi];rw[if_pos hw];refine .inl (pF ht (mL.of V7) VJ hB (fun v s2 h p y z h1 h2=>?_) QG _ _ fun v s2 v1 w' σ' h Qo hv hold=>?_)
 ·rw[ed] at h2;split at h2
  ·cases h2
  ·rename_i hnk;rcases (YM v s2 h).2.1 p y h1 with hm | hm
   ·exact hnk hm
   ·obtain⟨B,m1,_⟩:=QG.obj p z h2;rw[QG.nx p yA] at m1;cases m1
 ·obtain⟨k1,k2,k3,k4⟩:=YM v s2 h;refine hK (iZ v ks eP d s2.heap) _ _ _ ⟨v,s2,h,rfl,rfl⟩ ⟨⟨oZ ⟨s1.env,s2.heap++dy s1.heap ks,s2.nx⟩ o.dst (some v),σ',?_,jz hd Qo hv,?_,uw PZ PJ fun j hj hl=>by rw[hold (N+j) yA];exact Ro j hj hl⟩,fun c hc=>getD_set_true (PX c hc)⟩
  ·rw[show cX ops i=o.dst by simp[cX,hi]];exact gk (s:=s1) (k:=d) (qZ V7 k3 k4) (by rw[k1,Q2])
  ·have:s2.nx=s1.nx+d:=by rw[k1,Q2]
   cases o.dst<;>simp only[oZ,St.put,this]<;>exact Nat.le_trans hle (Nat.le_add_right _ _)
theorem KF.fs {sc:St}{ks eP:List Nat}{d:Nat}{H H1:List (Nat×Ob)}{o:Oper}{v:CV}(hp:dX sc.heap ks=some H)(k3:∀ p,p∉eP→assoc H1 p=assoc H p)(k4:∀ p∈eP,p∈ks∨(assoc H1 p).isSome=true):fs (St.put ⟨sc.env,H1++dy sc.heap ks,sc.nx+d⟩ o.dst v)=ap o.dst (iZ v ks eP d H1).1 (fs sc):=
 gk (s:=sc) (k:=d) (r:=some v) (qZ hp k3 k4) rfl
end
end Go.Can
