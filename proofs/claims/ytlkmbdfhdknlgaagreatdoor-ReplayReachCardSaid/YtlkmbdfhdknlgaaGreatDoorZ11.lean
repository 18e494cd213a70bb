/- **A region that draws, walked in one order, calls by their c -/
import Derived.Test.YtlkmbdfhdknlgaaGreatDoorZ10
namespace Go.Can
section
variable {P:Program}{ops:Array Oper}
theorem xx {dst:Nat→Option Tmp}{E E':Nat→Ef}{L:Nat→Bool}:∀ (l:List Nat) (x:FS),(∀ i∈l,E i=E' i)→bU dst E L l x=bU dst E' L l x
 | [],_,_=>rfl
 | i::r,x,h=>by
  simp only[bU];rw[h i List.mem_cons_self];exact xx r _ fun j hj=>h j (List.mem_cons_of_mem _ hj)
theorem G4 {b:Bool}(h:b≠false):b=true:=by cases b<;>simp_all
theorem Dq {b:Bool}(h:b≠true):b=false:=by cases b<;>simp_all
theorem Ez {pre r:List Nat}{k:Nat}{dst:Nat→Option Tmp}{E:Nat→Ef}{V:Nat→Vw}{Vk:Vw}{OUT:Ef→Prop}{x0:FS}{R:Array Bool→FS→Act→World→Prop}{Q':Exit→Act→World→Prop}
  (hn:(pre++k::r).Nodup) (RC:∀ j,j<ops.size→j∈pre++k::r) (Oa:∀ i∈pre++k::r,i<ops.size)
  (VQ:∀ p i q,pre++k::r=p++i::q→∀ oi,ops[i]? = some oi→∀ e∈oi.after,Region.binds .any e=true→e.on∈p)
  (Uu:∀ p i q,pre=p++i::q→∀ j∈q,BG ops j i∨FJ (dst i) (dst j) (E i) (E j) (V i) (V j))
  (RT:∀ j∈r,BG ops j k)
  (hk:∀ i∈pre,BG ops k i∨∀ z,dV Vk (ap (dst i) (E i) z) z)
  (dt:∀ p i q,pre=p++i::q→∀ (listed:Array Bool) (x:FS) (a:Act) (w:World) (K:Act→World→Prop),listed.size=ops.size→listed.getD i false=false→R listed x a w→dV (V i) x (bU dst E (fun _=>true) p x0) →
   (∀ a' w',R (listed.setIfInBounds i true) (ap (dst i) (E i) x) a' w'→K a' w')→wpOp P ops Q' i K a w)
  (ZE:∀ (listed:Array Bool) (x:FS) (a:Act) (w:World) (K:Act→World→Prop),listed.size=ops.size→listed.getD k false=false→R listed x a w→dV Vk x (bU dst E (fun _=>true) pre x0) →
   (∀ Ek a' w',OUT Ek→R (listed.setIfInBounds k true) (ap (dst k) Ek x) a' w'→K a' w')→wpOp P ops Q' k K a w)
  (Uo:∀ Ek,OUT Ek→∀ (m:Nat) (listed:Array Bool) (a:Act) (w:World),listed.size=ops.size→ss ops listed→listed.getD k false=true→(∀ j∈r,listed.getD j false=false)→((pre++k::r).countP fun j=>!listed.getD j false)=m →
   R listed (ap (dst k) Ek (bU dst E (fun j=>listed.getD j false) pre x0)) a w→wpAny P .any ops Q' m listed a w) :
  ∀ (m:Nat) (listed:Array Bool) (a:Act) (w:World),listed.size=ops.size→ss ops listed→listed.getD k false=false→((pre++k::r).countP fun j=>!listed.getD j false)=m→R listed (bU dst E (fun j=>listed.getD j false) pre x0) a w→wpAny P .any ops Q' m listed a w:=by
 intro m
 induction m with
 | zero=>
  intro listed a w Oh Og Ot hc hR;have:=List.countP_eq_zero.1 hc k N3;simp[Ot] at this
 | succ m ih=>
  intro listed a w Oh Og Ot hc hR;refine⟨fun h0=>?_,fun i hi=>?_⟩
  ·exfalso;have:∀ (l p:List Nat),pre++k::r=p++l→(∀ j∈p,listed.getD j false=true)→(∃ i∈l,listed.getD i false=false)→False:=by
    intro l
    induction l with
    | nil=>rintro p _ _ ⟨i,hi,_⟩;cases hi
    | cons j q ihl=>
     intro p ho hp hx
     cases hj:listed.getD j false with
     | true=>
      refine ihl (p++[j]) (by simp[ho]) ?_ ?_
      ·intro t ht;rcases List.mem_append.1 ht with ht | ht
       ·exact hp t ht
       ·have:t=j:=by simpa using ht
        subst this;exact hj
      ·obtain⟨i,hi,hu⟩:=hx;rcases List.mem_cons.1 hi with e | hi
       ·subst e;rw[hj] at hu;cases hu
       ·exact⟨i,hi,hu⟩
     | false=>
      have OD:=Oa j (by rw[ho];simp);have Om:ops[j]? = some ops[j]:=by simp[OD]
      have:j∈Region.ready .any ops listed:=by
       refine mem_ready.2 ⟨oT (by rw[Oh];exact OD) hj,_,Om,fun e he hb=>?_⟩;exact hp _ (VQ p j q ho _ Om e he hb)
      rw[h0] at this;cases this
   exact this _ [] rfl N3 ⟨k,by simp,Ot⟩
  ·have QH:listed.getD i false=false:=getD_both (mem_ready.1 hi).1;obtain⟨_,oi,SY,PV⟩:=mem_ready.1 hi;have S7:=RC i (Array.getElem?_eq_some_iff.1 SY).1;have N6:i<listed.size:=by rw[Oh];exact Oa i S7
   have RE:ss ops (listed.setIfInBounds i true):=by
    intro j oj hj hl e he hb;by_cases Tr:i=j
    ·subst Tr;have:oj=oi:=Option.some.inj (hj.symm.trans SY);subst this;exact getD_set_true (PV e he hb)
    ·rw[getD_set_ne false Tr] at hl;exact getD_set_true (Og j oj hj hl e he hb)
   have ZC:((pre++k::r).countP fun j=>!(listed.setIfInBounds i true).getD j false)=m:=by
    have:=count_set (pre++k::r) i listed hn S7 N6 QH;omega
   have QE:=hn;rw[List.nodup_append,List.nodup_cons] at QE;rcases List.mem_append.1 S7 with hip | hip
   ·have VW:i≠k:=fun e=>QE.2.2 i hip k N3 e;obtain⟨p,q,OT⟩:=List.append_of_mem hip;have TF:=QE.1;rw[OT,List.nodup_append,List.nodup_cons] at TF;have RZ:∀ t∈q,listed.getD t false=true→FJ (dst i) (dst t) (E i) (E t) (V i) (V t):=fun t ht hl=>by
     rcases Uu p i q OT t ht with h | h
     ·have:=h listed Og fun ok Om e he hb=>Og t ok Om hl e he hb;rw[QH] at this;cases this
     ·exact h
    have Wx:∀ t∈p,listed.getD t false=false→FJ (dst t) (dst i) (E t) (E i) (V t) (V i):=fun t ht hl=>by
     obtain⟨p1,p2,hp⟩:=List.append_of_mem ht;have WC:pre=p1++t::(p2++i::q):=by rw[OT,hp];simp
     rcases Uu p1 t _ WC i N3 with h | h
     ·have:=h listed Og fun ok Om e he hb=>by
       rw[SY] at Om;cases Om;exact PV e he hb
      rw[hl] at this;cases this
     ·exact h
    have QI:bU dst E (fun j=>listed.getD j false) pre x0=bU dst E (fun j=>listed.getD j false) q (bU dst E (fun j=>listed.getD j false) p x0):=by
     rw[OT,dN];simp only[bU,QH,Bool.false_eq_true,if_false]
    refine dt p i q OT listed _ a w _ Oh QH hR ?_ fun a' w' ZQ=>?_
    ·rw[QI];have e1:dV (V i) (bU dst E (fun j=>listed.getD j false) q (bU dst E (fun j=>listed.getD j false) p x0)) (bU dst E (fun j=>listed.getD j false) p x0):=by
      have:=gI (V:=V i) (dst:=dst) (E:=E) (L:=fun j=>listed.getD j false) (L':=fun _=>false) q _ _ (fun t ht Ok z=>by
       have hl:listed.getD t false=true:=G4 Ok;have h:=RZ t ht hl;exact nK h.s2 h.h2 h.n2 h.a2 z) (dV.refl (V i) (bU dst E (fun j=>listed.getD j false) p x0))
      rwa [pE] at this
     refine e1.trans (gI p _ _ (fun t ht Ok z=>?_) (dV.refl _ _));have hl:listed.getD t false=false:=Dq Ok;have h:=Wx t ht hl;exact nK h.s1 h.h1 h.n1 h.a1 z
    ·refine ih _ a' w' (by simpa using Oh) RE (by rw[getD_set_ne false VW];exact Ot) ZC ?_;have P5:(listed.setIfInBounds i true).getD i false=true:=by simp[N6]
     have key:bU dst E (fun j=>(listed.setIfInBounds i true).getD j false) pre x0=ap (dst i) (E i) (bU dst E (fun j=>listed.getD j false) pre x0):=by
      rw[QI,OT,dN];simp only[bU,P5,if_true];rw[fC p x0 (L':=fun j=>listed.getD j false) fun t ht=>getD_set_ne false (fun e=>by subst e;exact TF.2.2 i ht i N3 rfl)];rw[fC q _ (L':=fun j=>listed.getD j false) fun t ht=>getD_set_ne false (fun e=>by subst e;exact TF.2.1.1 ht)];exact mg q _ fun t ht hl z=>Ea (RZ t ht hl) z
     rw[key];exact ZQ
   ·rcases List.mem_cons.1 hip with VW | VV
    ·subst VW;refine ZE listed _ a w _ Oh QH hR ?_ fun Ek a' w' hO ZQ=>?_
     ·refine gI pre _ _ (fun t ht Ok z=>?_) (dV.refl _ _);have hl:listed.getD t false=false:=Dq Ok;rcases hk t ht with h | h
      ·have:=h listed Og fun ok Om e he hb=>by
        rw[SY] at Om;cases Om;exact PV e he hb
       rw[hl] at this;cases this
      ·exact h z
     ·refine Uo Ek hO _ _ a' w' (by simpa using Oh) RE (by simp[N6]) (fun j hj=>?_) ZC ?_
      ·rw[getD_set_ne false fun e=>by subst e;exact QE.2.1.1 hj]
       cases hj':listed.getD j false with
       | false=>rfl
       | true=>
        have:=RT j hj listed Og fun oj hoj e he hb=>Og j oj hoj hj' e he hb;rw[QH] at this;cases this
      ·rw[fC pre x0 (L':=fun j=>listed.getD j false) fun t ht=>getD_set_ne false fun e=>by subst e;exact QE.2.2 i ht i N3 rfl];exact ZQ
    ·have:=RT i VV listed Og fun ok Om e he hb=>by
      rw[SY] at Om;cases Om;exact PV e he hb
     rw[Ot] at this;cases this
end
def BQ (res:Nat→Er)(i:Nat)(x:Er):Nat→Er:=fun j=>if j=i then x else res j
def chk (dyn:List (Nat×Nat))(res:Nat→Er)(i:Nat)(x:Er):Bool:=dyn.all fun p=>p.2 != i || vb (res p.1) x
def Bh (dyn:List (Nat×Nat))(res:Nat→Er)(i:Nat)(ks:List Nat):Bool:=dyn.all fun p=>p.2 != i || (((res p.1).1.w.all fun q=>!ks.contains q.1) && (res p.1).1.k == 0)
def note (dyn:List (Nat×Nat))(res:Nat→Er)(i:Nat)(x:Er):Nat→Er:=if dyn.any (fun p=>p.1 == i) then BQ res i x else res
def pP (v:CV)(ks dw:List Nat)(H':List (Nat×Ob)):Er:=(⟨some v,dw.map fun p=>(p,assoc H' p),0⟩,ks,true,none)
def jh (v:CV)(ks dw:List Nat)(d:Nat)(H':List (Nat×Ob)):Er:=(⟨some v,dw.map fun p=>(p,assoc H' p),d⟩,ks,true,none)
def iz (v:CV):Er:=(⟨some v,[],0⟩,[],false,none)
abbrev rh:=Nat×Nat×List CV
def zo (c:rh)(ob:Option Ob):Prop:=∃ x,ob=some x∧(x.cells.drop c.2.1).take c.2.2.length=c.2.2
def MP (W:List rh)(w:List (Nat×Option Ob)):Prop:=∀ c∈W,∀ q∈w,q.1=c.1→zo c q.2
theorem Ed (w:List (Nat×Option Ob)):MP [] w:=fun _ h=>by cases h
def vN (W:List rh)(h:Nat→Option Ob):Prop:=∀ c∈W,zo c (h c.1)
theorem xS {W:List rh}{d:Option Tmp}{E:Ef}{x:FS}(h:vN W x.h)(hw:MP W E.w):vN W (ap d E x).h:=fun c hc=>by
 show zo c (ka x.h E.w c.1);unfold ka;split
 ·rename_i y hy;exact hw c hc _ (bG _ _ _ hy) rfl
 ·exact h c hc
def vu (W:List rh)(dyn:List (Nat×Nat))(res:Nat→Er)(i:Nat)(x:Er):Prop:=chk dyn res i x=true∧MP W x.1.w
def Dn:fL:=fun _ _ _ _=>none
def Dm:FuncId→List CV→Option CV:=fun _ _=>none
section
variable {P:Program}{C:Cx}{s:St}{ops:Array Oper}{av:List (Nat×TI)}{mt:hZ}{call:fL}{pc:FuncId→List CV→Option CV}
theorem jK (res:Nat→Er)(i:Nat)(x:Er):BQ res i x i=x:=if_pos rfl
theorem BP (res:Nat→Er){i j:Nat}(x:Er)(h:j≠i):BQ res i x j=res j:=if_neg h
def zl (ops:Array Oper)(x:Er)(i:Nat):Vw:=⟨(match ops[i]? with | some o=>o.looksAt ops | none=>[]),x.2.1,x.2.2.1,x.2.2.2⟩
theorem xv (x:Er)(v:CV):vb x (iz v)=true:=by
 simp[vb,iz,oc,uG]
def IK (x:Er):Prop:=x.1.w=[]∧x.1.k=0∧x.2.2.1=false∧x.2.2.2=none
def Rr (C:Cx)(N:Nat)(ops:Array Oper)(cl:List Nat)(listed:Array Bool)(x:FS)(a:Act)(w:World):Prop:=
 (∃ s σ,fs s=x∧aK C σ s a w∧N+ops.size≤s.nx∧∀ j,j<ops.size→listed.getD j false=false→σ (N+j)=none)∧∀ c∈cl,listed.getD c false=true
def Kn (P:Program)(C:Cx)(ops:Array Oper)(N:Nat)(W:List rh)(r:Er)(i:Nat)(f:FS):Prop:=∃ o,ops[i]? = some o∧(iW o=false→IK r)∧(oX o=true→r.2.1=[])∧MP W r.1.w∧
 ∀ (cl:List Nat) (Q':Exit→Act→World→Prop) (listed:Array Bool) (x:FS) (a:Act) (w:World) (K:Act→World→Prop),listed.size=ops.size→i<ops.size→listed.getD i false=false→Rr C N ops cl listed x a w→vN W x.h→dV (zl ops r i) x f →
  (∀ a' w',Rr C N ops cl (listed.setIfInBounds i true) (ap (dd ops i) r.1 x) a' w'→K a' w')→wpOp P ops Q' i K a w
theorem Js {dyn:List (Nat×Nat)}{N:Nat}{W:List rh}{r x:Er}{i j:Nat}{oj:Oper}{f:FS}(hp:xd ops dyn i j=true)(hi:Kn P C ops N W r i f)(hoj:ops[j]? = some oj)
  (hq:iW oj=false→IK x) (hs:oX oj=true→x.2.1=[]) (hd:(i,j)∈dyn→vb r x=true) :
  FJ (dd ops i) (dd ops j) r.1 x.1 (zl ops r i) ⟨oj.looksAt ops,x.2.1,x.2.2.1,x.2.2.2⟩:=by
 obtain⟨oi,q1,q2,q3,_⟩:=hi;unfold xd at hp;rw[q1,hoj] at hp;simp only[Bool.or_eq_true,Bool.and_eq_true] at hp;obtain⟨RN,hp⟩:=hp;obtain⟨a1,a2,a3⟩:=Oper.apart_spec RN;have hV:zl ops r i=⟨oi.looksAt ops,r.2.1,r.2.2.1,r.2.2.2⟩:=by simp only[zl,q1]
 rw[hV,show dd ops i=oi.dst by simp[dd,q1],show dd ops j=oj.dst by simp[dd,hoj]];have hb:vb r x=true:=by
  rcases hp with ((hp | hp) | hp) | hp
  ·exact hd (by simpa using hp)
  ·simp only[Bool.not_eq_true'] at hp;obtain⟨u1,u2,u3,u4⟩:=q2 hp.1;obtain⟨v1,v2,v3,v4⟩:=hq hp.2;simp[vb,oc,u1,u2,u3,u4,v1,v2,v3,v4]
  ·obtain⟨u1,u2,u3,u4⟩:=q2 yCo;simp[vb,uG,oc,u1,u2,u3,u4,q3 hp]
  ·obtain⟨u1,u2,u3,u4⟩:=hq yCo;simp[vb,uG,oc,u1,u2,u3,u4,hs hp]
 exact Mg hb a1 a3 a2
theorem Fy {o:Oper}{c:Call}(h:cg o=some c):iW o=true:=by
 have Ol:=gD h;unfold cg at h;rw[Ol] at h;unfold iW;rw[Ol];simp only at h ⊢;split at h
 ·cases h
 ·split<;>simp_all
theorem xj:iN P []:=fun x hx=>by cases hx
theorem Fz {c:Call}{x:FuncId×List CV}(h:bB s c=some x):iF [] s c=some x:=by
 unfold iF
 cases hc:c.callee with
 | value f=>exact h
 | _=>simp[bB,hc] at h
theorem vh {σ:Nat→Option OB}{N i:Nat}{listed:Array Bool}(Oh:listed.size=ops.size)(N6:i<ops.size)(PR:∀ j,j<ops.size→listed.getD j false=false→σ (N+j)=none)(j:Nat)(hj:j<ops.size)(hl:(listed.setIfInBounds i true).getD j false=false):σ (N+j)=none:=by
 have Tr:i≠j:=fun e=>by
  subst e;rw[Array.getD_eq_getD_getElem?] at hl;simp[Oh,N6] at hl
 exact PR j hj (by rwa [getD_set_ne false Tr] at hl)
theorem Kn.eff (ht:aF P av)(TG:iN P mt)(Og:gx P av call)(ji:wA P pc){N:Nat}(ZS:C.n0≤N){W:List rh}{r:Er}{i:Nat}{o:Oper}{sm:St}(q1:ops[i]? = some o)(q2:bt C.nt o.dst=true)(q3:vo av mt ops call pc N (N+ops.size) (N+i) sm o=some r)(hW:MP W r.1.w):Kn P C ops N W r i (fs sm):=by
 refine⟨o,q1,EP q3,Gu q3,hW,?_⟩;intro cl Q' listed x a w K Oh N6 QH ⟨⟨s1,σ1,e1,OX,hle,PR⟩,hcL⟩ _ P1 hK;have hd:dd ops i=o.dst:=by simp[dd,q1]
 subst e1;rw[show zl ops r i=⟨o.looksAt ops,r.2.1,r.2.2.1,r.2.2.2⟩ by simp only[zl,q1]] at P1;refine J3 ht TG Og ji (m:=N+i) q3 q2 q1 P1 OX (PR i N6 QH) yA yA K fun a' w' σ' Qu h1 h2 h3=>?_;refine hK a' w' ⟨⟨Qu,σ',by rw[h1,hd],h2,?_,fun j hj hl=>?_⟩,fun c hc=>getD_set_true (hcL c hc)⟩
 ·have:(fs Qu).n=(fs s1).n+r.1.k:=by rw[h1];rfl
  simp only[fs] at this;omega
 ·have Tr:i≠j:=fun e=>by
   subst e;rw[Array.getD_eq_getD_getElem?] at hl;simp[Oh,N6] at hl
  rw[h3 (N+j) yA yA];exact PR j hj (by rwa [getD_set_ne false Tr] at hl)
def XV (P:Program)(W:List rh)(o:Oper)(s:St)(v:CV):Prop:=∀ (C:Cx) (σ:Nat→Option OB) (s1:St) (a:Act) (w:World),(∀ x∈o.op.operands,ev s1 x=ev s x)→vN W (assoc s1.heap)→aK C σ s1 a w→∃ z,(execOp a.eval o).run P w=.ok (.value z) w∧VR w (FB C σ s1.heap) σ v z
theorem Kn.quiet {N:Nat}{W:List rh}{i:Nat}{o:Oper}{sm:St}{v:CV}(q1:ops[i]? = some o)(q2:bt C.nt o.dst=true)(hg:b9 ops sm o=some true)(hx:XV P W o sm v):Kn P C ops N W (iz v) i (fs sm):=by
 refine⟨o,q1,fun _=>⟨rfl,rfl,rfl,rfl⟩,fun _=>rfl,(fun _ _ _ h=>by cases h),?_⟩;intro cl Q' listed x a w K Oh N6 QH ⟨⟨s1,σ1,e1,OX,hle,PR⟩,hcL⟩ hw P1 hK;subst e1;rw[show zl ops (iz v) i=⟨o.looksAt ops,[],false,none⟩ by simp only[zl,q1,iz]] at P1;have Qy:=pB (ops:=ops) (s:=sm) (s':=s1) P1.1;rw[hg] at Qy;obtain⟨z,hz,hv⟩:=hx C σ1 s1 a w (yP P1.1) hw OX;unfold wpOp;simp only[q1];rw[if_pos (eO (ops:=ops) ⟨σ1,OX⟩ Qy)];refine .inl ?_;unfold Oper.wp;rw[hz];refine hK _ _ ⟨⟨s1.put o.dst v,σ1,?_,jQ q2 OX hv,?_,vh Oh N6 PR⟩,fun c hc=>getD_set_true (hcL c hc)⟩
 ·rw[show dd ops i=o.dst by simp[dd,q1]];exact nC _ _ _
 ·cases o.dst<;>exact hle
theorem D4 {o:Oper}{c:Call}{g:FuncId}{cs:List CV}{sc s1:St}{σ:Nat→Option OB}{a:Act}{w:World}(hc:cg o=some c)(OG:bB sc c=some (g,cs))(hg:b9 ops sc o=some true)(hE:lq P g)
  (QJ:∀ t∈o.looksAt ops,assoc s1.env t=assoc sc.env t) (hr:aK C σ s1 a w):Region.wanted o (yielded ops a.tmps)=true∧pf P C s1 o g cs:=by
 have Ol:=gD hc;have RA:=yP QJ;have Qy:=pB (ops:=ops) QJ;rw[hg] at Qy;have PD:iF [] s1 c=some (g,cs):=by
  rw[sM (fun x hx=>RA x (by rw[Ol];exact hx)),Fz OG]
 exact⟨eO (ops:=ops) ⟨σ,hr⟩ Qy,pf.to xj Ol PD hE⟩
def Kr (P:Program)(av:List (Nat×TI))(ops:Array Oper)(nt N i:Nat)(o:Oper)(sc:St)(ks:List Nat)(nb:Bool)(OUT:Er→St→Prop):Prop:=
 aF P av→∀ (C:Cx) (cl:List Nat) (Q':Exit→Act→World→Prop) (listed:Array Bool) (x:FS) (a:Act) (w:World) (K:Act→World→Prop),C.nt=nt→listed.size=ops.size→i<ops.size→Rr C N ops cl listed x a w→dV ⟨o.looksAt ops,ks,nb,none⟩ x (fs sc) →
  (∀ e s' a' w',OUT e s'→Rr C N ops cl (listed.setIfInBounds i true) (ap (dd ops i) e.1 x) a' w'→K a' w')→wpOp P ops Q' i K a w
def K8 (P:Program)(av:List (Nat×TI))(mt:hZ)(call:fL)(pc:FuncId→List CV→Option CV)(q:Bool)(W:List rh)(nt:Nat)(ops:Array Oper)(N:Nat)(dyn:List (Nat×Nat))(K:St→Prop):List Nat→(Nat→Er)→St→Prop
 | [],_,s=>K s
 | i::r,res,s=>∃ o,ops[i]? = some o∧bt nt o.dst=true∧
   ((∃ x,vo av mt ops call pc N (N+ops.size) (N+i) s o=some x∧vu W dyn res i x∧K8 P av mt call pc q W nt ops N dyn K r (note dyn res i x) (N0 o.dst x.1 s))∨
    (b9 ops s o=some true∧∃ v,XV P W o s v∧K8 P av mt call pc q W nt ops N dyn K r (note dyn res i (iz v)) (s.put o.dst v))∨
    (∃ ks nb OUT,q=true∧(cg o).isSome=true∧Kr P av ops nt N i o s ks nb OUT∧
     (∀ p∈dyn,p.2=i→(∀ q∈(res p.1).1.w,q.1∉ks)∧(nb=true→(res p.1).1.k=0))∧
     ∀ e s',OUT e s'→fs s'=ap o.dst e.1 (fs s)∧vu W dyn res i e∧K8 P av mt call pc q W nt ops N dyn K r (note dyn res i e) s'))
abbrev RX (P:Program)(av:List (Nat×TI))(W:List rh)(nt:Nat)(ops:Array Oper)(N:Nat)(dyn:List (Nat×Nat))(K:St→Prop):=K8 P av [] Dn Dm true W nt ops N dyn K
theorem Kr.pure {nt N i:Nat}{o:Oper}{c:Call}{g:FuncId}{cs:List CV}{sc:St}{G:CV→Prop}(hi:ops[i]? = some o)(hd:bt nt o.dst=true)(hc:cg o=some c)(OG:bB sc c=some (g,cs))(hg:b9 ops sc o=some true)(Qh:trees cs=true)(hP:jk P g cs G) :
  Kr P av ops nt N i o sc [] false fun e s'=>∃ v,G v∧e=iz v∧s'=sc.put o.dst v:=by
 rintro _ C cl Q' listed x a w K rfl Oh N6 ⟨⟨s1,σ1,e1,OX,hle,PR⟩,Og⟩ P1 hK;subst e1;obtain⟨hw,WY⟩:=D4 hc OG hg hP.1 P1.1 OX;unfold wpOp;simp only[hi];rw[if_pos hw];refine .inl (zW WY Qh hP OX _ _ fun v v1 w' hG OS hv=>?_);refine hK (iz v) _ _ _ ⟨v,hG,rfl,rfl⟩ ⟨⟨s1.put o.dst v,σ1,?_,jQ hd OS hv,?_,vh Oh N6 PR⟩,fun c hc=>getD_set_true (Og c hc)⟩
 ·rw[show dd ops i=o.dst by simp[dd,hi]];exact nC _ _ _
 ·cases o.dst<;>exact hle
theorem sG {G G':List (Nat×Ob)}:∀ (ks:List Nat),(∀ o∈ks,assoc G o=assoc G' o)→fk G ks=fk G' ks
 | [],_=>rfl
 | k::ks,h=>by
  simp only[fk];rw[h k List.mem_cons_self,sG ks fun o ho=>h o (List.mem_cons_of_mem _ ho)]
theorem sQ {G H H':List (Nat×Ob)}{ks dw:List Nat}(hp:fk G ks=some H)(k3:∀ p,p∉dw→assoc H' p=assoc H p)(k4:∀ p∈dw,p∈ks∨(assoc H' p).isSome=true)(p:Nat) :
  assoc (H'++eB G ks) p=ka (assoc G) (dw.map fun p=>(p,assoc H' p)) p:=by
 rw[gK,fD];have QP:assoc (dw.map fun p=>(p,assoc H' p)) p=if p∈dw then some (assoc H' p) else none:=by
  clear k3 k4
  induction dw with
  | nil=>simp[assoc]
  | cons q r ih=>
   simp only[List.map_cons,assoc,List.mem_cons];by_cases e:q=p
   ·simp[e]
   ·have e':¬ p=q:=fun h=>e h.symm;simp[e,e',ih]
 unfold ka;rw[QP];by_cases hc:p∈dw
 ·rw[if_pos hc];rcases k4 p hc with h | h
  ·rw[if_pos h];cases assoc H' p<;>rfl
  ·obtain⟨y,hy⟩:=Option.isSome_iff_exists.1 h;rw[hy]
 ·rw[if_neg hc,k3 p hc];obtain⟨i1,i2⟩:=lH hp;by_cases hk:p∈ks
  ·rw[if_pos hk]
   cases h1:assoc G p with
   | none=>
    cases h2:assoc H p with
    | none=>rfl
    | some y=>rw[(i1 p y h2).2] at h1;cases h1
   | some y=>rw[i2 p y hk h1]
  ·rw[if_neg hk]
   cases h2:assoc H p with
   | none=>rfl
   | some y=>exact (hk (i1 p y h2).1).elim
theorem Kr.body {nt N i:Nat}{o:Oper}{c:Call}{g:FuncId}{cs:List CV}{sc:St}{ks dw:List Nat}{d:Nat}{H:List (Nat×Ob)}{R:CV→St→Prop}(hi:ops[i]? = some o)(hd:bt nt o.dst=true)(hc:cg o=some c)(OG:bB sc c=some (g,cs))(hg:b9 ops sc o=some true)
  (hp:fk sc.heap ks=some H) (hB:Body P av g cs H sc.nx R) (Tw:∀ v s1,R v s1→s1.nx=sc.nx+d∧(∀ p ob,assoc s1.heap p=some ob→p∈ks∨sc.nx≤p)∧(∀ p,p∉dw→assoc s1.heap p=assoc H p)∧∀ p∈dw,p∈ks∨(assoc s1.heap p).isSome=true) :
  Kr P av ops nt N i o sc ks true fun e s'=>∃ v s1,R v s1∧e=jh v ks dw d s1.heap∧s'=St.put ⟨sc.env,s1.heap++eB sc.heap ks,sc.nx+d⟩ o.dst v:=by
 rintro ht C cl Q' listed x a w K rfl Oh N6 ⟨⟨s1,σ1,e1,OX,hle,PR⟩,Og⟩ P1 hK;subst e1;have hE:lq P g:=by
  obtain⟨fn,code,hf,Qc,Pp,_⟩:=hB;exact⟨fn,hf,Pp,by simp[Qc]⟩
 obtain⟨hw,WY⟩:=D4 hc OG hg hE P1.1 OX;have OV:s1.nx=sc.nx:=P1.2.2.1 rfl;have QM:fk s1.heap ks=some H:=by rw[sG ks fun p hp=>P1.2.1 p hp];exact hp
 rw[← OV] at hB;unfold wpOp;simp only[hi];rw[if_pos hw];refine .inl (ug ht (pe.of QM) WY hB (fun v s2 h p y z h1 h2=>?_) OX _ _ fun v s2 v1 w' σ' h OS hv hold=>?_)
 ·rw[fD] at h2;split at h2
  ·cases h2
  ·rename_i hnk;rcases (Tw v s2 h).2.1 p y h1 with hm | hm
   ·exact hnk hm
   ·obtain⟨B,m1,_⟩:=OX.obj p z h2;rw[OX.nx p yA] at m1;cases m1
 ·obtain⟨k1,k2,k3,k4⟩:=Tw v s2 h;refine hK (jh v ks dw d s2.heap) _ _ _ ⟨v,s2,h,rfl,rfl⟩ ⟨⟨qo ⟨s1.env,s2.heap++eB s1.heap ks,s2.nx⟩ o.dst (some v),σ',?_,jQ hd OS hv,?_,vh Oh N6 fun j hj hl=>by rw[hold (N+j) yA];exact PR j hj hl⟩,fun c hc=>getD_set_true (Og c hc)⟩
  ·rw[show dd ops i=o.dst by simp[dd,hi]];exact gH (s:=s1) (k:=d) (sQ QM k3 k4) (by rw[k1,OV])
  ·have:s2.nx=s1.nx+d:=by rw[k1,OV]
   cases o.dst<;>simp only[qo,St.put,this]<;>exact Nat.le_trans hle (Nat.le_add_right _ _)
theorem Kr.fs {sc:St}{ks dw:List Nat}{d:Nat}{H H1:List (Nat×Ob)}{o:Oper}{v:CV}(hp:fk sc.heap ks=some H)(k3:∀ p,p∉dw→assoc H1 p=assoc H p)(k4:∀ p∈dw,p∈ks∨(assoc H1 p).isSome=true):fs (St.put ⟨sc.env,H1++eB sc.heap ks,sc.nx+d⟩ o.dst v)=ap o.dst (jh v ks dw d H1).1 (fs sc):=
 gH (s:=sc) (k:=d) (r:=some v) (sQ hp k3 k4) rfl
end
end Go.Can
