/- **A region that draws, walked in one order, calls by their c -/
import Derived.Test.YtnecpnjdonibmaaGreatZ13
namespace Go.Can
section
variable {P:Program}{ops:Array Oper}
theorem x7 {dst:Nat→Option Tmp}{E E':Nat→Ef}{L:Nat→Bool}:∀ (l:List Nat) (x:FS),(∀ i∈l,E i=E' i)→bS dst E L l x=bS dst E' L l x
 | [],_,_=>rfl
 | i::r,x,h=>by
  simp only[bS];rw[h i List.mem_cons_self];exact x7 r _ fun j hj=>h j (List.mem_cons_of_mem _ hj)
theorem H3 {b:Bool}(h:b≠false):b=true:=by cases b<;>simp_all
theorem D0 {b:Bool}(h:b≠true):b=false:=by cases b<;>simp_all
theorem rM {pre r:List Nat}{k:Nat}{dst:Nat→Option Tmp}{E:Nat→Ef}{V:Nat→Vw}{Vk:Vw}{OUT:Ef→Prop}{x0:FS}{R:Array Bool→FS→Act→World→Prop}{Q':Exit→Act→World→Prop}
  (hn:(pre++k::r).Nodup) (Rb:∀ j,j<ops.size→j∈pre++k::r) (O1:∀ i∈pre++k::r,i<ops.size)
  (Tt:∀ p i q,pre++k::r=p++i::q→∀ oi,ops[i]? = some oi→∀ e∈oi.after,Region.binds .any e=true→e.on∈p)
  (UU:∀ p i q,pre=p++i::q→∀ j∈q,EU ops j i∨Gm (dst i) (dst j) (E i) (E j) (V i) (V j))
  (RU:∀ j∈r,EU ops j k)
  (hk:∀ i∈pre,EU ops k i∨∀ z,dI Vk (ap (dst i) (E i) z) z)
  (bq:∀ p i q,pre=p++i::q→∀ (listed:Array Bool) (x:FS) (a:Act) (w:World) (K:Act→World→Prop),listed.size=ops.size→listed.getD i false=false→R listed x a w→dI (V i) x (bS dst E (fun _=>true) p x0) →
   (∀ a' w',R (listed.setIfInBounds i true) (ap (dst i) (E i) x) a' w'→K a' w')→wpOp P ops Q' i K a w)
  (U5:∀ (listed:Array Bool) (x:FS) (a:Act) (w:World) (K:Act→World→Prop),listed.size=ops.size→listed.getD k false=false→R listed x a w→dI Vk x (bS dst E (fun _=>true) pre x0) →
   (∀ Ek a' w',OUT Ek→R (listed.setIfInBounds k true) (ap (dst k) Ek x) a' w'→K a' w')→wpOp P ops Q' k K a w)
  (Y4:∀ Ek,OUT Ek→∀ (m:Nat) (listed:Array Bool) (a:Act) (w:World),listed.size=ops.size→iS ops listed→listed.getD k false=true→(∀ j∈r,listed.getD j false=false)→((pre++k::r).countP fun j=>!listed.getD j false)=m →
   R listed (ap (dst k) Ek (bS dst E (fun j=>listed.getD j false) pre x0)) a w→wpAny P .any ops Q' m listed a w) :
  ∀ (m:Nat) (listed:Array Bool) (a:Act) (w:World),listed.size=ops.size→iS ops listed→listed.getD k false=false→((pre++k::r).countP fun j=>!listed.getD j false)=m→R listed (bS dst E (fun j=>listed.getD j false) pre x0) a w→wpAny P .any ops Q' m listed a w:=by
 intro m
 induction m with
 | zero=>
  intro listed a w O9 O7 PD hc hR;have:=List.countP_eq_zero.1 hc k OU;simp[PD] at this
 | succ m ih=>
  intro listed a w O9 O7 PD hc hR;refine⟨fun h0=>?_,fun i hi=>?_⟩
  ·exfalso;have:∀ (l p:List Nat),pre++k::r=p++l→(∀ j∈p,listed.getD j false=true)→(∃ i∈l,listed.getD i false=false)→False:=by
    intro l
    induction l with
    | nil=>rintro p _ _ ⟨i,hi,_⟩;cases hi
    | cons j q Yp=>
     intro p ho hp hx
     cases hj:listed.getD j false with
     | true=>
      refine Yp (p++[j]) (by simp[ho]) ?_ ?_
      ·intro t ht;rcases List.mem_append.1 ht with ht | ht
       ·exact hp t ht
       ·have:t=j:=by simpa using ht
        subst this;exact hj
      ·obtain⟨i,hi,hu⟩:=hx;rcases List.mem_cons.1 hi with e | hi
       ·subst e;rw[hj] at hu;cases hu
       ·exact⟨i,hi,hu⟩
     | false=>
      have Pn:=O1 j (by rw[ho];simp);have Pe:ops[j]? = some ops[j]:=by simp[Pn]
      have:j∈Region.ready .any ops listed:=by
       refine mem_ready.2 ⟨iT (by rw[O9];exact Pn) hj,_,Pe,fun e he hb=>?_⟩;exact hp _ (Tt p j q ho _ Pe e he hb)
      rw[h0] at this;cases this
   exact this _ [] rfl OU ⟨k,by simp,PD⟩
  ·have QM:listed.getD i false=false:=getD_both (mem_ready.1 hi).1;obtain⟨_,oi,Qo,PU⟩:=mem_ready.1 hi;have RM:=Rb i (Array.getElem?_eq_some_iff.1 Qo).1;have OX:i<listed.size:=by rw[O9];exact O1 i RM
   have Sf:iS ops (listed.setIfInBounds i true):=by
    intro j oj hj hl e he hb;by_cases Qr:i=j
    ·subst Qr;have:oj=oi:=Option.some.inj (hj.symm.trans Qo);subst this;exact getD_set_true (PU e he hb)
    ·rw[getD_set_ne false Qr] at hl;exact getD_set_true (O7 j oj hj hl e he hb)
   have ZB:((pre++k::r).countP fun j=>!(listed.setIfInBounds i true).getD j false)=m:=by
    have:=count_set (pre++k::r) i listed hn RM OX QM;omega
   have QY:=hn;rw[List.nodup_append,List.nodup_cons] at QY;rcases List.mem_append.1 RM with hip | hip
   ·have Uh:i≠k:=fun e=>QY.2.2 i hip k OU e;obtain⟨p,q,PA⟩:=List.append_of_mem hip;have Ud:=QY.1;rw[PA,List.nodup_append,List.nodup_cons] at Ud;have Re:∀ t∈q,listed.getD t false=true→Gm (dst i) (dst t) (E i) (E t) (V i) (V t):=fun t ht hl=>by
     rcases UU p i q PA t ht with h | h
     ·have:=h listed O7 fun ok Pe e he hb=>O7 t ok Pe hl e he hb;rw[QM] at this;cases this
     ·exact h
    have UH:∀ t∈p,listed.getD t false=false→Gm (dst t) (dst i) (E t) (E i) (V t) (V i):=fun t ht hl=>by
     obtain⟨p1,p2,hp⟩:=List.append_of_mem ht;have UM:pre=p1++t::(p2++i::q):=by rw[PA,hp];simp
     rcases UU p1 t _ UM i OU with h | h
     ·have:=h listed O7 fun ok Pe e he hb=>by
       rw[Qo] at Pe;cases Pe;exact PU e he hb
      rw[hl] at this;cases this
     ·exact h
    have Rq:bS dst E (fun j=>listed.getD j false) pre x0=bS dst E (fun j=>listed.getD j false) q (bS dst E (fun j=>listed.getD j false) p x0):=by
     rw[PA,dL];simp only[bS,QM,Bool.false_eq_true,if_false]
    refine bq p i q PA listed _ a w _ O9 QM hR ?_ fun a' w' ZO=>?_
    ·rw[Rq];have e1:dI (V i) (bS dst E (fun j=>listed.getD j false) q (bS dst E (fun j=>listed.getD j false) p x0)) (bS dst E (fun j=>listed.getD j false) p x0):=by
      have:=gU (V:=V i) (dst:=dst) (E:=E) (L:=fun j=>listed.getD j false) (L':=fun _=>false) q _ _ (fun t ht Pf z=>by
       have hl:listed.getD t false=true:=H3 Pf;have h:=Re t ht hl;exact ox h.s2 h.h2 h.n2 h.a2 z) (dI.refl (V i) (bS dst E (fun j=>listed.getD j false) p x0))
      rwa [mr] at this
     refine e1.trans (gU p _ _ (fun t ht Pf z=>?_) (dI.refl _ _));have hl:listed.getD t false=false:=D0 Pf;have h:=UH t ht hl;exact ox h.s1 h.h1 h.n1 h.a1 z
    ·refine ih _ a' w' (by simpa using O9) Sf (by rw[getD_set_ne false Uh];exact PD) ZB ?_;have Qn:(listed.setIfInBounds i true).getD i false=true:=by simp[OX]
     have key:bS dst E (fun j=>(listed.setIfInBounds i true).getD j false) pre x0=ap (dst i) (E i) (bS dst E (fun j=>listed.getD j false) pre x0):=by
      rw[Rq,PA,dL];simp only[bS,Qn,if_true];rw[eW p x0 (L':=fun j=>listed.getD j false) fun t ht=>getD_set_ne false (fun e=>by subst e;exact Ud.2.2 i ht i OU rfl)];rw[eW q _ (L':=fun j=>listed.getD j false) fun t ht=>getD_set_ne false (fun e=>by subst e;exact Ud.2.1.1 ht)];exact mu q _ fun t ht hl z=>ER (Re t ht hl) z
     rw[key];exact ZO
   ·rcases List.mem_cons.1 hip with Uh | hir
    ·subst Uh;refine U5 listed _ a w _ O9 QM hR ?_ fun Ek a' w' hO ZO=>?_
     ·refine gU pre _ _ (fun t ht Pf z=>?_) (dI.refl _ _);have hl:listed.getD t false=false:=D0 Pf;rcases hk t ht with h | h
      ·have:=h listed O7 fun ok Pe e he hb=>by
        rw[Qo] at Pe;cases Pe;exact PU e he hb
       rw[hl] at this;cases this
      ·exact h z
     ·refine Y4 Ek hO _ _ a' w' (by simpa using O9) Sf (by simp[OX]) (fun j hj=>?_) ZB ?_
      ·rw[getD_set_ne false fun e=>by subst e;exact QY.2.1.1 hj]
       cases hj':listed.getD j false with
       | false=>rfl
       | true=>
        have:=RU j hj listed O7 fun oj Tf e he hb=>O7 j oj Tf hj' e he hb;rw[QM] at this;cases this
      ·rw[eW pre x0 (L':=fun j=>listed.getD j false) fun t ht=>getD_set_ne false fun e=>by subst e;exact QY.2.2 i ht i OU rfl];exact ZO
    ·have:=RU i hir listed O7 fun ok Pe e he hb=>by
      rw[Qo] at Pe;cases Pe;exact PU e he hb
     rw[PD] at this;cases this
end
def Ag (res:Nat→Er)(i:Nat)(x:Er):Nat→Er:=fun j=>if j=i then x else res j
def Gx (dyn:List (Nat×Nat))(res:Nat→Er)(i:Nat)(x:Er):Bool:=dyn.all fun p=>p.2 != i || mj (res p.1) x
def zP (dyn:List (Nat×Nat))(res:Nat→Er)(i:Nat)(ks:List Nat):Bool:=dyn.all fun p=>p.2 != i || (((res p.1).1.w.all fun q=>!ks.contains q.1) && (res p.1).1.k == 0)
def note (dyn:List (Nat×Nat))(res:Nat→Er)(i:Nat)(x:Er):Nat→Er:=if dyn.any (fun p=>p.1 == i) then Ag res i x else res
def iO (v:CV)(ks du:List Nat)(H':List (Nat×Ob)):Er:=(⟨some v,du.map fun p=>(p,assoc H' p),0⟩,ks,true,none)
def iP (v:CV)(ks du:List Nat)(d:Nat)(H':List (Nat×Ob)):Er:=(⟨some v,du.map fun p=>(p,assoc H' p),d⟩,ks,true,none)
def ld (v:CV):Er:=(⟨some v,[],0⟩,[],false,none)
def uq:gv:=fun _ _ _ _=>none
def um:FuncId→List CV→Option CV:=fun _ _=>none
def RX (P:Program)(ak:List (Nat×TI))(nt:Nat)(ops:Array Oper)(N:Nat)(dyn:List (Nat×Nat))(K:St→Prop):List Nat→(Nat→Er)→St→Prop
 | [],_,s=>K s
 | i::r,res,s=>∃ o,ops[i]? = some o∧a6 nt o.dst=true∧
   ((∃ x,sw ak [] ops uq um N (N+ops.size) (N+i) s o=some x∧Gx dyn res i x=true∧RX P ak nt ops N dyn K r (note dyn res i x) (NL o.dst x.1 s))∨
    (bZ ops s o=some true∧∃ cl g cs,ck o=some cl∧bm s cl=some (g,cs)∧
     ((trees cs=true∧∃ G,l9 P g cs G∧∀ v,G v→RX P ak nt ops N dyn K r (note dyn res i (ld v)) (s.put o.dst v))∨
     (∃ ks du H R,eg s.heap ks=some H∧Body P ak g cs H s.nx R∧zP dyn res i ks=true∧
      (∀ v s1,R v s1→s1.nx=s.nx∧j8 ks s1.heap=true∧(∀ p,p∉du→assoc s1.heap p=assoc H p)∧∀ p∈du,p∈ks)∧
      ∀ v s1,R v s1→Gx dyn res i (iO v ks du s1.heap)=true∧RX P ak nt ops N dyn K r (note dyn res i (iO v ks du s1.heap)) (St.put ⟨s.env,s1.heap++dx s.heap ks,s.nx⟩ o.dst v))∨
     (∃ ks du d H R,eg s.heap ks=some H∧Body P ak g cs H s.nx R∧zP dyn res i ks=true∧
      (∀ v s1,R v s1→s1.nx=s.nx+d∧(∀ p ob,assoc s1.heap p=some ob→p∈ks∨s.nx≤p)∧(∀ p,p∉du→assoc s1.heap p=assoc H p)∧∀ p∈du,p∈ks∨(assoc s1.heap p).isSome=true)∧
      ∀ v s1,R v s1→Gx dyn res i (iP v ks du d s1.heap)=true∧RX P ak nt ops N dyn K r (note dyn res i (iP v ks du d s1.heap)) (St.put ⟨s.env,s1.heap++dx s.heap ks,s.nx+d⟩ o.dst v)))))
def vX (ops:Array Oper):List Nat→Bool
 | []=>true
 | i::r=>(((ops[i]?).bind ck).isNone || r.all fun j=>nA ops ops.size j i) && vX ops r
theorem od {ops:Array Oper}:∀ (l:List Nat),vX ops l=true→∀ pre i post,l=pre++i::post→∀ o c,ops[i]? = some o→ck o=some c→∀ j∈post,nA ops ops.size j i=true
 | [],_,pre,i,post,h,_,_,_,_,_,_=>by cases pre<;>simp at h
 | k::r,hl,pre,i,post,h,o,c,ho,hc,j,hj=>by
  simp only[vX,Bool.and_eq_true,Bool.or_eq_true] at hl
  cases pre with
  | nil=>
   simp only[List.nil_append,List.cons.injEq] at h;obtain⟨rfl,rfl⟩:=h;rcases hl.1 with h1 | h1
   ·simp[ho,hc] at h1
   ·exact List.all_eq_true.1 h1 j hj
  | cons q pre=>
   simp only[List.cons_append,List.cons.injEq] at h;exact od r hl.2 pre i post h.2 o c ho hc j hj
section
variable {P:Program}{C:Cx}{s:St}{ops:Array Oper}{ak:List (Nat×TI)}
def wJ (ops:Array Oper)(res:Nat→Er)(i:Nat):Vw:=⟨(match ops[i]? with | some o=>o.looksAt ops | none=>[]),(res i).2.1,(res i).2.2.1,(res i).2.2.2⟩
theorem jc (res:Nat→Er)(i:Nat)(x:Er):Ag res i x i=x:=if_pos rfl
theorem B8 (res:Nat→Er){i j:Nat}(x:Er)(h:j≠i):Ag res i x j=res j:=if_neg h
theorem ym {res QT:Nat→Er}{i:Nat}(h:QT i=res i):wJ ops QT i=wJ ops res i:=by simp only[wJ,h]
def Fn (ak:List (Nat×TI))(nt:Nat)(ops:Array Oper)(N:Nat)(res:Nat→Er)(i:Nat)(x:FS):Prop:=
 ∃ o sm,ops[i]? = some o∧a6 nt o.dst=true∧sw ak [] ops uq um N (N+ops.size) (N+i) sm o=some (res i)∧fs sm=x
theorem FR (x:Er)(v:CV):mj x (ld v)=true:=by
 simp[mj,ld,iF,nL]
theorem Km {dyn:List (Nat×Nat)}{N nt:Nat}{res:Nat→Er}{i j:Nat}{x:Er}{oj:Oper}{f:FS}(hp:xK ops dyn i j=true)(hi:Fn ak nt ops N res i f)(Tf:ops[j]? = some oj)
  (hq:gS oj=false→x.1.w=[]∧x.1.k=0∧x.2.2.1=false∧x.2.2.2=none) (hs:lL oj=true→x.2.1=[]) (hd:(i,j)∈dyn→mj (res i) x=true) :
  EU ops j i∨Gm (bU ops i) (bU ops j) (res i).1 x.1 (wJ ops res i) ⟨oj.looksAt ops,x.2.1,x.2.2.1,x.2.2.2⟩:=by
 obtain⟨oi,sm,q1,q2,q3,q4⟩:=hi;unfold xK at hp;rw[q1,Tf] at hp;simp only[Bool.or_eq_true,Bool.and_eq_true] at hp;rcases hp with hp | ⟨PJ,hp⟩
 ·exact .inl (gH _ _ _ hp)
 ·refine .inr ?_;obtain⟨a1,a2,a3⟩:=Oper.apart_spec PJ;have Sd:bU ops i=oi.dst:=by simp[bU,q1]
  have hdj:bU ops j=oj.dst:=by simp[bU,Tf]
  have hV:wJ ops res i=⟨oi.looksAt ops,(res i).2.1,(res i).2.2.1,(res i).2.2.2⟩:=by simp only[wJ,q1]
  rw[hV,Sd,hdj];have hb:mj (res i) x=true:=by
   rcases hp with ((hp | hp) | hp) | hp
   ·exact hd (by simpa using hp)
   ·simp only[Bool.not_eq_true'] at hp;obtain⟨u1,u2,u3,u4⟩:=gP q3 hp.1;obtain⟨v1,v2,v3,v4⟩:=hq hp.2;simp[mj,iF,u1,u2,u3,u4,v1,v2,v3,v4]
   ·have hl:gS oi=false:=by simp only[lL,Bool.and_eq_true,Bool.not_eq_true'] at hp;exact hp.1
    obtain⟨u1,u2,u3,u4⟩:=gP q3 hl;simp[mj,nL,iF,u1,u2,u3,u4,qo q3 hp]
   ·have hl:gS oj=false:=by simp only[lL,Bool.and_eq_true,Bool.not_eq_true'] at hp;exact hp.1
    obtain⟨u1,u2,u3,u4⟩:=hq hl;simp[mj,nL,iF,u1,u2,u3,u4,hs hp]
  exact It hb a1 a3 a2
theorem Gc {o:Oper}{c:Call}(h:ck o=some c):gS o=true:=by
 have O8:=gO h;unfold ck at h;rw[O8] at h;unfold gS;rw[O8];simp only at h ⊢;split at h
 ·cases h
 ·split<;>simp_all
def Rr (C:Cx)(N:Nat)(ops:Array Oper)(cl:List Nat)(listed:Array Bool)(x:FS)(a:Act)(w:World):Prop:=
 (∃ s σ,fs s=x∧aM C σ s a w∧N+ops.size≤s.nx∧∀ j,j<ops.size→listed.getD j false=false→σ (N+j)=none)∧∀ c∈cl,listed.getD c false=true
theorem xP:mP P []:=fun x hx=>by cases hx
theorem Gd {c:Call}{x:FuncId×List CV}(h:bm s c=some x):iN [] s c=some x:=by
 unfold iN
 cases hc:c.callee with
 | value f=>exact h
 | _=>simp[bm,hc] at h
theorem El (ht:aG P ak){N:Nat}(X7:C.n0≤N){cl:List Nat}{res:Nat→Er}{i:Nat}{f:FS}(hF:Fn ak C.nt ops N res i f)(OX:i<ops.size){Q':Exit→Act→World→Prop}{listed:Array Bool}{x:FS}{a:Act}{w:World}{K:Act→World→Prop}(O9:listed.size=ops.size)(QM:listed.getD i false=false)
  (hR:Rr C N ops cl listed x a w) (P9:dI (wJ ops res i) x f) (hK:∀ a' w',Rr C N ops cl (listed.setIfInBounds i true) (ap (bU ops i) (res i).1 x) a' w'→K a' w'):wpOp P ops Q' i K a w:=by
 obtain⟨o,sm,q1,q2,q3,q4⟩:=hF;obtain⟨⟨s1,σ1,e1,PQ,hle,Qt⟩,O7⟩:=hR;have hV:wJ ops res i=⟨o.looksAt ops,(res i).2.1,(res i).2.2.1,(res i).2.2.2⟩:=by simp only[wJ,q1]
 have hd:bU ops i=o.dst:=by simp[bU,q1]
 subst e1;rw[hV,← q4] at P9;refine Eu ht xP (call:=uq) (fun _ _ _ _ _ _ _ h=>by cases h) (pc:=um) (fun _ _ _ h=>by cases h) (m:=N+i) q3 q2 q1 P9 PQ (Qt i OX QM) yA yA K fun a' w' σ' QA h1 h2 h3=>?_;refine hK a' w' ⟨⟨QA,σ',by rw[h1,hd],h2,?_,fun j hj hl=>?_⟩,fun c hc=>getD_set_true (O7 c hc)⟩
 ·have:(fs QA).n=(fs s1).n+(res i).1.k:=by rw[h1];rfl
  simp only[fs] at this;omega
 ·have Qr:i≠j:=fun e=>by
   subst e;rw[Array.getD_eq_getD_getElem?] at hl;simp[O9,OX] at hl
  rw[h3 (N+j) yA yA];exact Qt j hj yC
theorem zV {o:Oper}{c:Call}{g:FuncId}{cs:List CV}{sc s1:St}{σ:Nat→Option OB}{a:Act}{w:World}(hc:ck o=some c)(Ps:bm sc c=some (g,cs))(hg:bZ ops sc o=some true)(hE:iR P g)
  (Rs:∀ t∈o.looksAt ops,assoc s1.env t=assoc sc.env t) (hr:aM C σ s1 a w):Region.wanted o (yielded ops a.tmps)=true∧pf P C s1 o g cs:=by
 have O8:=gO hc;have Sb:=Ep Rs;have SV:=vH (ops:=ops) Rs;rw[hg] at SV;have hcv:iN [] s1 c=some (g,cs):=by
  rw[s8 (fun x hx=>Sb x (by rw[O8];exact hx)),Gd Ps]
 exact⟨eT (ops:=ops) ⟨σ,hr⟩ SV,pf.to xP O8 hcv hE⟩
theorem Fv {N:Nat}{cl:List Nat}{i:Nat}{o:Oper}{c:Call}{g:FuncId}{cs:List CV}{sc:St}{G:CV→Prop}(hi:ops[i]? = some o)(hd:a6 C.nt o.dst=true)(hc:ck o=some c)(Ps:bm sc c=some (g,cs))(hg:bZ ops sc o=some true)(QU:trees cs=true)(hP:l9 P g cs G)
  {Q':Exit→Act→World→Prop} {listed:Array Bool} {x:FS} {a:Act} {w:World} {K:Act→World→Prop} (O9:listed.size=ops.size) (OX:i<ops.size) (hR:Rr C N ops cl listed x a w) (P9:dI ⟨o.looksAt ops,[],false,none⟩ x (fs sc))
  (hK:∀ Ek a' w',(∃ v,G v∧Ek=(ld v).1)→Rr C N ops cl (listed.setIfInBounds i true) (ap (bU ops i) Ek x) a' w'→K a' w'):wpOp P ops Q' i K a w:=by
 obtain⟨⟨s1,σ1,e1,PQ,hle,Qt⟩,O7⟩:=hR;subst e1;obtain⟨hw,Th⟩:=zV hc Ps hg hP.1 P9.1 PQ;have Qv:bU ops i=o.dst:=by simp[bU,hi]
 unfold wpOp;simp only[hi];rw[if_pos hw];refine .inl (AH Th QU hP PQ _ _ fun v v1 w' hG Pp hv=>?_);refine hK (ld v).1 _ _ ⟨v,hG,rfl⟩ ⟨⟨s1.put o.dst v,σ1,?_,j7 hd Pp hv,?_,fun j hj hl=>?_⟩,fun c hc=>getD_set_true (O7 c hc)⟩
 ·rw[Qv];exact su _ _ _
 ·cases o.dst<;>exact hle
 ·have Qr:i≠j:=fun e=>by
   subst e;rw[Array.getD_eq_getD_getElem?] at hl;simp[O9,OX] at hl
  exact Qt j hj yC
theorem nN {G G':List (Nat×Ob)}:∀ (ks:List Nat),(∀ o∈ks,assoc G o=assoc G' o)→eg G ks=eg G' ks
 | [],_=>rfl
 | k::ks,h=>by
  simp only[eg];rw[h k List.mem_cons_self,nN ks fun o ho=>h o (List.mem_cons_of_mem _ ho)]
theorem wB {G H H':List (Nat×Ob)}{ks du:List Nat}(hp:eg G ks=some H)(k3:∀ p,p∉du→assoc H' p=assoc H p)(k4:∀ p∈du,p∈ks)(p:Nat) :
  assoc (H'++dx G ks) p=kq (assoc G) (du.map fun p=>(p,assoc H' p)) p:=by
 rw[fZ,dQ];have Q9:assoc (du.map fun p=>(p,assoc H' p)) p=if p∈du then some (assoc H' p) else none:=by
  clear k3 k4
  induction du with
  | nil=>simp[assoc]
  | cons q r ih=>
   simp only[List.map_cons,assoc,List.mem_cons];by_cases e:q=p
   ·simp[e]
   ·have e':¬ p=q:=fun h=>e h.symm;simp[e,e',ih]
 unfold kq;rw[Q9];by_cases hc:p∈du
 ·rw[if_pos hc,if_pos (k4 p hc)];cases assoc H' p<;>rfl
 ·rw[if_neg hc,k3 p hc];obtain⟨i1,i2⟩:=jZ hp;by_cases hk:p∈ks
  ·rw[if_pos hk]
   cases h1:assoc G p with
   | none=>
    cases h2:assoc H p with
    | none=>rfl
    | some y=>rw[(i1 p y h2).2] at h1;cases h1
   | some y=>rw[i2 p y hk h1]
  ·rw[if_neg hk]
   cases h2:assoc H p with
   | none=>rfl
   | some y=>exact (hk (i1 p y h2).1).elim
theorem Gg (ht:aG P ak){N:Nat}{cl:List Nat}{i:Nat}{o:Oper}{c:Call}{g:FuncId}{cs:List CV}{sc:St}{ks du:List Nat}{H:List (Nat×Ob)}{R:CV→St→Prop}(hi:ops[i]? = some o)(hd:a6 C.nt o.dst=true)(hc:ck o=some c)(Ps:bm sc c=some (g,cs))(hg:bZ ops sc o=some true)
  (hp:eg sc.heap ks=some H) (hB:Body P ak g cs H sc.nx R) (Vb:∀ v s1,R v s1→s1.nx=sc.nx∧j8 ks s1.heap=true∧(∀ p,p∉du→assoc s1.heap p=assoc H p)∧∀ p∈du,p∈ks)
  {Q':Exit→Act→World→Prop} {listed:Array Bool} {x:FS} {a:Act} {w:World} {K:Act→World→Prop} (O9:listed.size=ops.size) (OX:i<ops.size) (hR:Rr C N ops cl listed x a w) (P9:dI ⟨o.looksAt ops,ks,true,none⟩ x (fs sc))
  (hK:∀ Ek a' w',(∃ v s1,R v s1∧Ek=(iO v ks du s1.heap).1)→Rr C N ops cl (listed.setIfInBounds i true) (ap (bU ops i) Ek x) a' w'→K a' w'):wpOp P ops Q' i K a w:=by
 obtain⟨⟨s1,σ1,e1,PQ,hle,Qt⟩,O7⟩:=hR;subst e1;have hE:iR P g:=by
  obtain⟨fn,code,hf,P7,P2,_⟩:=hB;exact⟨fn,hf,P2,by simp[P7]⟩
 obtain⟨hw,Th⟩:=zV hc Ps hg hE P9.1 PQ;have Qv:bU ops i=o.dst:=by simp[bU,hi]
 have Qa:s1.nx=sc.nx:=P9.2.2.1 rfl;have UK:eg s1.heap ks=some H:=by rw[nN ks fun p hp=>P9.2.1 p hp];exact hp
 rw[← Qa] at hB;unfold wpOp;simp only[hi];rw[if_pos hw];refine .inl (oT ht (mY.of UK) Th hB (fun v s2 h p y z h1 h2=>?_) PQ _ _ fun v s2 v1 w' σ' h Pp hv hold=>?_)
 ·have hm:=sd (Vb v s2 h).2.1 p y h1;rw[dQ,if_pos hm] at h2;cases h2
 ·obtain⟨k1,k2,k3,k4⟩:=Vb v s2 h;refine hK (iO v ks du s2.heap).1 _ _ ⟨v,s2,h,rfl⟩ ⟨⟨eY ⟨s1.env,s2.heap++dx s1.heap ks,s2.nx⟩ o.dst (some v),σ',?_,j7 hd Pp hv,?_,fun j hj hl=>?_⟩,fun c hc=>getD_set_true (O7 c hc)⟩
  ·rw[Qv];refine eV (s:=s1) (fun p=>?_) (by rw[k1,Qa];rfl);exact wB UK k3 k4 p
  ·have:s2.nx=s1.nx:=by rw[k1,Qa]
   cases o.dst<;>simp only[eY,St.put,this]<;>exact hle
  ·have Qr:i≠j:=fun e=>by
    subst e;rw[Array.getD_eq_getD_getElem?] at hl;simp[O9,OX] at hl
   rw[hold (N+j) yA];exact Qt j hj yC
theorem tj {G H H':List (Nat×Ob)}{ks du:List Nat}(hp:eg G ks=some H)(k3:∀ p,p∉du→assoc H' p=assoc H p)(k4:∀ p∈du,p∈ks∨(assoc H' p).isSome=true)(p:Nat) :
  assoc (H'++dx G ks) p=kq (assoc G) (du.map fun p=>(p,assoc H' p)) p:=by
 rw[fZ,dQ];have Q9:assoc (du.map fun p=>(p,assoc H' p)) p=if p∈du then some (assoc H' p) else none:=by
  clear k3 k4
  induction du with
  | nil=>simp[assoc]
  | cons q r ih=>
   simp only[List.map_cons,assoc,List.mem_cons];by_cases e:q=p
   ·simp[e]
   ·have e':¬ p=q:=fun h=>e h.symm;simp[e,e',ih]
 unfold kq;rw[Q9];by_cases hc:p∈du
 ·rw[if_pos hc];rcases k4 p hc with h | h
  ·rw[if_pos h];cases assoc H' p<;>rfl
  ·obtain⟨y,hy⟩:=Option.isSome_iff_exists.1 h;rw[hy]
 ·rw[if_neg hc,k3 p hc];obtain⟨i1,i2⟩:=jZ hp;by_cases hk:p∈ks
  ·rw[if_pos hk]
   cases h1:assoc G p with
   | none=>
    cases h2:assoc H p with
    | none=>rfl
    | some y=>rw[(i1 p y h2).2] at h1;cases h1
   | some y=>rw[i2 p y hk h1]
  ·rw[if_neg hk]
   cases h2:assoc H p with
   | none=>rfl
   | some y=>exact (hk (i1 p y h2).1).elim
theorem C9 (ht:aG P ak){N:Nat}{cl:List Nat}{i:Nat}{o:Oper}{c:Call}{g:FuncId}{cs:List CV}{sc:St}{ks du:List Nat}{d:Nat}{H:List (Nat×Ob)}{R:CV→St→Prop}(hi:ops[i]? = some o)(hd:a6 C.nt o.dst=true)(hc:ck o=some c)(Ps:bm sc c=some (g,cs))(hg:bZ ops sc o=some true)
  (hp:eg sc.heap ks=some H) (hB:Body P ak g cs H sc.nx R) (Vb:∀ v s1,R v s1→s1.nx=sc.nx+d∧(∀ p ob,assoc s1.heap p=some ob→p∈ks∨sc.nx≤p)∧(∀ p,p∉du→assoc s1.heap p=assoc H p)∧∀ p∈du,p∈ks∨(assoc s1.heap p).isSome=true)
  {Q':Exit→Act→World→Prop} {listed:Array Bool} {x:FS} {a:Act} {w:World} {K:Act→World→Prop} (O9:listed.size=ops.size) (OX:i<ops.size) (hR:Rr C N ops cl listed x a w) (P9:dI ⟨o.looksAt ops,ks,true,none⟩ x (fs sc))
  (hK:∀ Ek a' w',(∃ v s1,R v s1∧Ek=(iP v ks du d s1.heap).1)→Rr C N ops cl (listed.setIfInBounds i true) (ap (bU ops i) Ek x) a' w'→K a' w'):wpOp P ops Q' i K a w:=by
 obtain⟨⟨s1,σ1,e1,PQ,hle,Qt⟩,O7⟩:=hR;subst e1;have hE:iR P g:=by
  obtain⟨fn,code,hf,P7,P2,_⟩:=hB;exact⟨fn,hf,P2,by simp[P7]⟩
 obtain⟨hw,Th⟩:=zV hc Ps hg hE P9.1 PQ;have Qv:bU ops i=o.dst:=by simp[bU,hi]
 have Qa:s1.nx=sc.nx:=P9.2.2.1 rfl;have UK:eg s1.heap ks=some H:=by rw[nN ks fun p hp=>P9.2.1 p hp];exact hp
 rw[← Qa] at hB;unfold wpOp;simp only[hi];rw[if_pos hw];refine .inl (oT ht (mY.of UK) Th hB (fun v s2 h p y z h1 h2=>?_) PQ _ _ fun v s2 v1 w' σ' h Pp hv hold=>?_)
 ·rw[dQ] at h2;split at h2
  ·cases h2
  ·rename_i hnk;rcases (Vb v s2 h).2.1 p y h1 with hm | hm
   ·exact hnk hm
   ·obtain⟨B,m1,_⟩:=PQ.obj p z h2;rw[PQ.nx p yA] at m1;cases m1
 ·obtain⟨k1,k2,k3,k4⟩:=Vb v s2 h;refine hK (iP v ks du d s2.heap).1 _ _ ⟨v,s2,h,rfl⟩ ⟨⟨eY ⟨s1.env,s2.heap++dx s1.heap ks,s2.nx⟩ o.dst (some v),σ',?_,j7 hd Pp hv,?_,fun j hj hl=>?_⟩,fun c hc=>getD_set_true (O7 c hc)⟩
  ·rw[Qv];refine eV (s:=s1) (k:=d) (fun p=>?_) (by rw[k1,Qa]);exact tj UK k3 k4 p
  ·have:s2.nx=s1.nx+d:=by rw[k1,Qa]
   cases o.dst<;>simp only[eY,St.put,this]<;>exact Nat.le_trans hle (Nat.le_add_right _ _)
  ·have Qr:i≠j:=fun e=>by
    subst e;rw[Array.getD_eq_getD_getElem?] at hl;simp[O9,OX] at hl
   rw[hold (N+j) yA];exact Qt j hj yC
end
end Go.Can
