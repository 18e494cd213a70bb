/- **A region that draws, walked in one order, calls by their c -/
import Derived.Test.YtmnglemlimfpbaaGreatZ14
namespace Go.Can
section
variable {P:Program}{ops:Array Oper}
theorem xp {dst:Nat→Option Tmp}{E E':Nat→Ef}{L:Nat→Bool}:∀ (l:List Nat) (x:FS),(∀ i∈l,E i=E' i)→bH dst E L l x=bH dst E' L l x
 | [],_,_=>rfl
 | i::r,x,h=>by
  simp only[bH]
  rw[h i List.mem_cons_self]
  exact xp r _ fun j hj=>h j (List.mem_cons_of_mem _ hj)
theorem Ga {b:Bool}(h:b≠false):b=true:=by cases b<;>simp_all
theorem CT {b:Bool}(h:b≠true):b=false:=by cases b<;>simp_all
theorem qW {pre r:List Nat}{k:Nat}{dst:Nat→Option Tmp}{E:Nat→Ef}{V:Nat→Vw}{Vk:Vw}{OUT:Ef→Prop}{x0:FS}{R:Array Bool→FS→Act→World→Prop}{Q':Exit→Act→World→Prop}
  (hn:(pre++k::r).Nodup) (hcov:∀ j,j<ops.size→j∈pre++k::r) (hlt:∀ i∈pre++k::r,i<ops.size)
  (hrd:∀ p i q,pre++k::r=p++i::q→∀ oi,ops[i]? = some oi→∀ e∈oi.after,Region.binds .any e=true→e.on∈p)
  (hind:∀ p i q,pre=p++i::q→∀ j∈q,Dv ops j i∨EO (dst i) (dst j) (E i) (E j) (V i) (V j))
  (hwait:∀ j∈r,Dv ops j k)
  (hk:∀ i∈pre,Dv ops k i∨∀ z,dI Vk (ap (dst i) (E i) z) z)
  (gq:∀ p i q,pre=p++i::q→∀ (listed:Array Bool) (x:FS) (a:Act) (w:World) (K:Act→World→Prop),listed.size=ops.size→listed.getD i false=false→R listed x a w→dI (V i) x (bH dst E (fun _=>true) p x0) →
   (∀ a' w',R (listed.setIfInBounds i true) (ap (dst i) (E i) x) a' w'→K a' w')→wpOp P ops Q' i K a w)
  (hcall:∀ (listed:Array Bool) (x:FS) (a:Act) (w:World) (K:Act→World→Prop),listed.size=ops.size→listed.getD k false=false→R listed x a w→dI Vk x (bH dst E (fun _=>true) pre x0) →
   (∀ Ek a' w',OUT Ek→R (listed.setIfInBounds k true) (ap (dst k) Ek x) a' w'→K a' w')→wpOp P ops Q' k K a w)
  (hnext:∀ Ek,OUT Ek→∀ (m:Nat) (listed:Array Bool) (a:Act) (w:World),listed.size=ops.size→iU ops listed→listed.getD k false=true→(∀ j∈r,listed.getD j false=false)→((pre++k::r).countP fun j=>!listed.getD j false)=m →
   R listed (ap (dst k) Ek (bH dst E (fun j=>listed.getD j false) pre x0)) a w→wpAny P .any ops Q' m listed a w) :
  ∀ (m:Nat) (listed:Array Bool) (a:Act) (w:World),listed.size=ops.size→iU ops listed→listed.getD k false=false→((pre++k::r).countP fun j=>!listed.getD j false)=m→R listed (bH dst E (fun j=>listed.getD j false) pre x0) a w→wpAny P .any ops Q' m listed a w:=by
 intro m
 induction m with
 | zero=>
  intro listed a w hsz hcl hkl hc hR
  have:=List.countP_eq_zero.1 hc k yAa
  simp[hkl] at this
 | succ m ih=>
  intro listed a w hsz hcl hkl hc hR
  refine⟨fun h0=>?_,fun i hi=>?_⟩
  ·exfalso
   have:∀ (l p:List Nat),pre++k::r=p++l→(∀ j∈p,listed.getD j false=true)→(∃ i∈l,listed.getD i false=false)→False:=by
    intro l
    induction l with
    | nil=>rintro p _ _ ⟨i,hi,_⟩;cases hi
    | cons j q ihl=>
     intro p ho hp hx
     cases hj:listed.getD j false with
     | true=>
      refine ihl (p++[j]) (by simp[ho]) ?_ ?_
      ·intro t ht
       rcases List.mem_append.1 ht with ht | ht
       ·exact hp t ht
       ·have:t=j:=by simpa using ht
        subst this;exact hj
      ·obtain⟨i,hi,hu⟩:=hx
       rcases List.mem_cons.1 hi with e | hi
       ·subst e;rw[hj] at hu;cases hu
       ·exact⟨i,hi,hu⟩
     | false=>
      have hjl:=hlt j (by rw[ho];simp)
      have hok:ops[j]? = some ops[j]:=by simp[hjl]
      have:j∈Region.ready .any ops listed:=by
       refine mem_ready.2 ⟨iV (by rw[hsz];exact hjl) hj,_,hok,fun e he hb=>?_⟩
       exact hp _ (hrd p j q ho _ hok e he hb)
      rw[h0] at this
      cases this
   exact this _ [] rfl yAa ⟨k,by simp,hkl⟩
  ·have hui:listed.getD i false=false:=getD_both (mem_ready.1 hi).1
   obtain⟨_,oi,hoi,hready⟩:=mem_ready.1 hi
   have hio:=hcov i (Array.getElem?_eq_some_iff.1 hoi).1
   have hil:i<listed.size:=by rw[hsz];exact hlt i hio
   have hcl':iU ops (listed.setIfInBounds i true):=by
    intro j oj hj hl e he hb
    by_cases hij:i=j
    ·subst hij
     have:oj=oi:=Option.some.inj (hj.symm.trans hoi)
     subst this
     exact getD_set_true (hready e he hb)
    ·rw[getD_set_ne false hij] at hl
     exact getD_set_true (hcl j oj hj hl e he hb)
   have hcnt:((pre++k::r).countP fun j=>!(listed.setIfInBounds i true).getD j false)=m:=by
    have:=count_set (pre++k::r) i listed hn hio hil hui
    omega
   have hnd:=hn
   rw[List.nodup_append,List.nodup_cons] at hnd
   rcases List.mem_append.1 hio with hip | hip
   ·have hik:i≠k:=fun e=>hnd.2.2 i hip k yAa e
    obtain⟨p,q,hpq⟩:=List.append_of_mem hip
    have hnp:=hnd.1
    rw[hpq,List.nodup_append,List.nodup_cons] at hnp
    have hpost:∀ t∈q,listed.getD t false=true→EO (dst i) (dst t) (E i) (E t) (V i) (V t):=fun t ht hl=>by
     rcases hind p i q hpq t ht with h | h
     ·have:=h listed hcl fun ok hok e he hb=>hcl t ok hok hl e he hb
      rw[hui] at this;cases this
     ·exact h
    have hpre:∀ t∈p,listed.getD t false=false→EO (dst t) (dst i) (E t) (E i) (V t) (V i):=fun t ht hl=>by
     obtain⟨p1,p2,hp⟩:=List.append_of_mem ht
     have ho2:pre=p1++t::(p2++i::q):=by rw[hpq,hp];simp
     rcases hind p1 t _ ho2 i yAa with h | h
     ·have:=h listed hcl fun ok hok e he hb=>by
       rw[hoi] at hok;cases hok
       exact hready e he hb
      rw[hl] at this;cases this
     ·exact h
    have hsplit:bH dst E (fun j=>listed.getD j false) pre x0=bH dst E (fun j=>listed.getD j false) q (bH dst E (fun j=>listed.getD j false) p x0):=by
     rw[hpq,dK]
     simp only[bH,hui,Bool.false_eq_true,if_false]
    refine gq p i q hpq listed _ a w _ hsz hui hR ?_ fun a' w' hR'=>?_
    ·rw[hsplit]
     have e1:dI (V i) (bH dst E (fun j=>listed.getD j false) q (bH dst E (fun j=>listed.getD j false) p x0)) (bH dst E (fun j=>listed.getD j false) p x0):=by
      have:=gT (V:=V i) (dst:=dst) (E:=E) (L:=fun j=>listed.getD j false) (L':=fun _=>false) q _ _ (fun t ht hne z=>by
       have hl:listed.getD t false=true:=Ga hne
       have h:=hpost t ht hl
       exact od h.s2 h.h2 h.n2 h.a2 z) (dI.refl (V i) (bH dst E (fun j=>listed.getD j false) p x0))
      rwa [mr] at this
     refine e1.trans (gT p _ _ (fun t ht hne z=>?_) (dI.refl _ _))
     have hl:listed.getD t false=false:=CT hne
     have h:=hpre t ht hl
     exact od h.s1 h.h1 h.n1 h.a1 z
    ·refine ih _ a' w' (by simpa using hsz) hcl' (by rw[getD_set_ne false hik];exact hkl) hcnt ?_
     have hself:(listed.setIfInBounds i true).getD i false=true:=by simp[hil]
     have key:bH dst E (fun j=>(listed.setIfInBounds i true).getD j false) pre x0=ap (dst i) (E i) (bH dst E (fun j=>listed.getD j false) pre x0):=by
      rw[hsplit,hpq,dK]
      simp only[bH,hself,if_true]
      rw[eU p x0 (L':=fun j=>listed.getD j false) fun t ht=>getD_set_ne false (fun e=>by subst e;exact hnp.2.2 i ht i yAa rfl)]
      rw[eU q _ (L':=fun j=>listed.getD j false) fun t ht=>getD_set_ne false (fun e=>by subst e;exact hnp.2.1.1 ht)]
      exact mv q _ fun t ht hl z=>Du (hpost t ht hl) z
     rw[key]
     exact hR'
   ·rcases List.mem_cons.1 hip with hik | hir
    ·subst hik
     refine hcall listed _ a w _ hsz hui hR ?_ fun Ek a' w' hO hR'=>?_
     ·refine gT pre _ _ (fun t ht hne z=>?_) (dI.refl _ _)
      have hl:listed.getD t false=false:=CT hne
      rcases hk t ht with h | h
      ·have:=h listed hcl fun ok hok e he hb=>by
        rw[hoi] at hok;cases hok
        exact hready e he hb
       rw[hl] at this;cases this
      ·exact h z
     ·refine hnext Ek hO _ _ a' w' (by simpa using hsz) hcl' (by simp[hil]) (fun j hj=>?_) hcnt ?_
      ·rw[getD_set_ne false fun e=>by subst e;exact hnd.2.1.1 hj]
       cases hj':listed.getD j false with
       | false=>rfl
       | true=>
        have:=hwait j hj listed hcl fun oj hoj e he hb=>hcl j oj hoj hj' e he hb
        rw[hui] at this;cases this
      ·rw[eU pre x0 (L':=fun j=>listed.getD j false) fun t ht=>getD_set_ne false fun e=>by subst e;exact hnd.2.2 i ht i yAa rfl]
       exact hR'
    ·have:=hwait i hir listed hcl fun ok hok e he hb=>by
      rw[hoi] at hok;cases hok
      exact hready e he hb
     rw[hkl] at this;cases this
end
def zj (res:Nat→Er)(i:Nat)(x:Er):Nat→Er:=fun j=>if j=i then x else res j
def EV (dyn:List (Nat×Nat))(res:Nat→Er)(i:Nat)(x:Er):Bool:=dyn.all fun p=>p.2 != i || ml (res p.1) x
def yU (dyn:List (Nat×Nat))(res:Nat→Er)(i:Nat)(ks:List Nat):Bool:=dyn.all fun p=>p.2 != i || (((res p.1).1.w.all fun q=>!ks.contains q.1) && (res p.1).1.k == 0)
def note (dyn:List (Nat×Nat))(res:Nat→Er)(i:Nat)(x:Er):Nat→Er:=if dyn.any (fun p=>p.1 == i) then zj res i x else res
def iR (v:CV)(ks chg:List Nat)(H':List (Nat×Ob)):Er:=(⟨some v,chg.map fun p=>(p,assoc H' p),0⟩,ks,true,none)
def iS (v:CV)(ks chg:List Nat)(d:Nat)(H':List (Nat×Ob)):Er:=(⟨some v,chg.map fun p=>(p,assoc H' p),d⟩,ks,true,none)
def la (v:CV):Er:=(⟨some v,[],0⟩,[],false,none)
def sW:gf:=fun _ _ _ _=>none
def sV:FuncId→List CV→Option CV:=fun _ _=>none
def RX (P:Program)(aq:List (Nat×TI))(nt:Nat)(ops:Array Oper)(N:Nat)(dyn:List (Nat×Nat))(K:St→Prop):List Nat→(Nat→Er)→St→Prop
 | [],_,s=>K s
 | i::r,res,s=>∃ o,ops[i]? = some o∧aU nt o.dst=true∧
   ((∃ x,rD aq [] ops sW sV N (N+ops.size) (N+i) s o=some x∧EV dyn res i x=true∧RX P aq nt ops N dyn K r (note dyn res i x) (Lu o.dst x.1 s))∨
    (bU ops s o=some true∧∃ cl g cs,cg o=some cl∧bl s cl=some (g,cs)∧
     ((trees cs=true∧∃ G,l8 P g cs G∧∀ v,G v→RX P aq nt ops N dyn K r (note dyn res i (la v)) (s.put o.dst v))∨
     (∃ ks chg H R,dZ s.heap ks=some H∧Body P aq g cs H s.nx R∧yU dyn res i ks=true∧
      (∀ v s1,R v s1→s1.nx=s.nx∧j6 ks s1.heap=true∧(∀ p,p∉chg→assoc s1.heap p=assoc H p)∧∀ p∈chg,p∈ks)∧
      ∀ v s1,R v s1→EV dyn res i (iR v ks chg s1.heap)=true∧RX P aq nt ops N dyn K r (note dyn res i (iR v ks chg s1.heap)) (St.put ⟨s.env,s1.heap++dx s.heap ks,s.nx⟩ o.dst v))∨
     (∃ ks chg d H R,dZ s.heap ks=some H∧Body P aq g cs H s.nx R∧yU dyn res i ks=true∧
      (∀ v s1,R v s1→s1.nx=s.nx+d∧(∀ p ob,assoc s1.heap p=some ob→p∈ks∨s.nx≤p)∧(∀ p,p∉chg→assoc s1.heap p=assoc H p)∧∀ p∈chg,p∈ks∨(assoc s1.heap p).isSome=true)∧
      ∀ v s1,R v s1→EV dyn res i (iS v ks chg d s1.heap)=true∧RX P aq nt ops N dyn K r (note dyn res i (iS v ks chg d s1.heap)) (St.put ⟨s.env,s1.heap++dx s.heap ks,s.nx+d⟩ o.dst v)))))
def vr (ops:Array Oper):List Nat→Bool
 | []=>true
 | i::r=>(((ops[i]?).bind cg).isNone || r.all fun j=>nu ops ops.size j i) && vr ops r
theorem n7 {ops:Array Oper}:∀ (l:List Nat),vr ops l=true→∀ pre i post,l=pre++i::post→∀ o c,ops[i]? = some o→cg o=some c→∀ j∈post,nu ops ops.size j i=true
 | [],_,pre,i,post,h,_,_,_,_,_,_=>by cases pre<;>simp at h
 | k::r,hl,pre,i,post,h,o,c,ho,hc,j,hj=>by
  simp only[vr,Bool.and_eq_true,Bool.or_eq_true] at hl
  cases pre with
  | nil=>
   simp only[List.nil_append,List.cons.injEq] at h
   obtain⟨rfl,rfl⟩:=h
   rcases hl.1 with h1 | h1
   ·simp[ho,hc] at h1
   ·exact List.all_eq_true.1 h1 j hj
  | cons q pre=>
   simp only[List.cons_append,List.cons.injEq] at h
   exact n7 r hl.2 pre i post h.2 o c ho hc j hj
section
variable {P:Program}{C:Cx}{s:St}{ops:Array Oper}{aq:List (Nat×TI)}
def vK (ops:Array Oper)(res:Nat→Er)(i:Nat):Vw:=⟨(match ops[i]? with | some o=>o.looksAt ops | none=>[]),(res i).2.1,(res i).2.2.1,(res i).2.2.2⟩
theorem jc (res:Nat→Er)(i:Nat)(x:Er):zj res i x i=x:=if_pos rfl
theorem Bu (res:Nat→Er){i j:Nat}(x:Er)(h:j≠i):zj res i x j=res j:=if_neg h
theorem xM {res res':Nat→Er}{i:Nat}(h:res' i=res i):vK ops res' i=vK ops res i:=by simp only[vK,h]
def Fn (aq:List (Nat×TI))(nt:Nat)(ops:Array Oper)(N:Nat)(res:Nat→Er)(i:Nat)(x:FS):Prop:=
 ∃ o sm,ops[i]? = some o∧aU nt o.dst=true∧rD aq [] ops sW sV N (N+ops.size) (N+i) sm o=some (res i)∧fs sm=x
theorem Ej (x:Er)(v:CV):ml x (la v)=true:=by
 simp[ml,la,iI,nH]
theorem Ip {dyn:List (Nat×Nat)}{N nt:Nat}{res:Nat→Er}{i j:Nat}{x:Er}{oj:Oper}{f:FS}(hp:wW ops dyn i j=true)(hi:Fn aq nt ops N res i f)(hoj:ops[j]? = some oj)
  (hq:gQ oj=false→x.1.w=[]∧x.1.k=0∧x.2.2.1=false∧x.2.2.2=none) (hs:lM oj=true→x.2.1=[]) (hd:(i,j)∈dyn→ml (res i) x=true) :
  Dv ops j i∨EO (bN ops i) (bN ops j) (res i).1 x.1 (vK ops res i) ⟨oj.looksAt ops,x.2.1,x.2.2.1,x.2.2.2⟩:=by
 obtain⟨oi,sm,q1,q2,q3,q4⟩:=hi
 unfold wW at hp
 rw[q1,hoj] at hp
 simp only[Bool.or_eq_true,Bool.and_eq_true] at hp
 rcases hp with hp | ⟨hap,hp⟩
 ·exact .inl (gw _ _ _ hp)
 ·refine .inr ?_
  obtain⟨a1,a2,a3⟩:=Oper.apart_spec hap
  have hdi:bN ops i=oi.dst:=by simp[bN,q1]
  have hdj:bN ops j=oj.dst:=by simp[bN,hoj]
  have hV:vK ops res i=⟨oi.looksAt ops,(res i).2.1,(res i).2.2.1,(res i).2.2.2⟩:=by simp only[vK,q1]
  rw[hV,hdi,hdj]
  have hb:ml (res i) x=true:=by
   rcases hp with ((hp | hp) | hp) | hp
   ·exact hd (by simpa using hp)
   ·simp only[Bool.not_eq_true'] at hp
    obtain⟨u1,u2,u3,u4⟩:=gO q3 hp.1
    obtain⟨v1,v2,v3,v4⟩:=hq hp.2
    simp[ml,iI,u1,u2,u3,u4,v1,v2,v3,v4]
   ·have hl:gQ oi=false:=by simp only[lM,Bool.and_eq_true,Bool.not_eq_true'] at hp;exact hp.1
    obtain⟨u1,u2,u3,u4⟩:=gO q3 hl
    simp[ml,nH,iI,u1,u2,u3,u4,qb q3 hp]
   ·have hl:gQ oj=false:=by simp only[lM,Bool.and_eq_true,Bool.not_eq_true'] at hp;exact hp.1
    obtain⟨u1,u2,u3,u4⟩:=hq hl
    simp[ml,nH,iI,u1,u2,u3,u4,hs hp]
  exact GB hb a1 a3 a2
theorem EE {o:Oper}{c:Call}(h:cg o=some c):gQ o=true:=by
 have hop:=gM h
 unfold cg at h
 rw[hop] at h
 unfold gQ
 rw[hop]
 simp only at h ⊢
 split at h
 ·cases h
 ·split<;>simp_all
def Rr (C:Cx)(N:Nat)(ops:Array Oper)(cl:List Nat)(listed:Array Bool)(x:FS)(a:Act)(w:World):Prop:=
 (∃ s σ,fs s=x∧aG C σ s a w∧N+ops.size≤s.nx∧∀ j,j<ops.size→listed.getD j false=false→σ (N+j)=none)∧∀ c∈cl,listed.getD c false=true
theorem w9:oK P []:=fun x hx=>by cases hx
theorem EF {c:Call}{x:FuncId×List CV}(h:bl s c=some x):jz [] s c=some x:=by
 unfold jz
 cases hc:c.callee with
 | value f=>exact h
 | _=>simp[bl,hc] at h
theorem Da (ht:ay P aq){N:Nat}(hN0:C.n0≤N){cl:List Nat}{res:Nat→Er}{i:Nat}{f:FS}(hF:Fn aq C.nt ops N res i f)(hil:i<ops.size){Q':Exit→Act→World→Prop}{listed:Array Bool}{x:FS}{a:Act}{w:World}{K:Act→World→Prop}(hsz:listed.size=ops.size)(hui:listed.getD i false=false)
  (hR:Rr C N ops cl listed x a w) (hag:dI (vK ops res i) x f) (hK:∀ a' w',Rr C N ops cl (listed.setIfInBounds i true) (ap (bN ops i) (res i).1 x) a' w'→K a' w'):wpOp P ops Q' i K a w:=by
 obtain⟨o,sm,q1,q2,q3,q4⟩:=hF
 obtain⟨⟨s1,σ1,e1,hr1,hle,hfree⟩,hcl⟩:=hR
 have hV:vK ops res i=⟨o.looksAt ops,(res i).2.1,(res i).2.2.1,(res i).2.2.2⟩:=by simp only[vK,q1]
 have hd:bN ops i=o.dst:=by simp[bN,q1]
 subst e1
 rw[hV,← q4] at hag
 refine Df ht w9 (call:=sW) (fun _ _ _ _ _ _ _ h=>by cases h) (pc:=sV) (fun _ _ _ h=>by cases h) (m:=N+i) q3 q2 q1 hag hr1 (hfree i hil hui) yA yA K fun a' w' σ' s'' h1 h2 h3=>?_
 refine hK a' w' ⟨⟨s'',σ',by rw[h1,hd],h2,?_,fun j hj hl=>?_⟩,fun c hc=>getD_set_true (hcl c hc)⟩
 ·have:(fs s'').n=(fs s1).n+(res i).1.k:=by rw[h1];rfl
  simp only[fs] at this
  omega
 ·have hij:i≠j:=fun e=>by
   subst e
   rw[Array.getD_eq_getD_getElem?] at hl
   simp[hsz,hil] at hl
  rw[h3 (N+j) yA yA]
  exact hfree j hj yC
theorem yZ {o:Oper}{c:Call}{g:FuncId}{cs:List CV}{sc s1:St}{σ:Nat→Option OB}{a:Act}{w:World}(hc:cg o=some c)(hca:bl sc c=some (g,cs))(hg:bU ops sc o=some true)(hE:jA P g)
  (hslots:∀ t∈o.looksAt ops,assoc s1.env t=assoc sc.env t) (hr:aG C σ s1 a w):Region.wanted o (yielded ops a.tmps)=true∧xP P C s1 o g cs:=by
 have hop:=gM hc
 have hev:=Dc hslots
 have hgd:=u5 (ops:=ops) hslots
 rw[hg] at hgd
 have hcv:jz [] s1 c=some (g,cs):=by
  rw[ss (fun x hx=>hev x (by rw[hop];exact hx)),EF hca]
 exact⟨eQ (ops:=ops) ⟨σ,hr⟩ hgd,xP.to w9 hop hcv hE⟩
theorem DX {N:Nat}{cl:List Nat}{i:Nat}{o:Oper}{c:Call}{g:FuncId}{cs:List CV}{sc:St}{G:CV→Prop}(hi:ops[i]? = some o)(hd:aU C.nt o.dst=true)(hc:cg o=some c)(hca:bl sc c=some (g,cs))(hg:bU ops sc o=some true)(htr:trees cs=true)(hP:l8 P g cs G)
  {Q':Exit→Act→World→Prop} {listed:Array Bool} {x:FS} {a:Act} {w:World} {K:Act→World→Prop} (hsz:listed.size=ops.size) (hil:i<ops.size) (hR:Rr C N ops cl listed x a w) (hag:dI ⟨o.looksAt ops,[],false,none⟩ x (fs sc))
  (hK:∀ Ek a' w',(∃ v,G v∧Ek=(la v).1)→Rr C N ops cl (listed.setIfInBounds i true) (ap (bN ops i) Ek x) a' w'→K a' w'):wpOp P ops Q' i K a w:=by
 obtain⟨⟨s1,σ1,e1,hr1,hle,hfree⟩,hcl⟩:=hR
 subst e1
 obtain⟨hw,hent⟩:=yZ hc hca hg hP.1 hag.1 hr1
 have hdst:bN ops i=o.dst:=by simp[bN,hi]
 unfold wpOp
 simp only[hi]
 rw[if_pos hw]
 refine .inl (zL hent htr hP hr1 _ _ fun v v1 w' hG hr' hv=>?_)
 refine hK (la v).1 _ _ ⟨v,hG,rfl⟩ ⟨⟨s1.put o.dst v,σ1,?_,j4 hd hr' hv,?_,fun j hj hl=>?_⟩,fun c hc=>getD_set_true (hcl c hc)⟩
 ·rw[hdst]
  exact rz _ _ _
 ·cases o.dst<;>exact hle
 ·have hij:i≠j:=fun e=>by
   subst e
   rw[Array.getD_eq_getD_getElem?] at hl
   simp[hsz,hil] at hl
  exact hfree j hj yC
theorem nJ {G G':List (Nat×Ob)}:∀ (ks:List Nat),(∀ o∈ks,assoc G o=assoc G' o)→dZ G ks=dZ G' ks
 | [],_=>rfl
 | k::ks,h=>by
  simp only[dZ]
  rw[h k List.mem_cons_self,nJ ks fun o ho=>h o (List.mem_cons_of_mem _ ho)]
theorem vD {G H H':List (Nat×Ob)}{ks chg:List Nat}(hp:dZ G ks=some H)(k3:∀ p,p∉chg→assoc H' p=assoc H p)(k4:∀ p∈chg,p∈ks)(p:Nat) :
  assoc (H'++dx G ks) p=ku (assoc G) (chg.map fun p=>(p,assoc H' p)) p:=by
 rw[fT,dQ]
 have hmap:assoc (chg.map fun p=>(p,assoc H' p)) p=if p∈chg then some (assoc H' p) else none:=by
  clear k3 k4
  induction chg with
  | nil=>simp[assoc]
  | cons q r ih=>
   simp only[List.map_cons,assoc,List.mem_cons]
   by_cases e:q=p
   ·simp[e]
   ·have e':¬ p=q:=fun h=>e h.symm
    simp[e,e',ih]
 unfold ku
 rw[hmap]
 by_cases hc:p∈chg
 ·rw[if_pos hc,if_pos (k4 p hc)]
  cases assoc H' p<;>rfl
 ·rw[if_neg hc,k3 p hc]
  obtain⟨i1,i2⟩:=jU hp
  by_cases hk:p∈ks
  ·rw[if_pos hk]
   cases h1:assoc G p with
   | none=>
    cases h2:assoc H p with
    | none=>rfl
    | some y=>rw[(i1 p y h2).2] at h1;cases h1
   | some y=>rw[i2 p y hk h1]
  ·rw[if_neg hk]
   cases h2:assoc H p with
   | none=>rfl
   | some y=>exact (hk (i1 p y h2).1).elim
theorem EH (ht:ay P aq){N:Nat}{cl:List Nat}{i:Nat}{o:Oper}{c:Call}{g:FuncId}{cs:List CV}{sc:St}{ks chg:List Nat}{H:List (Nat×Ob)}{R:CV→St→Prop}(hi:ops[i]? = some o)(hd:aU C.nt o.dst=true)(hc:cg o=some c)(hca:bl sc c=some (g,cs))(hg:bU ops sc o=some true)
  (hp:dZ sc.heap ks=some H) (hB:Body P aq g cs H sc.nx R) (hRR:∀ v s1,R v s1→s1.nx=sc.nx∧j6 ks s1.heap=true∧(∀ p,p∉chg→assoc s1.heap p=assoc H p)∧∀ p∈chg,p∈ks)
  {Q':Exit→Act→World→Prop} {listed:Array Bool} {x:FS} {a:Act} {w:World} {K:Act→World→Prop} (hsz:listed.size=ops.size) (hil:i<ops.size) (hR:Rr C N ops cl listed x a w) (hag:dI ⟨o.looksAt ops,ks,true,none⟩ x (fs sc))
  (hK:∀ Ek a' w',(∃ v s1,R v s1∧Ek=(iR v ks chg s1.heap).1)→Rr C N ops cl (listed.setIfInBounds i true) (ap (bN ops i) Ek x) a' w'→K a' w'):wpOp P ops Q' i K a w:=by
 obtain⟨⟨s1,σ1,e1,hr1,hle,hfree⟩,hcl⟩:=hR
 subst e1
 have hE:jA P g:=by
  obtain⟨fn,code,hf,hbody,hnm,_⟩:=hB
  exact⟨fn,hf,hnm,by simp[hbody]⟩
 obtain⟨hw,hent⟩:=yZ hc hca hg hE hag.1 hr1
 have hdst:bN ops i=o.dst:=by simp[bN,hi]
 have hnx:s1.nx=sc.nx:=hag.2.2.1 rfl
 have hp1:dZ s1.heap ks=some H:=by rw[nJ ks fun p hp=>hag.2.1 p hp];exact hp
 rw[← hnx] at hB
 unfold wpOp
 simp only[hi]
 rw[if_pos hw]
 refine .inl (oH ht (mW.of hp1) hent hB (fun v s2 h p y z h1 h2=>?_) hr1 _ _ fun v s2 v1 w' σ' h hr' hv hold=>?_)
 ·have hm:=rq (hRR v s2 h).2.1 p y h1
  rw[dQ,if_pos hm] at h2
  cases h2
 ·obtain⟨k1,k2,k3,k4⟩:=hRR v s2 h
  refine hK (iR v ks chg s2.heap).1 _ _ ⟨v,s2,h,rfl⟩ ⟨⟨eX ⟨s1.env,s2.heap++dx s1.heap ks,s2.nx⟩ o.dst (some v),σ',?_,j4 hd hr' hv,?_,fun j hj hl=>?_⟩,fun c hc=>getD_set_true (hcl c hc)⟩
  ·rw[hdst]
   refine eT (s:=s1) (fun p=>?_) (by rw[k1,hnx];rfl)
   exact vD hp1 k3 k4 p
  ·have:s2.nx=s1.nx:=by rw[k1,hnx]
   cases o.dst<;>simp only[eX,St.put,this]<;>exact hle
  ·have hij:i≠j:=fun e=>by
    subst e
    rw[Array.getD_eq_getD_getElem?] at hl
    simp[hsz,hil] at hl
   rw[hold (N+j) yA]
   exact hfree j hj yC
theorem sy {G H H':List (Nat×Ob)}{ks chg:List Nat}(hp:dZ G ks=some H)(k3:∀ p,p∉chg→assoc H' p=assoc H p)(k4:∀ p∈chg,p∈ks∨(assoc H' p).isSome=true)(p:Nat) :
  assoc (H'++dx G ks) p=ku (assoc G) (chg.map fun p=>(p,assoc H' p)) p:=by
 rw[fT,dQ]
 have hmap:assoc (chg.map fun p=>(p,assoc H' p)) p=if p∈chg then some (assoc H' p) else none:=by
  clear k3 k4
  induction chg with
  | nil=>simp[assoc]
  | cons q r ih=>
   simp only[List.map_cons,assoc,List.mem_cons]
   by_cases e:q=p
   ·simp[e]
   ·have e':¬ p=q:=fun h=>e h.symm
    simp[e,e',ih]
 unfold ku
 rw[hmap]
 by_cases hc:p∈chg
 ·rw[if_pos hc]
  rcases k4 p hc with h | h
  ·rw[if_pos h]
   cases assoc H' p<;>rfl
  ·obtain⟨y,hy⟩:=Option.isSome_iff_exists.1 h
   rw[hy]
 ·rw[if_neg hc,k3 p hc]
  obtain⟨i1,i2⟩:=jU hp
  by_cases hk:p∈ks
  ·rw[if_pos hk]
   cases h1:assoc G p with
   | none=>
    cases h2:assoc H p with
    | none=>rfl
    | some y=>rw[(i1 p y h2).2] at h1;cases h1
   | some y=>rw[i2 p y hk h1]
  ·rw[if_neg hk]
   cases h2:assoc H p with
   | none=>rfl
   | some y=>exact (hk (i1 p y h2).1).elim
theorem Ck (ht:ay P aq){N:Nat}{cl:List Nat}{i:Nat}{o:Oper}{c:Call}{g:FuncId}{cs:List CV}{sc:St}{ks chg:List Nat}{d:Nat}{H:List (Nat×Ob)}{R:CV→St→Prop}(hi:ops[i]? = some o)(hd:aU C.nt o.dst=true)(hc:cg o=some c)(hca:bl sc c=some (g,cs))(hg:bU ops sc o=some true)
  (hp:dZ sc.heap ks=some H) (hB:Body P aq g cs H sc.nx R) (hRR:∀ v s1,R v s1→s1.nx=sc.nx+d∧(∀ p ob,assoc s1.heap p=some ob→p∈ks∨sc.nx≤p)∧(∀ p,p∉chg→assoc s1.heap p=assoc H p)∧∀ p∈chg,p∈ks∨(assoc s1.heap p).isSome=true)
  {Q':Exit→Act→World→Prop} {listed:Array Bool} {x:FS} {a:Act} {w:World} {K:Act→World→Prop} (hsz:listed.size=ops.size) (hil:i<ops.size) (hR:Rr C N ops cl listed x a w) (hag:dI ⟨o.looksAt ops,ks,true,none⟩ x (fs sc))
  (hK:∀ Ek a' w',(∃ v s1,R v s1∧Ek=(iS v ks chg d s1.heap).1)→Rr C N ops cl (listed.setIfInBounds i true) (ap (bN ops i) Ek x) a' w'→K a' w'):wpOp P ops Q' i K a w:=by
 obtain⟨⟨s1,σ1,e1,hr1,hle,hfree⟩,hcl⟩:=hR
 subst e1
 have hE:jA P g:=by
  obtain⟨fn,code,hf,hbody,hnm,_⟩:=hB
  exact⟨fn,hf,hnm,by simp[hbody]⟩
 obtain⟨hw,hent⟩:=yZ hc hca hg hE hag.1 hr1
 have hdst:bN ops i=o.dst:=by simp[bN,hi]
 have hnx:s1.nx=sc.nx:=hag.2.2.1 rfl
 have hp1:dZ s1.heap ks=some H:=by rw[nJ ks fun p hp=>hag.2.1 p hp];exact hp
 rw[← hnx] at hB
 unfold wpOp
 simp only[hi]
 rw[if_pos hw]
 refine .inl (oH ht (mW.of hp1) hent hB (fun v s2 h p y z h1 h2=>?_) hr1 _ _ fun v s2 v1 w' σ' h hr' hv hold=>?_)
 ·rw[dQ] at h2
  split at h2
  ·cases h2
  ·rename_i hnk
   rcases (hRR v s2 h).2.1 p y h1 with hm | hm
   ·exact hnk hm
   ·obtain⟨B,m1,_⟩:=hr1.obj p z h2
    rw[hr1.nx p yA] at m1
    cases m1
 ·obtain⟨k1,k2,k3,k4⟩:=hRR v s2 h
  refine hK (iS v ks chg d s2.heap).1 _ _ ⟨v,s2,h,rfl⟩ ⟨⟨eX ⟨s1.env,s2.heap++dx s1.heap ks,s2.nx⟩ o.dst (some v),σ',?_,j4 hd hr' hv,?_,fun j hj hl=>?_⟩,fun c hc=>getD_set_true (hcl c hc)⟩
  ·rw[hdst]
   refine eT (s:=s1) (k:=d) (fun p=>?_) (by rw[k1,hnx])
   exact sy hp1 k3 k4 p
  ·have:s2.nx=s1.nx+d:=by rw[k1,hnx]
   cases o.dst<;>simp only[eX,St.put,this]<;>exact Nat.le_trans hle (Nat.le_add_right _ _)
  ·have hij:i≠j:=fun e=>by
    subst e
    rw[Array.getD_eq_getD_getElem?] at hl
    simp[hsz,hil] at hl
   rw[hold (N+j) yA]
   exact hfree j hj yC
end
end Go.Can
