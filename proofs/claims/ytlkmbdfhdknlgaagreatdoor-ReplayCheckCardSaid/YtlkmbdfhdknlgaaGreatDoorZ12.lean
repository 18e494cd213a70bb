/- **A region that draws, walked in one order, calls by their c -/
import Derived.Test.YtlkmbdfhdknlgaaGreatDoorZ11
namespace Go.Can
section
variable {P:Program}{ops:Array Oper}
theorem tT {dst:Nat→Option Tmp}{E E':Nat→Ef}{L:Nat→Bool}:∀ (l:List Nat) (x:FS),(∀ i∈l,E i=E' i)→bI dst E L l x=bI dst E' L l x
 | [],_,_=>rfl
 | i::r,x,h=>by
  simp only[bI];rw[h i List.mem_cons_self];exact tT r _ fun j hj=>h j (List.mem_cons_of_mem _ hj)
theorem C8 {b:Bool}(h:b≠false):b=true:=by cases b<;>simp_all
theorem zT {b:Bool}(h:b≠true):b=false:=by cases b<;>simp_all
theorem AN {pre r:List Nat}{k:Nat}{dst:Nat→Option Tmp}{E:Nat→Ef}{V:Nat→Vw}{Vk:Vw}{OUT:Ef→Prop}{x0:FS}{R:Array Bool→FS→Act→World→Prop}{Q':Exit→Act→World→Prop}
  (hn:(pre++k::r).Nodup) (M4:∀ j,j<ops.size→j∈pre++k::r) (yN:∀ i∈pre++k::r,i<ops.size)
  (R6:∀ p i q,pre++k::r=p++i::q→∀ oi,ops[i]? = some oi→∀ e∈oi.after,Region.binds .any e=true→e.on∈p)
  (Pz:∀ p i q,pre=p++i::q→∀ j∈q,yk ops j i∨BQ (dst i) (dst j) (E i) (E j) (V i) (V j))
  (Np:∀ j∈r,yk ops j k)
  (hk:∀ i∈pre,yk ops k i∨∀ z,dp Vk (ap (dst i) (E i) z) z)
  (oe:∀ p i q,pre=p++i::q→∀ (listed:Array Bool) (x:FS) (a:Act) (w:World) (K:Act→World→Prop),listed.size=ops.size→listed.getD i false=false→R listed x a w→dp (V i) x (bI dst E (fun _=>true) p x0) →
   (∀ a' w',R (listed.setIfInBounds i true) (ap (dst i) (E i) x) a' w'→K a' w')→wpOp P ops Q' i K a w)
  (TU:∀ (listed:Array Bool) (x:FS) (a:Act) (w:World) (K:Act→World→Prop),listed.size=ops.size→listed.getD k false=false→R listed x a w→dp Vk x (bI dst E (fun _=>true) pre x0) →
   (∀ Ek a' w',OUT Ek→R (listed.setIfInBounds k true) (ap (dst k) Ek x) a' w'→K a' w')→wpOp P ops Q' k K a w)
  (Tj:∀ Ek,OUT Ek→∀ (m:Nat) (listed:Array Bool) (a:Act) (w:World),listed.size=ops.size→pE ops listed→listed.getD k false=true→(∀ j∈r,listed.getD j false=false)→((pre++k::r).countP fun j=>!listed.getD j false)=m →
   R listed (ap (dst k) Ek (bI dst E (fun j=>listed.getD j false) pre x0)) a w→wpAny P .any ops Q' m listed a w) :
  ∀ (m:Nat) (listed:Array Bool) (a:Act) (w:World),listed.size=ops.size→pE ops listed→listed.getD k false=false→((pre++k::r).countP fun j=>!listed.getD j false)=m→R listed (bI dst E (fun j=>listed.getD j false) pre x0) a w→wpAny P .any ops Q' m listed a w:=by
 intro m
 induction m with
 | zero=>
  intro listed a w CX De Ke hc hR;have:=List.countP_eq_zero.1 hc k j5;simp[Ke] at this
 | succ m ih=>
  intro listed a w CX De Ke hc hR;refine⟨fun h0=>?_,fun i hi=>?_⟩
  ·exfalso;have:∀ (l p:List Nat),pre++k::r=p++l→(∀ j∈p,listed.getD j false=true)→(∃ i∈l,listed.getD i false=false)→False:=by
    intro l
    induction l with
    | nil=>rintro p _ _ ⟨i,hi,_⟩;cases hi
    | cons j q Vh=>
     intro p ho hp hx
     cases hj:listed.getD j false with
     | true=>
      refine Vh (p++[j]) (by simp[ho]) ?_ ?_
      ·intro t ht;rcases List.mem_append.1 ht with ht | ht
       ·exact hp t ht
       ·have:t=j:=by simpa using ht
        subst this;exact hj
      ·obtain⟨i,hi,hu⟩:=hx;rcases List.mem_cons.1 hi with e | hi
       ·subst e;rw[hj] at hu;cases hu
       ·exact⟨i,hi,hu⟩
     | false=>
      have KT:=yN j (by rw[ho];simp);have Kb:ops[j]? = some ops[j]:=by simp[KT]
      have:j∈Region.ready .any ops listed:=by
       refine mem_ready.2 ⟨mF (by rw[CX];exact KT) hj,_,Kb,fun e he hb=>?_⟩;exact hp _ (R6 p j q ho _ Kb e he hb)
      rw[h0] at this;cases this
   exact this _ [] rfl j5 ⟨k,by simp,Ke⟩
  ·have Mb:listed.getD i false=false:=getD_both (mem_ready.1 hi).1;obtain⟨_,oi,Ol,Ls⟩:=mem_ready.1 hi;have On:=M4 i (Array.getElem?_eq_some_iff.1 Ol).1;have nr:i<listed.size:=by rw[CX];exact yN i On
   have M6:pE ops (listed.setIfInBounds i true):=by
    intro j oj hj hl e he hb;by_cases OH:i=j
    ·subst OH;have:oj=oi:=Option.some.inj (hj.symm.trans Ol);subst this;exact getD_set_true (Ls e he hb)
    ·rw[getD_set_ne false OH] at hl;exact getD_set_true (De j oj hj hl e he hb)
   have TS:((pre++k::r).countP fun j=>!(listed.setIfInBounds i true).getD j false)=m:=by
    have:=count_set (pre++k::r) i listed hn On nr Mb;omega
   have LC:=hn;rw[List.nodup_append,List.nodup_cons] at LC;rcases List.mem_append.1 On with UE | UE
   ·have Wu:i≠k:=fun e=>LC.2.2 i UE k j5 e;obtain⟨p,q,K2⟩:=List.append_of_mem UE;have OS:=LC.1;rw[K2,List.nodup_append,List.nodup_cons] at OS;have Nu:∀ t∈q,listed.getD t false=true→BQ (dst i) (dst t) (E i) (E t) (V i) (V t):=fun t ht hl=>by
     rcases Pz p i q K2 t ht with h | h
     ·have:=h listed De fun ok Kb e he hb=>De t ok Kb hl e he hb;rw[Mb] at this;cases this
     ·exact h
    have Q5:∀ t∈p,listed.getD t false=false→BQ (dst t) (dst i) (E t) (E i) (V t) (V i):=fun t ht hl=>by
     obtain⟨p1,p2,hp⟩:=List.append_of_mem ht;have Ra:pre=p1++t::(p2++i::q):=by rw[K2,hp];simp
     rcases Pz p1 t _ Ra i j5 with h | h
     ·have:=h listed De fun ok Kb e he hb=>by
       rw[Ol] at Kb;cases Kb;exact Ls e he hb
      rw[hl] at this;cases this
     ·exact h
    have Mc:bI dst E (fun j=>listed.getD j false) pre x0=bI dst E (fun j=>listed.getD j false) q (bI dst E (fun j=>listed.getD j false) p x0):=by
     rw[K2,dd];simp only[bI,Mb,Bool.false_eq_true,if_false]
    refine oe p i q K2 listed _ a w _ CX Mb hR ?_ fun a' w' Ua=>?_
    ·rw[Mc];have e1:dp (V i) (bI dst E (fun j=>listed.getD j false) q (bI dst E (fun j=>listed.getD j false) p x0)) (bI dst E (fun j=>listed.getD j false) p x0):=by
      have:=fG (V:=V i) (dst:=dst) (E:=E) (L:=fun j=>listed.getD j false) (L':=fun _=>false) q _ _ (fun t ht F0 z=>by
       have hl:listed.getD t false=true:=C8 F0;have h:=Nu t ht hl;exact lL h.s2 h.h2 h.n2 h.a2 z) (dp.refl (V i) (bI dst E (fun j=>listed.getD j false) p x0))
      rwa [nj] at this
     refine e1.trans (fG p _ _ (fun t ht F0 z=>?_) (dp.refl _ _));have hl:listed.getD t false=false:=zT F0;have h:=Q5 t ht hl;exact lL h.s1 h.h1 h.n1 h.a1 z
    ·refine ih _ a' w' (by simpa using CX) M6 (by rw[getD_set_ne false Wu];exact Ke) TS ?_;have LA:(listed.setIfInBounds i true).getD i false=true:=by simp[nr]
     have key:bI dst E (fun j=>(listed.setIfInBounds i true).getD j false) pre x0=ap (dst i) (E i) (bI dst E (fun j=>listed.getD j false) pre x0):=by
      rw[Mc,K2,dd];simp only[bI,LA,if_true];rw[eG p x0 (L':=fun j=>listed.getD j false) fun t ht=>getD_set_ne false (fun e=>by subst e;exact OS.2.2 i ht i j5 rfl)];rw[eG q _ (L':=fun j=>listed.getD j false) fun t ht=>getD_set_ne false (fun e=>by subst e;exact OS.2.1.1 ht)];exact kC q _ fun t ht hl z=>Ax (Nu t ht hl) z
     rw[key];exact Ua
   ·rcases List.mem_cons.1 UE with Wu | Py
    ·subst Wu;refine TU listed _ a w _ CX Mb hR ?_ fun Ek a' w' hO Ua=>?_
     ·refine fG pre _ _ (fun t ht F0 z=>?_) (dp.refl _ _);have hl:listed.getD t false=false:=zT F0;rcases hk t ht with h | h
      ·have:=h listed De fun ok Kb e he hb=>by
        rw[Ol] at Kb;cases Kb;exact Ls e he hb
       rw[hl] at this;cases this
      ·exact h z
     ·refine Tj Ek hO _ _ a' w' (by simpa using CX) M6 (by simp[nr]) (fun j hj=>?_) TS ?_
      ·rw[getD_set_ne false fun e=>by subst e;exact LC.2.1.1 hj]
       cases Yh:listed.getD j false with
       | false=>rfl
       | true=>
        have:=Np j hj listed De fun oj Uz e he hb=>De j oj Uz Yh e he hb;rw[Mb] at this;cases this
      ·rw[eG pre x0 (L':=fun j=>listed.getD j false) fun t ht=>getD_set_ne false fun e=>by subst e;exact LC.2.2 i ht i j5 rfl];exact Ua
    ·have:=Np i Py listed De fun ok Kb e he hb=>by
      rw[Ol] at Kb;cases Kb;exact Ls e he hb
     rw[Ke] at this;cases this
end
def yv (res:Nat→Er)(i:Nat)(x:Er):Nat→Er:=fun j=>if j=i then x else res j
def chk (dyn:List (Nat×Nat))(res:Nat→Er)(i:Nat)(x:Er):Bool:=dyn.all fun p=>p.2 != i || rF (res p.1) x
def xU (dyn:List (Nat×Nat))(res:Nat→Er)(i:Nat)(ks:List Nat):Bool:=dyn.all fun p=>p.2 != i || (((res p.1).1.w.all fun q=>!ks.contains q.1) && (res p.1).1.k == 0)
def note (dyn:List (Nat×Nat))(res:Nat→Er)(i:Nat)(x:Er):Nat→Er:=if dyn.any (fun p=>p.1 == i) then yv res i x else res
def ny (v:CV)(ks dO:List Nat)(H':List (Nat×Ob)):Er:=(⟨some v,dO.map fun p=>(p,assoc H' p),0⟩,ks,true,none)
def hU (v:CV)(ks dO:List Nat)(d:Nat)(H':List (Nat×Ob)):Er:=(⟨some v,dO.map fun p=>(p,assoc H' p),d⟩,ks,true,none)
def gB (v:CV):Er:=(⟨some v,[],0⟩,[],false,none)
abbrev oR:=Nat×Nat×List CV
def vJ (c:oR)(ob:Option Ob):Prop:=∃ x,ob=some x∧(x.cells.drop c.2.1).take c.2.2.length=c.2.2
def IF (W:List oR)(w:List (Nat×Option Ob)):Prop:=∀ c∈W,∀ q∈w,q.1=c.1→vJ c q.2
theorem Ay (w:List (Nat×Option Ob)):IF [] w:=fun _ h=>by cases h
def ss (W:List oR)(h:Nat→Option Ob):Prop:=∀ c∈W,vJ c (h c.1)
theorem uu {W:List oR}{d:Option Tmp}{E:Ef}{x:FS}(h:ss W x.h)(hw:IF W E.w):ss W (ap d E x).h:=fun c hc=>by
 show vJ c (jc x.h E.w c.1);unfold jc;split
 ·rename_i y hy;exact hw c hc _ (br _ _ _ hy) rfl
 ·exact h c hc
def rV (W:List oR)(dyn:List (Nat×Nat))(res:Nat→Er)(i:Nat)(x:Er):Prop:=chk dyn res i x=true∧IF W x.1.w
def zR:eP:=fun _ _ _ _=>none
def zQ:FuncId→List CV→Option CV:=fun _ _=>none
section
variable {P:Program}{C:Cx}{s:St}{ops:Array Oper}{ak:List (Nat×TI)}{mt:gh}{call:eP}{pc:FuncId→List CV→Option CV}
theorem iJ (res:Nat→Er)(i:Nat)(x:Er):yv res i x i=x:=if_pos rfl
theorem yu (res:Nat→Er){i j:Nat}(x:Er)(h:j≠i):yv res i x j=res j:=if_neg h
def vG (ops:Array Oper)(x:Er)(i:Nat):Vw:=⟨(match ops[i]? with | some o=>o.looksAt ops | none=>[]),x.2.1,x.2.2.1,x.2.2.2⟩
theorem tO (x:Er)(v:CV):rF x (gB v)=true:=by
 simp[rF,gB,lX,qU]
def EE (x:Er):Prop:=x.1.w=[]∧x.1.k=0∧x.2.2.1=false∧x.2.2.2=none
def Rr (C:Cx)(N:Nat)(ops:Array Oper)(cl:List Nat)(listed:Array Bool)(x:FS)(a:Act)(w:World):Prop:=
 (∃ s σ,fs s=x∧aB C σ s a w∧N+ops.size≤s.nx∧∀ j,j<ops.size→listed.getD j false=false→σ (N+j)=none)∧∀ c∈cl,listed.getD c false=true
def Kn (P:Program)(C:Cx)(ops:Array Oper)(N:Nat)(W:List oR)(r:Er)(i:Nat)(f:FS):Prop:=∃ o,ops[i]? = some o∧(gU o=false→EE r)∧(mJ o=true→r.2.1=[])∧IF W r.1.w∧
 ∀ (cl:List Nat) (Q':Exit→Act→World→Prop) (listed:Array Bool) (x:FS) (a:Act) (w:World) (K:Act→World→Prop),listed.size=ops.size→i<ops.size→listed.getD i false=false→Rr C N ops cl listed x a w→ss W x.h→dp (vG ops r i) x f →
  (∀ a' w',Rr C N ops cl (listed.setIfInBounds i true) (ap (cF ops i) r.1 x) a' w'→K a' w')→wpOp P ops Q' i K a w
theorem Fi {dyn:List (Nat×Nat)}{N:Nat}{W:List oR}{r x:Er}{i j:Nat}{oj:Oper}{f:FS}(hp:tw ops dyn i j=true)(hi:Kn P C ops N W r i f)(Uz:ops[j]? = some oj)
  (hq:gU oj=false→EE x) (hs:mJ oj=true→x.2.1=[]) (hd:(i,j)∈dyn→rF r x=true) :
  BQ (cF ops i) (cF ops j) r.1 x.1 (vG ops r i) ⟨oj.looksAt ops,x.2.1,x.2.2.1,x.2.2.2⟩:=by
 obtain⟨oi,q1,q2,q3,_⟩:=hi;unfold tw at hp;rw[q1,Uz] at hp;simp only[Bool.or_eq_true,Bool.and_eq_true] at hp;obtain⟨T1,hp⟩:=hp;obtain⟨a1,a2,a3⟩:=Oper.apart_spec T1;have hV:vG ops r i=⟨oi.looksAt ops,r.2.1,r.2.2.1,r.2.2.2⟩:=by simp only[vG,q1]
 rw[hV,show cF ops i=oi.dst by simp[cF,q1],show cF ops j=oj.dst by simp[cF,Uz]];have hb:rF r x=true:=by
  rcases hp with ((hp | hp) | hp) | hp
  ·exact hd (by simpa using hp)
  ·simp only[Bool.not_eq_true'] at hp;obtain⟨u1,u2,u3,u4⟩:=q2 hp.1;obtain⟨v1,v2,v3,v4⟩:=hq hp.2;simp[rF,lX,u1,u2,u3,u4,v1,v2,v3,v4]
  ·obtain⟨u1,u2,u3,u4⟩:=q2 U1;simp[rF,qU,lX,u1,u2,u3,u4,q3 hp]
  ·obtain⟨u1,u2,u3,u4⟩:=hq U1;simp[rF,qU,lX,u1,u2,u3,u4,hs hp]
 exact H3 hb a1 a3 a2
theorem BG {o:Oper}{c:Call}(h:bR o=some c):gU o=true:=by
 have Fm:=fB h;unfold bR at h;rw[Fm] at h;unfold gU;rw[Fm];simp only at h ⊢;split at h
 ·cases h
 ·split<;>simp_all
theorem tF:gM P []:=fun x hx=>by cases hx
theorem BH {c:Call}{x:FuncId×List CV}(h:bl s c=some x):gG [] s c=some x:=by
 unfold gG
 cases hc:c.callee with
 | value f=>exact h
 | _=>simp[bl,hc] at h
theorem rL {σ:Nat→Option OB}{N i:Nat}{listed:Array Bool}(CX:listed.size=ops.size)(nr:i<ops.size)(Lm:∀ j,j<ops.size→listed.getD j false=false→σ (N+j)=none)(j:Nat)(hj:j<ops.size)(hl:(listed.setIfInBounds i true).getD j false=false):σ (N+j)=none:=by
 have OH:i≠j:=fun e=>by
  subst e;rw[Array.getD_eq_getD_getElem?] at hl;simp[CX,nr] at hl
 exact Lm j hj (by rwa [getD_set_ne false OH] at hl)
theorem Kn.eff (ht:ay P ak)(OT:gM P mt)(De:fv P ak call)(kp:sP P pc){N:Nat}(Uc:C.n0≤N){W:List oR}{r:Er}{i:Nat}{o:Oper}{sm:St}(q1:ops[i]? = some o)(q2:a9 C.nt o.dst=true)(q3:rO ak mt ops call pc N (N+ops.size) (N+i) sm o=some r)(hW:IF W r.1.w):Kn P C ops N W r i (fs sm):=by
 refine⟨o,q1,AY q3,Cz q3,hW,?_⟩;intro cl Q' listed x a w K CX nr Mb ⟨⟨s1,σ1,e1,KL,hle,Lm⟩,WU⟩ _ LZ hK;have hd:cF ops i=o.dst:=by simp[cF,q1]
 subst e1;rw[show vG ops r i=⟨o.looksAt ops,r.2.1,r.2.2.1,r.2.2.2⟩ by simp only[vG,q1]] at LZ;refine FW ht OT De kp (m:=N+i) q3 q2 q1 LZ KL (Lm i nr Mb) yA yA K fun a' w' σ' L3 h1 h2 h3=>?_;refine hK a' w' ⟨⟨L3,σ',by rw[h1,hd],h2,?_,fun j hj hl=>?_⟩,fun c hc=>getD_set_true (WU c hc)⟩
 ·have:(fs L3).n=(fs s1).n+r.1.k:=by rw[h1];rfl
  simp only[fs] at this;omega
 ·have OH:i≠j:=fun e=>by
   subst e;rw[Array.getD_eq_getD_getElem?] at hl;simp[CX,nr] at hl
  rw[h3 (N+j) yA yA];exact Lm j hj (by rwa [getD_set_ne false OH] at hl)
def XV (P:Program)(W:List oR)(o:Oper)(s:St)(v:CV):Prop:=∀ (C:Cx) (σ:Nat→Option OB) (s1:St) (a:Act) (w:World),(∀ x∈o.op.operands,ev s1 x=ev s x)→ss W (assoc s1.heap)→aB C σ s1 a w→∃ z,(execOp a.eval o).run P w=.ok (.value z) w∧VR w (FB C σ s1.heap) σ v z
theorem Kn.quiet {N:Nat}{W:List oR}{i:Nat}{o:Oper}{sm:St}{v:CV}(q1:ops[i]? = some o)(q2:a9 C.nt o.dst=true)(hg:bM ops sm o=some true)(hx:XV P W o sm v):Kn P C ops N W (gB v) i (fs sm):=by
 refine⟨o,q1,fun _=>⟨rfl,rfl,rfl,rfl⟩,fun _=>rfl,(fun _ _ _ h=>by cases h),?_⟩;intro cl Q' listed x a w K CX nr Mb ⟨⟨s1,σ1,e1,KL,hle,Lm⟩,WU⟩ hw LZ hK;subst e1;rw[show vG ops (gB v) i=⟨o.looksAt ops,[],false,none⟩ by simp only[vG,q1,gB]] at LZ;have L6:=nc (ops:=ops) (s:=sm) (s':=s1) LZ.1;rw[hg] at L6;obtain⟨z,hz,hv⟩:=hx C σ1 s1 a w (vd LZ.1) hw KL;unfold wpOp;simp only[q1];rw[if_pos (dR (ops:=ops) ⟨σ1,KL⟩ L6)];refine .inl ?_;unfold Oper.wp;rw[hz];refine hK _ _ ⟨⟨s1.put o.dst v,σ1,?_,iQ q2 KL hv,?_,rL CX nr Lm⟩,fun c hc=>getD_set_true (WU c hc)⟩
 ·rw[show cF ops i=o.dst by simp[cF,q1]];exact lH _ _ _
 ·cases o.dst<;>exact hle
theorem Au {o:Oper}{c:Call}{g:FuncId}{cs:List CV}{sc s1:St}{σ:Nat→Option OB}{a:Act}{w:World}(hc:bR o=some c)(Kj:bl sc c=some (g,cs))(hg:bM ops sc o=some true)(hE:jR P g)
  (Md:∀ t∈o.looksAt ops,assoc s1.env t=assoc sc.env t) (hr:aB C σ s1 a w):Region.wanted o (yielded ops a.tmps)=true∧uq P C s1 o g cs:=by
 have Fm:=fB hc;have ME:=vd Md;have L6:=nc (ops:=ops) Md;rw[hg] at L6;have K9:gG [] s1 c=some (g,cs):=by
  rw[pW (fun x hx=>ME x (by rw[Fm];exact hx)),BH Kj]
 exact⟨dR (ops:=ops) ⟨σ,hr⟩ L6,uq.to tF Fm K9 hE⟩
def Gj (P:Program)(ak:List (Nat×TI))(ops:Array Oper)(nt N i:Nat)(o:Oper)(sc:St)(ks:List Nat)(nb:Bool)(OUT:Er→St→Prop):Prop:=
 ay P ak→∀ (C:Cx) (cl:List Nat) (Q':Exit→Act→World→Prop) (listed:Array Bool) (x:FS) (a:Act) (w:World) (K:Act→World→Prop),C.nt=nt→listed.size=ops.size→i<ops.size→Rr C N ops cl listed x a w→dp ⟨o.looksAt ops,ks,nb,none⟩ x (fs sc) →
  (∀ e s' a' w',OUT e s'→Rr C N ops cl (listed.setIfInBounds i true) (ap (cF ops i) e.1 x) a' w'→K a' w')→wpOp P ops Q' i K a w
def G0 (P:Program)(ak:List (Nat×TI))(mt:gh)(call:eP)(pc:FuncId→List CV→Option CV)(q:Bool)(W:List oR)(nt:Nat)(ops:Array Oper)(N:Nat)(dyn:List (Nat×Nat))(K:St→Prop):List Nat→(Nat→Er)→St→Prop
 | [],_,s=>K s
 | i::r,res,s=>∃ o,ops[i]? = some o∧a9 nt o.dst=true∧
   ((∃ x,rO ak mt ops call pc N (N+ops.size) (N+i) s o=some x∧rV W dyn res i x∧G0 P ak mt call pc q W nt ops N dyn K r (note dyn res i x) (JK o.dst x.1 s))∨
    (bM ops s o=some true∧∃ v,XV P W o s v∧G0 P ak mt call pc q W nt ops N dyn K r (note dyn res i (gB v)) (s.put o.dst v))∨
    (∃ ks nb OUT,q=true∧(bR o).isSome=true∧Gj P ak ops nt N i o s ks nb OUT∧
     (∀ p∈dyn,p.2=i→(∀ q∈(res p.1).1.w,q.1∉ks)∧(nb=true→(res p.1).1.k=0))∧
     ∀ e s',OUT e s'→fs s'=ap o.dst e.1 (fs s)∧rV W dyn res i e∧G0 P ak mt call pc q W nt ops N dyn K r (note dyn res i e) s'))
abbrev RX (P:Program)(ak:List (Nat×TI))(W:List oR)(nt:Nat)(ops:Array Oper)(N:Nat)(dyn:List (Nat×Nat))(K:St→Prop):=G0 P ak [] zR zQ true W nt ops N dyn K
theorem Gj.pure {nt N i:Nat}{o:Oper}{c:Call}{g:FuncId}{cs:List CV}{sc:St}{G:CV→Prop}(hi:ops[i]? = some o)(hd:a9 nt o.dst=true)(hc:bR o=some c)(Kj:bl sc c=some (g,cs))(hg:bM ops sc o=some true)(LN:trees cs=true)(hP:kU P g cs G) :
  Gj P ak ops nt N i o sc [] false fun e s'=>∃ v,G v∧e=gB v∧s'=sc.put o.dst v:=by
 rintro _ C cl Q' listed x a w K rfl CX nr ⟨⟨s1,σ1,e1,KL,hle,Lm⟩,De⟩ LZ hK;subst e1;obtain⟨hw,Rw⟩:=Au hc Kj hg hP.1 LZ.1 KL;unfold wpOp;simp only[hi];rw[if_pos hw];refine .inl (wB Rw LN hP KL _ _ fun v v1 w' hG KF hv=>?_);refine hK (gB v) _ _ _ ⟨v,hG,rfl,rfl⟩ ⟨⟨s1.put o.dst v,σ1,?_,iQ hd KF hv,?_,rL CX nr Lm⟩,fun c hc=>getD_set_true (De c hc)⟩
 ·rw[show cF ops i=o.dst by simp[cF,hi]];exact lH _ _ _
 ·cases o.dst<;>exact hle
theorem pP {G G':List (Nat×Ob)}:∀ (ks:List Nat),(∀ o∈ks,assoc G o=assoc G' o)→er G ks=er G' ks
 | [],_=>rfl
 | k::ks,h=>by
  simp only[er];rw[h k List.mem_cons_self,pP ks fun o ho=>h o (List.mem_cons_of_mem _ ho)]
theorem p4 {G H H':List (Nat×Ob)}{ks dO:List Nat}(hp:er G ks=some H)(k3:∀ p,p∉dO→assoc H' p=assoc H p)(k4:∀ p∈dO,p∈ks∨(assoc H' p).isSome=true)(p:Nat) :
  assoc (H'++dG G ks) p=jc (assoc G) (dO.map fun p=>(p,assoc H' p)) p:=by
 rw[fI,eH];have Mh:assoc (dO.map fun p=>(p,assoc H' p)) p=if p∈dO then some (assoc H' p) else none:=by
  clear k3 k4
  induction dO with
  | nil=>simp[assoc]
  | cons q r ih=>
   simp only[List.map_cons,assoc,List.mem_cons];by_cases e:q=p
   ·simp[e]
   ·have e':¬ p=q:=fun h=>e h.symm;simp[e,e',ih]
 unfold jc;rw[Mh];by_cases hc:p∈dO
 ·rw[if_pos hc];rcases k4 p hc with h | h
  ·rw[if_pos h];cases assoc H' p<;>rfl
  ·obtain⟨y,hy⟩:=Option.isSome_iff_exists.1 h;rw[hy]
 ·rw[if_neg hc,k3 p hc];obtain⟨i1,i2⟩:=j3 hp;by_cases hk:p∈ks
  ·rw[if_pos hk]
   cases h1:assoc G p with
   | none=>
    cases h2:assoc H p with
    | none=>rfl
    | some y=>rw[(i1 p y h2).2] at h1;cases h1
   | some y=>rw[i2 p y hk h1]
  ·rw[if_neg hk]
   cases h2:assoc H p with
   | none=>rfl
   | some y=>exact (hk (i1 p y h2).1).elim
theorem Gj.body {nt N i:Nat}{o:Oper}{c:Call}{g:FuncId}{cs:List CV}{sc:St}{ks dO:List Nat}{d:Nat}{H:List (Nat×Ob)}{R:CV→St→Prop}(hi:ops[i]? = some o)(hd:a9 nt o.dst=true)(hc:bR o=some c)(Kj:bl sc c=some (g,cs))(hg:bM ops sc o=some true)
  (hp:er sc.heap ks=some H) (hB:Body P ak g cs H sc.nx R) (OK:∀ v s1,R v s1→s1.nx=sc.nx+d∧(∀ p ob,assoc s1.heap p=some ob→p∈ks∨sc.nx≤p)∧(∀ p,p∉dO→assoc s1.heap p=assoc H p)∧∀ p∈dO,p∈ks∨(assoc s1.heap p).isSome=true) :
  Gj P ak ops nt N i o sc ks true fun e s'=>∃ v s1,R v s1∧e=hU v ks dO d s1.heap∧s'=St.put ⟨sc.env,s1.heap++dG sc.heap ks,sc.nx+d⟩ o.dst v:=by
 rintro ht C cl Q' listed x a w K rfl CX nr ⟨⟨s1,σ1,e1,KL,hle,Lm⟩,De⟩ LZ hK;subst e1;have hE:jR P g:=by
  obtain⟨fn,code,hf,LJ,KV,_⟩:=hB;exact⟨fn,hf,KV,by simp[LJ]⟩
 obtain⟨hw,Rw⟩:=Au hc Kj hg hE LZ.1 KL;have KB:s1.nx=sc.nx:=LZ.2.2.1 rfl;have Mf:er s1.heap ks=some H:=by rw[pP ks fun p hp=>LZ.2.1 p hp];exact hp
 rw[← KB] at hB;unfold wpOp;simp only[hi];rw[if_pos hw];refine .inl (qA ht (mP.of Mf) Rw hB (fun v s2 h p y z h1 h2=>?_) KL _ _ fun v s2 v1 w' σ' h KF hv hold=>?_)
 ·rw[eH] at h2;split at h2
  ·cases h2
  ·rename_i ZB;rcases (OK v s2 h).2.1 p y h1 with hm | hm
   ·exact ZB hm
   ·obtain⟨B,m1,_⟩:=KL.obj p z h2;rw[KL.nx p yA] at m1;cases m1
 ·obtain⟨k1,k2,k3,k4⟩:=OK v s2 h;refine hK (hU v ks dO d s2.heap) _ _ _ ⟨v,s2,h,rfl,rfl⟩ ⟨⟨nX ⟨s1.env,s2.heap++dG s1.heap ks,s2.nx⟩ o.dst (some v),σ',?_,iQ hd KF hv,?_,rL CX nr fun j hj hl=>by rw[hold (N+j) yA];exact Lm j hj hl⟩,fun c hc=>getD_set_true (De c hc)⟩
  ·rw[show cF ops i=o.dst by simp[cF,hi]];exact fF (s:=s1) (k:=d) (p4 Mf k3 k4) (by rw[k1,KB])
  ·have:s2.nx=s1.nx+d:=by rw[k1,KB]
   cases o.dst<;>simp only[nX,St.put,this]<;>exact Nat.le_trans hle (Nat.le_add_right _ _)
theorem Gj.fs {sc:St}{ks dO:List Nat}{d:Nat}{H H1:List (Nat×Ob)}{o:Oper}{v:CV}(hp:er sc.heap ks=some H)(k3:∀ p,p∉dO→assoc H1 p=assoc H p)(k4:∀ p∈dO,p∈ks∨(assoc H1 p).isSome=true):fs (St.put ⟨sc.env,H1++dG sc.heap ks,sc.nx+d⟩ o.dst v)=ap o.dst (hU v ks dO d H1).1 (fs sc):=
 fF (s:=sc) (k:=d) (r:=some v) (p4 hp k3 k4) rfl
end
end Go.Can
