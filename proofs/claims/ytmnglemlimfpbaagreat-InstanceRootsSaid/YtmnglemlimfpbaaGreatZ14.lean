/- **A region that draws, by one order.** No function of the program is mentioned here. | The only object of one's own gets another number; no function of the program is mentioned here. | Rows of records, written out as cells. No function of the program is mentioned here. | The program's data as plain values, and how they read as cells. No function of the program is mentioned here. -/
import Derived.Test.YtmnglemlimfpbaaGreatZ13
namespace Go.Can
open Go.RowKit
abbrev Er:=Ef×List Nat×Bool×Option (Nat×Nat)
instance : Inhabited Er := ⟨(⟨none, [], 0⟩, [], false, none)⟩
def gf (o:Oper):Bool:=match o.op with
 | .alloc _=>true
 | .box _ _=>true
 | .buildSlice _ _ _=>true
 | .makeSlice _ _ _=>true
 | .store _ _ _=>true
 | .call c=>match c.callee with
  | .builtin .append=>true
  | .builtin _=>false
  | _=>true
 | _=>false
def kD (o:Oper):Bool:=!gf o && match o.op with
 | .load _ _=>false
 | .slice _ _ _ _ _=>false
 | .convert _ _ _=>false
 | _=>true
def DH (ops:Array Oper):List Nat→List Nat→Bool
 | _,[]=>true
 | pre,i::r=>(match ops[i]? with
   | some o=>o.after.all fun e=>!Region.binds .any e || pre.contains e.on
   | none=>false) && DH ops (i::pre) r
def uO (ops:Array Oper)(dyn:List (Nat×Nat))(i j:Nat):Bool:=match ops[i]?,ops[j]? with
 | some oi,some oj=>lW ops ops.size j i || (oi.apart ops oj && (dyn.contains (i,j) || (!gf oi && !gf oj) || kD oi || kD oj))
 | _,_=>false
def sb (ops:Array Oper)(dyn:List (Nat×Nat)):List Nat→Bool
 | []=>true
 | i::r=>(r.all fun j=>uO ops dyn i j) && sb ops dyn r
def rG (ops:Array Oper)(ord:List Nat)(dyn:List (Nat×Nat)):Bool:=
 decide ord.Nodup && ((List.range ops.size).all fun j=>ord.contains j) && (ord.all fun i=>decide (i<ops.size)) && DH ops [] ord && sb ops dyn ord
def zp (w:List (Nat×Option Ob)):Option (Nat×Nat)→Bool
 | none=>true
 | some r=>w.all fun p=>decide (r.1≤p.1) && decide (p.1<r.2)
theorem gW (w:List (Nat×Option Ob)):zp w none=true:=rfl
theorem mb (r:Option (Nat×Nat)):zp [] r=true:=by cases r<;>rfl
def la (x y:Er):Bool:=
 (x.1.w.all fun p=>!y.2.1.contains p.1 && (y.1.w.all fun q=>q.1 != p.1)) && (y.1.w.all fun q=>!x.2.1.contains q.1) && (!y.2.2.1 || x.1.k == 0) && (!x.2.2.1 || y.1.k == 0) && zp x.1.w y.2.2.2 && zp y.1.w x.2.2.2
def dynB (l:List (Nat×Er))(dyn:List (Nat×Nat)):Bool:=dyn.all fun p=>match assoc l p.1,assoc l p.2 with
 | some x,some y=>la x y
 | _,_=>false
def C5 (aj:List (Nat×TI))(mt:jB)(nt:Nat)(ops:Array Oper)(call:fF)(pc:FuncId→List CV→Option CV)(N:Nat):List Nat→St→Option (List (Nat×Er)×St)
 | [],s=>some ([],s)
 | i::r,s=>match ops[i]? with
  | none=>none
  | some o=>if aW nt o.dst=true then match p9 aj mt ops call pc N (N+ops.size) (N+i) s o with
    | none=>none
    | some x=>match C5 aj mt nt ops call pc N r (I5 o.dst x.1 s) with
     | none=>none
     | some (l,s')=>some ((i,x)::l,s')
   else none
def CS (aj:List (Nat×TI))(mt:jB)(nt:Nat)(ops:Array Oper)(call:fF)(pc:FuncId→List CV→Option CV)(ord:List Nat)(dyn:List (Nat×Nat))(s:St):Option St:=
 match C5 aj mt nt ops call pc s.nx ord { s with nx:=s.nx+ops.size } with
 | none=>none
 | some (l,s')=>if dynB l dyn=true then some s' else none
section
variable {P:Program}{C:Cx}{s s':St}{ops:Array Oper}{aj:List (Nat×TI)}{mt:jB}{pc:FuncId→List CV→Option CV}{call:fF}
def mG (aj:List (Nat×TI))(mt:jB)(nt:Nat)(ops:Array Oper)(call:fF)(pc:FuncId→List CV→Option CV)(N:Nat)(res:Nat→Er):List Nat→St→St→Prop
 | [],s,s'=>s=s'
 | i::r,s,s'=>∃ o,ops[i]? = some o∧aW nt o.dst=true∧p9 aj mt ops call pc N (N+ops.size) (N+i) s o=some (res i)∧mG aj mt nt ops call pc N res r (I5 o.dst (res i).1 s) s'
theorem mG.ext {nt N:Nat}{res res':Nat→Er}:∀ (l:List Nat) (s s':St),(∀ i∈l,res i=res' i)→mG aj mt nt ops call pc N res l s s'→mG aj mt nt ops call pc N res' l s s'
 | [],_,_,_,h=>h
 | i::r,s,s',he,⟨o,h1,h2,h3,h4⟩=>by
  have e:=he i (by simp)
  rw[e] at h3 h4
  exact⟨o,h1,h2,h3,mG.ext r _ s' (fun j hj=>he j (by simp[hj])) h4⟩
theorem Aj {nt N:Nat}:∀ (ord:List Nat) (s s':St) (l:List (Nat×Er)),ord.Nodup→C5 aj mt nt ops call pc N ord s=some (l,s')→mG aj mt nt ops call pc N (fun i=>(assoc l i).getD default) ord s s'
 | [],s,s',l,_,h=>by
  simp only[C5,Option.some.injEq,Prod.mk.injEq] at h
  exact h.2
 | i::r,s,s',l,hn,h=>by
  rw[List.nodup_cons] at hn
  simp only[C5] at h
  split at h
  ·cases h
  ·rename_i o ho
   split at h
   ·rename_i hd
    split at h
    ·cases h
    ·rename_i x hx
     split at h
     ·cases h
     ·rename_i l' s1 hr
      cases h
      have ih:=Aj r _ _ l' hn.2 hr
      have e0:((assoc ((i,x)::l') i).getD default)=x:=by simp[assoc]
      refine⟨o,ho,hd,by simp only[e0];exact hx,?_⟩
      simp only[e0]
      refine mG.ext r _ _ (fun j hj=>?_) ih
      have:i≠j:=fun e=>hn.1 (by subst e;exact hj)
      simp[assoc,this]
   ·cases h
theorem mG.at_ {nt N:Nat}{res:Nat→Er}:∀ (pre:List Nat) (i:Nat) (post:List Nat) (s s':St),mG aj mt nt ops call pc N res (pre++i::post) s s' →
  ∃ o sm,ops[i]? = some o∧aW nt o.dst=true∧p9 aj mt ops call pc N (N+ops.size) (N+i) sm o=some (res i)∧fs sm=bC (bH ops) (fun j=>(res j).1) (fun _=>true) pre (fs s)
 | [],i,post,s,s',⟨o,h1,h2,h3,_⟩=>⟨o,s,h1,h2,h3,rfl⟩
 | k::pre,i,post,s,s',⟨o,h1,h2,h3,h4⟩=>by
  obtain⟨o',sm,k1,k2,k3,k4⟩:=mG.at_ pre i post _ s' h4
  refine⟨o',sm,k1,k2,k3,?_⟩
  rw[k4,wy]
  have:bH ops k=o.dst:=by simp[bH,h1]
  simp only[bC,if_true,this]
theorem mG.fin {nt N:Nat}{res:Nat→Er}:∀ (l:List Nat) (s s':St),mG aj mt nt ops call pc N res l s s'→fs s'=bC (bH ops) (fun j=>(res j).1) (fun _=>true) l (fs s)
 | [],s,s',h=>by cases h;rfl
 | k::l,s,s',⟨o,h1,h2,h3,h4⟩=>by
  rw[mG.fin l _ s' h4,wy]
  have:bH ops k=o.dst:=by simp[bH,h1]
  simp only[bC,if_true,this]
theorem fY {lo hi m:Nat}{o:Oper}{x:Er}(h:p9 aj mt ops call pc lo hi m s o=some x)(hl:gf o=false):x.1.w=[]∧x.1.k=0∧x.2.2.1=false∧x.2.2.2=none:=by
 unfold p9 at h
 split at h
 ·cases h
 ·cases h;exact⟨rfl,rfl,rfl,rfl⟩
 ·split at h
  ·rename_i c hu
   have hop:=fW hu
   exfalso
   unfold bV at hu
   rw[hop] at hu
   simp only at hu
   simp only[gf,hop] at hl
   cases hcl:c.callee<;>rw[hcl] at hu hl<;>simp at hu hl
  ·split at h
   ·cases h;exact⟨rfl,rfl,rfl,rfl⟩
   ·split at h
    ·cases h;exact⟨rfl,rfl,rfl,rfl⟩
    split at h
    ·rename_i ob f hv
     exfalso
     revert hl hv
     cases hop:o.op<;>simp[gf,hop,pt,mC]
    ·split at h
     ·rename_i hop;simp[gf,hop] at hl
     ·rename_i cl hop
      split at h
      ·rename_i hcl _ _
       simp[gf,hop,hcl] at hl
      ·cases h
     ·cases h
theorem oI {lo hi m:Nat}{o:Oper}{x:Er}(h:p9 aj mt ops call pc lo hi m s o=some x)(hl:kD o=true):x.2.1=[]:=by
 simp only[kD,Bool.and_eq_true,Bool.not_eq_true'] at hl
 obtain⟨hl,hs⟩:=hl
 unfold p9 at h
 split at h
 ·cases h
 ·cases h;rfl
 ·split at h
  ·rename_i c hu
   have hop:=fW hu
   exfalso
   unfold bV at hu
   rw[hop] at hu
   simp only at hu
   simp only[gf,hop] at hl
   cases hcl:c.callee<;>rw[hcl] at hu hl<;>simp at hu hl
  ·split at h
   ·cases h
    simp only
    unfold DB
    split
    ·rename_i hop;simp[hop] at hs
    ·rename_i hop;simp[hop] at hs
    ·rfl
   ·split at h
    ·rename_i c' rs' hv
     exfalso
     unfold Bc at hv
     split at hv
     ·rename_i hop
      simp[hop] at hs
     ·cases hv
    split at h
    ·cases h;rfl
    ·split at h
     ·rename_i hop;simp[gf,hop] at hl
     ·rename_i cl hop
      split at h
      ·rename_i hcl _ _
       simp[gf,hop,hcl] at hl
      ·cases h
     ·cases h
theorem Eg {d d':Option Tmp}{V V':List Nat}{x y:Er}(h:la x y=true)(s1:∀ t,d=some t→t∉V')(s2:∀ t,d'=some t→t∉V)(s3:∀ t,d=some t→d'≠some t):CB d d' x.1 y.1 ⟨V,x.2.1,x.2.2.1,x.2.2.2⟩ ⟨V',y.2.1,y.2.2.1,y.2.2.2⟩:=by
 simp only[la,Bool.and_eq_true,List.all_eq_true,Bool.not_eq_true',bne_iff_ne,Bool.or_eq_true,beq_iff_eq] at h
 obtain⟨⟨⟨⟨⟨h1,h2⟩,h3⟩,h4⟩,h5⟩,h6⟩:=h
 refine⟨s1,s2,s3,fun o z hz ho=>?_,fun o z hz ho=>?_,fun o z hz=>?_,fun hn=>?_,fun hn=>?_,fun rr hn=>?_,fun rr hn=>?_⟩
 ·have:=(h1 _ (a7 _ _ _ hz)).1
  simp at this
  exact this ho
 ·have:=h2 _ (a7 _ _ _ hz)
  simp at this
  exact this ho
 ·have:=(h1 _ (a7 _ _ _ hz)).2
  cases h7:assoc y.1.w o with
  | none=>rfl
  | some u=>
   have h8:=this _ (a7 _ _ _ h7)
   simp at h8
 ·rcases h3 with h3 | h3
  ·have hn':y.2.2.1=true:=hn
   rw[hn'] at h3;cases h3
  ·exact h3
 ·rcases h4 with h4 | h4
  ·have hn':x.2.2.1=true:=hn
   rw[hn'] at h4;cases h4
  ·exact h4
 ·have hn':y.2.2.2=Option.some rr:=hn
  rw[hn'] at h5
  simp only[zp,List.all_eq_true,Bool.and_eq_true,decide_eq_true_eq] at h5
  exact fun o z hz=>h5 _ (a7 _ _ _ hz)
 ·have hn':x.2.2.2=Option.some rr:=hn
  rw[hn'] at h6
  simp only[zp,List.all_eq_true,Bool.and_eq_true,decide_eq_true_eq] at h6
  exact fun o z hz=>h6 _ (a7 _ _ _ hz)
theorem pU:∀ (l acc:List Nat),DH ops acc l=true→∀ pre i post,l=pre++i::post→∀ oi,ops[i]? = some oi→∀ e∈oi.after,Region.binds .any e=true→e.on∈acc∨e.on∈pre
 | [],_,_,pre,i,post,h,_,_,_,_,_=>by simp at h
 | k::r,acc,hx,pre,i,post,h,oi,hoi,e,he,hb=>by
  simp only[DH,Bool.and_eq_true] at hx
  cases pre with
  | nil=>
   simp only[List.nil_append,List.cons.injEq] at h
   obtain⟨rfl,_⟩:=h
   have h1:=hx.1
   rw[hoi] at h1
   simp only[Array.all_eq_true_iff_forall_mem] at h1
   have:=h1 e he
   simp only[hb,Bool.not_true,Bool.false_or,List.contains_eq_mem,decide_eq_true_eq] at this
   exact .inl this
  | cons p pre=>
   simp only[List.cons_append,List.cons.injEq] at h
   obtain⟨rfl,h⟩:=h
   rcases pU r (k::acc) hx.2 pre i post h oi hoi e he hb with h2 | h2
   ·rcases List.mem_cons.1 h2 with e2 | h2
    ·exact .inr (by simp[e2])
    ·exact .inl h2
   ·exact .inr (List.mem_cons_of_mem _ h2)
theorem jM {dyn:List (Nat×Nat)}:∀ (l:List Nat),sb ops dyn l=true→∀ pre i post,l=pre++i::post→∀ j∈post,uO ops dyn i j=true
 | [],_,pre,i,post,h,_,_=>by simp at h
 | k::r,hx,pre,i,post,h,j,hj=>by
  simp only[sb,Bool.and_eq_true,List.all_eq_true] at hx
  cases pre with
  | nil=>
   simp only[List.nil_append,List.cons.injEq] at h
   obtain⟨rfl,rfl⟩:=h
   exact hx.1 j hj
  | cons p pre=>
   simp only[List.cons_append,List.cons.injEq] at h
   exact jM r hx.2 pre i post h.2 j hj
theorem T.trace (ht:aF P aj)(hmt:m8 P mt)(hcl:jD P aj call)(tJ:Ac P pc)(hm:P.follows .mixedOrders=true){id:Nat}{ord:List Nat}{dyn:List (Nat×Nat)}(hS:rG ops ord dyn=true)(h:CS aj mt C.nt ops call pc ord dyn s=Option.some s') :
  T P C (.region id ops true) s fun e x=>e=.normal∧x=s':=by
 intro a w ⟨σ,hr⟩
 unfold CS at h
 split at h
 ·cases h
 rename_i l sF hrun
 split at h
 ·rename_i hdyn
  cases h
  simp only[rG,Bool.and_eq_true,decide_eq_true_eq,List.all_eq_true,List.contains_eq_mem] at hS
  obtain⟨⟨⟨⟨hn,hcov⟩,hlt⟩,hox⟩,hpx⟩:=hS
  have hcov':∀ j,j<ops.size→j∈ord:=fun j hj=>hcov j (List.mem_range.2 hj)
  have hT:=Aj ord _ _ l hn hrun
  generalize hres:(fun i=>(assoc l i).getD default)=res at hT
  let x0:FS:=fs { s with nx:=s.nx+ops.size }
  let V:Nat→Vw:=fun i=>⟨(match ops[i]? with | Option.some o=>o.looksAt ops | none=>[]),(res i).2.1,(res i).2.2.1,(res i).2.2.2⟩
  let R:Array Bool→FS→Act→World→Prop:=fun listed x a w=>∃ s σ',fs s=x∧aH C σ' s a w∧x0.n≤s.nx∧∀ j,j<ops.size→listed.getD j false=false→σ' (x0.n-ops.size+j)=none
  have hN:x0.n-ops.size=s.nx:=by simp only[x0,fs];omega
  have hlow:=hr.low
  have hstart:aH C σ { s with nx:=s.nx+ops.size } a { w with drawn:=w.drawn+1 }:=by
   obtain⟨σ2,h2⟩:Rel C s a { w with drawn:=w.drawn+1 }:=Rel.drew ⟨σ,hr⟩
   exact⟨hr.kO,hr.tm,hr.os,hr.tape,hr.output,hr.size,hr.frame,fun t c hc=>(by
    obtain⟨v,k1,k2⟩:=hr.env t c hc
    exact⟨v,k1,VR.keep k8 c v (fun _ _=>rfl) k2⟩),fun o ob ho=>(by
    obtain⟨B,m1,m2,m3,m4,m5⟩:=hr.obj o ob ho
    refine⟨B,m1,m2,m3,m4,fun b hb=>?_⟩
    obtain⟨cur,n1,n2,n3,n4,n5,n6⟩:=m5 b hb
    exact⟨cur,n1,n2,n3,n4,n5,aQ.keep k8 _ _ (fun _ _=>rfl) n6⟩),hr.inj,fun o ho=>hr.nx o (by simp only at ho ⊢;omega),hr.ek,by simp only;omega,hr.new⟩
  refine wp_mono (Q:=fun e a' w'=>e=.normal∧Rel C s' a' w') (wp_region_any hm ?_) (fun e a' w' ⟨he,hr'⟩=>⟨s',⟨he,rfl⟩,hr'⟩)
  have hdst:∀ {k ok},ops[k]? = Option.some ok→bH ops k=ok.dst:=fun {k ok} h=>by simp[bH,h]
  refine uz (P:=P) (ops:=ops) (ord:=ord) (dst:=bH ops) (E:=fun j=>(res j).1) (V:=V) (x0:=x0) (R:=R) (Q':=fun e a' w'=>e=.normal∧Rel C s' a' w') hn hcov' hlt ?_ ?_ ?_ ?_ ops.size _ _ _ (by simp) ?_ ?_ ?_
  ·intro pre i post ho oi hoi e he hb
   rcases pU ord [] hox pre i post ho oi hoi e he hb with h1 | h1
   ·cases h1
   ·exact h1
  ·intro pre i post ho j hj
   have hp:=jM ord hpx pre i post ho j hj
   unfold uO at hp
   split at hp
   ·rename_i oi oj hoi hoj
    simp only[Bool.or_eq_true,Bool.and_eq_true] at hp
    rcases hp with hp | ⟨hap,hp⟩
    ·exact .inl (fN _ _ _ hp)
    ·refine .inr ?_
     obtain⟨a1,a2,a3⟩:=Oper.apart_spec hap
     obtain⟨o1,sm1,q1,q2,q3,q4⟩:=mG.at_ pre i post _ _ (ho ▸ hT)
     have:o1=oi:=Option.some.inj (q1.symm.trans hoi)
     subst this
     obtain⟨p1,p2,hpp⟩:=List.append_of_mem hj
     have ho2:ord=(pre++i::p1)++j::p2:=by rw[ho,hpp];simp
     obtain⟨o2,sm2,r1,r2,r3,r4⟩:=mG.at_ (pre++i::p1) j p2 _ _ (ho2 ▸ hT)
     have:o2=oj:=Option.some.inj (r1.symm.trans hoj)
     subst this
     have hV:V i=⟨o1.looksAt ops,(res i).2.1,(res i).2.2.1,(res i).2.2.2⟩:=by simp only[V,hoi]
     have hV':V j=⟨o2.looksAt ops,(res j).2.1,(res j).2.2.1,(res j).2.2.2⟩:=by simp only[V,hoj]
     rw[hV,hV',hdst hoi,hdst hoj]
     have hb:la (res i) (res j)=true:=by
      rcases hp with ((hp | hp) | hp) | hp
      ·have hm:=List.all_eq_true.1 hdyn (i,j) (by simpa using hp)
       simp only at hm
       rw[← hres]
       split at hm
       ·rename_i x y h1 h2
        simp only[h1,h2,Option.getD_some]
        exact hm
       ·cases hm
      ·simp only[Bool.not_eq_true'] at hp
       obtain⟨u1,u2,u3,u4⟩:=fY q3 hp.1
       obtain⟨v1,v2,v3,v4⟩:=fY r3 hp.2
       simp[la,gW,u1,u2,u3,u4,v1,v2,v3,v4]
      ·have hl:gf o1=false:=by simp only[kD,Bool.and_eq_true,Bool.not_eq_true'] at hp;exact hp.1
       obtain⟨u1,u2,u3,u4⟩:=fY q3 hl
       simp[la,mb,gW,u1,u2,u3,u4,oI q3 hp]
      ·have hl:gf o2=false:=by simp only[kD,Bool.and_eq_true,Bool.not_eq_true'] at hp;exact hp.1
       obtain⟨u1,u2,u3,u4⟩:=fY r3 hl
       simp[la,mb,gW,u1,u2,u3,u4,oI r3 hp]
     exact Eg hb a1 a3 a2
   ·cases hp
  ·intro pre i post ho listed x a w K hsz hui ⟨s1,σ1,e1,hr1,hle,hfree⟩ hag hK
   obtain⟨o,sm,q1,q2,q3,q4⟩:=mG.at_ pre i post _ _ (ho ▸ hT)
   have hil:=hlt i (by rw[ho];simp)
   have hV:V i=⟨o.looksAt ops,(res i).2.1,(res i).2.2.1,(res i).2.2.2⟩:=by simp only[V,q1]
   subst e1
   rw[hV,← q4] at hag
   have hx0:x0.n=s.nx+ops.size:=rfl
   refine AY ht hmt hcl tJ (m:=s.nx+i) q3 q2 q1 hag hr1 (by have:=hfree i hil hui;rwa [hN] at this) (by omega) (by omega) K fun a' w' σ' s'' h1 h2 h3=>?_
   refine hK a' w' ⟨s'',σ',by rw[h1,hdst q1],h2,?_,fun j hj hl=>?_⟩
   ·have:(fs s'').n=(fs s1).n+(res i).1.k:=by rw[h1];rfl
    simp only[fs] at this
    omega
   ·rw[hN]
    have hij:i≠j:=fun e=>by
     subst e
     rw[Array.getD_eq_getD_getElem?] at hl
     simp[hsz,hil] at hl
    rw[h3 (s.nx+j) (by omega) (by omega)]
    have:=hfree j hj (by rwa [getD_set_ne false hij] at hl)
    rwa [hN] at this
  ·rintro listed a w ⟨s1,σ1,e1,hr1,_,_⟩
   refine⟨rfl,σ1,hr1.EV ?_⟩
   rw[e1,mG.fin ord _ _ hT]
  ·intro j oj _ hl
   rw[iy] at hl;cases hl
  ·have:ord.length=ops.size:=by
    have h1:ord.Perm (List.range ops.size):=(List.perm_ext_iff_of_nodup hn List.nodup_range).2 fun j=>⟨fun hj=>List.mem_range.2 (hlt j hj),fun hj=>hcov' j (List.mem_range.1 hj)⟩
    simpa using h1.length_eq
   rw[← this,List.countP_eq_length]
   intro j _
   rw[iy];rfl
  ·refine⟨{ s with nx:=s.nx+ops.size },σ,?_,hstart,Nat.le_refl _,fun j hj _=>?_⟩
   ·rw[eF ord x0 (L':=fun _=>false) fun i _=>iy _ _,lg]
   ·rw[hN]
    exact hr.nx _ (by omega)
 ·cases h
end
end Go.Can
namespace Go.Can
open Go.RowKit
def renV (o q:Nat):CV→CV
 | .bw p off n=>if p=o then .bw q off n else .bw p off n
 | c=>c
def renOk (o q:Nat):CV→Bool
 | .bw p _ _=>p == o || decide (p<q)
 | c=>aG q c
def renE (o q:Nat):List (Nat×CV)→List (Nat×CV)
 | []=>[]
 | (t,c)::r=>(t,renV o q c)::renE o q r
attribute [simp] renV renOk renE
end Go.Can
namespace Go.Can
section
variable {α:Type}{f:α→List CV}{n:Nat}
theorem bu (hf:∀ x,(f x).length=n):∀ m:List α,(m.flatMap f).length=m.length*n
 | []=>by simp
 | a::r=>by
  have ih:=bu hf r
  simp only[List.flatMap_cons,List.length_append,hf,ih,List.length_cons,Nat.add_mul]
  omega
theorem Ch (hf:∀ x,(f x).length=n):∀ (m:List α) (i:Nat),(m.flatMap f).take (i*n)=(m.take i).flatMap f
 | [],i=>by simp
 | a::r,0=>by simp
 | a::r,i+1=>by
  have ih:=Ch hf r i
  simp only[List.take_succ_cons,List.flatMap_cons,← ih]
  rw[show (i+1)*n=(f a).length+i*n by rw[hf,Nat.add_mul];omega,List.take_length_add_append]
theorem vb (hf:∀ x,(f x).length=n):∀ (m:List α) (i:Nat),(m.flatMap f).drop (i*n)=(m.drop i).flatMap f
 | [],i=>by simp
 | a::r,0=>by simp
 | a::r,i+1=>by
  have ih:=vb hf r i
  simp only[List.drop_succ_cons,List.flatMap_cons,← ih]
  rw[show (i+1)*n=(f a).length+i*n by rw[hf,Nat.add_mul];omega,List.drop_length_add_append]
theorem aV (hf:∀ x,(f x).length=n){m:List α}{i:Nat}{e:α}(h:m[i]? = some e):(m.flatMap f).drop (i*n)=f e++(m.drop (i+1)).flatMap f:=by
 rw[vb hf]
 obtain⟨hi,he⟩:=List.getElem?_eq_some_iff.1 h
 rw[List.drop_eq_getElem_cons hi,he,List.flatMap_cons]
end
end Go.Can
namespace Go.bg
open Go.Can
inductive Ex where
 | zero
 | num (n:Nat)
 | nm (s:ByteArray)
 | un (k:Nat) (e:Ex)
 | bin (k:Nat) (a b:Ex)
 | loc (i:Nat)
 | jv (i:Nat)
abbrev I (n:Int):CV:=.int .i64 n
def eS:ByteArray:=⟨#[]⟩
def bB:Ex→List CV
 | .zero=>[I 0,I 0,.str eS,.ax [] 0]
 | .num n=>[I 1,I n,.str eS,.ax [] 0]
 | .nm s=>[I 2,I 0,.str s,.ax [] 0]
 | .un k e=>[I (3+k),I 0,.str eS,.ax (bB e) 1]
 | .bin k a b=>[I (5+k),I 0,.str eS,.ax (bB a++bB b) 2]
 | .loc i=>[I 18,I i,.str eS,.ax [] 0]
 | .jv i=>[I 19,I i,.str eS,.ax [] 0]
theorem bA (e:Ex):(bB e).length=4:=by cases e<;>rfl
def Ex.op:Ex→Int
 | .zero=>0
 | .num _=>1
 | .nm _=>2
 | .un k _=>3+k
 | .bin k _ _=>5+k
 | .loc _=>18
 | .jv _=>19
def Ex.n:Ex→Int
 | .num n=>n
 | .loc i=>i
 | .jv i=>i
 | _=>0
def Ex.name:Ex→ByteArray
 | .nm s=>s
 | _=>eS
def Ex.args:Ex→List Ex
 | .un _ e=>[e]
 | .bin _ a b=>[a,b]
 | _=>[]
theorem bP (e:Ex):bB e=[I e.op,I e.n,.str e.name,.ax (e.args.flatMap bB) e.args.length]:=by
 cases e<;>simp[bB,Ex.op,Ex.n,Ex.name,Ex.args]
structure Rf where
 name:ByteArray
 index:Option Ex
def nu:Option Ex→CV
 | none=>.ax [] 0
 | some e=>.ax (bB e) 1
def j3 (r:Rf):List CV:=[.str r.name,nu r.index]
def j5:List CV:=[.str eS,.ax [] 0]
inductive Ar where
 | sr (r:Rf)
 | exp (e:Ex)
def ni:Ar→List CV
 | .sr r=>.bool true::j3 r++bB .zero
 | .exp e=>.bool false::j5++bB e
inductive Sm where
 | gr (name:ByteArray) (e:Ex)
 | gV (name:ByteArray) (e:Ex)
 | dI (go:Bool) (name:ByteArray) (args:List Ar)
 | dg (un:Bool) (r:Rf)
 | ku (e:Ex) (th el:List Sm)
 | cj (e:Ex) (th:List Sm)
 | iU
mutual
def gI:Sm→List CV
 | .gr s e=>[I 1,.str s]++bB e++j5++[.ax [] 0,.ax [] 0,.ax [] 0]
 | .gV s e=>[I 2,.str s]++bB e++j5++[.ax [] 0,.ax [] 0,.ax [] 0]
 | .dI g s l=>[I (if g then 4 else 3),.str s]++bB .zero++j5++[.ax (l.flatMap ni) l.length,.ax [] 0,.ax [] 0]
 | .dg u r=>[I (if u then 6 else 5),.str eS]++bB .zero++j3 r++[.ax [] 0,.ax [] 0,.ax [] 0]
 | .ku e th el=>[I 7,.str eS]++bB e++j5++[.ax [] 0,.ax (bt th) th.length,.ax (bt el) el.length]
 | .cj e th=>[I 8,.str eS]++bB e++j5++[.ax [] 0,.ax (bt th) th.length,.ax [] 0]
 | .iU=>[I 9,.str eS]++bB .zero++j5++[.ax [] 0,.ax [] 0,.ax [] 0]
def bt:List Sm→List CV
 | []=>[]
 | s::r=>gI s++bt r
end
theorem mO:∀ l:List Sm,bt l=l.flatMap gI
 | []=>rfl
 | s::r=>by rw[bt,mO r,List.flatMap_cons]
theorem jK (s:Sm):(gI s).length=11:=by
 cases s<;>simp[gI,bA,j5,j3]
structure Pm where
 name:ByteArray
 mutex:Bool
def jL (p:Pm):List CV:=[.str p.name,.bool p.mutex]
structure Gl where
 name:ByteArray
 init:Int
def ny (g:Gl):List CV:=[.str g.name,I g.init]
structure Mx where
 name:ByteArray
 re:Bool
 size:Nat
def js (m:Mx):List CV:=[.str m.name,.bool m.re,I m.size]
structure Fu where
 name:ByteArray
 params:List Pm
 body:List Sm
def eP (f:Fu):List CV:=[.str f.name,.ax (f.params.flatMap jL) f.params.length,.ax (bt f.body) f.body.length]
structure Pg where
 gs:List Gl
 ms:List Mx
 fs:List Fu
def dq (p:Pg):List CV:=[.ax (p.gs.flatMap ny) p.gs.length,.ax (p.ms.flatMap js) p.ms.length,.ax (p.fs.flatMap eP) p.fs.length]
def qX (p:Pg):CV:=.agg (dq p)
structure Pl where
 param:Bool
 index:Nat
 at_:Option Ex
def nO (p:Pl):List CV:=[.bool p.param,I p.index,nu p.at_]
def qp:List CV:=[.bool false,I 0,.ax [] 0]
inductive In where
 | set (t:Nat) (g:Bool) (e:Ex)
 | call (go:Bool) (t:Nat) (ints:List Ex) (places:List Pl)
 | lock (un:Bool) (p:Pl)
 | branch (t:Nat) (e:Ex)
 | jump (t:Nat)
 | ret
def dt:In→List CV
 | .set t g e=>[I 1,I t,.bool g]++bB e++qp++[.ax [] 0,.ax [] 0]
 | .call g t l ps=>[I (if g then 3 else 2),I t,.bool false]++bB .zero++qp++[.ax (l.flatMap bB) l.length,.ax (ps.flatMap nO) ps.length]
 | .lock u p=>[I (if u then 5 else 4),I 0,.bool false]++bB .zero++nO p++[.ax [] 0,.ax [] 0]
 | .branch t e=>[I 6,I t,.bool false]++bB e++qp++[.ax [] 0,.ax [] 0]
 | .jump t=>[I 7,I t,.bool false]++bB .zero++qp++[.ax [] 0,.ax [] 0]
 | .ret=>[I 8,I 0,.bool false]++bB .zero++qp++[.ax [] 0,.ax [] 0]
theorem gz (x:In):(dt x).length=12:=by
 cases x<;>simp[dt,bA,qp,nO]
structure Pr where
 name:ByteArray
 ints:Nat
 aE:Nat
 locals:Nat
 code:List In
def kX (p:Pr):List CV:=[.str p.name,I p.ints,I p.aE,I p.locals,.ax (p.code.flatMap dt) p.code.length]
structure Un where
 gs:List Int
 ms:List Mx
 ps:List Pr
 main:Nat
def de (u:Un):List CV:=[ints u.gs,.ax (u.ms.flatMap js) u.ms.length,.ax (u.ps.flatMap kX) u.ps.length,I u.main]
def gq (u:Un):CV:=.agg (de u)
structure Is where
 proc:Nat
 aE:List Nat
def aZ (l:List Nat):CV:=.ax (l.map fun n:Nat=>I n) l.length
def cg (i:Is):List CV:=[I i.proc,aZ i.aE]
structure Cl where
 is:List Is
 calls:List (List Int)
 roots:List Nat
def iL (c:Cl):List CV:=[.ax (c.is.flatMap cg) c.is.length,.ax (c.calls.map ints) c.calls.length,aZ c.roots]
def mv (c:Cl):CV:=.agg (iL c)
end Go.bg
