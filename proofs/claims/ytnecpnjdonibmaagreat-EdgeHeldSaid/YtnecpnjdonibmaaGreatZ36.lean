/- The memory put in order: what is kept, under other numbers.  -/
import Derived.Test.YtnecpnjdonibmaaGreatZ35
namespace Go.Can
open Go.RowKit
section
variable {P:Program}{C:Cx}{s:St}
def fF (m:List (Nat×Nat))(n p:Nat):Nat:=match assoc m p with
 | some t=>t
 | none=>p+n
def pw (m:List (Nat×Nat)):CV→Bool
 | .bl p _ _=>(assoc m p).isSome
 | .ax p _=>(assoc m p).isSome
 | .mp p _=>(assoc m p).isSome
 | c=>tree c
def ss (m:List (Nat×Nat)):CV→Bool
 | .agg cs=>cs.all (pw m)
 | .dS cs=>cs.all (pw m)
 | c=>pw m c
theorem Iw {m:List (Nat×Nat)}{c:CV}(h:pw m c=true)(o:Nat)(ho:aL o c=false):(assoc m o).isSome=true:=by
 have ht:tree c=true→False:=fun ht=>by rw[mb o c ht] at ho;cases ho
 cases c with
 | bl p _ _=>
  simp only[aL,bne_eq_false_iff_eq] at ho;subst ho;exact h
 | ax p _=>
  simp only[aL,bne_eq_false_iff_eq] at ho;subst ho;exact h
 | mp p _=>
  simp only[aL,bne_eq_false_iff_eq] at ho;subst ho;exact h
 | _=>exact (ht h).elim
theorem uv {m:List (Nat×Nat)}:∀ {cs:List CV},cs.all (pw m)=true→∀ o,dK o cs=false→(assoc m o).isSome=true
 | [],_,o,ho=>by simp[dK] at ho
 | c::cs,h,o,ho=>by
  simp only[List.all_cons,Bool.and_eq_true] at h;simp only[dK,Bool.and_eq_false_iff] at ho;rcases ho with ho | ho
  ·exact Iw h.1 o ho
  ·exact uv h.2 o ho
theorem Ng {m:List (Nat×Nat)}{c:CV}(h:ss m c=true)(o:Nat)(ho:aL o c=false):(assoc m o).isSome=true:=by
 cases c with
 | agg cs=>exact uv h o XG
 | dS cs=>exact uv h o XG
 | _=>exact Iw (m:=m) (by simpa only[ss] using h) o ho
theorem aE {cs:List CV}(h:trees cs=true)(m:List (Nat×Nat)):cs.all (pw m)=true:=List.all_eq_true.2 fun c hc=>by
 have:=iA h c hc;cases c<;>first | exact this | simp[tree] at this
def dr (s:St)(ks:List Nat)(m:List (Nat×Nat))(_k _n:Nat):Bool:=
 (pick s.env ks).all (fun x=>ss m x.2) && ((pick s.heap (m.map (·.1))).all fun x=>x.2.cells.all (pw m))
def vt (m:List (Nat×Nat))(k n:Nat):Bool:=
 decide (m.map (·.2)).Nodup && decide (m.map (·.1)).Nodup && decide (k≤n) && m.all fun x=>decide (x.2<n) && (x.1 == x.2 || decide (k≤x.2))
theorem fM {m:List (Nat×Nat)}{p t:Nat}(h:assoc m p=some t):(p,t)∈m:=bD m p t h
theorem qV:∀ {m:List (Nat×Nat)} {p t:Nat},(m.map (·.1)).Nodup→(p,t)∈m→assoc m p=some t
 | [],_,_,_,h=>by cases h
 | (a,b)::r,p,t,hn,h=>by
  simp only[List.map_cons,List.nodup_cons] at hn;simp only[assoc];rcases List.mem_cons.1 h with e | h
  ·cases e;rw[if_pos rfl]
  ·rw[if_neg,qV hn.2 h];intro e;subst e;exact hn.1 (List.mem_map_of_mem (f:=(·.1)) h)
theorem yY:∀ {m:List (Nat×Nat)} {p q t:Nat},(m.map (·.2)).Nodup→(p,t)∈m→(q,t)∈m→p=q
 | [],_,_,_,_,h,_=>by cases h
 | (a,b)::r,p,q,t,hn,h,h'=>by
  simp only[List.map_cons,List.nodup_cons] at hn;rcases List.mem_cons.1 h with e | h1<;>rcases List.mem_cons.1 h' with e' | h2
  ·cases e;cases e';rfl
  ·cases e;exact (hn.1 (List.mem_map_of_mem (f:=(·.2)) h2)).elim
  ·cases e';exact (hn.1 (List.mem_map_of_mem (f:=(·.2)) h1)).elim
  ·exact yY hn.2 h1 h2
theorem Kb {m:List (Nat×Nat)}{k n:Nat}(h:vt m k n=true):∀ x y,fF m n x=fF m n y→x=y:=by
 simp only[vt,Bool.and_eq_true,decide_eq_true_eq,List.all_eq_true,Bool.or_eq_true,beq_iff_eq] at h;obtain⟨⟨⟨h1,h2⟩,h3⟩,h4⟩:=h;intro x y QL;unfold fF at QL
 cases hx:assoc m x with
 | none=>
  cases hy:assoc m y with
  | none=>simp only[hx,hy] at QL;omega
  | some t=>
   have:=(h4 _ (fM hy)).1;simp only[hx,hy] at QL;omega
 | some t=>
  have:=(h4 _ (fM hx)).1
  cases hy:assoc m y with
  | none=>simp only[hx,hy] at QL;omega
  | some t'=>
   simp only[hx,hy] at QL;subst QL;exact yY h1 (fM hx) (fM hy)
def uR (m:List (Nat×Nat))(q:Nat):Option Nat:=(m.find? fun x=>x.2 == q).map (·.1)
theorem Hi {m:List (Nat×Nat)}(hn:(m.map (·.2)).Nodup){p t:Nat}(h:(p,t)∈m):uR m t=some p:=by
 unfold uR
 cases hf:m.find? fun x=>x.2 == t with
 | none=>
  rw[List.find?_eq_none] at hf;exact (hf _ h OU).elim
 | some x=>
  obtain⟨a,b⟩:=x;have h1:=List.mem_of_find?_eq_some hf;have h2:=List.find?_some hf;simp only[beq_iff_eq] at h2;subst h2;simp only[Option.map_some];rw[yY hn h1 h]
theorem xu {m:List (Nat×Nat)}{p t:Nat}(h:uR m t=some p):(p,t)∈m:=by
 unfold uR at h;obtain⟨⟨a,b⟩,h1,h2⟩:=Option.map_eq_some_iff.1 h;have h3:=List.mem_of_find?_eq_some h1;have h4:=List.find?_some h1;simp only[beq_iff_eq] at h4;subst h4;subst h2;exact h3
theorem Le.norm (ks:List Nat)(m:List (Nat×Nat))(k n:Nat)(hm:vt m k n=true)(hs:(m.all fun x=>(assoc s.heap x.1).isSome || decide (k≤x.1) || x.1 == x.2)=true)(hk:dr s ks m k n=true)(Sl:C.n0≤k) :
  Le C s ⟨dj (fF m n) (pick s.env ks),cj (fF m n) (pick s.heap (m.map (·.1))),n⟩:=by
 intro a w ⟨σ,hr⟩;have hi:=Kb hm;have Ue:=hm;simp only[vt,Bool.and_eq_true,decide_eq_true_eq,List.all_eq_true,Bool.or_eq_true,beq_iff_eq] at Ue;obtain⟨⟨⟨h1,h2⟩,h3⟩,h4⟩:=Ue;simp only[dr,Bool.and_eq_true] at hk;obtain⟨hke,hkh⟩:=hk;rw[List.all_eq_true] at hke hkh hs
 obtain⟨σ',hσ⟩:∃ σ':Nat→Option OB,∀ q,σ' q=if q<C.n0 then σ q else match uR m q with
   | some o=>σ o
   | none=>none:=⟨_,fun _=>rfl⟩
 have s1:∀ o t,assoc m o=some t→σ' (fF m n o)=σ o:=fun o t ho=>by
  have QD:=fM ho;have e:fF m n o=t:=by unfold fF;rw[ho]
  rw[e,hσ];split
  ·rename_i O1;rcases (h4 _ QD).2 with h | h
   ·simp only at h;rw[h]
   ·simp only at h;omega
  ·rw[Hi h1 QD]
 have s2:∀ o,(assoc m o).isSome=true→σ' (fF m n o)=σ o:=fun o ho=>by
  obtain⟨t,ht⟩:=Option.isSome_iff_exists.1 ho;exact s1 o t ht
 have Rw:∀ o ob,assoc (pick s.heap (m.map (·.1))) o=some ob→assoc s.heap o=some ob∧(assoc m o).isSome=true∧ob.cells.all (pw m)=true:=fun o ob ho=>by
  refine⟨eD _ _ _ _ ho,?_,hkh _ (bD _ _ _ ho)⟩;have QD:=bD _ _ _ ho;have:∀ (ks:List Nat) (x:Nat×Ob),x∈pick s.heap ks→x.1∈ks:=by
   intro ks
   induction ks with
   | nil=>intro x hx;simp[pick] at hx
   | cons a r ih=>
    intro x hx;simp only[pick] at hx;split at hx
    ·rcases List.mem_cons.1 hx with e | hx
     ·subst e;exact List.mem_cons_self
     ·exact List.mem_cons_of_mem _ (ih x hx)
    ·exact List.mem_cons_of_mem _ (ih x hx)
  have Q8:=this _ _ QD;simp only[List.mem_map] at Q8;obtain⟨⟨p,t⟩,hp,rfl⟩:=Q8;simp only;rw[qV h2 hp];rfl
 have Qi:∀ o,(assoc m o).isSome=true→aY σ' (fF m n o)=aY σ o:=fun o ho=>by unfold aY;rw[s2 o ho]
 have hF:∀ b,FB C σ' (cj (fF m n) (pick s.heap (m.map (·.1)))) b→FB C σ s.heap b:=by
  rintro b (hb | ⟨q,ob,hq,hb⟩)
  ·exact .inl hb
  ·obtain⟨o,rfl⟩:=ey _ q ob hq;rw[ch hi] at hq;obtain⟨Pk,ho,_⟩:=Option.map_eq_some_iff.1 hq;obtain⟨g1,g2,_⟩:=Rw o Pk ho;exact .inr ⟨o,Pk,g1,by rwa [Qi o g2] at hb⟩
 have Zf:cw w w (FB C σ s.heap) (FB C σ' (cj (fF m n) (pick s.heap (m.map (·.1))))):=cw.same hF;refine⟨σ',hr.nk,hr.tm,hr.os,hr.tape,hr.output,hr.size,hr.frame,?_,?_,?_,?_,?_,Nat.le_trans Sl h3,?_⟩
 ·intro t c hc;simp only[fN] at hc;obtain⟨d,hd,rfl⟩:=Option.map_eq_some_iff.1 hc;obtain⟨v,k1,k2⟩:=hr.env t d (eD _ _ _ _ hd);refine⟨v,k1,(VR.cX _ d v).2 (VR.bk Zf _ _ (fun o ho=>s2 o (Ng (hke _ (bD _ _ _ hd)) o ho)) k2)⟩
 ·intro q ob hq;obtain⟨o,rfl⟩:=ey _ q ob hq;simp only[ch hi] at hq;obtain⟨Pk,ho,rfl⟩:=Option.map_eq_some_iff.1 hq;obtain⟨g1,g2,g3⟩:=Rw o Pk ho;obtain⟨B,m1,m2,m3,m4,m5⟩:=hr.obj o Pk g1;refine⟨B,by rw[s2 o g2];exact m1,m2,fun hb=>by simp only[cc,m3 hb];rfl,by simp only[cc,gf];exact m4,fun b hb=>?_⟩;obtain⟨cur,n1,Yn,n3,n4,n5,n6⟩:=m5 b hb;simp only[cc,gy];exact⟨cur,n1,Yn,n3,n4,n5,(aS.cX _ _ _).2 (aS.bk Zf _ _ (fun p hp=>s2 p (uv g3 p hp)) n6)⟩
 ·intro q q' ob Pk b hq RQ hx QG;obtain⟨o,rfl⟩:=ey _ q ob hq;obtain⟨o',rfl⟩:=ey _ q' Pk RQ;simp only[ch hi] at hq RQ;obtain⟨x,ho,_⟩:=Option.map_eq_some_iff.1 hq;obtain⟨x',Py,_⟩:=Option.map_eq_some_iff.1 RQ;obtain⟨g1,g2,_⟩:=Rw o x ho;obtain⟨g1',g2',_⟩:=Rw o' x' Py;rw[Qi o g2] at hx;rw[Qi o' g2'] at QG;rw[hr.inj o o' x x' b g1 g1' hx QG]
 ·intro q hq;simp only at hq;rw[hσ,if_neg yA]
  cases YH:uR m q with
  | none=>rfl
  | some o=>
   have:=(h4 _ (xu YH)).1;simp only at this;omega
 ·intro q hq;rw[hσ,if_pos hq];exact hr.fh q hq
 ·intro q B b hq hB hb;rw[hσ,if_neg yA] at hB
  cases YH:uR m q with
  | none=>rw[YH] at hB;cases hB
  | some o=>
   rw[YH] at hB;simp only at hB;have hex:=hs _ (xu YH);simp only[Bool.or_eq_true,decide_eq_true_eq,beq_iff_eq] at hex;rcases hex with (hex | hex) | hex
   rotate_left
   ·exact hr.new o B b (Nat.le_trans Sl hex) hB hb
   ·subst hex;exact hr.new o B b yA hB hb
   obtain⟨ob,QX⟩:=Option.isSome_iff_exists.1 hex;obtain⟨B',m1,_,_,_,m5⟩:=hr.obj o ob QX;rw[m1] at hB;cases hB;obtain⟨cur,_,_,_,n4,_⟩:=m5 b hb;exact n4
variable {ops:Array Oper}{ak:List (Nat×TI)}{nt N:Nat}{dyn:List (Nat×Nat)}{K:St→Prop}{i:Nat}{r:List Nat}{res:Nat→Er}
def Jh (ks du:List Nat)(m:Nat)(H1:List (Nat×Ob)):Bool:=(H1.all fun x=>ks.contains x.1 || (decide (m≤x.1) && du.contains x.1)) && du.all fun p=>ks.contains p || (assoc H1 p).isSome
theorem RX.vZ {o:Oper}{cl:Call}{g:FuncId}{args:List CV}{r0:CV}{H H1:List (Nat×Ob)}(ns ks du:List Nat)(n d:Nat)(hb:Body P ak g args H n (jb r0 H1 (n+d)))(hl:ns.length=n)(hk:HW ns s.nx=true)(hi:ops[i]? = Option.some o)(hd:a6 nt o.dst=true)(hg:bZ ops s o=Option.some true)(hu:ck o=Option.some cl)
  (Ps:bm s cl=Option.some (g,ca (cQ ns s.nx) args)) (hp:eg s.heap ks=Option.some (cj (cQ ns s.nx) H)) (ha:aX n args=true) (hH:dc n H=true) (ht:tree r0=true) (hv:zP dyn res i ks=true) (hc:Jh ks du s.nx (cj (cQ ns s.nx) H1)=true)
  (hs:∀ p∈ks,p∉du→assoc (cj (cQ ns s.nx) H1) p=assoc (cj (cQ ns s.nx) H) p)
  (hK:Gx dyn res i (iP r0 ks du d (cj (cQ ns s.nx) H1))=true∧pJ ak nt ops N dyn (Hv P ak nt ops N dyn K) r (note dyn res i (iP r0 ks du d (cj (cQ ns s.nx) H1))) (St.put ⟨s.env,cj (cQ ns s.nx) H1++dx s.heap ks,s.nx+d⟩ o.dst r0)):RX P ak nt ops N dyn K (i::r) res s:=by
 simp only[Jh,Bool.and_eq_true,List.all_eq_true,Bool.or_eq_true,decide_eq_true_eq] at hc;refine⟨o,hi,hd,.inr ⟨hg,cl,g,_,hu,Ps,.inr (.inr ⟨ks,du,d,_,_,hp,hb.retN ns hl hk ha hH ht,hv,?_,?_⟩)⟩⟩
 ·rintro v s1 ⟨_,h2,h3⟩;refine⟨h3,fun p ob hpo=>?_,fun p mV=>?_,fun p mV=>?_⟩
  ·rw[h2] at hpo;rcases hc.1 _ (bD _ _ _ hpo) with h | h
   ·exact .inl RC
   ·exact .inr h.1
  ·rw[h2];by_cases hm:p∈ks
   ·exact hs p hm mV
   ·obtain⟨i1,_⟩:=jZ hp;have e1:assoc (cj (cQ ns s.nx) H) p=none:=by
     cases h4:assoc (cj (cQ ns s.nx) H) p with
     | none=>rfl
     | some y=>exact (hm (i1 p y h4).1).elim
    have e2:assoc (cj (cQ ns s.nx) H1) p=none:=by
     cases h4:assoc (cj (cQ ns s.nx) H1) p with
     | none=>rfl
     | some y=>
      rcases hc.1 _ (bD _ _ _ h4) with h | h
      ·exact (hm RC).elim
      ·exact (mV (by simpa using h.2)).elim
    rw[e1,e2]
  ·rw[h2];rcases hc.2 p mV with h | h
   ·exact .inl RC
   ·exact .inr h
 ·rintro v s1 ⟨h1,h2,_⟩;subst h1;rw[h2];exact⟨hK.1,RX.go hK.2⟩
attribute [simp] Jh iP
end
end Go.Can
namespace Go.Proofs.YtnecpnjdonibmaaGreat
open Go.Can Go.aP
def LK (id:Nat):Code→Option Code
 | .block j x=>if j=id then some (.block j x) else LK id x
 | .seq a b=>match LK id a with
  | some c=>some c
  | none=>LK id b
 | .cond _ a b=>match LK id a with
  | some c=>some c
  | none=>LK id b
 | .loop x=>LK id x
 | .scope x=>LK id x
 | _=>none
def kj (f:Func)(id:Nat):Code:=((f.body).bind (LK id)).getD .skip
theorem fW (x:In):trees (dt x)=true:=by
 cases x with
 | set t g e=>simp only[dt,bC,bz,Bool.and_true];rfl
 | call g t l ps=>simp only[dt,bC,bz,trees,tree,Bool.and_true];rfl
 | lock u q=>simp only[dt,bC,bz,jV,Bool.and_true];rfl
 | branch t e=>simp only[dt,bC,bz,Bool.and_true];rfl
 | jump t=>rfl
 | ret=>rfl
theorem lv (e:Ex):∃ o n s cs m,bR e=[I o,I n,.str s,.aA cs m]∧trees cs=true:=⟨_,_,_,_,_,b9 e,aQ bz _⟩
theorem HO (q:Pl):∃ b n cs m,pN q=[.bool b,I n,.aA cs m]∧trees cs=true:=⟨_,_,_,_,by rw[pN,nQ],aQ bz _⟩
theorem My (r:Rf):∃ s cs m,kY r=[.str s,.aA cs m]∧trees cs=true:=⟨_,_,_,by rw[kY,nQ],aQ bz _⟩
def fp (l:List In):Ob:=⟨85,12,l.flatMap dt⟩
def gj (l:List Nat):Ob:=⟨3,1,l.map fun n:Nat=>I n⟩
theorem cf (l:List In):trees (l.flatMap dt)=true:=aQ fW l
theorem aU (l:List Nat):trees (l.map fun n:Nat=>I n)=true:=by
 induction l with
 | nil=>rfl
 | cons a r ih=>rw[List.map_cons,trees,ih];rfl
theorem zK (l:List In):(l.flatMap dt).length=l.length*12:=bM (f:=dt) eK l
theorem HZ (x:In):(dt x).map nz=dt x:=by
 cases x with
 | set t g e=>simp[dt,b9,sQ]
 | call g t l ps=>simp[dt,b9,sQ]
 | lock u q=>simp[dt,b9,pN,nQ]
 | branch t e=>simp[dt,b9,sQ]
 | jump t=>simp[dt,b9,sQ]
 | ret=>simp[dt,b9,sQ]
theorem qw (l:List In):(l.flatMap dt).map nz=l.flatMap dt:=by
 induction l with
 | nil=>rfl
 | cons a r ih=>rw[List.flatMap_cons,List.map_append,ih,HZ]
def CC (c:CV):Bool:=match c with
 | .ax p 0=>p == 0 || p == 5
 | c=>tree c
section
variable (p:Pg)(E0:List En)(l:List Sm)(i:Nat)
def bE:List (Nat×CV):=[(5,I i),(4,.aA (E0.flatMap im) E0.length),(0,.ax 0 0),(1,.aA (bx l) l.length)]
def NS (E:List En)(k st:Nat)(c:List In)(s:List Nat):St:=⟨bE E0 l i,[(0,fY p E k st 3 c.length 4 s.length),(3,fp c),(4,gj s)],5⟩
def Ii:Sm→Int
 | .g6 _ _=>1
 | .iD _ _=>2
 | .ef g _ _=>if g=true then 4 else 3
 | .dA u _=>if u=true then 6 else 5
 | .lE _ _ _=>7
 | .cJ _ _=>8
 | .jF=>9
def mE (n:Nat):List (Nat×CV):=[(6,.ax 5 0),(7,I n),(5,I i),(4,.aA (E0.flatMap im) E0.length),(0,.ax 0 0),(1,.aA (bx l) l.length)]
def mH (E:List En)(k st:Nat)(c:List In)(s:List Nat)(x:Sm):List (Nat×Ob):=[(0,fY p E k st 3 c.length 4 s.length),(3,fp c),(4,gj s),(5,⟨265,0,ik x⟩)]
def MS (E:List En)(k st:Nat)(c:List In)(s:List Nat)(x:Sm)(n:Nat):St:=
 ⟨(41,I (Ii x))::mE E0 l i n,mH p E k st c s x,6⟩
end
theorem HV {c:CV}(h:CC c=true){m:List (Nat×Nat)}(h0:(assoc m 0).isSome=true)(h5:c≠.ax 5 0∨(assoc m 5).isSome=true):ss m c=true:=by
 cases c with
 | ax q f=>
  cases f with
  | zero=>
   simp only[CC,Bool.or_eq_true,beq_iff_eq] at h;rcases h with rfl | rfl
   ·exact h0
   ·rcases h5 with h5 | h5
    ·exact (h5 rfl).elim
    ·exact h5
  | succ f=>simp[CC,tree] at h
 | agg cs=>simp only[CC,tree] at h;exact aE h m
 | dS cs=>simp only[CC,tree] at h;exact aE h m
 | _=>first | exact h | simp[CC,tree] at h
theorem MW {c:CV}(h:CC c=true)(m:List (Nat×Nat))(n:Nat)(h0:fF m n 0=0)(h5:c≠.ax 5 0∨fF m n 5=5):dR (fF m n) c=c:=by
 cases c with
 | ax q f=>
  cases f with
  | zero=>
   simp only[CC,Bool.or_eq_true,beq_iff_eq] at h;rcases h with rfl | rfl
   ·rw[dR,h0]
   ·rcases h5 with h5 | h5
    ·exact (h5 rfl).elim
    ·rw[dR,h5]
  | succ f=>simp[CC,tree] at h
 | _=>exact g7 _ _ h
theorem zh {m:List (Nat×Nat)}{n:Nat}(h0:fF m n 0=0):∀ {e:List (Nat×CV)},(e.all fun x=>CC x.2)=true→((∀ x∈e,x.2≠CV.ax 5 0)∨fF m n 5=5)→dj (fF m n) e=e
 | [],_,_=>rfl
 | (t,c)::e,h,h5=>by
  simp only[List.all_cons,Bool.and_eq_true] at h;rw[dj,MW h.1 m n h0 (h5.imp (fun h5=>h5 (t,c) List.mem_cons_self) id),zh h0 h.2 (h5.imp (fun h5 x hx=>h5 x (List.mem_cons_of_mem _ hx)) id)]
theorem cU (ρ:Nat→Nat)(t:TypeId)(n:Nat){cs:List CV}(h:trees cs=true):cc ρ ⟨t,n,cs⟩=⟨t,n,cs⟩:=by simp only[cc,av ρ _ h]
theorem jd (p:Pg):tree (.aA (p.gs.flatMap px) p.gs.length)=true∧tree (.aA (p.ms.flatMap eJ) p.ms.length)=true∧tree (.aA (p.fs.flatMap fq) p.fs.length)=true:=
 ⟨by simp only[tree],by simp only[tree],by simp only[tree]⟩
theorem ct (E:List En):trees (E.flatMap im)=true:=aQ (fun _=>rfl) E
section
variable {C:Cx}{s:St}{p:Pg}
theorem Ck (E:List En)(k st a cl b sl:Nat)(m:List (Nat×Nat))(ha:(assoc m a).isSome=true)(hb:(assoc m b).isSome=true):(fY p E k st a cl b sl).cells.all (pw m)=true:=by
 obtain⟨t1,t2,t3⟩:=jd p;have t4:=ct E;simp only[fY,List.all_cons,List.all_nil,pw,ha,hb,Bool.and_true,Bool.and_eq_true];simp only[tree] at t1 t2 t3 ⊢;refine⟨t1,t2,t3,?_⟩;simp
theorem rO (E:List En)(k st a cl b sl:Nat)(ρ:Nat→Nat):cc ρ (fY p E k st a cl b sl)=fY p E k st (ρ a) cl (ρ b) sl:=by
 obtain⟨t1,t2,t3⟩:=jd p;have t4:tree (.aA (E.flatMap im) E.length)=true:=by simp only[tree]
 simp only[cc,fY,ca,g7 ρ _ t1,g7 ρ _ t2,g7 ρ _ t3,g7 ρ _ t4];rfl
theorem k9 (O0:C.n0=3)(ks:List Nat)(a b:Nat){e:List (Nat×CV)}{E:List En}{k st N M:Nat}{X S:List CV}{c':List In}{s':List Nat}(he:pick s.env ks=e)(Pe:(e.all fun x=>CC x.2)=true)(h5:∀ x∈e,x.2≠CV.ax 5 0)(T5:(a != b && (a != 0 && b != 0))=true)
  (h0:assoc s.heap 0=some (fY p E k st a N b M)) (ha:assoc s.heap a=some ⟨85,12,X⟩) (hb:assoc s.heap b=some ⟨3,1,S⟩) (hX:X.map nz=c'.flatMap dt) (hS:S=s'.map fun n:Nat=>I n) (hN:N=c'.length) (hM:M=s'.length) :
  Le C s ⟨e,[(0,fY p E k st 3 c'.length 4 s'.length),(3,fp c'),(4,gj s')],5⟩:=by
 subst hN hM hS;simp only[Bool.and_eq_true,bne_iff_ne,ne_eq] at T5;obtain⟨n1,n2,n3⟩:=T5;have n1':¬ b=a:=fun h=>n1 h.symm;refine Le.trans (Le.nz [] [a]) ?_;have e1:Gr [] s.env=s.env:=by
  have:∀ e:List (Nat×CV),Gr [] e=e:=by
   intro e
   induction e with
   | nil=>rfl
   | cons x r ih=>obtain⟨k,c⟩:=x;rw[Gr,ih];rfl
  exact this _
 rw[e1];have g0:assoc (AR [a] s.heap) 0=some (fY p E k st a c'.length b s'.length):=by
  rw[er,h0];simp[Ne.symm n2]
 have ga:assoc (AR [a] s.heap) a=some (fp c'):=by
  rw[er,ha];simp[hX,fp]
 have gb:assoc (AR [a] s.heap) b=some (gj s'):=by
  rw[er,hb];simp[n1',gj]
 have r0:fF [(0,0),(a,3),(b,4)] 5 0=0:=rfl;have ra:fF [(0,0),(a,3),(b,4)] 5 a=3:=by simp[fF,assoc,Ne.symm n2]
 have rb:fF [(0,0),(a,3),(b,4)] 5 b=4:=by simp[fF,assoc,Ne.symm n3,n1]
 have P6:=Le.norm (C:=C) (s:=⟨s.env,AR [a] s.heap,s.nx⟩) ks [(0,0),(a,3),(b,4)] 3 5 (by simp[vt,n1,Ne.symm n2,Ne.symm n3]) (by simp only[List.all_cons,List.all_nil,g0,ga,gb];rfl) ?_ yA
 ·simp only[he,List.map_cons,List.map_nil,pick,g0,ga,gb,cj] at P6;rw[zh r0 Pe (.inl h5),r0,ra,rb,rO,ra,rb,fp,gj,cU _ _ _ (cf c'),cU _ _ _ (aU s')] at P6;exact P6
 ·simp only[dr,he,List.map_cons,List.map_nil,pick,g0,ga,gb,List.all_cons,List.all_nil,Bool.and_true,Bool.and_eq_true,List.all_eq_true (l:=e)];refine⟨fun x hx=>HV ((List.all_eq_true.1 Pe) x hx) rfl (.inl (h5 x hx)),Ck E k st a _ b _ _ (by simp[assoc,Ne.symm n2]) (by simp[assoc,Ne.symm n3];split<;>rfl),aE (cf c') _,aE (aU s') _⟩
theorem jH (O0:C.n0=3)(ks:List Nat)(a b:Nat){e:List (Nat×CV)}{E:List En}{k st N M:Nat}{X S cs:List CV}{c':List In}{s':List Nat}(he:pick s.env ks=e)(Pe:(e.all fun x=>CC x.2)=true)(T5:((a != b && (a != 0 && b != 0)) && (a != 5 && b != 5))=true)
  (h0:assoc s.heap 0=some (fY p E k st a N b M)) (ha:assoc s.heap a=some ⟨85,12,X⟩) (hb:assoc s.heap b=some ⟨3,1,S⟩) (h5:assoc s.heap 5=some ⟨265,0,cs⟩) (PE:trees cs=true) (hX:X.map nz=c'.flatMap dt) (hS:S=s'.map fun n:Nat=>I n) (hN:N=c'.length) (hM:M=s'.length) :
  Le C s ⟨e,[(0,fY p E k st 3 c'.length 4 s'.length),(3,fp c'),(4,gj s'),(5,⟨265,0,cs⟩)],6⟩:=by
 subst hN hM hS;simp only[Bool.and_eq_true,bne_iff_ne,ne_eq] at T5;obtain⟨⟨n1,n2,n3⟩,n4,n5⟩:=T5;have n1':¬ b=a:=fun h=>n1 h.symm;refine Le.trans (Le.nz [] [a]) ?_;have e1:Gr [] s.env=s.env:=by
  have:∀ e:List (Nat×CV),Gr [] e=e:=by
   intro e
   induction e with
   | nil=>rfl
   | cons x r ih=>obtain⟨k,c⟩:=x;rw[Gr,ih];rfl
  exact this _
 rw[e1];have g0:assoc (AR [a] s.heap) 0=some (fY p E k st a c'.length b s'.length):=by
  rw[er,h0];simp[Ne.symm n2]
 have ga:assoc (AR [a] s.heap) a=some (fp c'):=by
  rw[er,ha];simp[hX,fp]
 have gb:assoc (AR [a] s.heap) b=some (gj s'):=by
  rw[er,hb];simp[n1',gj]
 have g5:assoc (AR [a] s.heap) 5=some ⟨265,0,cs⟩:=by
  rw[er,h5];simp;intro h;exact (n4 h.symm).elim
 have r0:fF [(0,0),(a,3),(b,4),(5,5)] 6 0=0:=rfl;have ra:fF [(0,0),(a,3),(b,4),(5,5)] 6 a=3:=by simp[fF,assoc,Ne.symm n2]
 have rb:fF [(0,0),(a,3),(b,4),(5,5)] 6 b=4:=by simp[fF,assoc,Ne.symm n3,n1]
 have r5:fF [(0,0),(a,3),(b,4),(5,5)] 6 5=5:=by simp[fF,assoc,n4,n5]
 have P6:=Le.norm (C:=C) (s:=⟨s.env,AR [a] s.heap,s.nx⟩) ks [(0,0),(a,3),(b,4),(5,5)] 3 6 (by simp[vt,n1,Ne.symm n2,Ne.symm n3,n4,n5]) (by simp only[List.all_cons,List.all_nil,g0,ga,gb,g5];rfl) ?_ yA
 ·simp only[he,List.map_cons,List.map_nil,pick,g0,ga,gb,g5,cj] at P6;rw[zh r0 Pe (.inr r5),r0,ra,rb,r5,rO,ra,rb,fp,gj,cU _ _ _ (cf c'),cU _ _ _ (aU s'),cU _ _ _ PE] at P6;exact P6
 ·simp only[dr,he,List.map_cons,List.map_nil,pick,g0,ga,gb,g5,List.all_cons,List.all_nil,Bool.and_true,Bool.and_eq_true,List.all_eq_true (l:=e)];refine⟨fun x hx=>HV ((List.all_eq_true.1 Pe) x hx) rfl (.inr (by simp[assoc,n4,n5])),Ck E k st a _ b _ _ (by simp[assoc,Ne.symm n2]) (by simp[assoc,Ne.symm n3];split<;>rfl),aE (cf c') _,aE (aU s') _,aE PE _⟩
end
theorem y4 (p:Pg)(E:List En)(k st a cl b sl n:Nat)(ha:a<n)(hb:b<n):aX n (fY p E k st a cl b sl).cells=true:=by
 obtain⟨t1,t2,t3⟩:=jd p;have t4:tree (.aA (E.flatMap im) E.length)=true:=by simp only[tree]
 simp only[fY,aX,aW n _ t1,aW n _ t2,aW n _ t3,aW n _ t4,Bool.true_and];simp[a9,ha,hb]
def okW (c:CV):Bool:=match c with
 | .ax p 0=>p == 0
 | c=>tree c
theorem HU {c:CV}(h:okW c=true)(ρ:Nat→Nat)(h0:ρ 0=0):dR ρ c=c:=by
 cases c with
 | ax q f=>
  cases f with
  | zero=>
   simp only[okW,beq_iff_eq] at h;subst h;rw[dR,h0]
  | succ f=>simp[okW,tree] at h
 | _=>exact g7 _ _ h
theorem DV {ρ:Nat→Nat}(h0:ρ 0=0):∀ {cs:List CV},cs.all okW=true→ca ρ cs=cs
 | [],_=>rfl
 | c::cs,h=>by
  simp only[List.all_cons,Bool.and_eq_true] at h;rw[ca,HU h.1 ρ h0,DV h0 h.2]
theorem vj {n:Nat}(hn:0<n):∀ {cs:List CV},cs.all okW=true→aX n cs=true
 | [],_=>rfl
 | c::cs,h=>by
  simp only[List.all_cons,Bool.and_eq_true] at h;rw[aX,vj hn h.2,Bool.and_true];have h1:=h.1
  cases c with
  | ax q f=>
   cases f with
   | zero=>
    simp only[okW,beq_iff_eq] at h1;subst h1
    simpa [a9] using hn
   | succ f=>simp[okW,tree] at h1
  | _=>exact aW _ _ h1
theorem Ks (m:Nat)(h:4<m):HW [0,3,4] m=true:=by
 simp only[HW,List.all_cons,List.all_nil,Bool.and_true,Bool.and_eq_true,decide_eq_true_eq];refine⟨⟨by omega,by omega,by omega⟩,by decide⟩
theorem Ic (m:Nat):cQ [0,3,4] m 0=0:=rfl
theorem mapN1 (m:Nat):cQ [0,3,4] m 1=3:=rfl
theorem mapN2 (m:Nat):cQ [0,3,4] m 2=4:=rfl
theorem mapN3 (m:Nat):cQ [0,3,4] m 3=m:=by simp[cQ]
theorem mapN4 (m:Nat):cQ [0,3,4] m 4=m+1:=by simp[cQ];omega
def hO (H:List (Nat×Ob))(ks:List Nat)(nx:Nat):Bool:=H.all fun x=>!ks.contains x.1 && decide (x.1<nx)
theorem qM:∀ (ks:List Nat) (H:List (Nat×Ob)) (nx:Nat),hO H ks nx=true→dx H ks=H
 | [],_,_,_=>rfl
 | k::ks,H,nx,h=>by
  have h1:jD H k=H:=by
   have:∀ H:List (Nat×Ob),hO H (k::ks) nx=true→jD H k=H:=by
    intro H
    induction H with
    | nil=>intro _;rfl
    | cons x r ih=>
     intro h;obtain⟨q,ob⟩:=x;have h':=h;simp only[hO,List.all_cons,Bool.and_eq_true] at h';have h2:=h'.1.1;simp only[Bool.not_eq_true',List.contains_eq_mem,decide_eq_false_iff_not,List.mem_cons,not_or] at h2;rw[jD,if_neg h2.1,ih h'.2]
   exact this H h
  rw[dx,h1];refine qM ks H nx ?_;simp only[hO,List.all_eq_true,Bool.and_eq_true,Bool.not_eq_true',List.contains_eq_mem,decide_eq_false_iff_not,List.mem_cons,not_or] at h ⊢;exact fun x hx=>⟨(h x hx).1.2,(h x hx).2⟩
theorem LH {H:List (Nat×Ob)}{ks:List Nat}{nx:Nat}(h:hO H ks nx=true):(H.all fun x=>decide (x.1<nx))=true:=by
 simp only[hO,List.all_eq_true,Bool.and_eq_true] at h ⊢;exact fun x hx=>(h x hx).2
section
variable {C:Cx}{p:Pg}{ops:Array Oper}{e:List (Nat×CV)}{H:List (Nat×Ob)}{nx:Nat}
theorem Fl (E:List En)(k st cl sl nx:Nat):cj (cQ [0,3,4] nx) [(0,di p E k st cl sl)]=[(0,fY p E k st 3 cl 4 sl)]:=by
 rw[cj,cj,y3,rO];rfl
theorem TL.gX {o:Oper}{l:List Oper}{c:Call}{g:FuncId}{args:List CV}{K:St→Prop}{r0:CV}{E:List En}{k st cl sl:Nat}(hb:Body Tryz.prog ak g args [(0,di p E k st cl sl)] 3 (jb r0 [(0,di p E k st cl sl)] 3))(Qa:4<nx)(hH:hO H [0] nx=true)
  (hd:a6 C.nt o.dst=true) (hg:bZ ops ⟨e,(0,fY p E k st 3 cl 4 sl)::H,nx⟩ o=Option.some true) (ho:o.op=.call c) (Ps:bm ⟨e,(0,fY p E k st 3 cl 4 sl)::H,nx⟩ c=Option.some (g,args)) (O4:args.all okW=true) (ht:tree r0=true)
  (hK:TL Tryz.prog C ops l (St.put ⟨e,(0,fY p E k st 3 cl 4 sl)::H,nx⟩ o.dst r0) K):TL Tryz.prog C ops (o::l) ⟨e,(0,fY p E k st 3 cl 4 sl)::H,nx⟩ K:=by
 have OZ:dx ((0,fY p E k st 3 cl 4 sl)::H) [0]=H:=qM [0] H nx hH;refine TL.vZ ai [0,3,4] [0] 3 0 hb rfl (Ks nx Qa) hd hg ho ZZ (by simp only[Fl];rfl) (vj yA O4) (by simp only[dc,y3,y4 p E k st 1 cl 2 sl 3 yA yA];rfl) ht ?_ ?_
 ·simp only[Fl,OZ,lD,List.all_cons,List.all_nil,Bool.and_true,Bool.and_eq_true];exact⟨rfl,LH hH⟩
 ·simp only[Fl,OZ];exact hK
theorem RX.gX {o:Oper}{cl:Call}{g:FuncId}{args:List CV}{r0:CV}{nt N:Nat}{dyn:List (Nat×Nat)}{K:St→Prop}{i:Nat}{r:List Nat}{res:Nat→Er}{E:List En}{k st cn sn:Nat}(hb:Body Tryz.prog ak g args [(0,di p E k st cn sn)] 3 (jb r0 [(0,di p E k st cn sn)] 3))(Qa:4<nx)(hH:hO H [0] nx=true)
  (hi:ops[i]? = Option.some o) (hd:a6 nt o.dst=true) (hg:bZ ops ⟨e,(0,fY p E k st 3 cn 4 sn)::H,nx⟩ o=Option.some true) (hu:ck o=Option.some cl) (Ps:bm ⟨e,(0,fY p E k st 3 cn 4 sn)::H,nx⟩ cl=Option.some (g,args)) (O4:args.all okW=true) (ht:tree r0=true) (hv:zP dyn res i [0]=true)
  (hK:Gx dyn res i (iP r0 [0] [] 0 [(0,fY p E k st 3 cn 4 sn)])=true∧pJ ak nt ops N dyn (Hv Tryz.prog ak nt ops N dyn K) r (note dyn res i (iP r0 [0] [] 0 [(0,fY p E k st 3 cn 4 sn)])) (St.put ⟨e,(0,fY p E k st 3 cn 4 sn)::H,nx⟩ o.dst r0)):RX Tryz.prog ak nt ops N dyn K (i::r) res ⟨e,(0,fY p E k st 3 cn 4 sn)::H,nx⟩:=by
 have OZ:dx ((0,fY p E k st 3 cn 4 sn)::H) [0]=H:=qM [0] H nx hH;refine RX.vZ [0,3,4] [0] [] 3 0 hb rfl (Ks nx Qa) hi hd hg hu ZZ (by simp only[Fl];rfl) (vj yA O4) (by simp only[dc,y3,y4 p E k st 1 cn 2 sn 3 yA yA];rfl) ht hv (by simp only[Fl];rfl) (fun _ _ _=>rfl) ?_;simp only[Fl,OZ];exact hK
def T3 (p:Pg)(E:List En)(k st cl sl:Nat)(o1 o2:Ob):List (Nat×Ob):=[(0,fY p E k st 1 cl 2 sl),(1,o1),(2,o2)]
theorem rn_T {E:List En}{k st cl sl nx:Nat}{o1 o2:Ob}(h1:trees o1.cells=true)(h2:trees o2.cells=true):cj (cQ [0,3,4] nx) (T3 p E k st cl sl o1 o2)=[(0,fY p E k st 3 cl 4 sl),(3,o1),(4,o2)]:=by
 simp only[T3,cj,rO,Ic,mapN1,mapN2];rw[show cc (cQ [0,3,4] nx) o1=o1 from cU _ _ _ h1,show cc (cQ [0,3,4] nx) o2=o2 from cU _ _ _ h2]
def T4 (p:Pg)(E:List En)(k st cl sl:Nat)(o1 o2:Ob):List (Nat×Ob):=[(0,fY p E k st 3 cl 4 sl),(3,o1),(4,o2)]
theorem DK {E:List En}{k st cl sl nx:Nat}{o1 o2:Ob}(h1:trees o1.cells=true)(h2:trees o2.cells=true):cj (cQ [0,3,4] nx) (T4 p E k st cl sl o1 o2)=[(0,fY p E k st nx cl (nx+1) sl),(nx,o1),(nx+1,o2)]:=by
 simp only[T4,cj,rO,Ic,mapN3,mapN4];rw[show cc (cQ [0,3,4] nx) o1=o1 from cU _ _ _ h1,show cc (cQ [0,3,4] nx) o2=o2 from cU _ _ _ h2]
theorem L3 {E:List En}{k st cl sl:Nat}{o1 o2:Ob}(h1:trees o1.cells=true)(h2:trees o2.cells=true):dc 3 (T3 p E k st cl sl o1 o2)=true:=by
 simp only[T3,dc,y4 p E k st 1 cl 2 sl 3 yA yA,gI 3 _ h1,gI 3 _ h2];rfl
variable {E E':List En}{k k' st XP cn Ya sn XQ:Nat}{o1 o2 o3 o4:Ob}{args:List CV}{r0:CV}{g:FuncId}
theorem TL.ij {o:Oper}{l:List Oper}{c:Call}{K:St→Prop}(hb:Body Tryz.prog ak g args (T3 p E k st cn sn o1 o2) 3 (jb r0 (T4 p E' k' XP Ya XQ o3 o4) (3+2)))(h1:trees o1.cells=true)(h2:trees o2.cells=true)(h3:trees o3.cells=true)(h4:trees o4.cells=true)(Qa:4<nx)(hH:hO H [0,3,4] nx=true)
  (hd:a6 C.nt o.dst=true) (hg:bZ ops ⟨e,(0,fY p E k st 3 cn 4 sn)::(3,o1)::(4,o2)::H,nx⟩ o=Option.some true) (ho:o.op=.call c) (Ps:bm ⟨e,(0,fY p E k st 3 cn 4 sn)::(3,o1)::(4,o2)::H,nx⟩ c=Option.some (g,args)) (O4:args.all okW=true) (ht:tree r0=true)
  (hK:TL Tryz.prog C ops l (St.put ⟨e,(0,fY p E' k' XP nx Ya (nx+1) XQ)::(nx,o3)::(nx+1,o4)::H,nx+2⟩ o.dst r0) K):TL Tryz.prog C ops (o::l) ⟨e,(0,fY p E k st 3 cn 4 sn)::(3,o1)::(4,o2)::H,nx⟩ K:=by
 have OZ:dx ((0,fY p E k st 3 cn 4 sn)::(3,o1)::(4,o2)::H) [0,3,4]=H:=qM [0,3,4] H nx hH;refine TL.vZ ai [0,3,4] [0,3,4] 3 2 hb rfl (Ks nx Qa) hd hg ho ZZ (by simp only[rn_T h1 h2];rfl) (vj yA O4) (L3 h1 h2) ht ?_ ?_
 ·simp only[DK h3 h4,OZ,lD,Bool.and_eq_true];exact⟨by simp,LH hH⟩
 ·simp only[DK h3 h4,OZ];exact hK
theorem RX.ij {o:Oper}{cl:Call}{nt N:Nat}{dyn:List (Nat×Nat)}{K:St→Prop}{i:Nat}{r:List Nat}{res:Nat→Er}(hb:Body Tryz.prog ak g args (T3 p E k st cn sn o1 o2) 3 (jb r0 (T4 p E' k' XP Ya XQ o3 o4) (3+2)))(h1:trees o1.cells=true)(h2:trees o2.cells=true)(h3:trees o3.cells=true)(h4:trees o4.cells=true)(Qa:4<nx)(hH:hO H [0,3,4] nx=true)
  (hi:ops[i]? = Option.some o) (hd:a6 nt o.dst=true) (hg:bZ ops ⟨e,(0,fY p E k st 3 cn 4 sn)::(3,o1)::(4,o2)::H,nx⟩ o=Option.some true) (hu:ck o=Option.some cl) (Ps:bm ⟨e,(0,fY p E k st 3 cn 4 sn)::(3,o1)::(4,o2)::H,nx⟩ cl=Option.some (g,args)) (O4:args.all okW=true) (ht:tree r0=true) (hv:zP dyn res i [0,3,4]=true)
  (hK:Gx dyn res i (iP r0 [0,3,4] [0,3,4,nx,nx+1] 2 [(0,fY p E' k' XP nx Ya (nx+1) XQ),(nx,o3),(nx+1,o4)])=true∧pJ ak nt ops N dyn (Hv Tryz.prog ak nt ops N dyn K) r (note dyn res i (iP r0 [0,3,4] [0,3,4,nx,nx+1] 2 [(0,fY p E' k' XP nx Ya (nx+1) XQ),(nx,o3),(nx+1,o4)])) (St.put ⟨e,(0,fY p E' k' XP nx Ya (nx+1) XQ)::(nx,o3)::(nx+1,o4)::H,nx+2⟩ o.dst r0)) :
  RX Tryz.prog ak nt ops N dyn K (i::r) res ⟨e,(0,fY p E k st 3 cn 4 sn)::(3,o1)::(4,o2)::H,nx⟩:=by
 have OZ:dx ((0,fY p E k st 3 cn 4 sn)::(3,o1)::(4,o2)::H) [0,3,4]=H:=qM [0,3,4] H nx hH;refine RX.vZ [0,3,4] [0,3,4] [0,3,4,nx,nx+1] 3 2 hb rfl (Ks nx Qa) hi hd hg hu ZZ (by simp only[rn_T h1 h2];rfl) (vj yA O4) (L3 h1 h2) ht hv ?_ (fun q hq hn=>(hn (List.mem_append_left [nx,nx+1] hq)).elim) ?_
 ·simp only[DK h3 h4];have e1:¬ 0=nx:=by omega
  have e2:¬ 3=nx:=by omega
  simp[assoc,e1]
 ·simp only[DK h3 h4,OZ];exact hK
def OR (c:List In)(cs:List CV):Ob:=⟨85,12,c.flatMap dt++cs⟩
theorem xk (c:List In){cs:List CV}(h:trees cs=true):trees (OR c cs).cells=true:=by simp only[OR,bC,cf,h];rfl
theorem u7 (p:Pg)(E:List En)(k st:Nat)(c:List In)(s:List Nat)(cs:List CV)(PE:cs.length=12)(Rg:trees cs=true)(n:Nat)(hN:c.length≤10000)(hM:s.length≤10000) :
  Body Tryz.prog ak 204 [.ax 0 0,.agg cs,I n] (T3 p E k st c.length s.length (fp c) (gj s)) 3 (jb (I c.length) (T4 p E k st (c.length+1) (s.length+1) (OR c cs) (gj (s++[n]))) (3+2)):=by
 have:=MK p E k st (c.flatMap dt) c.length (zK c) (cf c) (s.map fun n:Nat=>I n) s.length OU (aU s) hN hM cs PE Rg n
 simpa only[T3,T4,OR,gj,fp,List.map_append,List.map_cons,List.map_nil] using this
theorem ML (p:Pg)(E:List En)(k st:Nat)(c:List In)(s:List Nat)(N M:Nat)(h1:N=c.length)(h2:M=s.length)(cs:List CV)(PE:cs.length=12)(Rg:trees cs=true)(n:Nat)(hN:N≤10000)(hM:M≤10000) :
  Body Tryz.prog ak 204 [.ax 0 0,.agg cs,I n] (T3 p E k st N M (fp c) (gj s)) 3 (jb (I N) (T4 p E k st (N+1) (M+1) (OR c cs) (gj (s++[n]))) (3+2)):=by
 subst h1 h2;exact u7 p E k st c s cs PE Rg n hN hM
theorem jB (c:List In)(cs:List CV)(x:In)(h:cs.map nz=dt x):(c.flatMap dt++cs).map nz=(c++[x]).flatMap dt:=by simp[qw,h]
end
theorem pC (E0:List En)(l:List Sm)(i:Nat):((bE E0 l i).all fun x=>CC x.2)=true:=by
 simp[bE,CC,tree]
theorem pD (E0:List En)(l:List Sm)(i:Nat):∀ x∈bE E0 l i,x.2≠CV.ax 5 0:=by
 simp[bE]
@[simp] theorem J9 (p:Pg)(E:List En)(k st a cl b sl n:Nat):(fY p E k st a cl b sl).cells.all (a9 n)=(decide (a<n) && decide (b<n)):=by
 obtain⟨t1,t2,t3⟩:=jd p;have t4:tree (.aA (E.flatMap im) E.length)=true:=by simp only[tree]
 simp only[fY,List.all_cons,List.all_nil,aW n _ t1,aW n _ t2,aW n _ t3,aW n _ t4,Bool.true_and];simp[a9]
@[simp] theorem scO_ltS (p:Pg)(E:List En)(k st a cl b sl n:Nat):aX n (fY p E k st a cl b sl).cells=(decide (a<n) && decide (b<n)):=by rw[cB];exact J9 p E k st a cl b sl n
@[simp] theorem Jb (c:List In)(n:Nat):(fp c).cells.all (a9 n)=true:=ah (cf c) n
@[simp] theorem Hn (s:List Nat)(n:Nat):(gj s).cells.all (a9 n)=true:=ah (aU s) n
@[simp] theorem coOb_ltS (c:List In)(n:Nat):aX n (fp c).cells=true:=by rw[cB];exact Jb c n
@[simp] theorem siOb_ltS (s:List Nat)(n:Nat):aX n (gj s).cells=true:=by rw[cB];exact Hn s n
@[simp] theorem coOb_frz (c:List In)(o:Nat)(cs:List CV)(n:Nat):(fp c).cells.map (cH o cs n)=(fp c).cells:=cI (cf c) o cs n
@[simp] theorem siOb_frz (s:List Nat)(o:Nat)(cs:List CV)(n:Nat):(gj s).cells.map (cH o cs n)=(gj s).cells:=cI (aU s) o cs n
@[simp] theorem coOb_eta (c:List In):(⟨(fp c).elem,(fp c).sz,(fp c).cells⟩:Ob)=fp c:=rfl
@[simp] theorem siOb_eta (s:List Nat):(⟨(gj s).elem,(gj s).sz,(gj s).cells⟩:Ob)=gj s:=rfl
def MZ (p:Pg)(E0:List En)(l:List Sm)(i:Nat)(E:List En)(k st:Nat)(c:List In)(s:List Nat)(cs:List CV)(n:Nat):St:=
 ⟨mE E0 l i n,[(0,fY p E k st 3 c.length 4 s.length),(3,fp c),(4,gj s),(5,⟨265,0,cs⟩)],6⟩
set_option maxHeartbeats 4000000 in
theorem K1 {C:Cx}{Q:Exit→St→Prop}(hC:C.nt=253)(O0:C.n0=3)(p:Pg)(E0:List En)(l:List Sm)(i:Nat){g:Nat}{fs:List (ByteArray×List Pm)}{ps:List Pm}{V:List ByteArray}(E:List En)(k st:Nat)(c:List In)(s:List Nat)(n:Nat)
  (hE:EW g p.ms fs ps V E k) (hl:E.length≤100000) (hm:p.ms.length≤1000) (hc:c.length≤9000) (hs:s.length≤9000) (u:Bool) (r:Rf) (hr:Gy p.ms ps V r) :
  T Tryz.prog C (kj Tryz.f203 2) (MS p E0 l i E k st c s (.dA u r) n) (eU (ae C (fun z=>z=NS p E0 l i E k st (c++[.lock u (y7 E r)]) (s++[n]))) Q):=by
 have hb:=D6 p E k st c.length s.length hE hl hm n r hr;obtain⟨b1,b2,b3,b4,hp,ht⟩:=HO (y7 E r);obtain⟨a1,a2,a3,YP,YB⟩:=My r;have Pj:dt (.lock u (y7 E r))=[I (if u then 5 else 4),I 0,.bool false,I 0,I 0,.str eS,.aA [] 0,.bool b1,I b2,.aA b3 b4,.aA [] 0,.aA [] 0]:=by simp[dt,hp,bR]
 rw[hp,YP] at hb;apply T.block;have RP:ik (.dA u r)=[I (if u then 6 else 5),.str eS,I 0,I 0,.str eS,.aA [] 0,.str a1,.aA a2 a3,.aA [] 0,.aA [] 0,.aA [] 0]:=by simp[ik,YP,bR]
 simp only[MS,mE,mH,Ii,RP]
 cases u with
 | false=>
  apply aq;simp[hC];refine a7 ?_;simp;apply aq;simp[hC];refine a7 ?_;simp;apply aO;simp[hC];refine a7 ?_;simp;apply aV;simp[hC];refine a7 ?_;simp;apply aq;simp[hC];refine fE ?_;simp;apply aV;simp[hC];refine TL.gX (hb) yA rfl O5 rfl rfl RE RH RG (TL.go' ai ?_);simp[hC];refine TL.ij (u7 p E k st c s [I 4,I 0,.bool false,I 0,I 0,.str eS,.aa,.bool b1,I b2,.aA b3 b4,.aa,.aa] rfl (by simp[trees,tree]) n yA yA) Rm (aU _) Rm (aU _) yA rfl O5 rfl rfl RE RH RG (TL.go' ai ?_);simp;refine ae.le (k9 O0 [5,4,0,1] 6 7 (e:=bE E0 l i) rfl (pC _ _ _) (pD _ _ _) rfl rfl rfl rfl (jB _ _ (.lock false (y7 E r)) (by simp[Pj])) rfl OU OU) (ae.here rfl)
 | true=>
  apply aq;simp[hC];refine a7 ?_;simp;apply aq;simp[hC];refine a7 ?_;simp;apply aO;simp[hC];refine a7 ?_;simp;apply aV;simp[hC];refine a7 ?_;simp;apply aq;simp[hC];refine a7 ?_;simp;apply aq;simp[hC];refine fE ?_;simp;apply aV;simp[hC];refine TL.gX (hb) yA rfl O5 rfl rfl RE RH RG (TL.go' ai ?_);simp[hC];refine TL.ij (u7 p E k st c s [I 5,I 0,.bool false,I 0,I 0,.str eS,.aa,.bool b1,I b2,.aA b3 b4,.aa,.aa] rfl (by simp[trees,tree]) n yA yA) Rm (aU _) Rm (aU _) yA rfl O5 rfl rfl RE RH RG (TL.go' ai ?_);simp;refine ae.le (k9 O0 [5,4,0,1] 6 7 (e:=bE E0 l i) rfl (pC _ _ _) (pD _ _ _) rfl rfl rfl rfl (jB _ _ (.lock true (y7 E r)) (by simp[Pj])) rfl OU OU) (ae.here rfl)
set_option maxHeartbeats 4000000 in
theorem Nz {C:Cx}{Q:Exit→St→Prop}(hC:C.nt=253)(O0:C.n0=3)(p:Pg)(E0:List En)(l:List Sm)(i:Nat)(E:List En)(k st:Nat)(c:List In)(s:List Nat)(n:Nat)
  (hc:c.length≤9000) (hs:s.length≤9000) :
  T Tryz.prog C (kj Tryz.f203 2) (MS p E0 l i E k st c s .jF n) (eU (ae C (fun z=>z=NS p E0 l i E k st (c++[.ret]) (s++[n]))) Q):=by
 apply T.block;simp only[MS,mE,mH,Ii,ik];apply aq;simp[hC];refine a7 ?_;simp;apply aq;simp[hC];refine a7 ?_;simp;apply aO;simp[hC];refine a7 ?_;simp;apply aV;simp[hC];refine a7 ?_;simp;apply aq;simp[hC];refine a7 ?_;simp;apply aq;simp[hC];refine a7 ?_;simp;apply aq;simp[hC];refine a7 ?_;simp;apply aq;simp[hC];refine a7 ?_;simp;apply aV;simp[hC];refine TL.ij (u7 p E k st c s [I 8,I 0,.bool false,I 0,I 0,.str eS,.aa,.bool false,I 0,.aa,.aa,.aa] rfl rfl n yA yA) Rm (aU _) Rm (aU _) yA rfl O5 rfl rfl RE RH RG (TL.go' ai ?_);simp;refine ae.le (k9 O0 [5,4,0,1] 6 7 (e:=bE E0 l i) rfl (pC _ _ _) (pD _ _ _) rfl rfl rfl rfl (jB _ _ (.ret) (by simp[dt,bR,sQ])) rfl OU OU) (ae.here rfl)
set_option maxHeartbeats 4000000 in
theorem K2 {C:Cx}{Q:Exit→St→Prop}(hC:C.nt=253)(O0:C.n0=3)(p:Pg)(E0:List En)(l:List Sm)(i:Nat){g:Nat}{ps:List Pm}{V:List ByteArray}(E:List En)(k st:Nat)(c:List In)(s:List Nat)(n:Nat)
  (hE:EW g p.ms (p.fs.map fun f=>(f.name,f.params)) ps V E k) (hl:E.length≤100000) (hm:p.ms.length≤1000) (PO:p.fs.length≤1000) (hc:c.length≤9000) (hs:s.length≤9000) (go:Bool) (nm:ByteArray) (gp:List Pm) (al:List Ar)
  (hg:(nm,gp)∈p.fs.map fun f=>(f.name,f.params)) (hw:jw p.ms ps V gp al) (TY:gp.length≤1000) :
  T Tryz.prog C (kj Tryz.f203 2) (MS p E0 l i E k st c s (.ef go nm al) n) (eU (ae C (fun z=>z=NS p E0 l i E k st (c++[.call go (lV E nm).n (db E al) (e8 E al)]) (s++[n]))) Q):=by
 have hb:=Ih p E k st c.length s.length hE hl hm PO n go nm gp al hg hw TY;have SP:=fW (.call go (lV E nm).n (db E al) (e8 E al));have lin:=eK (.call go (lV E nm).n (db E al) (e8 E al));have nin:=HZ (.call go (lV E nm).n (db E al) (e8 E al));have Z4:=iz (.ef go nm al);have lsm:=kE (.ef go nm al);generalize hX:dt (.call go (lV E nm).n (db E al) (e8 E al))=X at hb SP lin nin;have hS:ik (.ef go nm al)=pG (if go=true then 4 else 3) nm al:=rfl;rw[hS] at hb;apply T.block;simp only[MS,mE,mH,Ii,hS,pG];simp only[pG] at hb
 cases go with
 | false=>
  apply aq;simp[hC];refine a7 ?_;simp;apply aq;simp[hC];refine a7 ?_;simp;apply aO;simp[hC];refine fB ?_;simp;refine fE ?_;simp;apply aV;simp[hC];refine TL.gX (hb) yA rfl O5 rfl rfl RE RH RG (TL.go' ai ?_);simp[hC];refine TL.ij (u7 p E k st c s X lin SP n yA yA) Rm (aU _) Rm (aU _) yA rfl O5 rfl rfl RE RH RG (TL.go' ai ?_);simp;refine ae.le (k9 O0 [5,4,0,1] 6 7 (e:=bE E0 l i) rfl (pC _ _ _) (pD _ _ _) rfl rfl rfl rfl (jB _ _ (.call false (lV E nm).n (db E al) (e8 E al)) (by simp[nin,hX])) rfl OU OU) (ae.here rfl)
 | true=>
  apply aq;simp[hC];refine a7 ?_;simp;apply aq;simp[hC];refine a7 ?_;simp;apply aO;simp[hC];refine a7 ?_;simp;apply aV;simp[hC];refine fE ?_;simp;apply aV;simp[hC];refine TL.gX (hb) yA rfl O5 rfl rfl RE RH RG (TL.go' ai ?_);simp[hC];refine TL.ij (u7 p E k st c s X lin SP n yA yA) Rm (aU _) Rm (aU _) yA rfl O5 rfl rfl RE RH RG (TL.go' ai ?_);simp;refine ae.le (k9 O0 [5,4,0,1] 6 7 (e:=bE E0 l i) rfl (pC _ _ _) (pD _ _ _) rfl rfl rfl rfl (jB _ _ (.call true (lV E nm).n (db E al) (e8 E al)) (by simp[nin,hX])) rfl OU OU) (ae.here rfl)
set_option maxHeartbeats 4000000 in
theorem NB {C:Cx}{Q:Exit→St→Prop}(hC:C.nt=253)(O0:C.n0=3)(p:Pg)(E0:List En)(l:List Sm)(i:Nat){g:Nat}{fs:List (ByteArray×List Pm)}{ps:List Pm}{V:List ByteArray}(E:List En)(k st:Nat)(c:List In)(s:List Nat)(n:Nat)
  (hE:EW g p.ms fs ps V E k) (hl:E.length≤100000) (hc:c.length≤9000) (hs:s.length≤9000) (nm:ByteArray) (x:Ex) (hn:nm∈V) (hx:fS V 2 x) :
  T Tryz.prog C (kj Tryz.f203 2) (MS p E0 l i E k st c s (.iD nm x) n) (eU (ae C (fun z=>z=NS p E0 l i E k st (c++[.set (lV E nm).n (decide ((lV E nm).kind=1)) (dT E x)]) (s++[n]))) Q):=by
 obtain⟨kd,j,hf,hkd⟩:=hE.v nm hn;have hv:=sI p E k st c.length s.length hl nm _ hf (by simp only;omega) n;rw[ia hf];have hb:=j9 p E k st c.length s.length hE hl n 2 x hx;obtain⟨a1,a2,a3,a4,a5,ha,YB⟩:=lv x;obtain⟨b1,b2,b3,b4,b5,Po,htb⟩:=lv (dT E x);have Pj:dt (.set j (decide (kd=1)) (dT E x))=[I 1,I j,.bool (decide (kd=1)),I b1,I b2,.str b3,.aA b4 b5,.bool false,I 0,.aA [] 0,.aA [] 0,.aA [] 0]:=by simp[dt,Po,sQ]
 have RP:ik (.iD nm x)=[I 2,.str nm,I a1,I a2,.str a3,.aA a4 a5,.str eS,.aA [] 0,.aA [] 0,.aA [] 0,.aA [] 0]:=by simp[ik,ha,k8]
 rw[ha,Po] at hb;have TW:((kd:Int) == 1)=decide (kd=1):=by rcases hkd with ⟨rfl,_⟩ | ⟨rfl,_⟩<;>rfl
 apply T.block;simp only[MS,mE,mH,Ii,RP];apply aq;simp[hC];refine a7 ?_;simp;apply aq;simp[hC];refine fE ?_;simp;apply aq;simp[hC];refine TL.gX (hv) yA rfl O5 rfl rfl RE RH RG (TL.go' ai ?_);simp[hC,im];refine T.le (Le.trim [6,7,5,4,0,1,11] [0,3,4,5,6] 7 Sp yA) ?_;simp;refine T.rx ai follows [0,1,2,3,4,5,6,7,8,9,12,10,11,13] [(2,10),(4,10)] OV ?_;simp[hC];refine RX.gX (hb) yA rfl rfl OU rfl rfl RE RH RG OU ?_;simp;refine RX.ij (u7 p E k st c s [I 1,I j,.bool (decide (kd=1)),I b1,I b2,.str b3,.aA b4 b5,.bool false,I 0,.aa,.aa,.aa] rfl Tm n yA yA) Rm (aU _) Rm (aU _) yA rfl rfl OU rfl rfl RE RH RG OU ?_;simp;refine ae.le (k9 O0 [5,4,0,1] 21 22 (e:=bE E0 l i) rfl (pC _ _ _) (pD _ _ _) rfl rfl rfl rfl (jB _ _ (.set j (decide (kd=1)) (dT E x)) (by simp[Pj])) rfl OU OU) (ae.here rfl)
end Go.Proofs.YtnecpnjdonibmaaGreat
