/- The memory put in order: w -/
import Derived.Test.YtlkmbdfhdknlgaaGreatV17
import Derived.Test.YtlkmbdfhdknlgaaGreatProg
import Derived.KernelRfl
namespace Go.Can
open Go.RowKit List
section
variable {P:Program}{C:Cx}{s:St}
def dW (m:List (Nat×Nat))(n p:Nat):Nat:=match assoc m p with
 | some t=>t
 | none=>p+n
def lF (m:List (Nat×Nat)):CV->Bool
 | .bg p _ _=>(assoc m p).isSome
 | .ax p _=>(assoc m p).isSome
 | .mp p _=>(assoc m p).isSome
 | c=>tree c
def nu (m:List (Nat×Nat)):CV->Bool
 | .agg cs=>cs.all (lF m)
 | .bY cs=>cs.all (lF m)
 | c=>lF m c
theorem HP {m:List (Nat×Nat)}{c:CV}(h:lF m c=true)(o:Nat)(ho:aP o c=false):(assoc m o).isSome=true:=by
 have ht:tree c=true->False:=λ ht=>by rw[mo o c ht] at ho;cases ho
 cases c with
 | bg p _ _=>
  simp only[aP,bne_eq_false_iff_eq] at ho;subst ho;exact h
 | ax p _=>
  simp only[aP,bne_eq_false_iff_eq] at ho;subst ho;exact h
 | mp p _=>
  simp only[aP,bne_eq_false_iff_eq] at ho;subst ho;exact h
 | _=>exact (ht h).elim
theorem uD {m:List (Nat×Nat)}:∀ {cs:List CV},cs.all (lF m)=true->∀ o,dY o cs=false->(assoc m o).isSome=true
 | [],_,o,ho=>by simp[dY] at ho
 | c::cs,h,o,ho=>by
  simp only[all_cons,Bool.and_eq_true] at h;simp only[dY,Bool.and_eq_false_iff] at ho;rcases ho with ho | ho
  ·exact HP h.1 o ho
  ·exact uD h.2 o ho
theorem MX {m:List (Nat×Nat)}{c:CV}(h:nu m c=true)(o:Nat)(ho:aP o c=false):(assoc m o).isSome=true:=by
 cases c with
 | agg cs=>exact uD h o Xx
 | bY cs=>exact uD h o Xx
 | _=>exact HP (m:=m) (by simpa only[nu] using h) o ho
theorem aw {cs:List CV}(h:trees cs=true)(m:List (Nat×Nat)):cs.all (lF m)=true:=all_eq_true.2 λ c hc=>by
 have:=iU h c hc;cases c<;>first | exact this | simp[tree] at this
def cO (s:St)(ks:List Nat)(m:List (Nat×Nat))(_k _n:Nat):Bool:=
 (pick s.env ks).all (λ x=>nu m x.2) && ((pick s.heap (m.map (·.1))).all λ x=>x.2.cells.all (lF m))
def vD (m:List (Nat×Nat))(k n:Nat):Bool:=
 decide (m.map (·.2)).Nodup && decide (m.map (·.1)).Nodup && decide (k<=n) && m.all λ x=>decide (x.2<n) && (x.1 == x.2 || decide (k<=x.2))
theorem fQ {m:List (Nat×Nat)}{p t:Nat}(h:assoc m p=some t):(p,t)∈m:=bF m p t h
theorem rj:∀ {m:List (Nat×Nat)} {p t:Nat},(m.map (·.1)).Nodup->(p,t)∈m->assoc m p=some t
 | [],_,_,_,h=>by cases h
 | (a,b)::r,p,t,hn,h=>by
  simp only[map_cons,nodup_cons] at hn;simp only[assoc];rcases mem_cons.1 h with e | h
  ·cases e;rw[if_pos rfl]
  ·rw[if_neg,rj hn.2 h];intro e;subst e;exact hn.1 (mem_map_of_mem (f:=(·.1)) h)
theorem yI:∀ {m:List (Nat×Nat)} {p q t:Nat},(m.map (·.2)).Nodup->(p,t)∈m->(q,t)∈m->p=q
 | [],_,_,_,_,h,_=>by cases h
 | (a,b)::r,p,q,t,hn,h,h'=>by
  simp only[map_cons,nodup_cons] at hn;rcases mem_cons.1 h with e | h1<;>rcases mem_cons.1 h' with e' | h2
  ·cases e;cases e';rfl
  ·cases e;exact (hn.1 (mem_map_of_mem (f:=(·.2)) h2)).elim
  ·cases e';exact (hn.1 (mem_map_of_mem (f:=(·.2)) h1)).elim
  ·exact yI hn.2 h1 h2
theorem Jz {m:List (Nat×Nat)}{k n:Nat}(h:vD m k n=true):∀ x y,dW m n x=dW m n y->x=y:=by
 simp only[vD,Bool.and_eq_true,decide_eq_true_eq,all_eq_true,Bool.or_eq_true,beq_iff_eq] at h;obtain⟨⟨⟨h1,h2⟩,h3⟩,h4⟩:=h;intro x y SB;unfold dW at SB
 cases hx:assoc m x with
 | none=>
  cases hy:assoc m y with
  | none=>simp only[hx,hy] at SB;omega
  | some t=>
   have:=(h4 _ (fQ hy)).1;simp only[hx,hy] at SB;omega
 | some t=>
  have:=(h4 _ (fQ hx)).1
  cases hy:assoc m y with
  | none=>simp only[hx,hy] at SB;omega
  | some t'=>
   simp only[hx,hy] at SB;subst SB;exact yI h1 (fQ hx) (fQ hy)
def uU (m:List (Nat×Nat))(q:Nat):Option Nat:=(m.find? λ x=>x.2 == q).map (·.1)
theorem GN {m:List (Nat×Nat)}(hn:(m.map (·.2)).Nodup){p t:Nat}(h:(p,t)∈m):uU m t=some p:=by
 unfold uU
 cases hf:m.find? λ x=>x.2 == t with
 | none=>
  rw[find?_eq_none] at hf;exact (hf _ h xr).elim
 | some x=>
  obtain⟨a,b⟩:=x;have h1:=mem_of_find?_eq_some hf;have h2:=find?_some hf;simp only[beq_iff_eq] at h2;subst h2;simp only[Option.map_some];rw[yI hn h1 h]
theorem xj {m:List (Nat×Nat)}{p t:Nat}(h:uU m t=some p):(p,t)∈m:=by
 unfold uU at h;obtain⟨⟨a,b⟩,h1,h2⟩:=Option.map_eq_some_iff.1 h;have h3:=mem_of_find?_eq_some h1;have h4:=find?_some h1;simp only[beq_iff_eq] at h4;subst h4;subst h2;exact h3
theorem Le.norm (ks:List Nat)(m:List (Nat×Nat))(k n:Nat)(hm:vD m k n=true)(hs:(m.all λ x=>(assoc s.heap x.1).isSome || decide (k<=x.1) || x.1 == x.2)=true)(hk:cO s ks m k n=true)(Rc:C.n0<=k) :
  Le C s ⟨cz (dW m n) (pick s.env ks),br (dW m n) (pick s.heap (m.map (·.1))),n⟩:=by
 intro a w ⟨σ,hr⟩;have hi:=Jz hm;have Tc:=hm;simp only[vD,Bool.and_eq_true,decide_eq_true_eq,all_eq_true,Bool.or_eq_true,beq_iff_eq] at Tc;obtain⟨⟨⟨h1,h2⟩,h3⟩,h4⟩:=Tc;simp only[cO,Bool.and_eq_true] at hk;obtain⟨TO,hkh⟩:=hk;rw[all_eq_true] at TO hkh hs
 obtain⟨σ',hσ⟩:∃ σ':Nat->Option OB,∀ q,σ' q=if q<C.n0 then σ q else match uU m q with
   | some o=>σ o
   | none=>none:=⟨_,λ _=>rfl⟩
 have s1:∀ o t,assoc m o=some t->σ' (dW m n o)=σ o:=λ o t ho=>by
  have QA:=fQ ho;have e:dW m n o=t:=by unfold dW;rw[ho]
  rw[e,hσ];split
  ·rename_i OT;rcases (h4 _ QA).2 with h | h
   ·simp only at h;rw[h]
   ·simp only at h;omega
  ·rw[GN h1 QA]
 have s2:∀ o,(assoc m o).isSome=true->σ' (dW m n o)=σ o:=λ o ho=>by
  obtain⟨t,ht⟩:=Option.isSome_iff_exists.1 ho;exact s1 o t ht
 have T5:∀ o ob,assoc (pick s.heap (m.map (·.1))) o=some ob->assoc s.heap o=some ob/\(assoc m o).isSome=true/\ob.cells.all (lF m)=true:=λ o ob ho=>by
  refine⟨eR _ _ _ _ ho,?_,hkh _ (bF _ _ _ ho)⟩;have QA:=bF _ _ _ ho;have:∀ (ks:List Nat) (x:Nat×Ob),x∈pick s.heap ks->x.1∈ks:=by
   intro ks
   induction ks with
   | nil=>intro x hx;simp[pick] at hx
   | cons a r ih=>
    intro x hx;simp only[pick] at hx;split at hx
    ·rcases mem_cons.1 hx with e | hx
     ·subst e;exact mem_cons_self
     ·exact mem_cons_of_mem _ (ih x hx)
    ·exact mem_cons_of_mem _ (ih x hx)
  have UL:=this _ _ QA;simp only[mem_map] at UL;obtain⟨⟨p,t⟩,hp,rfl⟩:=UL;simp only;rw[rj h2 hp];rfl
 have Qo:∀ o,(assoc m o).isSome=true->a9 σ' (dW m n o)=a9 σ o:=λ o ho=>by unfold a9;rw[s2 o ho]
 have hF:∀ b,FB C σ' (br (dW m n) (pick s.heap (m.map (·.1)))) b->FB C σ s.heap b:=by
  rintro b (hb | ⟨q,ob,hq,hb⟩)
  ·exact .inl hb
  ·obtain⟨o,rfl⟩:=eJ _ q ob hq;rw[cD hi] at hq;obtain⟨Pe,ho,_⟩:=Option.map_eq_some_iff.1 hq;obtain⟨g1,g2,_⟩:=T5 o Pe ho;exact .inr ⟨o,Pe,g1,by rwa [Qo o g2] at hb⟩
 have Zq:cY w w (FB C σ s.heap) (FB C σ' (br (dW m n) (pick s.heap (m.map (·.1))))):=cY.same hF;refine⟨σ',hr.oz,hr.tm,hr.os,hr.tape,hr.output,hr.size,hr.frame,?_,?_,?_,?_,?_,Nat.le_trans Rc h3,?_⟩
 ·intro t c hc;simp only[fS] at hc;obtain⟨d,hd,rfl⟩:=Option.map_eq_some_iff.1 hc;obtain⟨v,k1,k2⟩:=hr.env t d (eR _ _ _ _ hd);refine⟨v,k1,(VR.dv _ d v).2 (VR.bL Zq _ _ (λ o ho=>s2 o (MX (TO _ (bF _ _ _ hd)) o ho)) k2)⟩
 ·intro q ob hq;obtain⟨o,rfl⟩:=eJ _ q ob hq;simp only[cD hi] at hq;obtain⟨Pe,ho,rfl⟩:=Option.map_eq_some_iff.1 hq;obtain⟨g1,g2,g3⟩:=T5 o Pe ho;obtain⟨B,m1,m2,m3,m4,m5⟩:=hr.obj o Pe g1;refine⟨B,by rw[s2 o g2];exact m1,m2,λ hb=>by simp only[bf,m3 hb];rfl,by simp only[bf,gk];exact m4,λ b hb=>?_⟩;obtain⟨cur,n1,YC,n3,n4,n5,n6⟩:=m5 b hb;simp only[bf,gy];exact⟨cur,n1,YC,n3,n4,n5,(a7.dv _ _ _).2 (a7.bL Zq _ _ (λ p hp=>s2 p (uD g3 p hp)) n6)⟩
 ·intro q q' ob Pe b hq QS hx QD;obtain⟨o,rfl⟩:=eJ _ q ob hq;obtain⟨o',rfl⟩:=eJ _ q' Pe QS;simp only[cD hi] at hq QS;obtain⟨x,ho,_⟩:=Option.map_eq_some_iff.1 hq;obtain⟨x',Pt,_⟩:=Option.map_eq_some_iff.1 QS;obtain⟨g1,g2,_⟩:=T5 o x ho;obtain⟨g1',g2',_⟩:=T5 o' x' Pt;rw[Qo o g2] at hx;rw[Qo o' g2'] at QD;rw[hr.inj o o' x x' b g1 g1' hx QD]
 ·intro q hq;simp only at hq;rw[hσ,if_neg yA]
  cases YX:uU m q with
  | none=>rfl
  | some o=>
   have:=(h4 _ (xj YX)).1;simp only at this;omega
 ·intro q hq;rw[hσ,if_pos hq];exact hr.fX q hq
 ·intro q B b hq hB hb;rw[hσ,if_neg yA] at hB
  cases YX:uU m q with
  | none=>rw[YX] at hB;cases hB
  | some o=>
   rw[YX] at hB;simp only at hB;have hex:=hs _ (xj YX);simp only[Bool.or_eq_true,decide_eq_true_eq,beq_iff_eq] at hex;rcases hex with (hex | hex) | hex
   rotate_left
   ·exact hr.new o B b (Nat.le_trans Rc hex) hB hb
   ·subst hex;exact hr.new o B b yA hB hb
   obtain⟨ob,QT⟩:=Option.isSome_iff_exists.1 hex;obtain⟨B',m1,_,_,_,m5⟩:=hr.obj o ob QT;rw[m1] at hB;cases hB;obtain⟨cur,_,_,_,n4,_⟩:=m5 b hb;exact n4
variable {ops:Array Oper}{av:List (Nat×TI)}{W:List rz}{nt N:Nat}{dyn:List (Nat×Nat)}{K:St->Prop}{i:Nat}{r:List Nat}{res:Nat->Er}
def qZ (ks g8:List Nat)(m:Nat)(H1:List (Nat×Ob)):Bool:=(H1.all λ x=>ks.contains x.1 || (decide (m<=x.1) && g8.contains x.1)) && g8.all λ p=>ks.contains p || (assoc H1 p).isSome
theorem RX.wa {o:Oper}{cl:Call}{g:FuncId}{args:List CV}{r0:CV}{H H1:List (Nat×Ob)}(ns ks g8:List Nat)(n d:Nat)(hb:Body P av g args H n (jk r0 H1 (n+d)))(hl:ns.length=n)(hk:F6 ns s.nx=true)(hi:ops[i]? = Option.some o)(hd:bl nt o.dst=true)(hg:bW ops s o=Option.some true)(hu:cB o=Option.some cl)
  (Pc:bJ s cl=Option.some (g,aL (bP ns s.nx) args)) (hp:eK s.heap ks=Option.some (br (bP ns s.nx) H)) (ha:aX n args=true) (hH:dq n H=true) (ht:tree r0=true) (hv:zy dyn res i ks=true) (hc:qZ ks g8 s.nx (br (bP ns s.nx) H1)=true)
  (hs:∀ p∈ks,p∉g8->assoc (br (bP ns s.nx) H1) p=assoc (br (bP ns s.nx) H) p)
  (hK:um W dyn res i (iB r0 ks g8 d (br (bP ns s.nx) H1))/\mr av W nt ops N dyn (Cq P av W nt ops N dyn K) r (note dyn res i (iB r0 ks g8 d (br (bP ns s.nx) H1))) (St.put ⟨s.env,br (bP ns s.nx) H1++ec s.heap ks,s.nx+d⟩ o.dst r0)):RX P av W nt ops N dyn K (i::r) res s:=by
 simp only[qZ,Bool.and_eq_true,all_eq_true,Bool.or_eq_true,decide_eq_true_eq] at hc;refine RX.body ks g8 d hi hd hg hu Pc hp (hb.retN ns hl hk ha hH ht) hv ?_ ?_
 ·rintro v s1 ⟨_,h2,h3⟩;refine⟨h3,λ p ob XY=>?_,λ p gJ=>?_,λ p gJ=>?_⟩
  ·rw[h2] at XY;rcases hc.1 _ (bF _ _ _ XY) with h | h
   ·exact .inl Sa
   ·exact .inr h.1
  ·rw[h2];by_cases hm:p∈ks
   ·exact hs p hm gJ
   ·obtain⟨i1,_⟩:=j5 hp;have e1:assoc (br (bP ns s.nx) H) p=none:=by
     cases h4:assoc (br (bP ns s.nx) H) p with
     | none=>rfl
     | some y=>exact (hm (i1 p y h4).1).elim
    have e2:assoc (br (bP ns s.nx) H1) p=none:=by
     cases h4:assoc (br (bP ns s.nx) H1) p with
     | none=>rfl
     | some y=>
      rcases hc.1 _ (bF _ _ _ h4) with h | h
      ·exact (hm Sa).elim
      ·exact (gJ (by simpa using h.2)).elim
    rw[e1,e2]
  ·rw[h2];rcases hc.2 p gJ with h | h
   ·exact .inl Sa
   ·exact .inr h
 ·rintro v s1 ⟨h1,h2,_⟩;subst h1;rw[h2];exact hK
attribute [simp] qZ iB
end
section
variable {P:Program}{C:Cx}{σ:Nat->Option OB}{s:St}{a:Act}{w:World}{ops:Array Oper}{av:List (Nat×TI)}
theorem Body.K3 {f:FuncId}{args:List CV}{H H1:List (Nat×Ob)}{n m d:Nat}{r0:CV}(l:List Nat)(hl:l.length=n)(h:Body P av f args H n (jk r0 H1 (n+d)))(hk:F6 l m=true)(hr:aX n args=true)(hH:dq n H=true) :
  Body P av f (aL (bP l m) args) (br (bP l m) H) m (jk (cQ (bP l m) r0) (br (bP l m) H1) (m+d)):=by
 subst hl;refine (Body.grow (DO hk) (CM hk) (λ p hp=>if_neg yA) h hr hH λ r s h=>h.2.2).ret λ r s ⟨r1,s1,h1,h2,h3⟩=>?_;obtain⟨k1,k2,k3⟩:=h1;subst h3;rw[h2,k1,k2];exact⟨rfl,rfl,rfl⟩
theorem TL.du (RQ:aD P av){o:Oper}{l:List Oper}{c:Call}{g:FuncId}{args:List CV}{K:St->Prop}{r0:CV}{H H1:List (Nat×Ob)}(ns ks:List Nat)(n d:Nat)(hb:Body P av g args H n (jk r0 H1 (n+d)))(hl:ns.length=n)(hk:F6 ns s.nx=true)(hd:bl C.nt o.dst=true)(hg:bW ops s o=Option.some true)(ho:o.op=.call c)(Pc:bJ s c=Option.some (g,aL (bP ns s.nx) args))
  (hp:eK s.heap ks=Option.some (br (bP ns s.nx) H)) (ha:aX n args=true) (hH:dq n H=true) (hx:na ks s.nx (br (bP ns s.nx) H1) (ec s.heap ks)=true)
  (hK:TL P C ops l (St.put ⟨s.env,br (bP ns s.nx) H1++ec s.heap ks,s.nx+d⟩ o.dst (cQ (bP ns s.nx) r0)) K):TL P C ops (o::l) s K:=by
 intro a w Q hr hQ;have hw:=eH hr hg;obtain⟨σ,hr⟩:=hr;unfold wpList;rw[if_pos hw];refine .inl ?_;have Pf:=hb.K3 ns hl hk ha hH;have ZE:kC P g:=by
  obtain⟨fn,code,hf,Qw,P5,_⟩:=Pf;exact⟨fn,hf,P5,by simp[Qw]⟩
 simp only[na,Bool.and_eq_true,all_eq_true,Bool.or_eq_true,decide_eq_true_eq] at hx;refine q9 RQ (oE.of hp) (yn.value ho Pc ZE) Pf ?_ hr _ _ ?_
 ·rintro r s1 ⟨_,h1,_⟩ p ob Pe h2 h3;rw[h1] at h2;have m3:=hx.2 _ (bF _ _ _ h3);rw[fk] at h3;rcases hx.1 _ (bF _ _ _ h2) with hm | hm
  ·rw[if_pos (by simpa using hm)] at h3;cases h3
  ·simp only at m3 hm;omega
 ·rintro r s1 v w' σ' ⟨h1,h2,h3⟩ Pu hv _;subst h1;rw[h2,h3] at Pu;rw[h2] at hv;refine hK _ w' Q ⟨σ',Pu.put ?_ hv⟩ hQ;intro t e;rw[Pu.tm];rw[e] at hd
  simpa [bl] using hd
variable {W:List rz}{nt N:Nat}{dyn:List (Nat×Nat)}{K:St->Prop}{i:Nat}{r:List Nat}{res:Nat->Er}
theorem RX.du {o:Oper}{cl:Call}{g:FuncId}{args:List CV}{r0:CV}{H H1:List (Nat×Ob)}(ns ks g8:List Nat)(n d:Nat)(hb:Body P av g args H n (jk r0 H1 (n+d)))(hl:ns.length=n)(hk:F6 ns s.nx=true)(hi:ops[i]? = Option.some o)(hd:bl nt o.dst=true)(hg:bW ops s o=Option.some true)(hu:cB o=Option.some cl)
  (Pc:bJ s cl=Option.some (g,aL (bP ns s.nx) args)) (hp:eK s.heap ks=Option.some (br (bP ns s.nx) H)) (ha:aX n args=true) (hH:dq n H=true) (hv:zy dyn res i ks=true) (hc:qZ ks g8 s.nx (br (bP ns s.nx) H1)=true)
  (hs:∀ p∈ks,p∉g8->assoc (br (bP ns s.nx) H1) p=assoc (br (bP ns s.nx) H) p)
  (hK:um W dyn res i (iB (cQ (bP ns s.nx) r0) ks g8 d (br (bP ns s.nx) H1))/\mr av W nt ops N dyn (Cq P av W nt ops N dyn K) r (note dyn res i (iB (cQ (bP ns s.nx) r0) ks g8 d (br (bP ns s.nx) H1))) (St.put ⟨s.env,br (bP ns s.nx) H1++ec s.heap ks,s.nx+d⟩ o.dst (cQ (bP ns s.nx) r0))):RX P av W nt ops N dyn K (i::r) res s:=by
 simp only[qZ,Bool.and_eq_true,all_eq_true,Bool.or_eq_true,decide_eq_true_eq] at hc;refine RX.body ks g8 d hi hd hg hu Pc hp (hb.K3 ns hl hk ha hH) hv ?_ ?_
 ·rintro v s1 ⟨_,h2,h3⟩;refine⟨h3,λ p ob XY=>?_,λ p gJ=>?_,λ p gJ=>?_⟩
  ·rw[h2] at XY;rcases hc.1 _ (bF _ _ _ XY) with h | h
   ·exact .inl Sa
   ·exact .inr h.1
  ·rw[h2];by_cases hm:p∈ks
   ·exact hs p hm gJ
   ·obtain⟨i1,_⟩:=j5 hp;have e1:assoc (br (bP ns s.nx) H) p=none:=by
     cases h4:assoc (br (bP ns s.nx) H) p with
     | none=>rfl
     | some y=>exact (hm (i1 p y h4).1).elim
    have e2:assoc (br (bP ns s.nx) H1) p=none:=by
     cases h4:assoc (br (bP ns s.nx) H1) p with
     | none=>rfl
     | some y=>
      rcases hc.1 _ (bF _ _ _ h4) with h | h
      ·exact (hm Sa).elim
      ·exact (gJ (by simpa using h.2)).elim
    rw[e1,e2]
  ·rw[h2];rcases hc.2 p gJ with h | h
   ·exact .inl Sa
   ·exact .inr h
 ·rintro v s1 ⟨h1,h2,_⟩;subst h1;rw[h2];exact hK
end
end Go.Can
namespace Go.aV
open Go.Can
inductive Ex where
 | zero
 | num (n:Nat)
 | nm (s:ByteArray)
 | un (k:Nat) (e:Ex)
 | bin (k:Nat) (a b:Ex)
 | loc (i:Nat)
 | iK (i:Nat)
abbrev I (n:Int):CV:=.int .i64 n
def eS:ByteArray:=⟨#[]⟩
def a8:Ex->List CV
 | .zero=>[I 0,I 0,.str eS,.au [] 0]
 | .num n=>[I 1,I n,.str eS,.au [] 0]
 | .nm s=>[I 2,I 0,.str s,.au [] 0]
 | .un k e=>[I (3+k),I 0,.str eS,.au (a8 e) 1]
 | .bin k a b=>[I (5+k),I 0,.str eS,.au (a8 a++a8 b) 2]
 | .loc i=>[I 18,I i,.str eS,.au [] 0]
 | .iK i=>[I 19,I i,.str eS,.au [] 0]
theorem bA (e:Ex):(a8 e).length=4:=by cases e<;>rfl
def Ex.op:Ex->Int
 | .zero=>0
 | .num _=>1
 | .nm _=>2
 | .un k _=>3+k
 | .bin k _ _=>5+k
 | .loc _=>18
 | .iK _=>19
def Ex.n:Ex->Int
 | .num n=>n
 | .loc i=>i
 | .iK i=>i
 | _=>0
def Ex.name:Ex->ByteArray
 | .nm s=>s
 | _=>eS
def Ex.args:Ex->List Ex
 | .un _ e=>[e]
 | .bin _ a b=>[a,b]
 | _=>[]
theorem bV (e:Ex):a8 e=[I e.op,I e.n,.str e.name,.au (e.args.flatMap a8) e.args.length]:=by
 cases e<;>simp[a8,Ex.op,Ex.n,Ex.name,Ex.args]
structure Rf where
 name:ByteArray
 index:Option Ex
def mA:Option Ex->CV
 | none=>.au [] 0
 | some e=>.au (a8 e) 1
def ld (r:Rf):List CV:=[.str r.name,mA r.index]
def lh:List CV:=[.str eS,.au [] 0]
inductive Ar where
 | vw (r:Rf)
 | exp (e:Ex)
def pw:Ar->List CV
 | .vw r=>.bool true::ld r++a8 .zero
 | .exp e=>.bool false::lh++a8 e
inductive Sm where
 | ia (name:ByteArray) (e:Ex)
 | iX (name:ByteArray) (e:Ex)
 | en (go:Bool) (name:ByteArray) (args:List Ar)
 | dP (un:Bool) (r:Rf)
 | lO (e:Ex) (th el:List Sm)
 | dh (e:Ex) (th:List Sm)
 | jJ
mutual
def iD:Sm->List CV
 | .ia s e=>[I 1,.str s]++a8 e++lh++[.au [] 0,.au [] 0,.au [] 0]
 | .iX s e=>[I 2,.str s]++a8 e++lh++[.au [] 0,.au [] 0,.au [] 0]
 | .en g s l=>[I (if g then 4 else 3),.str s]++a8 .zero++lh++[.au (l.flatMap pw) l.length,.au [] 0,.au [] 0]
 | .dP u r=>[I (if u then 6 else 5),.str eS]++a8 .zero++ld r++[.au [] 0,.au [] 0,.au [] 0]
 | .lO e th el=>[I 7,.str eS]++a8 e++lh++[.au [] 0,.au (bS th) th.length,.au (bS el) el.length]
 | .dh e th=>[I 8,.str eS]++a8 e++lh++[.au [] 0,.au (bS th) th.length,.au [] 0]
 | .jJ=>[I 9,.str eS]++a8 .zero++lh++[.au [] 0,.au [] 0,.au [] 0]
def bS:List Sm->List CV
 | []=>[]
 | s::r=>iD s++bS r
end
theorem oO:∀ l:List Sm,bS l=l.flatMap iD
 | []=>rfl
 | s::r=>by rw[bS,oO r,List.flatMap_cons]
theorem kN (s:Sm):(iD s).length=11:=by
 cases s<;>simp[iD,bA,lh,ld]
structure Pm where
 name:ByteArray
 mutex:Bool
def ln (p:Pm):List CV:=[.str p.name,.bool p.mutex]
structure Gl where
 name:ByteArray
 init:Int
def pE (g:Gl):List CV:=[.str g.name,I g.init]
structure Mx where
 name:ByteArray
 re:Bool
 size:Nat
def cI (m:Mx):List CV:=[.str m.name,.bool m.re,I m.size]
structure Fu where
 name:ByteArray
 params:List Pm
 body:List Sm
def fD (f:Fu):List CV:=[.str f.name,.au (f.params.flatMap ln) f.params.length,.au (bS f.body) f.body.length]
structure Pg where
 gs:List Gl
 ms:List Mx
 fs:List Fu
def eU (p:Pg):List CV:=[.au (p.gs.flatMap pE) p.gs.length,.au (p.ms.flatMap cI) p.ms.length,.au (p.fs.flatMap fD) p.fs.length]
def xB (p:Pg):CV:=.agg (eU p)
structure Pl where
 param:Bool
 index:Nat
 at_:Option Ex
def fC (p:Pl):List CV:=[.bool p.param,I p.index,mA p.at_]
def kI:List CV:=[.bool false,I 0,.au [] 0]
inductive In where
 | set (t:Nat) (g:Bool) (e:Ex)
 | call (go:Bool) (t:Nat) (ints:List Ex) (places:List Pl)
 | lock (un:Bool) (p:Pl)
 | branch (t:Nat) (e:Ex)
 | jump (t:Nat)
 | ret
def df:In->List CV
 | .set t g e=>[I 1,I t,.bool g]++a8 e++kI++[.au [] 0,.au [] 0]
 | .call g t l ps=>[I (if g then 3 else 2),I t,.bool false]++a8 .zero++kI++[.au (l.flatMap a8) l.length,.au (ps.flatMap fC) ps.length]
 | .lock u p=>[I (if u then 5 else 4),I 0,.bool false]++a8 .zero++fC p++[.au [] 0,.au [] 0]
 | .branch t e=>[I 6,I t,.bool false]++a8 e++kI++[.au [] 0,.au [] 0]
 | .jump t=>[I 7,I t,.bool false]++a8 .zero++kI++[.au [] 0,.au [] 0]
 | .ret=>[I 8,I 0,.bool false]++a8 .zero++kI++[.au [] 0,.au [] 0]
theorem jS (x:In):(df x).length=12:=by
 cases x<;>simp[df,bA,kI,fC]
structure Pr where
 name:ByteArray
 ints:Nat
 bz:Nat
 locals:Nat
 code:List In
def mw (p:Pr):List CV:=[.str p.name,I p.ints,I p.bz,I p.locals,.au (p.code.flatMap df) p.code.length]
structure Un where
 gs:List Int
 ms:List Mx
 ps:List Pr
 main:Nat
def eD (u:Un):List CV:=[ints u.gs,.au (u.ms.flatMap cI) u.ms.length,.au (u.ps.flatMap mw) u.ps.length,I u.main]
def cb (u:Un):CV:=.agg (eD u)
structure Is where
 proc:Nat
 bz:List Nat
def aN (l:List Nat):CV:=.au (l.map λ n:Nat=>I n) l.length
def gI (i:Is):List CV:=[I i.proc,aN i.bz]
structure Cl where
 is:List Is
 calls:List (List Int)
 roots:List Nat
def oY (c:Cl):List CV:=[.au (c.is.flatMap gI) c.is.length,.au (c.calls.map ints) c.calls.length,aN c.roots]
def oZ (c:Cl):CV:=.agg (oY c)
def cA (L:List Int)(i n:Nat):Nat×Nat:=match L[i]? with
 | none=>(0,i)
 | some x=>((x % (n:Int)).toNat,i+1)
theorem dF (L:List Int)(i:Nat){n:Nat}(h:0<n):(cA L i n).1<n:=by
 unfold cA;split
 ·exact h
 ·rename_i x _;have h1:=Int.emod_nonneg x (show (n:Int)≠0 by omega);have h2:=Int.emod_lt_of_pos x (show (0:Int)<n by omega);simp only;omega
theorem bu (L:List Int){i:Nat}(n:Nat)(h:i<=L.length):(cA L i n).2<=L.length:=by
 unfold cA;split
 ·exact h
 ·rename_i x hx;exact (List.getElem?_eq_some_iff.1 hx).1
def wP (L:List Int)(i:Nat):Nat×Nat:=if (cA L i 8).1=1 then cA L (cA L i 8).2 4611686018427387904 else cA L (cA L i 8).2 4
theorem JZ (L:List Int)(i:Nat):(wP L i).1<4611686018427387904:=by
 unfold wP;split
 ·exact dF _ _ yA
 ·exact Nat.lt_of_lt_of_le (dF L _ (show 0<4 by omega)) yA
theorem J0 (L:List Int){i:Nat}(h:i<=L.length):(wP L i).2<=L.length:=by
 unfold wP;split
 ·exact bu _ _ (bu _ _ h)
 ·exact bu _ _ (bu _ _ h)
def qL (L:List Int)(ns:List ByteArray)(i:Nat):Ex×Nat:=
 if 0<ns.length/\(cA L i 2).1=1 then (.nm (ns.getD (cA L (cA L i 2).2 ns.length).1 eS),(cA L (cA L i 2).2 ns.length).2)
 else (.num (wP L (if 0<ns.length then (cA L i 2).2 else i)).1,(wP L (if 0<ns.length then (cA L i 2).2 else i)).2)
theorem AS (L:List Int)(ns:List ByteArray){i:Nat}(h:i<=L.length):(qL L ns i).2<=L.length:=by
 unfold qL;split
 ·exact bu _ _ (bu _ _ h)
 ·refine J0 L ?_;split
  ·exact bu _ _ h
  ·exact h
def qT (L:List Int)(ns:List ByteArray):Nat->Nat->Ex×Nat
 | 0,i=>qL L ns (cA L i 10).2
 | d+1,i=>
  if (cA L i 10).1<2 then qL L ns (cA L i 10).2
  else if (cA L i 10).1<4 then (.un ((cA L i 10).1 % 2) (qT L ns d (cA L i 10).2).1,(qT L ns d (cA L i 10).2).2)
  else (.bin (cA L (cA L i 10).2 13).1 (qT L ns d (cA L (cA L i 10).2 13).2).1 (qT L ns d (qT L ns d (cA L (cA L i 10).2 13).2).2).1,(qT L ns d (qT L ns d (cA L (cA L i 10).2 13).2).2).2)
theorem oy (L:List Int)(ns:List ByteArray):∀ (d:Nat) {i:Nat},i<=L.length->(qT L ns d i).2<=L.length
 | 0,i,h=>AS L ns (bu _ _ h)
 | d+1,i,h=>by
  rw[qT];split
  ·exact AS L ns (bu _ _ h)
  ·split
   ·exact oy L ns d (bu _ _ h)
   ·exact oy L ns d (oy L ns d (bu _ _ (bu _ _ h)))
def dH (L:List Int)(ar:Bool)(vars:List ByteArray)(i:Nat):Ex×Nat:=if ar=true then qT L vars (1+(cA L i 2).1) (cA L i 2).2 else qT L vars 0 i
def pt (L:List Int)(ar:Bool)(vars:List ByteArray)(size i:Nat):Ex×Nat:=
 if ar=true/\(cA L i 3).1=1 then qT L vars 1 (cA L i 3).2 else (.num (cA L (if ar=true then (cA L i 3).2 else i) size).1,(cA L (if ar=true then (cA L i 3).2 else i) size).2)
theorem ku (L:List Int)(ar:Bool)(vars:List ByteArray){i:Nat}(h:i<=L.length):(dH L ar vars i).2<=L.length:=by
 unfold dH;split
 ·exact oy _ _ _ (bu _ _ h)
 ·exact oy _ _ _ h
theorem Km (L:List Int)(ar:Bool)(vars:List ByteArray)(size:Nat){i:Nat}(h:i<=L.length):(pt L ar vars size i).2<=L.length:=by
 unfold pt;split
 ·exact oy _ _ _ (bu _ _ h)
 ·refine bu _ _ ?_;split
  ·exact bu _ _ h
  ·exact h
def F8 (p:Pm):List ByteArray:=if p.mutex=true then [p.name,p.name] else []
def cj (ms:List Mx)(ps:List Pm):List ByteArray:=ms.map (·.name)++ps.flatMap F8
def lb (ms:List Mx)(j:Nat):Nat:=match ms[j]? with
 | some m=>m.size
 | none=>0
def jB (L:List Int)(ar:Bool)(ms:List Mx)(ps:List Pm)(vars:List ByteArray)(i:Nat):Rf×Nat:=
 if (cA L i (cj ms ps).length).1<ms.length/\0<lb ms (cA L i (cj ms ps).length).1 then
  (⟨(cj ms ps).getD (cA L i (cj ms ps).length).1 eS,some (pt L ar vars (lb ms (cA L i (cj ms ps).length).1) (cA L i (cj ms ps).length).2).1⟩,(pt L ar vars (lb ms (cA L i (cj ms ps).length).1) (cA L i (cj ms ps).length).2).2)
 else (⟨(cj ms ps).getD (cA L i (cj ms ps).length).1 eS,none⟩,(cA L i (cj ms ps).length).2)
theorem qD (L:List Int)(ar:Bool)(ms:List Mx)(ps:List Pm)(vars:List ByteArray){i:Nat}(h:i<=L.length):(jB L ar ms ps vars i).2<=L.length:=by
 unfold jB;split
 ·exact Km _ _ _ _ (bu _ _ h)
 ·exact bu _ _ h
def dB (L:List Int)(ar:Bool)(ms:List Mx)(ps:List Pm)(vars:List ByteArray):List Pm->Nat->List Ar×Nat
 | [],i=>([],i)
 | p::r,i=>if p.mutex=true then (.vw (jB L ar ms ps vars i).1::(dB L ar ms ps vars r (jB L ar ms ps vars i).2).1,(dB L ar ms ps vars r (jB L ar ms ps vars i).2).2)
  else (.exp (dH L ar vars i).1::(dB L ar ms ps vars r (dH L ar vars i).2).1,(dB L ar ms ps vars r (dH L ar vars i).2).2)
theorem rq (L:List Int)(ar:Bool)(ms:List Mx)(ps:List Pm)(vars:List ByteArray):∀ (l:List Pm) {i:Nat},i<=L.length->(dB L ar ms ps vars l i).2<=L.length
 | [],_,h=>h
 | p::r,i,h=>by
  rw[dB];split
  ·exact rq L ar ms ps vars r (qD _ _ _ _ _ h)
  ·exact rq L ar ms ps vars r (ku _ _ _ h)
def strs (ns:List ByteArray):CV:=.au (ns.map .str) ns.length
end Go.aV
namespace Go.Proofs.YtlkmbdfhdknlgaaGreat
open Go.Can Tryz
def av:List (Nat×TI):=[
 (3,⟨.int .i64,1,8,[.int .i64 0]⟩),
 (4,⟨.bool,1,1,[.bool false]⟩),
 (5,⟨.int .u8,1,1,[.int .u8 0]⟩),
 (6,⟨.int .u8,1,1,[.int .u8 0]⟩),
 (9,⟨.str,1,16,[.str ⟨#[]⟩]⟩),
 (22,⟨.sl 3,1,24,[.ak]⟩),
 (23,⟨.sl 132,1,24,[.ak]⟩),
 (24,⟨.sl 98,1,24,[.ak]⟩),
 (25,⟨.sl 136,1,24,[.ak]⟩),
 (27,⟨.bI [(0,23),(1,24),(2,25)],3,72,[.ak,.ak,.ak]⟩),
 (28,⟨.sl 150,1,24,[.ak]⟩),
 (30,⟨.bI [(0,22),(1,24),(2,28),(3,3)],4,80,[.ak,.ak,.ak,.int .i64 0]⟩),
 (31,⟨.sl 95,1,24,[.ak]⟩),
 (32,⟨.sl 22,1,24,[.ak]⟩),
 (34,⟨.bI [(0,31),(1,32),(2,22)],3,72,[.ak,.ak,.ak]⟩),
 (37,⟨.sl 122,1,24,[.ak]⟩),
 (38,⟨.sl 81,1,24,[.ak]⟩),
 (40,⟨.bI [(0,22),(1,37),(2,38),(3,3)],4,80,[.ak,.ak,.ak,.int .i64 0]⟩),
 (43,⟨.sl 4,1,24,[.ak]⟩),
 (46,⟨.sl 54,1,24,[.ak]⟩),
 (48,⟨.bI [(0,3),(1,46)],2,32,[.int .i64 0,.ak]⟩),
 (54,⟨.bI [(0,3),(1,3)],2,16,[.int .i64 0,.int .i64 0]⟩),
 (69,⟨.int .i64,1,8,[.int .i64 0]⟩),
 (77,⟨.bI [(0,3),(1,3),(2,22),(3,22)],4,64,[.int .i64 0,.int .i64 0,.ak,.ak]⟩),
 (79,⟨.sl 77,1,24,[.ak]⟩),
 (81,⟨.bI [(0,79)],1,24,[.ak]⟩),
 (83,⟨.sl 85,1,24,[.ak]⟩),
 (85,⟨.bI [(0,3),(1,3),(2,9),(3,83)],4,56,[.int .i64 0,.int .i64 0,.str ⟨#[]⟩,.ak]⟩),
 (87,⟨.bI [(0,4),(1,3),(2,83)],3,40,[.bool false,.int .i64 0,.ak]⟩),
 (88,⟨.sl 87,1,24,[.ak]⟩),
 (90,⟨.bI [(0,3),(1,3),(2,4),(3,85),(7,87),(10,83),(11,88)],12,168,[.int .i64 0,.int .i64 0,.bool false,.int .i64 0,.int .i64 0,.str ⟨#[]⟩,.ak,.bool false,.int .i64 0,.ak,.ak,.ak]⟩),
 (95,⟨.bI [(0,3),(1,22)],2,32,[.int .i64 0,.ak]⟩),
 (98,⟨.bI [(0,9),(1,4),(2,3)],3,32,[.str ⟨#[]⟩,.bool false,.int .i64 0]⟩),
 (110,⟨.sl 5,1,24,[.ak]⟩),
 (122,⟨.bI [(0,3),(1,3)],2,16,[.int .i64 0,.int .i64 0]⟩),
 (106,⟨.ptr 77,1,8,[.bM]⟩),
 (124,⟨.ptr 126,1,8,[.bM]⟩),
 (126,⟨.bI [(0,22),(1,3)],2,32,[.ak,.int .i64 0]⟩),
 (128,⟨.bI [(0,124),(1,27),(4,3),(5,4)],6,96,[.bM,.ak,.ak,.ak,.int .i64 0,.bool false]⟩),
 (130,⟨.sl 9,1,24,[.ak]⟩),
 (132,⟨.bI [(0,9),(1,3)],2,24,[.str ⟨#[]⟩,.int .i64 0]⟩),
 (133,⟨.sl 138,1,24,[.ak]⟩),
 (134,⟨.sl 207,1,24,[.ak]⟩),
 (136,⟨.bI [(0,9),(1,133),(2,134)],3,64,[.str ⟨#[]⟩,.ak,.ak]⟩),
 (138,⟨.bI [(0,9),(1,4)],2,24,[.str ⟨#[]⟩,.bool false]⟩),
 (141,⟨.sl 145,1,24,[.ak]⟩),
 (145,⟨.bI [(0,9),(1,3),(2,3)],3,32,[.str ⟨#[]⟩,.int .i64 0,.int .i64 0]⟩),
 (148,⟨.sl 90,1,24,[.ak]⟩),
 (150,⟨.bI [(0,9),(1,3),(2,3),(3,3),(4,148)],5,64,[.str ⟨#[]⟩,.int .i64 0,.int .i64 0,.int .i64 0,.ak]⟩),
 (162,⟨.sl 32,1,24,[.ak]⟩),
 (175,⟨.sl 190,1,24,[.ak]⟩),
 (180,⟨.bI [(0,175),(1,3),(2,3),(3,69),(4,3),(5,3)],6,64,[.ak,.int .i64 0,.int .i64 0,.int .i64 0,.int .i64 0,.int .i64 0]⟩),
 (190,⟨.bI [(0,3),(1,9),(2,3),(3,3)],4,40,[.int .i64 0,.str ⟨#[]⟩,.int .i64 0,.int .i64 0]⟩),
 (201,⟨.bI [(0,32),(1,162),(2,22)],3,72,[.ak,.ak,.ak]⟩),
 (204,⟨.bI [(0,9),(1,83)],2,40,[.str ⟨#[]⟩,.ak]⟩),
 (205,⟨.sl 243,1,24,[.ak]⟩),
 (207,⟨.bI [(0,3),(1,9),(2,85),(6,204),(8,205),(9,134),(10,134)],11,192,[.int .i64 0,.str ⟨#[]⟩,.int .i64 0,.int .i64 0,.str ⟨#[]⟩,.ak,.str ⟨#[]⟩,.ak,.ak,.ak,.ak]⟩),
 (215,⟨.bI [(0,27),(3,141),(4,3),(5,3),(6,3),(7,69),(8,148),(9,22)],10,176,[.ak,.ak,.ak,.ak,.int .i64 0,.int .i64 0,.int .i64 0,.int .i64 0,.ak,.ak]⟩),
 (219,⟨.arr 6 3,6,48,[.int .i64 0,.int .i64 0,.int .i64 0,.int .i64 0,.int .i64 0,.int .i64 0]⟩),
 (221,⟨.bI [(0,3),(1,3),(2,219)],8,64,[.int .i64 0,.int .i64 0,.int .i64 0,.int .i64 0,.int .i64 0,.int .i64 0,.int .i64 0,.int .i64 0]⟩),
 (228,⟨.bI [(0,22),(1,22)],2,48,[.ak,.ak]⟩),
 (236,⟨.func,1,8,[.cH]⟩),
 (240,⟨.sl 3,1,24,[.ak]⟩),
 (243,⟨.bI [(0,4),(1,204),(3,85)],7,104,[.bool false,.str ⟨#[]⟩,.ak,.int .i64 0,.int .i64 0,.str ⟨#[]⟩,.ak]⟩),
 (264,⟨.bI [(0,30),(4,95),(6,3),(7,236)],8,128,[.ak,.ak,.ak,.int .i64 0,.int .i64 0,.ak,.int .i64 0,.cH]⟩),
 (269,⟨.int .u64,1,8,[.int .u64 0]⟩),
 (280,⟨.bI [],0,0,[]⟩),
 (282,⟨.bI [(0,3)],1,8,[.int .i64 0]⟩),
 (283,⟨.bI [(0,3)],1,8,[.int .i64 0]⟩),
 (284,⟨.bI [],0,0,[]⟩)]
theorem ag:aD prog av:=
 aD.cons (cE.mk' GK GK rfl) <|
 aD.cons (cE.mk' GK GK rfl) <|
 aD.cons (cE.mk' GK GK rfl) <|
 aD.cons (cE.mk' GK GK rfl) <|
 aD.cons (cE.mk' GK GK rfl) <|
 aD.cons (cE.mk' GK GK rfl) <|
 aD.cons (cE.mk' GK GK rfl) <|
 aD.cons (cE.mk' GK GK rfl) <|
 aD.cons (cE.mk' GK GK rfl) <|
 aD.cons (cE.mk' GK GK rfl) <|
 aD.cons (cE.mk' GK GK rfl) <|
 aD.cons (cE.mk' GK GK rfl) <|
 aD.cons (cE.mk' GK GK rfl) <|
 aD.cons (cE.mk' GK GK rfl) <|
 aD.cons (cE.mk' GK GK rfl) <|
 aD.cons (cE.mk' GK GK rfl) <|
 aD.cons (cE.mk' GK GK rfl) <|
 aD.cons (cE.mk' GK GK rfl) <|
 aD.cons (cE.mk' GK GK rfl) <|
 aD.cons (cE.mk' GK GK rfl) <|
 aD.cons (cE.mk' GK GK rfl) <|
 aD.cons (cE.mk' GK GK rfl) <|
 aD.cons (cE.mk' GK GK rfl) <|
 aD.cons (cE.mk' GK GK rfl) <|
 aD.cons (cE.mk' GK GK rfl) <|
 aD.cons (cE.mk' GK GK rfl) <|
 aD.cons (cE.mk' GK GK rfl) <|
 aD.cons (cE.mk' GK GK rfl) <|
 aD.cons (cE.mk' GK GK rfl) <|
 aD.cons (cE.mk' GK GK rfl) <|
 aD.cons (cE.mk' GK GK rfl) <|
 aD.cons (cE.mk' GK GK rfl) <|
 aD.cons (cE.mk' GK GK rfl) <|
 aD.cons (cE.mk' GK GK rfl) <|
 aD.cons (cE.mk' GK GK rfl) <|
 aD.cons (cE.mk' GK GK rfl) <|
 aD.cons (cE.mk' GK GK rfl) <|
 aD.cons (cE.mk' GK GK rfl) <|
 aD.cons (cE.mk' GK GK rfl) <|
 aD.cons (cE.mk' GK GK rfl) <|
 aD.cons (cE.mk' GK GK rfl) <|
 aD.cons (cE.mk' GK GK rfl) <|
 aD.cons (cE.mk' GK GK rfl) <|
 aD.cons (cE.mk' GK GK rfl) <|
 aD.cons (cE.mk' GK GK rfl) <|
 aD.cons (cE.mk' GK GK rfl) <|
 aD.cons (cE.mk' GK GK rfl) <|
 aD.cons (cE.mk' GK GK rfl) <|
 aD.cons (cE.mk' GK GK rfl) <|
 aD.cons (cE.mk' GK GK rfl) <|
 aD.cons (cE.mk' GK GK rfl) <|
 aD.cons (cE.mk' GK GK rfl) <|
 aD.cons (cE.mk' GK GK rfl) <|
 aD.cons (cE.mk' GK GK rfl) <|
 aD.cons (cE.mk' GK GK rfl) <|
 aD.cons (cE.mk' GK GK rfl) <|
 aD.cons (cE.mk' GK GK rfl) <|
 aD.cons (cE.mk' GK GK rfl) <|
 aD.cons (cE.mk' GK GK rfl) <|
 aD.cons (cE.mk' GK GK rfl) <|
 aD.cons (cE.mk' GK GK rfl) <|
 aD.cons (cE.mk' GK GK rfl) <|
 aD.cons (cE.mk' GK GK rfl) <|
 aD.cons (cE.mk' GK GK rfl) <|
 aD.cons (cE.mk' GK GK rfl) <|
 aD.cons (cE.mk' GK GK rfl) <|
 aD.cons (cE.mk' GK GK rfl) <|
 aD.cons (cE.mk' GK GK rfl) <|
 aD.cons (cE.mk' GK GK rfl) <|
 aD.cons (cE.mk' GK GK rfl) <| aD.nil
@[simp] theorem tab3:assoc av 3=some ⟨.int .i64,1,8,[.int .i64 0]⟩:=rfl
@[simp] theorem tab4:assoc av 4=some ⟨.bool,1,1,[.bool false]⟩:=rfl
@[simp] theorem tab5:assoc av 5=some ⟨.int .u8,1,1,[.int .u8 0]⟩:=rfl
@[simp] theorem tab6:assoc av 6=some ⟨.int .u8,1,1,[.int .u8 0]⟩:=rfl
@[simp] theorem tab9:assoc av 9=some ⟨.str,1,16,[.str ⟨#[]⟩]⟩:=rfl
@[simp] theorem tab22:assoc av 22=some ⟨.sl 3,1,24,[.ak]⟩:=rfl
@[simp] theorem tab23:assoc av 23=some ⟨.sl 132,1,24,[.ak]⟩:=rfl
@[simp] theorem tab24:assoc av 24=some ⟨.sl 98,1,24,[.ak]⟩:=rfl
@[simp] theorem tab25:assoc av 25=some ⟨.sl 136,1,24,[.ak]⟩:=rfl
@[simp] theorem tab27:assoc av 27=some ⟨.bI [(0,23),(1,24),(2,25)],3,72,[.ak,.ak,.ak]⟩:=rfl
@[simp] theorem tab28:assoc av 28=some ⟨.sl 150,1,24,[.ak]⟩:=rfl
@[simp] theorem tab30:assoc av 30=some ⟨.bI [(0,22),(1,24),(2,28),(3,3)],4,80,[.ak,.ak,.ak,.int .i64 0]⟩:=rfl
@[simp] theorem tab31:assoc av 31=some ⟨.sl 95,1,24,[.ak]⟩:=rfl
@[simp] theorem tab32:assoc av 32=some ⟨.sl 22,1,24,[.ak]⟩:=rfl
@[simp] theorem tab34:assoc av 34=some ⟨.bI [(0,31),(1,32),(2,22)],3,72,[.ak,.ak,.ak]⟩:=rfl
@[simp] theorem tab37:assoc av 37=some ⟨.sl 122,1,24,[.ak]⟩:=rfl
@[simp] theorem tab38:assoc av 38=some ⟨.sl 81,1,24,[.ak]⟩:=rfl
@[simp] theorem tab40:assoc av 40=some ⟨.bI [(0,22),(1,37),(2,38),(3,3)],4,80,[.ak,.ak,.ak,.int .i64 0]⟩:=rfl
@[simp] theorem tab43:assoc av 43=some ⟨.sl 4,1,24,[.ak]⟩:=rfl
@[simp] theorem tab46:assoc av 46=some ⟨.sl 54,1,24,[.ak]⟩:=rfl
@[simp] theorem tab48:assoc av 48=some ⟨.bI [(0,3),(1,46)],2,32,[.int .i64 0,.ak]⟩:=rfl
@[simp] theorem tab54:assoc av 54=some ⟨.bI [(0,3),(1,3)],2,16,[.int .i64 0,.int .i64 0]⟩:=rfl
@[simp] theorem tab69:assoc av 69=some ⟨.int .i64,1,8,[.int .i64 0]⟩:=rfl
@[simp] theorem tab77:assoc av 77=some ⟨.bI [(0,3),(1,3),(2,22),(3,22)],4,64,[.int .i64 0,.int .i64 0,.ak,.ak]⟩:=rfl
@[simp] theorem tab79:assoc av 79=some ⟨.sl 77,1,24,[.ak]⟩:=rfl
@[simp] theorem tab81:assoc av 81=some ⟨.bI [(0,79)],1,24,[.ak]⟩:=rfl
@[simp] theorem tab83:assoc av 83=some ⟨.sl 85,1,24,[.ak]⟩:=rfl
@[simp] theorem tab85:assoc av 85=some ⟨.bI [(0,3),(1,3),(2,9),(3,83)],4,56,[.int .i64 0,.int .i64 0,.str ⟨#[]⟩,.ak]⟩:=rfl
@[simp] theorem tab87:assoc av 87=some ⟨.bI [(0,4),(1,3),(2,83)],3,40,[.bool false,.int .i64 0,.ak]⟩:=rfl
@[simp] theorem tab88:assoc av 88=some ⟨.sl 87,1,24,[.ak]⟩:=rfl
@[simp] theorem tab90:assoc av 90=some ⟨.bI [(0,3),(1,3),(2,4),(3,85),(7,87),(10,83),(11,88)],12,168,[.int .i64 0,.int .i64 0,.bool false,.int .i64 0,.int .i64 0,.str ⟨#[]⟩,.ak,.bool false,.int .i64 0,.ak,.ak,.ak]⟩:=rfl
@[simp] theorem tab95:assoc av 95=some ⟨.bI [(0,3),(1,22)],2,32,[.int .i64 0,.ak]⟩:=rfl
@[simp] theorem tab98:assoc av 98=some ⟨.bI [(0,9),(1,4),(2,3)],3,32,[.str ⟨#[]⟩,.bool false,.int .i64 0]⟩:=rfl
@[simp] theorem tab110:assoc av 110=some ⟨.sl 5,1,24,[.ak]⟩:=rfl
@[simp] theorem tab122:assoc av 122=some ⟨.bI [(0,3),(1,3)],2,16,[.int .i64 0,.int .i64 0]⟩:=rfl
@[simp] theorem tab106:assoc av 106=some ⟨.ptr 77,1,8,[.bM]⟩:=rfl
@[simp] theorem tab124:assoc av 124=some ⟨.ptr 126,1,8,[.bM]⟩:=rfl
@[simp] theorem tab126:assoc av 126=some ⟨.bI [(0,22),(1,3)],2,32,[.ak,.int .i64 0]⟩:=rfl
@[simp] theorem tab128:assoc av 128=some ⟨.bI [(0,124),(1,27),(4,3),(5,4)],6,96,[.bM,.ak,.ak,.ak,.int .i64 0,.bool false]⟩:=rfl
@[simp] theorem tab130:assoc av 130=some ⟨.sl 9,1,24,[.ak]⟩:=rfl
@[simp] theorem tab132:assoc av 132=some ⟨.bI [(0,9),(1,3)],2,24,[.str ⟨#[]⟩,.int .i64 0]⟩:=rfl
@[simp] theorem tab133:assoc av 133=some ⟨.sl 138,1,24,[.ak]⟩:=rfl
@[simp] theorem tab134:assoc av 134=some ⟨.sl 207,1,24,[.ak]⟩:=rfl
@[simp] theorem tab136:assoc av 136=some ⟨.bI [(0,9),(1,133),(2,134)],3,64,[.str ⟨#[]⟩,.ak,.ak]⟩:=rfl
@[simp] theorem tab138:assoc av 138=some ⟨.bI [(0,9),(1,4)],2,24,[.str ⟨#[]⟩,.bool false]⟩:=rfl
@[simp] theorem tab141:assoc av 141=some ⟨.sl 145,1,24,[.ak]⟩:=rfl
@[simp] theorem tab145:assoc av 145=some ⟨.bI [(0,9),(1,3),(2,3)],3,32,[.str ⟨#[]⟩,.int .i64 0,.int .i64 0]⟩:=rfl
@[simp] theorem tab148:assoc av 148=some ⟨.sl 90,1,24,[.ak]⟩:=rfl
@[simp] theorem tab150:assoc av 150=some ⟨.bI [(0,9),(1,3),(2,3),(3,3),(4,148)],5,64,[.str ⟨#[]⟩,.int .i64 0,.int .i64 0,.int .i64 0,.ak]⟩:=rfl
@[simp] theorem tab162:assoc av 162=some ⟨.sl 32,1,24,[.ak]⟩:=rfl
@[simp] theorem tab175:assoc av 175=some ⟨.sl 190,1,24,[.ak]⟩:=rfl
@[simp] theorem tab180:assoc av 180=some ⟨.bI [(0,175),(1,3),(2,3),(3,69),(4,3),(5,3)],6,64,[.ak,.int .i64 0,.int .i64 0,.int .i64 0,.int .i64 0,.int .i64 0]⟩:=rfl
@[simp] theorem tab190:assoc av 190=some ⟨.bI [(0,3),(1,9),(2,3),(3,3)],4,40,[.int .i64 0,.str ⟨#[]⟩,.int .i64 0,.int .i64 0]⟩:=rfl
@[simp] theorem tab201:assoc av 201=some ⟨.bI [(0,32),(1,162),(2,22)],3,72,[.ak,.ak,.ak]⟩:=rfl
@[simp] theorem tab204:assoc av 204=some ⟨.bI [(0,9),(1,83)],2,40,[.str ⟨#[]⟩,.ak]⟩:=rfl
@[simp] theorem tab205:assoc av 205=some ⟨.sl 243,1,24,[.ak]⟩:=rfl
@[simp] theorem tab207:assoc av 207=some ⟨.bI [(0,3),(1,9),(2,85),(6,204),(8,205),(9,134),(10,134)],11,192,[.int .i64 0,.str ⟨#[]⟩,.int .i64 0,.int .i64 0,.str ⟨#[]⟩,.ak,.str ⟨#[]⟩,.ak,.ak,.ak,.ak]⟩:=rfl
@[simp] theorem tab215:assoc av 215=some ⟨.bI [(0,27),(3,141),(4,3),(5,3),(6,3),(7,69),(8,148),(9,22)],10,176,[.ak,.ak,.ak,.ak,.int .i64 0,.int .i64 0,.int .i64 0,.int .i64 0,.ak,.ak]⟩:=rfl
@[simp] theorem tab219:assoc av 219=some ⟨.arr 6 3,6,48,[.int .i64 0,.int .i64 0,.int .i64 0,.int .i64 0,.int .i64 0,.int .i64 0]⟩:=rfl
@[simp] theorem tab221:assoc av 221=some ⟨.bI [(0,3),(1,3),(2,219)],8,64,[.int .i64 0,.int .i64 0,.int .i64 0,.int .i64 0,.int .i64 0,.int .i64 0,.int .i64 0,.int .i64 0]⟩:=rfl
@[simp] theorem tab228:assoc av 228=some ⟨.bI [(0,22),(1,22)],2,48,[.ak,.ak]⟩:=rfl
@[simp] theorem tab236:assoc av 236=some ⟨.func,1,8,[.cH]⟩:=rfl
@[simp] theorem tab240:assoc av 240=some ⟨.sl 3,1,24,[.ak]⟩:=rfl
@[simp] theorem tab243:assoc av 243=some ⟨.bI [(0,4),(1,204),(3,85)],7,104,[.bool false,.str ⟨#[]⟩,.ak,.int .i64 0,.int .i64 0,.str ⟨#[]⟩,.ak]⟩:=rfl
@[simp] theorem tab264:assoc av 264=some ⟨.bI [(0,30),(4,95),(6,3),(7,236)],8,128,[.ak,.ak,.ak,.int .i64 0,.int .i64 0,.ak,.int .i64 0,.cH]⟩:=rfl
@[simp] theorem tab269:assoc av 269=some ⟨.int .u64,1,8,[.int .u64 0]⟩:=rfl
@[simp] theorem tab280:assoc av 280=some ⟨.bI [],0,0,[]⟩:=rfl
@[simp] theorem tab282:assoc av 282=some ⟨.bI [(0,3)],1,8,[.int .i64 0]⟩:=rfl
@[simp] theorem tab283:assoc av 283=some ⟨.bI [(0,3)],1,8,[.int .i64 0]⟩:=rfl
@[simp] theorem tab284:assoc av 284=some ⟨.bI [],0,0,[]⟩:=rfl
theorem follows:Tryz.prog.follows .mixedOrders=true:=by kernel_rfl
theorem cw (n:Int)(h : -9223372036854775808<=n)(h':n<=9223372036854775807):IntKind.i64.wrap n=n:=IntWalk.i64_in n ⟨h,h'⟩
section
variable {C:Cx}{s:St}{Q:Exit->St->Prop}{x y:Code}{id:Nat}{l:List Oper}{ops:Array Oper}{K:St->Prop}
theorem aq (h:zN av C.nt l.toArray (BV prog C l.toArray (fj (λ s'=>T prog C y s' Q) Q .normal)) l s):T prog C (.seq (.region id l.toArray false) y) s Q:=T.seq (T.go' ag h)
theorem aT (h:zN av C.nt l.toArray (BV prog C l.toArray (fj (λ s'=>T prog C x s' (fj (λ s'=>T prog C y s' Q) Q)) (fj (λ s'=>T prog C y s' Q) Q) .normal)) l s):T prog C (.seq (.seq (.region id l.toArray false) x) y) s Q:=T.seq (T.seq (T.go' ag h))
theorem ct {o:Oper}{c:Call}{g:FuncId}{cs:List CV}{r:CV}(ht:trees cs=true)(hp:af prog g cs r)(h:zN av C.nt ops (BV prog C ops K) l (s.put o.dst r))(hd:bl C.nt o.dst=true:=by simp[hC])(hg:o.guard=none:=by rfl)(ho:o.op=.call c:=by rfl)(Pc:bJ s c=some (g,cs):=by rfl):TL prog C ops (o::l) s K:=TL.call hd hg ho (bR.of Pc ht hp) (TL.go' ag h)
end
section
variable {C:Cx}{s:St}{Q:Exit->St->Prop}{x y:Code}{c:Operand}{id:Nat}{l:List Oper}
theorem eQ (h:Q .normal s)(hc:ev s c=some (.bool false):=by rfl):T prog C (.cond c x .skip) s Q:=T.cond (b:=false) hc (T.skip h)
theorem iI (h:Q .normal s)(hc:ev s c=some (.bool true):=by rfl):T prog C (.cond c .skip y) s Q:=T.cond (b:=true) hc (T.skip h)
theorem bh (h:T prog C (if false then x else y) s Q)(hc:ev s c=some (.bool false):=by rfl):T prog C (.cond c x y) s Q:=T.cond (b:=false) hc h
theorem gw (h:T prog C (if false then x else y) s Q)(hc:ev s c=some (.bool false):=by first | rfl | (simp[ev,assoc];done)):T prog C (.cond c x y) s Q:=T.cond (b:=false) hc h
theorem cX (h:T prog C (if true then x else y) s Q)(hc:ev s c=some (.bool true):=by rfl):T prog C (.cond c x y) s Q:=T.cond (b:=true) hc h
theorem aG (h:zN av C.nt l.toArray (BV prog C l.toArray (Q .normal)) l s):T prog C (.region id l.toArray false) s Q:=T.go' ag h
theorem eZ {i:Nat}(h:T prog C x s (qe i (fj (λ s'=>T prog C y s' Q) Q))):T prog C (.seq (.block i x) y) s Q:=T.seq (T.block h)
end
end Go.Proofs.YtlkmbdfhdknlgaaGreat
