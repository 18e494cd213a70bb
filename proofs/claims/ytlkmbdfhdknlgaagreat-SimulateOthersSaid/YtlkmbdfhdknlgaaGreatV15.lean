/- **A region that draws, wal -/
import Derived.Test.YtlkmbdfhdknlgaaGreatV14
namespace Go.Can
open List
section
variable {P:Program}{C:Cx}{s:St}{ops:Array Oper}{av:List (Nat×TI)}{mt:iO}{call:fW}{pc:FuncId->List CV->Option CV}
theorem Mc (ht:aD P av)(R6:j0 P mt)(hCl:gF P av call)(gJ:wW P pc){q0:Bool}{W:List rz}{ord:List Nat}{dyn:List (Nat×Nat)}(hn:ord.Nodup)(Sq:∀ j,j<ops.size->j∈ord)(OT:∀ i∈ord,i<ops.size)(hox:Hc ops [] ord=true)(RS:Av ops dyn q0 [] [] ord=true)
  {N:Nat} (Z3:C.n0<=N) {x0:FS} {K:St->Prop} {Q':Exit->Act->World->Prop} (hQ:∀ s' a w,K s'->Rel C s' a w->Q' .normal a w) :
  ∀ (rest pre cl:List Nat) (res RO:Nat->Er) (sc:St),ord=pre++rest->fs sc=ck (dg ops) (λ j=>(res j).1) (λ _=>true) pre x0 ->
   (∀ p i q,pre=p++i::q->i∈cl\/Kn P C ops N W (res i) i (ck (dg ops) (λ j=>(res j).1) (λ _=>true) p x0)) ->
   (∀ i∈cl,∀ j∈rest,B6 ops j i) ->
   (∀ p i q,pre=p++i::q->∀ j∈q,B6 ops j i\/F5 (dg ops i) (dg ops j) (res i).1 (res j).1 (zO ops (res i) i) (zO ops (res j) j)) ->
   (∀ p∈dyn,p.1∈pre->RO p.1=res p.1) ->
   LN P av mt call pc q0 W C.nt ops N dyn K rest RO sc ->
   ∀ (m:Nat) (listed:Array Bool) (a:Act) (w:World),listed.size=ops.size->sJ ops listed->(∀ j∈rest,listed.getD j false=false)->(ord.countP λ j=>!listed.getD j false)=m ->
    Rr C N ops cl listed (ck (dg ops) (λ j=>(res j).1) (λ j=>listed.getD j false) pre x0) a w/\wG W (ck (dg ops) (λ j=>(res j).1) (λ j=>listed.getD j false) pre x0).h->wpAny P .any ops Q' m listed a w:=by
 have Wo:∀ pre i post,ord=pre++i::post->∀ oi,ops[i]? = some oi->∀ e∈oi.after,Region.binds .any e=true->e.on∈pre:=λ pre i post ho oi Q6 e he hb=>(xG ord [] hox pre i post ho oi Q6 e he hb).resolve_left not_mem_nil;have VP:∀ pre j post,ord=pre++j::post->∀ i∈pre,B6 ops j i\/((q0=true->(ops[i]?).bind cB=none)/\xE ops dyn i j=true):=λ pre j post h i hi=>vj ord [] [] (λ _ _ h=>by cases h) RS pre j post h i (.inr hi);intro rest
 induction rest with
 | nil=>
  intro pre cl res RO sc ho Wn hF hC hI hX Z0 m listed a w O0 O2 TE hc hR;rw[append_nil] at ho;subst ho;refine EH (P:=P) (ops:=ops) (ord:=ord) (dst:=dg ops) (E:=λ j=>(res j).1) (V:=λ j=>zO ops (res j) j) (x0:=x0) (R:=λ listed x a w=>Rr C N ops cl listed x a w/\wG W x.h) (Q':=Q') hn Sq OT Wo hI ?_ ?_ m listed a w O0 O2 hc hR
  ·intro p i q ho listed x a w K O0 Q1 hR Rk hK;rcases hF p i q ho with h | ⟨o,_,_,_,hW,h⟩
   ·have:=hR.1.2 i h;rw[Q1] at this;cases this
   ·exact h cl Q' listed x a w K O0 (OT i (by rw[ho];simp)) Q1 hR.1 hR.2 Rk λ a' w' h=>hK a' w' ⟨h,yr hR.2 hW⟩
  ·rintro listed a w ⟨⟨⟨s1,σ1,e1,Qg,_,_⟩,_⟩,_⟩;exact hQ sc a w Z0 ⟨σ1,Qg.No (by rw[e1,Wn])⟩
 | cons k r ih=>
  intro pre cl res RO sc ho Wn hF hC hI hX Z0 m listed a w O0 O2 TE hc hR;obtain⟨o,O8,ZI,Z0⟩:=Z0;have QU:=hn;rw[ho,nodup_append,nodup_cons] at QU;have Zq:k∉pre:=λ h=>QU.2.2 k h k xr rfl;have Pa:k<ops.size:=OT k (by rw[ho];simp);have Q7:dg ops k=o.dst:=by simp[dg,O8]
  have Pt:ord=(pre++[k])++r:=by rw[ho];simp
  have hun':∀ j∈r,listed.getD j false=false:=λ j hj=>TE j (mem_cons_of_mem _ hj);have Zp:listed.getD k false=false:=TE k mem_cons_self;have P2:∀ (x:Er),∀ i∈pre,Ce res k x i=res i:=λ x i hi=>Cd _ _ λ e=>by subst e;exact Zq hi
  have R8:∀ (x:Er) (L:Nat->Bool) (p:List Nat) (y:FS),(∀ i∈p,i∈pre)->ck (dg ops) (λ j=>(Ce res k x j).1) L p y=ck (dg ops) (λ j=>(res j).1) L p y:=λ x L p y hp=>
   xX p y λ i hi=>by rw[P2 x i (hp i hi)]
  have splits:∀ (p:List Nat) (i:Nat) (q:List Nat),pre++[k]=p++i::q->(p=pre/\i=k/\q=[])\/∃ q',q=q'++[k]/\pre=p++i::q':=by
   intro p i q h;rcases eq_nil_or_concat q with hq | ⟨q',z,hq⟩
   ·subst hq;have:=append_inj' h rfl;refine .inl ⟨this.1.symm,?_,rfl⟩
    simpa using this.2.symm
   ·rw[concat_eq_append] at hq;subst hq;have h':pre++[k]=(p++i::q')++[z]:=by rw[h];simp
    have:=append_inj' h' rfl;refine .inr ⟨q',?_,this.1⟩;rw[show z=k by simpa using this.2.symm]
  have YD:∀ (p:List Nat) (i:Nat) (q:List Nat),pre=p++i::q->(∀ t∈p,t∈pre)/\i∈pre/\∀ t∈q,t∈pre:=λ p i q h=>by
   rw[h];exact⟨λ t ht=>by simp[ht],by simp,λ t ht=>by simp[ht]⟩
  have hX':∀ x:Er,∀ p∈dyn,p.1∈pre++[k]->note dyn RO k x p.1=Ce res k x p.1:=λ x p hp hm=>by
   unfold note;rcases mem_append.1 hm with h1 | h1
   ·have Pp:p.1≠k:=λ e=>Zq (e ▸ h1);rw[Cd _ _ Pp];split
    ·rw[Cd _ _ Pp];exact hX p hp h1
    ·exact hX p hp h1
   ·have e:p.1=k:=by simpa using h1
    have hany:(dyn.any λ p=>p.1 == k)=true:=any_eq_true.2 ⟨p,hp,by simp[e]⟩;rw[if_pos hany,e,j8,j8]
  have facts:∀ (x:Er) (cl':List Nat),(∀ i∈cl,i∈cl')->(k∈cl'\/Kn P C ops N W x k (fs sc))->∀ p i q,pre++[k]=p++i::q->i∈cl'\/Kn P C ops N W (Ce res k x i) i (ck (dg ops) (λ j=>(Ce res k x j).1) (λ _=>true) p x0):=by
   intro x cl' Ss hk p i q h;rcases splits p i q h with ⟨rfl,rfl,_⟩ | ⟨q',rfl,h2⟩
   ·rcases hk with hk | hk
    ·exact .inl hk
    ·refine .inr ?_;rw[R8 x _ p x0 λ i hi=>hi,<- Wn,j8];exact hk
   ·obtain⟨m1,m2,m3⟩:=YD p i q' h2;rcases hF p i q' h2 with h3 | h3
    ·exact .inl (Ss i h3)
    ·refine .inr ?_;rw[P2 x i m2,R8 x _ p x0 m1];exact h3
  have Wq:∀ (x:Er),(∀ i∈pre,B6 ops k i\/F5 (dg ops i) (dg ops k) (res i).1 x.1 (zO ops (res i) i) ⟨o.looksAt ops,x.2.1,x.2.2.1,x.2.2.2⟩) ->
    ∀ p i q,pre++[k]=p++i::q->∀ j∈q,B6 ops j i\/F5 (dg ops i) (dg ops j) (Ce res k x i).1 (Ce res k x j).1 (zO ops (Ce res k x i) i) (zO ops (Ce res k x j) j):=by
   intro x hx p i q h j hj;rcases splits p i q h with ⟨_,_,rfl⟩ | ⟨q',rfl,h2⟩
   ·cases hj
   ·obtain⟨m1,m2,m3⟩:=YD p i q' h2;rw[P2 x i m2];rcases mem_append.1 hj with hj | hj
    ·rw[P2 x j (m3 j hj)];exact hI p i q' h2 j hj
    ·have:j=k:=by simpa using hj
     subst this;rw[j8,show zO ops x j=⟨o.looksAt ops,x.2.1,x.2.2.1,x.2.2.2⟩ by simp only[zO,O8]];exact hx i m2
  have Th:∀ i∈pre,∃ f,i∈cl\/Kn P C ops N W (res i) i f:=λ i hi=>by
   obtain⟨p1,p2,hp⟩:=append_of_mem hi;exact⟨_,hF p1 i p2 hp⟩
  have pairs:∀ (x:Er),(jr o=false->IT x)->(pC o=true->x.2.1=[])->chk dyn RO k x=true ->
    ∀ i∈pre,B6 ops k i\/F5 (dg ops i) (dg ops k) (res i).1 x.1 (zO ops (res i) i) ⟨o.looksAt ops,x.2.1,x.2.2.1,x.2.2.2⟩:=by
   intro x h1 h2 h3 i hi;obtain⟨f,h4 | h4⟩:=Th i hi
   ·exact .inl (hC i h4 k mem_cons_self)
   ·refine (VP pre k r ho i hi).imp id λ h5=>JL h5.2 h4 O8 h1 h2 λ hd=>?_;have:=all_eq_true.1 h3 (i,k) hd;simp only[bne_self_eq_false,Bool.false_or] at this;rwa [hX (i,k) hd hi] at this
  have hC':∀ i∈cl,∀ j∈r,B6 ops j i:=λ i h j hj=>hC i h j (mem_cons_of_mem _ hj);have next:∀ (x:Er) (sn:St),Kn P C ops N W x k (fs sc)->chk dyn RO k x=true->fs sn=ap o.dst x.1 (fs sc)->LN P av mt call pc q0 W C.nt ops N dyn K r (note dyn RO k x) sn->wpAny P .any ops Q' m listed a w:=by
   intro x sn hk UZ hsn hrx;have X2:=hk;obtain⟨o',e1,e2,e3,_⟩:=X2;rw[O8] at e1;cases e1;refine ih (pre++[k]) cl (Ce res k x) (note dyn RO k x) sn Pt ?_ (facts x cl (λ _ h=>h) (.inr hk)) hC' (Wq x (pairs x e2 e3 UZ)) (hX' x) hrx m listed a w O0 O2 hun' hc ?_
   ·rw[hsn,dZ,R8 x _ pre x0 λ i hi=>hi,<- Wn];simp only[ck,j8,if_true,Q7]
   ·rw[dZ,R8 x _ pre x0 λ i hi=>hi];simp only[ck,Zp,Bool.false_eq_true,if_false];exact hR
  rcases Z0 with ⟨x,q1,q2,q3⟩ | ⟨hg,v,hx,q3⟩ | ⟨ks,nb,OUT,W1,hu,hO,hdn,hK⟩
  ·exact next x _ (Kn.eff ht R6 hCl gJ Z3 O8 ZI q1 q2.2) q2.1 (H5 _ _ _) q3
  ·exact next (iY v) _ (Kn.quiet O8 ZI hg hx) (all_eq_true.2 λ p _=>by simp[xV]) (ox _ _ _) q3
  ·obtain⟨c,hu⟩:=Option.isSome_iff_exists.1 hu;have UP:=FU hu;have SM:∀ j∈r,B6 ops j k:=λ j hj=>by
    obtain⟨r1,r2,hr⟩:=append_of_mem hj;rcases VP (pre++k::r1) j r2 (by rw[ho,hr];simp) k xr with h5 | ⟨h5,_⟩
    ·exact h5
    ·simp[O8,hu] at h5;rw[W1] at h5;cases h5
   have view:∀ i∈pre,B6 ops k i\/∀ z,eA ⟨o.looksAt ops,ks,nb,none⟩ (ap (dg ops i) (res i).1 z) z:=by
    intro i hi;obtain⟨f,h4 | ⟨oi,a1,a2,_⟩⟩:=Th i hi
    ·exact .inl (hC i h4 k mem_cons_self)
    ·rcases VP pre k r ho i hi with hp | ⟨_,hp⟩
     ·exact .inl hp
     ·unfold xE at hp;rw[a1,O8] at hp;simp only[Bool.or_eq_true,Bool.and_eq_true] at hp;obtain⟨Tw,hp⟩:=hp;refine .inr λ z=>?_;have quiet:jr oi=false->(∀ o' y,assoc (res i).1.w o'=some y->o'∉ks)/\(nb=true->(res i).1.k=0):=λ hl=>by
       obtain⟨u1,u2,_,_⟩:=a2 hl;exact⟨λ o' y h=>by rw[u1] at h;simp[assoc] at h,λ _=>u2⟩
      have hq:(∀ o' y,assoc (res i).1.w o'=some y->o'∉ks)/\(nb=true->(res i).1.k=0):=by
       rcases hp with ((hp | hp) | hp) | hp
       ·obtain⟨c1,c2⟩:=hdn (i,k) (by simpa using hp) rfl;rw[hX (i,k) (by simpa using hp) hi] at c1 c2;exact⟨λ o' y h=>c1 _ (bF _ _ _ h),c2⟩
       ·simp only[Bool.not_eq_true'] at hp;exact quiet hp.1
       ·exact quiet yDe
       ·simp only[pC,Bool.and_eq_true,Bool.not_eq_true'] at hp;rw[UP] at hp;simp at hp
      exact oD (V:=⟨o.looksAt ops,ks,nb,none⟩) (by rw[show dg ops i=oi.dst by simp[dg,a1]];exact (Oper.apart_spec Tw).1) hq.1 hq.2 (λ _ h=>by cases h) z
   rw[ho] at hn hc;refine EU (P:=P) (pre:=pre) (r:=r) (k:=k) (dst:=dg ops) (E:=λ j=>(res j).1) (V:=λ j=>zO ops (res j) j) (Vk:=⟨o.looksAt ops,ks,nb,none⟩) (OUT:=λ Ek=>∃ e s',OUT e s'/\Ek=e.1) (x0:=x0) (R:=λ listed x a w=>Rr C N ops cl listed x a w/\wG W x.h) (Q':=Q') hn
    (λ j hj=>by rw[<- ho];exact Sq j hj) (λ i hi=>OT i (by rw[ho];exact hi)) (λ p i q h=>Wo p i q (ho.trans h)) hI SM view ?_ ?_ ?_ m listed a w O0 O2 Zp hc hR
   ·intro p i q h listed x a w K O0 Q1 hR Rk hK;rcases hF p i q h with h1 | ⟨o,_,_,_,hW,h1⟩
    ·have:=hR.1.2 i h1;rw[Q1] at this;cases this
    ·exact h1 cl Q' listed x a w K O0 (OT i (by rw[ho,h];simp)) Q1 hR.1 hR.2 Rk λ a' w' h=>hK a' w' ⟨h,yr hR.2 hW⟩
   ·intro listed x a w K' O0 Q1 hR Rk hK';rw[<- Wn] at Rk;exact hO ht C cl Q' listed x a w K' rfl O0 Pa hR.1 Rk λ e s' a' w' h hr=>hK' e.1 a' w' ⟨e,s',h,rfl⟩ ⟨hr,yr hR.2 (hK e s' h).2.1.2⟩
   ·rintro Ek ⟨e,sn,hG,rfl⟩ m listed a w O0 O2 Pa TE hc hR;obtain⟨hsn,UZ,hRX'⟩:=hK e sn hG;refine ih (pre++[k]) (k::cl) (Ce res k e) (note dyn RO k e) sn Pt ?_ (facts e (k::cl) (λ i h=>mem_cons_of_mem _ h) (.inl mem_cons_self)) ?_ (Wq e (pairs e (λ h=>by rw[UP] at h;cases h) (λ h=>by simp[pC,UP] at h) UZ.1)) (hX' e) hRX' m listed a w O0 O2 TE (by rw[ho];exact hc) ?_
    ·rw[hsn,dZ,R8 e _ pre x0 λ i hi=>hi,<- Wn];simp only[ck,j8,if_true,Q7]
    ·intro i hi;rcases mem_cons.1 hi with rfl | hi
     ·exact SM
     ·exact hC' i hi
    ·rw[dZ,R8 e _ pre x0 λ i hi=>hi];simp only[ck,Pa,if_true,j8];refine⟨⟨hR.1.1,λ i hi=>?_⟩,hR.2⟩;rcases mem_cons.1 hi with e | hi
     ·rw[e];exact Pa
     ·exact hR.1.2 i hi
def rxS (ops:Array Oper)(ord:List Nat)(dyn:List (Nat×Nat)):Bool:=uQ ops true ord dyn
theorem T.rxg (ht:aD P av)(R6:j0 P mt)(hCl:gF P av call)(gJ:wW P pc)(hm:P.follows .mixedOrders=true){id:Nat}{q0:Bool}{Q:Exit->St->Prop}(W:List rz)(hW:wG W (assoc s.heap))(ord:List Nat)(dyn:List (Nat×Nat))(hS:uQ ops q0 ord dyn=true)
  (h:LN P av mt call pc q0 W C.nt ops s.nx dyn (Q .normal) ord (λ _=>default) ⟨s.env,s.heap,s.nx+ops.size⟩):T P C (.region id ops true) s Q:=by
 intro a w ⟨σ,hr⟩;simp only[uQ,Bool.and_eq_true,decide_eq_true_eq,all_eq_true,contains_eq_mem] at hS;obtain⟨⟨⟨⟨hn,Sq⟩,OT⟩,hox⟩,RS⟩:=hS;have WA:∀ j,j<ops.size->j∈ord:=λ j hj=>Sq j (mem_range.2 hj);have SX:=hr.low;have WX:aO C σ ⟨s.env,s.heap,s.nx+ops.size⟩ a { w with drawn:=w.drawn+1 }:=by
  obtain⟨σ2,h2⟩:Rel C s a { w with drawn:=w.drawn+1 }:=Rel.drew ⟨σ,hr⟩;exact⟨hr.oz,hr.tm,hr.os,hr.tape,hr.output,hr.size,hr.frame,λ t c hc=>(by
   obtain⟨v,k1,k2⟩:=hr.env t c hc;exact⟨v,k1,VR.bL vH c v (λ _ _=>rfl) k2⟩),λ o ob ho=>(by
   obtain⟨B,m1,m2,m3,m4,m5⟩:=hr.obj o ob ho;refine⟨B,m1,m2,m3,m4,λ b hb=>?_⟩;obtain⟨cur,n1,n2,n3,n4,n5,n6⟩:=m5 b hb;exact⟨cur,n1,n2,n3,n4,n5,a7.bL vH _ _ (λ _ _=>rfl) n6⟩),hr.inj,λ o ho=>hr.nx o (by simp only at ho |-;omega),hr.fX,by simp only;omega,hr.new⟩
 refine wp_mono (Q:=λ e a' w'=>e=.normal/\∃ s',Q .normal s'/\Rel C s' a' w') (wp_region_any hm ?_) (λ e a' w' ⟨he,s',h1,Pu⟩=>⟨s',he ▸ h1,Pu⟩);refine Mc ht R6 hCl gJ hn WA OT hox RS (N:=s.nx) SX (x0:=fs ⟨s.env,s.heap,s.nx+ops.size⟩) (K:=Q .normal) (Q':=λ e a' w'=>e=.normal/\∃ s',Q .normal s'/\Rel C s' a' w') (λ s' a w h1 h2=>⟨rfl,s',h1,h2⟩)
  ord [] [] (λ _=>default) (λ _=>default) _ rfl rfl (λ p i q h=>by simp at h) (λ i hi=>by cases hi) (λ p i q h=>by simp at h) (λ _ _ _=>rfl) h ops.size _ _ _ xr ?_ (λ j _=>ov _ _) ?_ ?_
 ·intro j oj _ hl;rw[ov] at hl;cases hl
 ·have:ord.length=ops.size:=by
   have h1:ord.Perm (range ops.size):=(perm_ext_iff_of_nodup hn nodup_range).2 λ j=>⟨λ hj=>mem_range.2 (OT j hj),λ hj=>WA j (mem_range.1 hj)⟩
   simpa using h1.length_eq
  rw[<- this,countP_eq_length];intro j _;rw[ov];rfl
 ·exact⟨⟨⟨_,σ,rfl,WX,Nat.le_refl _,λ j hj _=>hr.nx _ yA⟩,λ c hc=>by cases hc⟩,hW⟩
def DB (av:List (Nat×TI))(mt:iO)(call:fW)(pc:FuncId->List CV->Option CV)(nt:Nat)(ops:Array Oper)(N:Nat)(dyn:List (Nat×Nat)):List Nat->(Nat->Er)->St->Option St
 | [],_,s=>some s
 | i::r,res,s=>match ops[i]? with
  | none=>none
  | some o=>if bl nt o.dst=true then match vT av mt ops call pc N (N+ops.size) (N+i) s o with
    | none=>none
    | some x=>if chk dyn res i x=true then DB av mt call pc nt ops N dyn r (note dyn res i x) (OM o.dst x.1 s) else none
   else none
theorem Ac {q:Bool}{nt N:Nat}{dyn:List (Nat×Nat)}:∀ {l:List Nat} {res:Nat->Er} {s s':St},DB av mt call pc nt ops N dyn l res s=some s'->LN P av mt call pc q [] nt ops N dyn (λ x=>x=s') l res s
 | [],_,_,_,h=>by cases h;rfl
 | i::r,res,s,s',h=>by
  simp only[DB] at h;split at h
  ·cases h
  ·rename_i o ho;split at h
   ·rename_i hd;split at h
    ·cases h
    ·rename_i x hx;split at h
     ·rename_i hc;exact⟨o,ho,hd,.inl ⟨x,hx,⟨hc,Eu _⟩,Ac h⟩⟩
     ·cases h
   ·cases h
def KY (av:List (Nat×TI))(mt:iO)(nt:Nat)(ops:Array Oper)(call:fW)(pc:FuncId->List CV->Option CV)(ord:List Nat)(dyn:List (Nat×Nat))(s:St):Option St:=
 DB av mt call pc nt ops s.nx dyn ord (λ _=>default) { s with nx:=s.nx+ops.size }
theorem T.trace (ht:aD P av)(R6:j0 P mt)(O2:gF P av call)(gJ:wW P pc)(hm:P.follows .mixedOrders=true){id:Nat}{ord:List Nat}{dyn:List (Nat×Nat)}{s':St}(hS:uQ ops false ord dyn=true)(h:KY av mt C.nt ops call pc ord dyn s=some s') :
  T P C (.region id ops true) s λ e x=>e=.normal/\x=s':=
 T.rxg (Q:=λ e x=>e=.normal/\x=s') ht R6 O2 gJ hm [] (λ _ h=>by cases h) ord dyn hS (by simpa using Ac h)
end
section
variable {P:Program}{C:Cx}{s:St}{ops:Array Oper}{av:List (Nat×TI)}
def yj (W:List rz)(s:St)(o:Oper):Bool:=!W.isEmpty && match o.op with
 | .load _ x=>W.any λ c=>match ev s x with
  | some (.ax p j)=>p == c.1 && j == c.2.1
  | _=>false
 | _=>false
def mr (av:List (Nat×TI))(W:List rz)(nt:Nat)(ops:Array Oper)(N:Nat)(dyn:List (Nat×Nat))(K:List Nat->(Nat->Er)->St->Prop):List Nat->(Nat->Er)->St->Prop
 | [],res,s=>K [] res s
 | i::r,res,s=>match ops[i]? with
  | none=>False
  | some o=>if ((cB o).isSome && (bW ops s o == some true)) || yj W s o then K (i::r) res s else
   if bl nt o.dst=true then match vT av [] ops DQ DP N (N+ops.size) (N+i) s o with
    | none=>K (i::r) res s
    | some x=>um W dyn res i x/\mr av W nt ops N dyn K r (note dyn res i x) (OM o.dst x.1 s)
   else False
def Cq (P:Program)(av:List (Nat×TI))(W:List rz)(nt:Nat)(ops:Array Oper)(N:Nat)(dyn:List (Nat×Nat))(K:St->Prop):List Nat->(Nat->Er)->St->Prop
 | [],_,s=>K s
 | i::r,res,s=>RX P av W nt ops N dyn K (i::r) res s
theorem RX.go {W:List rz}{nt N:Nat}{dyn:List (Nat×Nat)}{K:St->Prop}:∀ {l:List Nat} {res:Nat->Er} {s:St},mr av W nt ops N dyn (Cq P av W nt ops N dyn K) l res s->RX P av W nt ops N dyn K l res s
 | [],_,_,h=>h
 | i::r,res,s,h=>by
  simp only[mr] at h;split at h
  ·exact h.elim
  ·rename_i o ho;split at h
   ·exact h
   ·split at h
    ·rename_i hd;split at h
     ·exact h
     ·rename_i x hx;exact⟨o,ho,hd,.inl ⟨x,hx,h.1,RX.go h.2⟩⟩
    ·exact h.elim
theorem T.rxw (ht:aD P av)(hm:P.follows .mixedOrders=true){id:Nat}{l:List Oper}{Q:Exit->St->Prop}(W:List rz)(hW:wG W (assoc s.heap))(ord:List Nat)(dyn:List (Nat×Nat))(hS:rxS l.toArray ord dyn=true)
  (h:mr av W C.nt l.toArray s.nx dyn (Cq P av W C.nt l.toArray s.nx dyn (Q .normal)) ord (λ _=>default) ⟨s.env,s.heap,s.nx+l.toArray.size⟩):T P C (.region id l.toArray true) s Q:=
 T.rxg ht xL (λ _ _ _ _ _ _ _ h=>by cases h) (λ _ _ _ h=>by cases h) hm W hW ord dyn hS (RX.go h)
theorem T.rx (ht:aD P av)(hm:P.follows .mixedOrders=true){id:Nat}{l:List Oper}{Q:Exit->St->Prop}(ord:List Nat)(dyn:List (Nat×Nat))(hS:rxS l.toArray ord dyn=true)
  (h:mr av [] C.nt l.toArray s.nx dyn (Cq P av [] C.nt l.toArray s.nx dyn (Q .normal)) ord (λ _=>default) ⟨s.env,s.heap,s.nx+l.toArray.size⟩):T P C (.region id l.toArray true) s Q:=
 T.rxw ht hm [] (λ _ h=>by cases h) ord dyn hS h
variable {W:List rz}
variable {nt N:Nat}{dyn:List (Nat×Nat)}{K:St->Prop}{i:Nat}{r:List Nat}{res:Nat->Er}
theorem RX.Iz {o:Oper}{cl:Call}{g:FuncId}{cs:List CV}{G:CV->Prop}(hi:ops[i]? = Option.some o)(hd:bl nt o.dst=true)(hg:bW ops s o=Option.some true)(hu:cB o=Option.some cl)(Pc:bJ s cl=Option.some (g,cs))(ht:trees cs=true)(hP:ny P g cs G)
  (hK:∀ v,G v->mr av W nt ops N dyn (Cq P av W nt ops N dyn K) r (note dyn res i (iY v)) (s.put o.dst v)):RX P av W nt ops N dyn K (i::r) res s:=
 ⟨o,hi,hd,.inr (.inr ⟨[],false,_,rfl,by simp[hu],KX.pure hi hd hu Pc hg ht hP,λ _ _ _=>⟨λ _ _=>not_mem_nil,λ h=>by cases h⟩,by
  rintro e s' ⟨v,hv,rfl,rfl⟩;exact⟨ox _ _ _,⟨all_eq_true.2 λ p _=>by simp[xV],λ _ _ _ h=>by cases h⟩,RX.go (hK v hv)⟩⟩)⟩
theorem RX.quiet {o:Oper}(v:CV)(hi:ops[i]? = Option.some o)(hd:bl nt o.dst=true)(hg:bW ops s o=Option.some true)(hx:XV P W o s v)(hK:mr av W nt ops N dyn (Cq P av W nt ops N dyn K) r (note dyn res i (iY v)) (s.put o.dst v)):RX P av W nt ops N dyn K (i::r) res s:=
 ⟨o,hi,hd,.inr (.inl ⟨hg,v,hx,RX.go hK⟩)⟩
theorem XV.load (ht:aD P av){o:Oper}{t:TypeId}{x:Operand}{p j:Nat}{v:CV}{ti:TI}(ho:o.op=.load t x)(hx:ev s x=Option.some (.ax p j))(hc:(p,j,[v])∈W)(hti:assoc av t=Option.some ti)(ha:ti.agg=false):XV P W o s v:=λ C σ s1 a w he hw hr=>by
 obtain⟨ob,h1,h2⟩:=hw _ hc;simp only[length_cons,length_nil] at h1 h2;refine uA ht hr o ?_;rw[ho];simp only[fp,(he x (by simp[ho,Op.operands])).trans hx,hti,gS,h1,Option.map_some,mf,ha,Bool.false_eq_true,if_false]
 cases hd:ob.cells.drop j with
 | nil=>rw[hd] at h2;simp at h2
 | cons c r=>rw[hd] at h2;simpa using h2
theorem RX.body {o:Oper}{cl:Call}{g:FuncId}{cs:List CV}{R:CV->St->Prop}(ks g8:List Nat)(d:Nat){H:List (Nat×Ob)}(hi:ops[i]? = Option.some o)(hd:bl nt o.dst=true)(hg:bW ops s o=Option.some true)(hu:cB o=Option.some cl)(Pc:bJ s cl=Option.some (g,cs))
  (hp:eK s.heap ks=Option.some H) (hb:Body P av g cs H s.nx R) (hv:zy dyn res i ks=true)
  (hR:∀ v s1,R v s1->s1.nx=s.nx+d/\(∀ p ob,assoc s1.heap p=Option.some ob->p∈ks\/s.nx<=p)/\(∀ p,p∉g8->assoc s1.heap p=assoc H p)/\∀ p∈g8,p∈ks\/(assoc s1.heap p).isSome=true)
  (hK:∀ v s1,R v s1->um W dyn res i (iB v ks g8 d s1.heap)/\mr av W nt ops N dyn (Cq P av W nt ops N dyn K) r (note dyn res i (iB v ks g8 d s1.heap)) (St.put ⟨s.env,s1.heap++ec s.heap ks,s.nx+d⟩ o.dst v)):RX P av W nt ops N dyn K (i::r) res s:=
 ⟨o,hi,hd,.inr (.inr ⟨ks,true,_,rfl,by simp[hu],KX.body hi hd hu Pc hg hp hb hR,λ p hp e=>by
  have:=all_eq_true.1 hv p hp;simp only[e,bne_self_eq_false,Bool.false_or,Bool.and_eq_true,all_eq_true,beq_iff_eq,Bool.not_eq_true'] at this;exact⟨λ q hq=>by have:=this.1 q hq;simpa using this,λ _=>this.2⟩,by
  rintro e s' ⟨v,s1,h,rfl,rfl⟩;obtain⟨_,_,k3,k4⟩:=hR v s1 h;exact⟨KX.fs hp k3 k4,(hK v s1 h).1,RX.go (hK v s1 h).2⟩⟩)⟩
theorem RX.call {o:Oper}{cl:Call}{g:FuncId}{cs:List CV}{v:CV}(hi:ops[i]? = Option.some o)(hd:bl nt o.dst=true)(hg:bW ops s o=Option.some true)(hu:cB o=Option.some cl)(Pc:bJ s cl=Option.some (g,cs))(ht:trees cs=true)(hP:af P g cs v)
  (hK:mr av W nt ops N dyn (Cq P av W nt ops N dyn K) r (note dyn res i (iY v)) (s.put o.dst v)):RX P av W nt ops N dyn K (i::r) res s:=
 RX.Iz hi hd hg hu Pc ht (hP.toP (G:=λ x=>x=v) rfl) λ x hx=>by rw[hx];exact hK
theorem RX.IA {o:Oper}{cl:Call}{g:FuncId}{cs:List CV}{R:CV->St->Prop}(ks g8:List Nat){H:List (Nat×Ob)}(n:Nat)(hi:ops[i]? = Option.some o)(hd:bl nt o.dst=true)(hg:bW ops s o=Option.some true)(hu:cB o=Option.some cl)(Pc:bJ s cl=Option.some (g,cs))
  (hp:eK s.heap ks=Option.some H) (hn:n<=s.nx) (ha:aX n cs=true) (hH:dq n H=true) (hb:Body P av g cs H n R) (hv:zy dyn res i ks=true) (hc:(g8.all λ p=>ks.contains p)=true)
  (hR:∀ v s1,R v s1->s1.nx=n/\mD ks s1.heap=true/\∀ p,p∉g8->assoc s1.heap p=assoc H p)
  (hK:∀ v s1,R v s1->um W dyn res i (qd v ks g8 s1.heap)/\mr av W nt ops N dyn (Cq P av W nt ops N dyn K) r (note dyn res i (qd v ks g8 s1.heap)) (St.put ⟨s.env,s1.heap++ec s.heap ks,s.nx⟩ o.dst v)):RX P av W nt ops N dyn K (i::r) res s:=by
 refine RX.body ks g8 0 hi hd hg hu Pc hp (hb.lift hn ha hH λ v s h=>(hR v s h).1) hv ?_ ?_
 ·rintro v s2 ⟨s1,h1,rfl⟩;obtain⟨k1,k2,k3⟩:=hR v s1 h1;exact⟨rfl,λ p ob h=>.inl (sf k2 p ob h),k3,λ p hp=>by have:=all_eq_true.1 hc p hp;exact .inl (by simpa using this)⟩
 ·rintro v s2 ⟨s1,h1,rfl⟩;exact hK v s1 h1
@[congr] theorem Mb {Kx:List Nat->(Nat->Er)->St->Prop}{s s':St}{res SK:Nat->Er}{l:List Nat}(h:s=s')(h2:res=SK):mr av W nt ops N dyn Kx l res s=mr av W nt ops N dyn Kx l SK s':=by rw[h,h2]
@[congr] theorem RX_congr {s s':St}{res SK:Nat->Er}{l:List Nat}(h:s=s')(h2:res=SK):RX P av W nt ops N dyn K l res s=RX P av W nt ops N dyn K l SK s':=by rw[h,h2]
end
end Go.Can
