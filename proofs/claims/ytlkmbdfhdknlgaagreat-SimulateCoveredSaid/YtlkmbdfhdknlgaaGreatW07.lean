/- Lemmas. -/
import Derived.Test.YtlkmbdfhdknlgaaGreatW06
namespace Go.Can
open List
section
variable {P:Program}{C:Cx}{s:St}{ops:Array Oper}{av:List (Nat×TI)}{mt:jh}{call:gD}{pc:FuncId->List CV->Option CV}
theorem PZ (ht:aF P av)(VD:jM P mt)(hCl:g7 P av call)(gQ:yZ P pc){q0:Bool}{W:List u5}{ord:List Nat}{dyn:List (Nat×Nat)}(hn:ord.Nodup)(UY:∀ j,j<ops.size->j∈ord)(P1:∀ i∈ord,i<ops.size)(hox:Kg ops [] ord=true)(Yp:Cv ops dyn q0 [] [] ord=true)
  {N:Nat} (hN0:C.n0<=N) {x0:FS} {K:St->Prop} {Q':Exit->Act->World->Prop} (hQ:∀ s' a w,K s'->Rel C s' a w->Q' .normal a w) :
  ∀ (rest pre cl:List Nat) (res Vv:Nat->Er) (sc:St),ord=pre++rest->fs sc=ch (dE ops) (λ j=>(res j).1) (λ _=>true) pre x0 ->
   (∀ p i q,pre=p++i::q->i∈cl\/Kn P C ops N W (res i) i (ch (dE ops) (λ j=>(res j).1) (λ _=>true) p x0)) ->
   (∀ i∈cl,∀ j∈rest,D8 ops j i) ->
   (∀ p i q,pre=p++i::q->∀ j∈q,D8 ops j i\/IS (dE ops i) (dE ops j) (res i).1 (res j).1 (BL ops (res i) i) (BL ops (res j) j)) ->
   (∀ p∈dyn,p.1∈pre->Vv p.1=res p.1) ->
   PB P av mt call pc q0 W C.nt ops N dyn K rest Vv sc ->
   ∀ (m:Nat) (listed:Array Bool) (a:Act) (w:World),listed.size=ops.size->u6 ops listed->(∀ j∈rest,listed.getD j false=false)->(ord.countP λ j=>!listed.getD j false)=m ->
    Rr C N ops cl listed (ch (dE ops) (λ j=>(res j).1) (λ j=>listed.getD j false) pre x0) a w/\yK W (ch (dE ops) (λ j=>(res j).1) (λ j=>listed.getD j false) pre x0).h->wpAny P .any ops Q' m listed a w:=by
 have ZV:∀ pre i post,ord=pre++i::post->∀ oi,ops[i]? = some oi->∀ e∈oi.after,Region.binds .any e=true->e.on∈pre:=λ pre i post ho oi Xm e he hb=>(zx ord [] hox pre i post ho oi Xm e he hb).resolve_left not_mem_nil;have Zo:∀ pre j post,ord=pre++j::post->∀ i∈pre,D8 ops j i\/((q0=true->(ops[i]?).bind cz=none)/\zw ops dyn i j=true):=λ pre j post h i hi=>xw ord [] [] (λ _ _ h=>by cases h) Yp pre j post h i (.inr hi);intro rest
 induction rest with
 | nil=>
  intro pre cl res Vv sc ho ZT hF hC hI hX hRX m listed a w SB SA Xj hc hR;rw[append_nil] at ho;subst ho;refine Hu (P:=P) (ops:=ops) (ord:=ord) (dst:=dE ops) (E:=λ j=>(res j).1) (V:=λ j=>BL ops (res j) j) (x0:=x0) (R:=λ listed x a w=>Rr C N ops cl listed x a w/\yK W x.h) (Q':=Q') hn UY P1 ZV hI ?_ ?_ m listed a w SB SA hc hR
  .intro p i q ho listed x a w K SB U9 hR UF hK;rcases hF p i q ho with h | ⟨o,_,_,_,hW,h⟩
   .have:=hR.1.2 i h;rw[U9] at this;cases this
   .exact h cl Q' listed x a w K SB (P1 i (by rw[ho];simp)) U9 hR.1 hR.2 UF λ a' w' h=>hK a' w' ⟨h,Ah hR.2 hW⟩
  .rintro listed a w ⟨⟨⟨s1,σ1,e1,TU,_,_⟩,_⟩,_⟩;exact hQ sc a w hRX ⟨σ1,TU.Q6 (by rw[e1,ZT])⟩
 | cons k r ih=>
  intro pre cl res Vv sc ho ZT hF hC hI hX hRX m listed a w SB SA Xj hc hR;obtain⟨o,SU,hdk,hRX⟩:=hRX;have VP:=hn;rw[ho,nodup_append,nodup_cons] at VP;have hkp:k∉pre:=λ h=>VP.2.2 k h k xr rfl;have SO:k<ops.size:=P1 k (by rw[ho];simp);have WH:dE ops k=o.dst:=by simp[dE,SU]
  have Tc:ord=(pre++[k])++r:=by rw[ho];simp
  have hun':∀ j∈r,listed.getD j false=false:=λ j hj=>Xj j (mem_cons_of_mem _ hj);have hkun:listed.getD k false=false:=Xj k mem_cons_self;have Tw:∀ (x:Er),∀ i∈pre,Ej res k x i=res i:=λ x i hi=>Eh _ _ λ e=>by subst e;exact hkp hi
  have VH:∀ (x:Er) (L:Nat->Bool) (p:List Nat) (y:FS),(∀ i∈p,i∈pre)->ch (dE ops) (λ j=>(Ej res k x j).1) L p y=ch (dE ops) (λ j=>(res j).1) L p y:=λ x L p y hp=>
   zQ p y λ i hi=>by rw[Tw x i (hp i hi)]
  have splits:∀ (p:List Nat) (i:Nat) (q:List Nat),pre++[k]=p++i::q->(p=pre/\i=k/\q=[])\/∃ q',q=q'++[k]/\pre=p++i::q':=by
   intro p i q h;rcases eq_nil_or_concat q with hq | ⟨q',z,hq⟩
   .subst hq;have:=append_inj' h rfl;refine .inl ⟨this.1.symm,?_,rfl⟩
    simpa using this.2.symm
   .rw[concat_eq_append] at hq;subst hq;have h':pre++[k]=(p++i::q')++[z]:=by rw[h];simp
    have:=append_inj' h' rfl;refine .inr ⟨q',?_,this.1⟩;rw[show z=k by simpa using this.2.symm]
  have memp:∀ (p:List Nat) (i:Nat) (q:List Nat),pre=p++i::q->(∀ t∈p,t∈pre)/\i∈pre/\∀ t∈q,t∈pre:=λ p i q h=>by
   rw[h];exact⟨λ t ht=>by simp[ht],by simp,λ t ht=>by simp[ht]⟩
  have hX':∀ x:Er,∀ p∈dyn,p.1∈pre++[k]->note dyn Vv k x p.1=Ej res k x p.1:=λ x p hp hm=>by
   unfold note;rcases mem_append.1 hm with h1 | h1
   .have SL:p.1≠k:=λ e=>hkp (e ▸ h1);rw[Eh _ _ SL];split
    .rw[Eh _ _ SL];exact hX p hp h1
    .exact hX p hp h1
   .have e:p.1=k:=by simpa using h1
    have hany:(dyn.any λ p=>p.1 == k)=true:=any_eq_true.2 ⟨p,hp,by simp[e]⟩;rw[if_pos hany,e,kX,kX]
  have facts:∀ (x:Er) (cl':List Nat),(∀ i∈cl,i∈cl')->(k∈cl'\/Kn P C ops N W x k (fs sc))->∀ p i q,pre++[k]=p++i::q->i∈cl'\/Kn P C ops N W (Ej res k x i) i (ch (dE ops) (λ j=>(Ej res k x j).1) (λ _=>true) p x0):=by
   intro x cl' VZ hk p i q h;rcases splits p i q h with ⟨rfl,rfl,_⟩ | ⟨q',rfl,h2⟩
   .rcases hk with hk | hk
    .exact .inl hk
    .refine .inr ?_;rw[VH x _ p x0 λ i hi=>hi,<- ZT,kX];exact hk
   .obtain⟨m1,m2,m3⟩:=memp p i q' h2;rcases hF p i q' h2 with h3 | h3
    .exact .inl (VZ i h3)
    .refine .inr ?_;rw[Tw x i m2,VH x _ p x0 m1];exact h3
  have ZW:∀ (x:Er),(∀ i∈pre,D8 ops k i\/IS (dE ops i) (dE ops k) (res i).1 x.1 (BL ops (res i) i) ⟨o.looksAt ops,x.2.1,x.2.2.1,x.2.2.2⟩) ->
    ∀ p i q,pre++[k]=p++i::q->∀ j∈q,D8 ops j i\/IS (dE ops i) (dE ops j) (Ej res k x i).1 (Ej res k x j).1 (BL ops (Ej res k x i) i) (BL ops (Ej res k x j) j):=by
   intro x hx p i q h j hj;rcases splits p i q h with ⟨_,_,rfl⟩ | ⟨q',rfl,h2⟩
   .cases hj
   .obtain⟨m1,m2,m3⟩:=memp p i q' h2;rw[Tw x i m2];rcases mem_append.1 hj with hj | hj
    .rw[Tw x j (m3 j hj)];exact hI p i q' h2 j hj
    .have:j=k:=by simpa using hj
     subst this;rw[kX,show BL ops x j=⟨o.looksAt ops,x.2.1,x.2.2.1,x.2.2.2⟩ by simp only[BL,SU]];exact hx i m2
  have Uc:∀ i∈pre,∃ f,i∈cl\/Kn P C ops N W (res i) i f:=λ i hi=>by
   obtain⟨p1,p2,hp⟩:=append_of_mem hi;exact⟨_,hF p1 i p2 hp⟩
  have pairs:∀ (x:Er),(jS o=false->Mc x)->(qF o=true->x.2.1=[])->chk dyn Vv k x=true ->
    ∀ i∈pre,D8 ops k i\/IS (dE ops i) (dE ops k) (res i).1 x.1 (BL ops (res i) i) ⟨o.looksAt ops,x.2.1,x.2.2.1,x.2.2.2⟩:=by
   intro x h1 h2 h3 i hi;obtain⟨f,h4 | h4⟩:=Uc i hi
   .exact .inl (hC i h4 k mem_cons_self)
   .refine (Zo pre k r ho i hi).imp id λ h5=>Nj h5.2 h4 SU h1 h2 λ hd=>?_;have:=all_eq_true.1 h3 (i,k) hd;simp only[bne_self_eq_false,Bool.false_or] at this;rwa [hX (i,k) hd hi] at this
  have hC':∀ i∈cl,∀ j∈r,D8 ops j i:=λ i h j hj=>hC i h j (mem_cons_of_mem _ hj);have next:∀ (x:Er) (sn:St),Kn P C ops N W x k (fs sc)->chk dyn Vv k x=true->fs sn=ap o.dst x.1 (fs sc)->PB P av mt call pc q0 W C.nt ops N dyn K r (note dyn Vv k x) sn->wpAny P .any ops Q' m listed a w:=by
   intro x sn hk WJ hsn hrx;have hk':=hk;obtain⟨o',e1,e2,e3,_⟩:=hk';rw[SU] at e1;cases e1;refine ih (pre++[k]) cl (Ej res k x) (note dyn Vv k x) sn Tc ?_ (facts x cl (λ _ h=>h) (.inr hk)) hC' (ZW x (pairs x e2 e3 WJ)) (hX' x) hrx m listed a w SB SA hun' hc ?_
   .rw[hsn,ep,VH x _ pre x0 λ i hi=>hi,<- ZT];simp only[ch,kX,if_true,WH]
   .rw[ep,VH x _ pre x0 λ i hi=>hi];simp only[ch,hkun,Bool.false_eq_true,if_false];exact hR
  rcases hRX with ⟨x,q1,q2,q3⟩ | ⟨hg,v,hx,q3⟩ | ⟨ks,nb,OUT,hq0,hu,hO,hdn,hK⟩
  .exact next x _ (Kn.eff ht VD hCl gQ hN0 SU hdk q1 q2.2) q2.1 (Ld _ _ _) q3
  .exact next (jy v) _ (Kn.quiet SU hdk hg hx) (all_eq_true.2 λ p _=>by simp[zO]) (pz _ _ _) q3
  .obtain⟨c,hu⟩:=Option.isSome_iff_exists.1 hu;have Yz:=IF hu;have Wi:∀ j∈r,D8 ops j k:=λ j hj=>by
    obtain⟨r1,r2,hr⟩:=append_of_mem hj;rcases Zo (pre++k::r1) j r2 (by rw[ho,hr];simp) k xr with h5 | ⟨h5,_⟩
    .exact h5
    .simp[SU,hu] at h5;rw[hq0] at h5;cases h5
   have view:∀ i∈pre,D8 ops k i\/∀ z,eP ⟨o.looksAt ops,ks,nb,none⟩ (ap (dE ops i) (res i).1 z) z:=by
    intro i hi;obtain⟨f,h4 | ⟨oi,a1,a2,_⟩⟩:=Uc i hi
    .exact .inl (hC i h4 k mem_cons_self)
    .rcases Zo pre k r ho i hi with hp | ⟨_,hp⟩
     .exact .inl hp
     .unfold zw at hp;rw[a1,SU] at hp;simp only[Bool.or_eq_true,Bool.and_eq_true] at hp;obtain⟨Wa,hp⟩:=hp;refine .inr λ z=>?_;have quiet:jS oi=false->(∀ o' y,assoc (res i).1.w o'=some y->o'∉ks)/\(nb=true->(res i).1.k=0):=λ hl=>by
       obtain⟨u1,u2,_,_⟩:=a2 hl;exact⟨λ o' y h=>by rw[u1] at h;simp[assoc] at h,λ _=>u2⟩
      have hq:(∀ o' y,assoc (res i).1.w o'=some y->o'∉ks)/\(nb=true->(res i).1.k=0):=by
       rcases hp with ((hp | hp) | hp) | hp
       .obtain⟨c1,c2⟩:=hdn (i,k) (by simpa using hp) rfl;rw[hX (i,k) (by simpa using hp) hi] at c1 c2;exact⟨λ o' y h=>c1 _ (bA _ _ _ h),c2⟩
       .simp only[Bool.not_eq_true'] at hp;exact quiet hp.1
       .exact quiet yDe
       .simp only[qF,Bool.and_eq_true,Bool.not_eq_true'] at hp;rw[Yz] at hp;simp at hp
      exact pJ (V:=⟨o.looksAt ops,ks,nb,none⟩) (by rw[show dE ops i=oi.dst by simp[dE,a1]];exact (Oper.apart_spec Wa).1) hq.1 hq.2 (λ _ h=>by cases h) z
   rw[ho] at hn hc;refine HB (P:=P) (pre:=pre) (r:=r) (k:=k) (dst:=dE ops) (E:=λ j=>(res j).1) (V:=λ j=>BL ops (res j) j) (Vk:=⟨o.looksAt ops,ks,nb,none⟩) (OUT:=λ Ek=>∃ e s',OUT e s'/\Ek=e.1) (x0:=x0) (R:=λ listed x a w=>Rr C N ops cl listed x a w/\yK W x.h) (Q':=Q') hn
    (λ j hj=>by rw[<- ho];exact UY j hj) (λ i hi=>P1 i (by rw[ho];exact hi)) (λ p i q h=>ZV p i q (ho.trans h)) hI Wi view ?_ ?_ ?_ m listed a w SB SA hkun hc hR
   .intro p i q h listed x a w K SB U9 hR UF hK;rcases hF p i q h with h1 | ⟨o,_,_,_,hW,h1⟩
    .have:=hR.1.2 i h1;rw[U9] at this;cases this
    .exact h1 cl Q' listed x a w K SB (P1 i (by rw[ho,h];simp)) U9 hR.1 hR.2 UF λ a' w' h=>hK a' w' ⟨h,Ah hR.2 hW⟩
   .intro listed x a w K' SB U9 hR UF hK';rw[<- ZT] at UF;exact hO ht C cl Q' listed x a w K' rfl SB SO hR.1 UF λ e s' a' w' h hr=>hK' e.1 a' w' ⟨e,s',h,rfl⟩ ⟨hr,Ah hR.2 (hK e s' h).2.1.2⟩
   .rintro Ek ⟨e,sn,hG,rfl⟩ m listed a w SB SA SO Xj hc hR;obtain⟨hsn,WJ,hRX'⟩:=hK e sn hG;refine ih (pre++[k]) (k::cl) (Ej res k e) (note dyn Vv k e) sn Tc ?_ (facts e (k::cl) (λ i h=>mem_cons_of_mem _ h) (.inl mem_cons_self)) ?_ (ZW e (pairs e (λ h=>by rw[Yz] at h;cases h) (λ h=>by simp[qF,Yz] at h) WJ.1)) (hX' e) hRX' m listed a w SB SA Xj (by rw[ho];exact hc) ?_
    .rw[hsn,ep,VH e _ pre x0 λ i hi=>hi,<- ZT];simp only[ch,kX,if_true,WH]
    .intro i hi;rcases mem_cons.1 hi with rfl | hi
     .exact Wi
     .exact hC' i hi
    .rw[ep,VH e _ pre x0 λ i hi=>hi];simp only[ch,SO,if_true,kX];refine⟨⟨hR.1.1,λ i hi=>?_⟩,hR.2⟩;rcases mem_cons.1 hi with e | hi
     .rw[e];exact SO
     .exact hR.1.2 i hi
def rxS (ops:Array Oper)(ord:List Nat)(dyn:List (Nat×Nat)):Bool:=wU ops true ord dyn
theorem T.rxg (ht:aF P av)(VD:jM P mt)(hCl:g7 P av call)(gQ:yZ P pc)(hm:P.follows .mixedOrders=true){id:Nat}{q0:Bool}{Q:Exit->St->Prop}(W:List u5)(hW:yK W (assoc s.heap))(ord:List Nat)(dyn:List (Nat×Nat))(hS:wU ops q0 ord dyn=true)
  (h:PB P av mt call pc q0 W C.nt ops s.nx dyn (Q .normal) ord (λ _=>default) ⟨s.env,s.heap,s.nx+ops.size⟩):T P C (.region id ops true) s Q:=by
 intro a w ⟨U,hr⟩;simp only[wU,Bool.and_eq_true,decide_eq_true_eq,all_eq_true,contains_eq_mem] at hS;obtain⟨⟨⟨⟨hn,UY⟩,P1⟩,hox⟩,Yp⟩:=hS;have Z8:∀ j,j<ops.size->j∈ord:=λ j hj=>UY j (mem_range.2 hj);have Wz:=hr.low;have hstart:aQ C U ⟨s.env,s.heap,s.nx+ops.size⟩ a { w with drawn:=w.drawn+1 }:=by
  obtain⟨σ2,h2⟩:Rel C s a { w with drawn:=w.drawn+1 }:=Rel.drew ⟨U,hr⟩;exact⟨hr.pB,hr.tm,hr.os,hr.tape,hr.output,hr.size,hr.frame,λ t c hc=>(by
   obtain⟨v,k1,k2⟩:=hr.env t c hc;exact⟨v,k1,VR.bD xO c v (λ _ _=>rfl) k2⟩),λ o ob ho=>(by
   obtain⟨B,m1,m2,m3,m4,m5⟩:=hr.obj o ob ho;refine⟨B,m1,m2,m3,m4,λ b hb=>?_⟩;obtain⟨cur,n1,n2,n3,n4,n5,n6⟩:=m5 b hb;exact⟨cur,n1,n2,n3,n4,n5,aZ.bD xO _ _ (λ _ _=>rfl) n6⟩),hr.inj,λ o ho=>hr.nx o (by simp only at ho |-;omega),hr.gH,by simp only;omega,hr.new⟩
 refine wp_mono (Q:=λ e a' w'=>e=.normal/\∃ s',Q .normal s'/\Rel C s' a' w') (wp_region_any hm ?_) (λ e a' w' ⟨he,s',h1,S0⟩=>⟨s',he ▸ h1,S0⟩);refine PZ ht VD hCl gQ hn Z8 P1 hox Yp (N:=s.nx) Wz (x0:=fs ⟨s.env,s.heap,s.nx+ops.size⟩) (K:=Q .normal) (Q':=λ e a' w'=>e=.normal/\∃ s',Q .normal s'/\Rel C s' a' w') (λ s' a w h1 h2=>⟨rfl,s',h1,h2⟩)
  ord [] [] (λ _=>default) (λ _=>default) _ rfl rfl (λ p i q h=>by simp at h) (λ i hi=>by cases hi) (λ p i q h=>by simp at h) (λ _ _ _=>rfl) h ops.size _ _ _ xr ?_ (λ j _=>xS _ _) ?_ ?_
 .intro j oj _ hl;rw[xS] at hl;cases hl
 .have:ord.length=ops.size:=by
   have h1:ord.Perm (range ops.size):=(perm_ext_iff_of_nodup hn nodup_range).2 λ j=>⟨λ hj=>mem_range.2 (P1 j hj),λ hj=>Z8 j (mem_range.1 hj)⟩
   simpa using h1.length_eq
  rw[<- this,countP_eq_length];intro j _;rw[xS];rfl
 .exact⟨⟨⟨_,U,rfl,hstart,Nat.le_refl _,λ j hj _=>hr.nx _ yA⟩,λ c hc=>by cases hc⟩,hW⟩
def F5 (av:List (Nat×TI))(mt:jh)(call:gD)(pc:FuncId->List CV->Option CV)(nt:Nat)(ops:Array Oper)(N:Nat)(dyn:List (Nat×Nat)):List Nat->(Nat->Er)->St->Option St
 | [],_,s=>some s
 | i::r,res,s=>match ops[i]? with
  | none=>none
  | some o=>if bj nt o.dst=true then match x7 av mt ops call pc N (N+ops.size) (N+i) s o with
    | none=>none
    | some x=>if chk dyn res i x=true then F5 av mt call pc nt ops N dyn r (note dyn res i x) (Sr o.dst x.1 s) else none
   else none
theorem Cb {q:Bool}{nt N:Nat}{dyn:List (Nat×Nat)}:∀ {l:List Nat} {res:Nat->Er} {s s':St},F5 av mt call pc nt ops N dyn l res s=some s'->PB P av mt call pc q [] nt ops N dyn (λ x=>x=s') l res s
 | [],_,_,_,h=>by cases h;rfl
 | i::r,res,s,s',h=>by
  simp only[F5] at h;split at h
  .cases h
  .rename_i o ho;split at h
   .rename_i hd;split at h
    .cases h
    .rename_i x hx;split at h
     .rename_i hc;exact⟨o,ho,hd,.inl ⟨x,hx,⟨hc,Hi _⟩,Cb h⟩⟩
     .cases h
   .cases h
def OI (av:List (Nat×TI))(mt:jh)(nt:Nat)(ops:Array Oper)(call:gD)(pc:FuncId->List CV->Option CV)(ord:List Nat)(dyn:List (Nat×Nat))(s:St):Option St:=
 F5 av mt call pc nt ops s.nx dyn ord (λ _=>default) { s with nx:=s.nx+ops.size }
theorem T.trace (ht:aF P av)(VD:jM P mt)(SA:g7 P av call)(gQ:yZ P pc)(hm:P.follows .mixedOrders=true){id:Nat}{ord:List Nat}{dyn:List (Nat×Nat)}{s':St}(hS:wU ops false ord dyn=true)(h:OI av mt C.nt ops call pc ord dyn s=some s') :
  T P C (.region id ops true) s λ e x=>e=.normal/\x=s':=
 T.rxg (Q:=λ e x=>e=.normal/\x=s') ht VD SA gQ hm [] (λ _ h=>by cases h) ord dyn hS (by simpa using Cb h)
end
section
variable {P:Program}{C:Cx}{s:St}{ops:Array Oper}{av:List (Nat×TI)}
def Aa (W:List u5)(s:St)(o:Oper):Bool:=!W.isEmpty && match o.op with
 | .load _ x=>W.any λ c=>match ev s x with
  | some (.ax p j)=>p == c.1 && j == c.2.1
  | _=>false
 | _=>false
def nL (av:List (Nat×TI))(W:List u5)(nt:Nat)(ops:Array Oper)(N:Nat)(dyn:List (Nat×Nat))(K:List Nat->(Nat->Er)->St->Prop):List Nat->(Nat->Er)->St->Prop
 | [],res,s=>K [] res s
 | i::r,res,s=>match ops[i]? with
  | none=>False
  | some o=>if ((cz o).isSome && (ca ops s o == some true)) || Aa W s o then K (i::r) res s else
   if bj nt o.dst=true then match x7 av [] ops Gq Gp N (N+ops.size) (N+i) s o with
    | none=>K (i::r) res s
    | some x=>vQ W dyn res i x/\nL av W nt ops N dyn K r (note dyn res i x) (Sr o.dst x.1 s)
   else False
def Ez (P:Program)(av:List (Nat×TI))(W:List u5)(nt:Nat)(ops:Array Oper)(N:Nat)(dyn:List (Nat×Nat))(K:St->Prop):List Nat->(Nat->Er)->St->Prop
 | [],_,s=>K s
 | i::r,res,s=>RX P av W nt ops N dyn K (i::r) res s
theorem RX.go {W:List u5}{nt N:Nat}{dyn:List (Nat×Nat)}{K:St->Prop}:∀ {l:List Nat} {res:Nat->Er} {s:St},nL av W nt ops N dyn (Ez P av W nt ops N dyn K) l res s->RX P av W nt ops N dyn K l res s
 | [],_,_,h=>h
 | i::r,res,s,h=>by
  simp only[nL] at h;split at h
  .exact h.elim
  .rename_i o ho;split at h
   .exact h
   .split at h
    .rename_i hd;split at h
     .exact h
     .rename_i x hx;exact⟨o,ho,hd,.inl ⟨x,hx,h.1,RX.go h.2⟩⟩
    .exact h.elim
theorem T.rxw (ht:aF P av)(hm:P.follows .mixedOrders=true){id:Nat}{l:List Oper}{Q:Exit->St->Prop}(W:List u5)(hW:yK W (assoc s.heap))(ord:List Nat)(dyn:List (Nat×Nat))(hS:rxS l.toArray ord dyn=true)
  (h:nL av W C.nt l.toArray s.nx dyn (Ez P av W C.nt l.toArray s.nx dyn (Q .normal)) ord (λ _=>default) ⟨s.env,s.heap,s.nx+l.toArray.size⟩):T P C (.region id l.toArray true) s Q:=
 T.rxg ht zD (λ _ _ _ _ _ _ _ h=>by cases h) (λ _ _ _ h=>by cases h) hm W hW ord dyn hS (RX.go h)
theorem T.rx (ht:aF P av)(hm:P.follows .mixedOrders=true){id:Nat}{l:List Oper}{Q:Exit->St->Prop}(ord:List Nat)(dyn:List (Nat×Nat))(hS:rxS l.toArray ord dyn=true)
  (h:nL av [] C.nt l.toArray s.nx dyn (Ez P av [] C.nt l.toArray s.nx dyn (Q .normal)) ord (λ _=>default) ⟨s.env,s.heap,s.nx+l.toArray.size⟩):T P C (.region id l.toArray true) s Q:=
 T.rxw ht hm [] (λ _ h=>by cases h) ord dyn hS h
variable {W:List u5}
variable {nt N:Nat}{dyn:List (Nat×Nat)}{K:St->Prop}{i:Nat}{r:List Nat}{res:Nat->Er}
theorem RX.LR {o:Oper}{cl:Call}{g:FuncId}{cs:List CV}{G:CV->Prop}(hi:ops[i]? = Option.some o)(hd:bj nt o.dst=true)(hg:ca ops s o=Option.some true)(hu:cz o=Option.some cl)(SP:bK s cl=Option.some (g,cs))(ht:trees cs=true)(hP:oH P g cs G)
  (hK:∀ v,G v->nL av W nt ops N dyn (Ez P av W nt ops N dyn K) r (note dyn res i (jy v)) (s.put o.dst v)):RX P av W nt ops N dyn K (i::r) res s:=
 ⟨o,hi,hd,.inr (.inr ⟨[],false,_,rfl,by simp[hu],OE.pure hi hd hu SP hg ht hP,λ _ _ _=>⟨λ _ _=>not_mem_nil,λ h=>by cases h⟩,by
  rintro e s' ⟨v,hv,rfl,rfl⟩;exact⟨pz _ _ _,⟨all_eq_true.2 λ p _=>by simp[zO],λ _ _ _ h=>by cases h⟩,RX.go (hK v hv)⟩⟩)⟩
theorem RX.quiet {o:Oper}(v:CV)(hi:ops[i]? = Option.some o)(hd:bj nt o.dst=true)(hg:ca ops s o=Option.some true)(hx:XV P W o s v)(hK:nL av W nt ops N dyn (Ez P av W nt ops N dyn K) r (note dyn res i (jy v)) (s.put o.dst v)):RX P av W nt ops N dyn K (i::r) res s:=
 ⟨o,hi,hd,.inr (.inl ⟨hg,v,hx,RX.go hK⟩)⟩
theorem XV.load (ht:aF P av){o:Oper}{t:TypeId}{x:Operand}{p j:Nat}{v:CV}{ti:TI}(ho:o.op=.load t x)(hx:ev s x=Option.some (.ax p j))(hc:(p,j,[v])∈W)(hti:assoc av t=Option.some ti)(ha:ti.agg=false):XV P W o s v:=λ C U s1 a w he hw hr=>by
 obtain⟨ob,h1,h2⟩:=hw _ hc;simp only[length_cons,length_nil] at h1 h2;refine AF ht hr o ?_;rw[ho];simp only[fD,(he x (by simp[ho,Op.operands])).trans hx,hti,iA,h1,Option.map_some,nu,ha,Bool.false_eq_true,if_false]
 cases hd:ob.cells.drop j with
 | nil=>rw[hd] at h2;simp at h2
 | cons c r=>rw[hd] at h2;simpa using h2
theorem RX.body {o:Oper}{cl:Call}{g:FuncId}{cs:List CV}{R:CV->St->Prop}(ks eT:List Nat)(d:Nat){H:List (Nat×Ob)}(hi:ops[i]? = Option.some o)(hd:bj nt o.dst=true)(hg:ca ops s o=Option.some true)(hu:cz o=Option.some cl)(SP:bK s cl=Option.some (g,cs))
  (hp:eZ s.heap ks=Option.some H) (hb:Body P av g cs H s.nx R) (hv:Bq dyn res i ks=true)
  (hR:∀ v s1,R v s1->s1.nx=s.nx+d/\(∀ p ob,assoc s1.heap p=Option.some ob->p∈ks\/s.nx<=p)/\(∀ p,p∉eT->assoc s1.heap p=assoc H p)/\∀ p∈eT,p∈ks\/(assoc s1.heap p).isSome=true)
  (hK:∀ v s1,R v s1->vQ W dyn res i (jg v ks eT d s1.heap)/\nL av W nt ops N dyn (Ez P av W nt ops N dyn K) r (note dyn res i (jg v ks eT d s1.heap)) (St.put ⟨s.env,s1.heap++eA s.heap ks,s.nx+d⟩ o.dst v)):RX P av W nt ops N dyn K (i::r) res s:=
 ⟨o,hi,hd,.inr (.inr ⟨ks,true,_,rfl,by simp[hu],OE.body hi hd hu SP hg hp hb hR,λ p hp e=>by
  have:=all_eq_true.1 hv p hp;simp only[e,bne_self_eq_false,Bool.false_or,Bool.and_eq_true,all_eq_true,beq_iff_eq,Bool.not_eq_true'] at this;exact⟨λ q hq=>by have:=this.1 q hq;simpa using this,λ _=>this.2⟩,by
  rintro e s' ⟨v,s1,h,rfl,rfl⟩;obtain⟨_,_,k3,k4⟩:=hR v s1 h;exact⟨OE.fs hp k3 k4,(hK v s1 h).1,RX.go (hK v s1 h).2⟩⟩)⟩
theorem RX.call {o:Oper}{cl:Call}{g:FuncId}{cs:List CV}{v:CV}(hi:ops[i]? = Option.some o)(hd:bj nt o.dst=true)(hg:ca ops s o=Option.some true)(hu:cz o=Option.some cl)(SP:bK s cl=Option.some (g,cs))(ht:trees cs=true)(hP:ae P g cs v)
  (hK:nL av W nt ops N dyn (Ez P av W nt ops N dyn K) r (note dyn res i (jy v)) (s.put o.dst v)):RX P av W nt ops N dyn K (i::r) res s:=
 RX.LR hi hd hg hu SP ht (hP.toP (G:=λ x=>x=v) rfl) λ x hx=>by rw[hx];exact hK
theorem RX.LS {o:Oper}{cl:Call}{g:FuncId}{cs:List CV}{R:CV->St->Prop}(ks eT:List Nat){H:List (Nat×Ob)}(n:Nat)(hi:ops[i]? = Option.some o)(hd:bj nt o.dst=true)(hg:ca ops s o=Option.some true)(hu:cz o=Option.some cl)(SP:bK s cl=Option.some (g,cs))
  (hp:eZ s.heap ks=Option.some H) (hn:n<=s.nx) (ha:ba n cs=true) (hH:dn n H=true) (hb:Body P av g cs H n R) (hv:Bq dyn res i ks=true) (hc:(eT.all λ p=>ks.contains p)=true)
  (hR:∀ v s1,R v s1->s1.nx=n/\nS ks s1.heap=true/\∀ p,p∉eT->assoc s1.heap p=assoc H p)
  (hK:∀ v s1,R v s1->vQ W dyn res i (rH v ks eT s1.heap)/\nL av W nt ops N dyn (Ez P av W nt ops N dyn K) r (note dyn res i (rH v ks eT s1.heap)) (St.put ⟨s.env,s1.heap++eA s.heap ks,s.nx⟩ o.dst v)):RX P av W nt ops N dyn K (i::r) res s:=by
 refine RX.body ks eT 0 hi hd hg hu SP hp (hb.lift hn ha hH λ v s h=>(hR v s h).1) hv ?_ ?_
 .rintro v s2 ⟨s1,h1,rfl⟩;obtain⟨k1,k2,k3⟩:=hR v s1 h1;exact⟨rfl,λ p ob h=>.inl (uG k2 p ob h),k3,λ p hp=>by have:=all_eq_true.1 hc p hp;exact .inl (by simpa using this)⟩
 .rintro v s2 ⟨s1,h1,rfl⟩;exact hK v s1 h1
@[congr] theorem PY {Kx:List Nat->(Nat->Er)->St->Prop}{s s':St}{res Yd:Nat->Er}{l:List Nat}(h:s=s')(h2:res=Yd):nL av W nt ops N dyn Kx l res s=nL av W nt ops N dyn Kx l Yd s':=by rw[h,h2]
@[congr] theorem RX_congr {s s':St}{res Yd:Nat->Er}{l:List Nat}(h:s=s')(h2:res=Yd):RX P av W nt ops N dyn K l res s=RX P av W nt ops N dyn K l Yd s':=by rw[h,h2]
end
end Go.Can
