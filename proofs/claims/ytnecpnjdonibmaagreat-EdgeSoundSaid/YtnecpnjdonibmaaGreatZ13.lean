/- **A region that draws, walked in one order, calls by their c -/
import Derived.Test.YtnecpnjdonibmaaGreatZ12
namespace Go.Can
section
variable {P:Program}{C:Cx}{s:St}{ops:Array Oper}{au:List (Nat×TI)}{mt:gL}{call:fe}{pc:FuncId→List CV→Option CV}
theorem LV (ht:aB P au)(UW:iz P mt)(hCl:fO P au call)(jN:vp P pc){q0:Bool}{W:List q9}{ord:List Nat}{dyn:List (Nat×Nat)}(hn:ord.Nodup)(SX:∀ j,j<ops.size→j∈ord)(PQ:∀ i∈ord,i<ops.size)(hox:GW ops [] ord=true)(hpx:zq ops dyn q0 [] [] ord=true)
  {N:Nat} (hN0:C.n0≤N) {x0:FS} {K:St→Prop} {Q':Exit→Act→World→Prop} (hQ:∀ s' a w,K s'→Rel C s' a w→Q' .normal a w) :
  ∀ (rest pre cl:List Nat) (res SA:Nat→Er) (sc:St),ord=pre++rest→fs sc=bR (cX ops) (fun j=>(res j).1) (fun _=>true) pre x0 →
   (∀ p i q,pre=p++i::q→i∈cl∨Kn P C ops N W (res i) i (bR (cX ops) (fun j=>(res j).1) (fun _=>true) p x0)) →
   (∀ i∈cl,∀ j∈rest,AV ops j i) →
   (∀ p i q,pre=p++i::q→∀ j∈q,AV ops j i∨Fm (cX ops i) (cX ops j) (res i).1 (res j).1 (yO ops (res i) i) (yO ops (res j) j)) →
   (∀ p∈dyn,p.1∈pre→SA p.1=res p.1) →
   Lq P au mt call pc q0 W C.nt ops N dyn K rest SA sc →
   ∀ (m:Nat) (listed:Array Bool) (a:Act) (w:World),listed.size=ops.size→qD ops listed→(∀ j∈rest,listed.getD j false=false)→(ord.countP fun j=>!listed.getD j false)=m →
    Rr C N ops cl listed (bR (cX ops) (fun j=>(res j).1) (fun j=>listed.getD j false) pre x0) a w∧uZ W (bR (cX ops) (fun j=>(res j).1) (fun j=>listed.getD j false) pre x0).h→wpAny P .any ops Q' m listed a w:=by
 have V5:∀ pre i post,ord=pre++i::post→∀ oi,ops[i]? = some oi→∀ e∈oi.after,Region.binds .any e=true→e.on∈pre:=fun pre i post ho oi Uo e he hb=>(vU ord [] hox pre i post ho oi Uo e he hb).resolve_left List.not_mem_nil;have Ww:∀ pre j post,ord=pre++j::post→∀ i∈pre,AV ops j i∨((q0=true→(ops[i]?).bind cc=none)∧vT ops dyn i j=true):=fun pre j post h i hi=>tO ord [] [] (fun _ _ h=>by cases h) hpx pre j post h i (.inr hi);intro rest
 induction rest with
 | nil=>
  intro pre cl res SA sc ho W5 hF hC hI hX hRX m listed a w PZ PX TZ hc hR;rw[List.append_nil] at ho;subst ho;refine DR (P:=P) (ops:=ops) (ord:=ord) (dst:=cX ops) (E:=fun j=>(res j).1) (V:=fun j=>yO ops (res j) j) (x0:=x0) (R:=fun listed x a w=>Rr C N ops cl listed x a w∧uZ W x.h) (Q':=Q') hn SX PQ V5 hI ?_ ?_ m listed a w PZ PX hc hR
  ·intro p i q ho listed x a w K PZ Sd hR Rq hK;rcases hF p i q ho with h | ⟨o,_,_,_,hW,h⟩
   ·have:=hR.1.2 i h;rw[Sd] at this;cases this
   ·exact h cl Q' listed x a w K PZ (PQ i (by rw[ho];simp)) Sd hR.1 hR.2 Rq fun a' w' h=>hK a' w' ⟨h,xp hR.2 hW⟩
  ·rintro listed a w ⟨⟨⟨s1,σ1,e1,QG,_,_⟩,_⟩,_⟩;exact hQ sc a w hRX ⟨σ1,QG.Nb (by rw[e1,W5])⟩
 | cons k r ih=>
  intro pre cl res SA sc ho W5 hF hC hI hX hRX m listed a w PZ PX TZ hc hR;obtain⟨o,P9,hdk,hRX⟩:=hRX;have SD:=hn;rw[ho,List.nodup_append,List.nodup_cons] at SD;have ZW:k∉pre:=fun h=>SD.2.2 k h k zX rfl;have Qh:k<ops.size:=PQ k (by rw[ho];simp);have hdst:cX ops k=o.dst:=by simp[cX,P9]
  have Qu:ord=(pre++[k])++r:=by rw[ho];simp
  have hun':∀ j∈r,listed.getD j false=false:=fun j hj=>TZ j (List.mem_cons_of_mem _ hj);have ZV:listed.getD k false=false:=TZ k List.mem_cons_self;have Q3:∀ (x:Er),∀ i∈pre,A9 res k x i=res i:=fun x i hi=>AZ _ _ fun e=>by subst e;exact ZW hi
  have SG:∀ (x:Er) (L:Nat→Bool) (p:List Nat) (y:FS),(∀ i∈p,i∈pre)→bR (cX ops) (fun j=>(A9 res k x j).1) L p y=bR (cX ops) (fun j=>(res j).1) L p y:=fun x L p y hp=>
   wC p y fun i hi=>by rw[Q3 x i (hp i hi)]
  have splits:∀ (p:List Nat) (i:Nat) (q:List Nat),pre++[k]=p++i::q→(p=pre∧i=k∧q=[])∨∃ q',q=q'++[k]∧pre=p++i::q':=by
   intro p i q h;rcases List.eq_nil_or_concat q with hq | ⟨q',z,hq⟩
   ·subst hq;have:=List.append_inj' h rfl;refine .inl ⟨this.1.symm,?_,rfl⟩
    simpa using this.2.symm
   ·rw[List.concat_eq_append] at hq;subst hq;have h':pre++[k]=(p++i::q')++[z]:=by rw[h];simp
    have:=List.append_inj' h' rfl;refine .inr ⟨q',?_,this.1⟩;rw[show z=k by simpa using this.2.symm]
  have Y3:∀ (p:List Nat) (i:Nat) (q:List Nat),pre=p++i::q→(∀ t∈p,t∈pre)∧i∈pre∧∀ t∈q,t∈pre:=fun p i q h=>by
   rw[h];exact⟨fun t ht=>by simp[ht],by simp,fun t ht=>by simp[ht]⟩
  have hX':∀ x:Er,∀ p∈dyn,p.1∈pre++[k]→note dyn SA k x p.1=A9 res k x p.1:=fun x p hp hm=>by
   unfold note;rcases List.mem_append.1 hm with h1 | h1
   ·have P3:p.1≠k:=fun e=>ZW (e ▸ h1);rw[AZ _ _ P3];split
    ·rw[AZ _ _ P3];exact hX p hp h1
    ·exact hX p hp h1
   ·have e:p.1=k:=by simpa using h1
    have hany:(dyn.any fun p=>p.1 == k)=true:=List.any_eq_true.2 ⟨p,hp,by simp[e]⟩;rw[if_pos hany,e,jv,jv]
  have facts:∀ (x:Er) (cl':List Nat),(∀ i∈cl,i∈cl')→(k∈cl'∨Kn P C ops N W x k (fs sc))→∀ p i q,pre++[k]=p++i::q→i∈cl'∨Kn P C ops N W (A9 res k x i) i (bR (cX ops) (fun j=>(A9 res k x j).1) (fun _=>true) p x0):=by
   intro x cl' SZ hk p i q h;rcases splits p i q h with ⟨rfl,rfl,_⟩ | ⟨q',rfl,h2⟩
   ·rcases hk with hk | hk
    ·exact .inl hk
    ·refine .inr ?_;rw[SG x _ p x0 fun i hi=>hi,← W5,jv];exact hk
   ·obtain⟨m1,m2,m3⟩:=Y3 p i q' h2;rcases hF p i q' h2 with h3 | h3
    ·exact .inl (SZ i h3)
    ·refine .inr ?_;rw[Q3 x i m2,SG x _ p x0 m1];exact h3
  have W6:∀ (x:Er),(∀ i∈pre,AV ops k i∨Fm (cX ops i) (cX ops k) (res i).1 x.1 (yO ops (res i) i) ⟨o.looksAt ops,x.2.1,x.2.2.1,x.2.2.2⟩) →
    ∀ p i q,pre++[k]=p++i::q→∀ j∈q,AV ops j i∨Fm (cX ops i) (cX ops j) (A9 res k x i).1 (A9 res k x j).1 (yO ops (A9 res k x i) i) (yO ops (A9 res k x j) j):=by
   intro x hx p i q h j hj;rcases splits p i q h with ⟨_,_,rfl⟩ | ⟨q',rfl,h2⟩
   ·cases hj
   ·obtain⟨m1,m2,m3⟩:=Y3 p i q' h2;rw[Q3 x i m2];rcases List.mem_append.1 hj with hj | hj
    ·rw[Q3 x j (m3 j hj)];exact hI p i q' h2 j hj
    ·have:j=k:=by simpa using hj
     subst this;rw[jv,show yO ops x j=⟨o.looksAt ops,x.2.1,x.2.2.1,x.2.2.2⟩ by simp only[yO,P9]];exact hx i m2
  have QO:∀ i∈pre,∃ f,i∈cl∨Kn P C ops N W (res i) i f:=fun i hi=>by
   obtain⟨p1,p2,hp⟩:=List.append_of_mem hi;exact⟨_,hF p1 i p2 hp⟩
  have pairs:∀ (x:Er),(iJ o=false→Quiet x)→(nU o=true→x.2.1=[])→chk dyn SA k x=true →
    ∀ i∈pre,AV ops k i∨Fm (cX ops i) (cX ops k) (res i).1 x.1 (yO ops (res i) i) ⟨o.looksAt ops,x.2.1,x.2.2.1,x.2.2.2⟩:=by
   intro x h1 h2 h3 i hi;obtain⟨f,h4 | h4⟩:=QO i hi
   ·exact .inl (hC i h4 k List.mem_cons_self)
   ·refine (Ww pre k r ho i hi).imp id fun h5=>JD h5.2 h4 P9 h1 h2 fun hd=>?_;have:=List.all_eq_true.1 h3 (i,k) hd;simp only[bne_self_eq_false,Bool.false_or] at this;rwa [hX (i,k) hd hi] at this
  have hC':∀ i∈cl,∀ j∈r,AV ops j i:=fun i h j hj=>hC i h j (List.mem_cons_of_mem _ hj);have next:∀ (x:Er) (sn:St),Kn P C ops N W x k (fs sc)→chk dyn SA k x=true→fs sn=ap o.dst x.1 (fs sc)→Lq P au mt call pc q0 W C.nt ops N dyn K r (note dyn SA k x) sn→wpAny P .any ops Q' m listed a w:=by
   intro x sn hk SJ Zp hrx;have hk':=hk;obtain⟨o',e1,e2,e3,_⟩:=hk';rw[P9] at e1;cases e1;refine ih (pre++[k]) cl (A9 res k x) (note dyn SA k x) sn Qu ?_ (facts x cl (fun _ h=>h) (.inr hk)) hC' (W6 x (pairs x e2 e3 SJ)) (hX' x) hrx m listed a w PZ PX hun' hc ?_
   ·rw[Zp,du,SG x _ pre x0 fun i hi=>hi,← W5];simp only[bR,jv,if_true,hdst]
   ·rw[du,SG x _ pre x0 fun i hi=>hi];simp only[bR,ZV,Bool.false_eq_true,if_false];exact hR
  rcases hRX with ⟨x,q1,q2,q3⟩ | ⟨hg,v,hx,q3⟩ | ⟨ks,nb,OUT,hq0,hu,hO,hdn,hK⟩
  ·exact next x _ (Kn.eff ht UW hCl jN hN0 P9 hdk q1 q2.2) q2.1 (HK _ _ _) q3
  ·exact next (hU v) _ (Kn.quiet P9 hdk hg hx) (List.all_eq_true.2 fun p _=>by simp[wA]) (mB _ _ _) q3
  ·obtain⟨c,hu⟩:=Option.isSome_iff_exists.1 hu;have VA:=Fa hu;have Tj:∀ j∈r,AV ops j k:=fun j hj=>by
    obtain⟨r1,r2,hr⟩:=List.append_of_mem hj;rcases Ww (pre++k::r1) j r2 (by rw[ho,hr];simp) k zX with h5 | ⟨h5,_⟩
    ·exact h5
    ·simp[P9,hu] at h5;rw[hq0] at h5;cases h5
   have view:∀ i∈pre,AV ops k i∨∀ z,Agree ⟨o.looksAt ops,ks,nb,none⟩ (ap (cX ops i) (res i).1 z) z:=by
    intro i hi;obtain⟨f,h4 | ⟨oi,a1,a2,_⟩⟩:=QO i hi
    ·exact .inl (hC i h4 k List.mem_cons_self)
    ·rcases Ww pre k r ho i hi with hp | ⟨_,hp⟩
     ·exact .inl hp
     ·unfold vT at hp;rw[a1,P9] at hp;simp only[Bool.or_eq_true,Bool.and_eq_true] at hp;obtain⟨RA,hp⟩:=hp;refine .inr fun z=>?_;have quiet:iJ oi=false→(∀ o' y,assoc (res i).1.w o'=some y→o'∉ks)∧(nb=true→(res i).1.k=0):=fun hl=>by
       obtain⟨u1,u2,_,_⟩:=a2 hl;exact⟨fun o' y h=>by rw[u1] at h;simp[assoc] at h,fun _=>u2⟩
      have hq:(∀ o' y,assoc (res i).1.w o'=some y→o'∉ks)∧(nb=true→(res i).1.k=0):=by
       rcases hp with ((hp | hp) | hp) | hp
       ·obtain⟨c1,c2⟩:=hdn (i,k) (by simpa using hp) rfl;rw[hX (i,k) (by simpa using hp) hi] at c1 c2;exact⟨fun o' y h=>c1 _ (bp _ _ _ h),c2⟩
       ·simp only[Bool.not_eq_true'] at hp;exact quiet hp.1
       ·exact quiet yCc
       ·simp only[nU,Bool.and_eq_true,Bool.not_eq_true'] at hp;rw[VA] at hp;simp at hp
      exact mK (V:=⟨o.looksAt ops,ks,nb,none⟩) (by rw[show cX ops i=oi.dst by simp[cX,a1]];exact (Oper.apart_spec RA).1) hq.1 hq.2 (fun _ h=>by cases h) z
   rw[ho] at hn hc;refine DX (P:=P) (pre:=pre) (r:=r) (k:=k) (dst:=cX ops) (E:=fun j=>(res j).1) (V:=fun j=>yO ops (res j) j) (Vk:=⟨o.looksAt ops,ks,nb,none⟩) (OUT:=fun Ek=>∃ e s',OUT e s'∧Ek=e.1) (x0:=x0) (R:=fun listed x a w=>Rr C N ops cl listed x a w∧uZ W x.h) (Q':=Q') hn
    (fun j hj=>by rw[← ho];exact SX j hj) (fun i hi=>PQ i (by rw[ho];exact hi)) (fun p i q h=>V5 p i q (ho.trans h)) hI Tj view ?_ ?_ ?_ m listed a w PZ PX ZV hc hR
   ·intro p i q h listed x a w K PZ Sd hR Rq hK;rcases hF p i q h with h1 | ⟨o,_,_,_,hW,h1⟩
    ·have:=hR.1.2 i h1;rw[Sd] at this;cases this
    ·exact h1 cl Q' listed x a w K PZ (PQ i (by rw[ho,h];simp)) Sd hR.1 hR.2 Rq fun a' w' h=>hK a' w' ⟨h,xp hR.2 hW⟩
   ·intro listed x a w K' PZ Sd hR Rq hK';rw[← W5] at Rq;exact hO ht C cl Q' listed x a w K' rfl PZ Qh hR.1 Rq fun e s' a' w' h hr=>hK' e.1 a' w' ⟨e,s',h,rfl⟩ ⟨hr,xp hR.2 (hK e s' h).2.1.2⟩
   ·rintro Ek ⟨e,sn,hG,rfl⟩ m listed a w PZ PX Qh TZ hc hR;obtain⟨Zp,SJ,hRX'⟩:=hK e sn hG;refine ih (pre++[k]) (k::cl) (A9 res k e) (note dyn SA k e) sn Qu ?_ (facts e (k::cl) (fun i h=>List.mem_cons_of_mem _ h) (.inl List.mem_cons_self)) ?_ (W6 e (pairs e (fun h=>by rw[VA] at h;cases h) (fun h=>by simp[nU,VA] at h) SJ.1)) (hX' e) hRX' m listed a w PZ PX TZ (by rw[ho];exact hc) ?_
    ·rw[Zp,du,SG e _ pre x0 fun i hi=>hi,← W5];simp only[bR,jv,if_true,hdst]
    ·intro i hi;rcases List.mem_cons.1 hi with rfl | hi
     ·exact Tj
     ·exact hC' i hi
    ·rw[du,SG e _ pre x0 fun i hi=>hi];simp only[bR,Qh,if_true,jv];refine⟨⟨hR.1.1,fun i hi=>?_⟩,hR.2⟩;rcases List.mem_cons.1 hi with e | hi
     ·rw[e];exact Qh
     ·exact hR.1.2 i hi
def rxS (ops:Array Oper)(ord:List Nat)(dyn:List (Nat×Nat)):Bool:=sR ops true ord dyn
theorem T.rxg (ht:aB P au)(UW:iz P mt)(hCl:fO P au call)(jN:vp P pc)(hm:P.follows .mixedOrders=true){id:Nat}{q0:Bool}{Q:Exit→St→Prop}(W:List q9)(hW:uZ W (assoc s.heap))(ord:List Nat)(dyn:List (Nat×Nat))(hS:sR ops q0 ord dyn=true)
  (h:Lq P au mt call pc q0 W C.nt ops s.nx dyn (Q .normal) ord (fun _=>default) ⟨s.env,s.heap,s.nx+ops.size⟩):T P C (.region id ops true) s Q:=by
 intro a w ⟨σ,hr⟩;simp only[sR,Bool.and_eq_true,decide_eq_true_eq,List.all_eq_true,List.contains_eq_mem] at hS;obtain⟨⟨⟨⟨hn,SX⟩,PQ⟩,hox⟩,hpx⟩:=hS;have Xg:∀ j,j<ops.size→j∈ord:=fun j hj=>SX j (List.mem_range.2 hj);have Tx:=hr.low;have XE:aL C σ ⟨s.env,s.heap,s.nx+ops.size⟩ a { w with drawn:=w.drawn+1 }:=by
  obtain⟨σ2,h2⟩:Rel C s a { w with drawn:=w.drawn+1 }:=Rel.drew ⟨σ,hr⟩;exact⟨hr.mD,hr.tm,hr.os,hr.tape,hr.output,hr.size,hr.frame,fun t c hc=>(by
   obtain⟨v,k1,k2⟩:=hr.env t c hc;exact⟨v,k1,VR.bg ui c v (fun _ _=>rfl) k2⟩),fun o ob ho=>(by
   obtain⟨B,m1,m2,m3,m4,m5⟩:=hr.obj o ob ho;refine⟨B,m1,m2,m3,m4,fun b hb=>?_⟩;obtain⟨cur,n1,n2,n3,n4,n5,n6⟩:=m5 b hb;exact⟨cur,n1,n2,n3,n4,n5,aN.bg ui _ _ (fun _ _=>rfl) n6⟩),hr.inj,fun o ho=>hr.nx o (by simp only at ho ⊢;omega),hr.gy,by simp only;omega,hr.new⟩
 refine wp_mono (Q:=fun e a' w'=>e=.normal∧∃ s',Q .normal s'∧Rel C s' a' w') (wp_region_any hm ?_) (fun e a' w' ⟨he,s',h1,Qo⟩=>⟨s',he ▸ h1,Qo⟩);refine LV ht UW hCl jN hn Xg PQ hox hpx (N:=s.nx) Tx (x0:=fs ⟨s.env,s.heap,s.nx+ops.size⟩) (K:=Q .normal) (Q':=fun e a' w'=>e=.normal∧∃ s',Q .normal s'∧Rel C s' a' w') (fun s' a w h1 h2=>⟨rfl,s',h1,h2⟩)
  ord [] [] (fun _=>default) (fun _=>default) _ rfl rfl (fun p i q h=>by simp at h) (fun i hi=>by cases hi) (fun p i q h=>by simp at h) (fun _ _ _=>rfl) h ops.size _ _ _ zX ?_ (fun j _=>ur _ _) ?_ ?_
 ·intro j oj _ hl;rw[ur] at hl;cases hl
 ·have:ord.length=ops.size:=by
   have h1:ord.Perm (List.range ops.size):=(List.perm_ext_iff_of_nodup hn List.nodup_range).2 fun j=>⟨fun hj=>List.mem_range.2 (PQ j hj),fun hj=>Xg j (List.mem_range.1 hj)⟩
   simpa using h1.length_eq
  rw[← this,List.countP_eq_length];intro j _;rw[ur];rfl
 ·exact⟨⟨⟨_,σ,rfl,XE,Nat.le_refl _,fun j hj _=>hr.nx _ yA⟩,fun c hc=>by cases hc⟩,hW⟩
def CD (au:List (Nat×TI))(mt:gL)(call:fe)(pc:FuncId→List CV→Option CV)(nt:Nat)(ops:Array Oper)(N:Nat)(dyn:List (Nat×Nat)):List Nat→(Nat→Er)→St→Option St
 | [],_,s=>some s
 | i::r,res,s=>match ops[i]? with
  | none=>none
  | some o=>if aZ nt o.dst=true then match uz au mt ops call pc N (N+ops.size) (N+i) s o with
    | none=>none
    | some x=>if chk dyn res i x=true then CD au mt call pc nt ops N dyn r (note dyn res i x) (Ox o.dst x.1 s) else none
   else none
theorem zd {q:Bool}{nt N:Nat}{dyn:List (Nat×Nat)}:∀ {l:List Nat} {res:Nat→Er} {s s':St},CD au mt call pc nt ops N dyn l res s=some s'→Lq P au mt call pc q [] nt ops N dyn (fun x=>x=s') l res s
 | [],_,_,_,h=>by cases h;rfl
 | i::r,res,s,s',h=>by
  simp only[CD] at h;split at h
  ·cases h
  ·rename_i o ho;split at h
   ·rename_i hd;split at h
    ·cases h
    ·rename_i x hx;split at h
     ·rename_i hc;exact⟨o,ho,hd,.inl ⟨x,hx,⟨hc,DJ _⟩,zd h⟩⟩
     ·cases h
   ·cases h
def KI (au:List (Nat×TI))(mt:gL)(nt:Nat)(ops:Array Oper)(call:fe)(pc:FuncId→List CV→Option CV)(ord:List Nat)(dyn:List (Nat×Nat))(s:St):Option St:=
 CD au mt call pc nt ops s.nx dyn ord (fun _=>default) { s with nx:=s.nx+ops.size }
theorem T.trace (ht:aB P au)(UW:iz P mt)(PX:fO P au call)(jN:vp P pc)(hm:P.follows .mixedOrders=true){id:Nat}{ord:List Nat}{dyn:List (Nat×Nat)}{s':St}(hS:sR ops false ord dyn=true)(h:KI au mt C.nt ops call pc ord dyn s=some s') :
  T P C (.region id ops true) s fun e x=>e=.normal∧x=s':=
 T.rxg (Q:=fun e x=>e=.normal∧x=s') ht UW PX jN hm [] (fun _ h=>by cases h) ord dyn hS (by simpa using zd h)
end
section
variable {P:Program}{C:Cx}{s:St}{ops:Array Oper}{au:List (Nat×TI)}
def wR (W:List q9)(s:St)(o:Oper):Bool:=!W.isEmpty && match o.op with
 | .load _ x=>W.any fun c=>match ev s x with
  | some (.av p j)=>p == c.1 && j == c.2.1
  | _=>false
 | _=>false
def lV (au:List (Nat×TI))(W:List q9)(nt:Nat)(ops:Array Oper)(N:Nat)(dyn:List (Nat×Nat))(K:List Nat→(Nat→Er)→St→Prop):List Nat→(Nat→Er)→St→Prop
 | [],res,s=>K [] res s
 | i::r,res,s=>match ops[i]? with
  | none=>False
  | some o=>if ((cc o).isSome && (bN ops s o == some true)) || wR W s o then K (i::r) res s else
   if aZ nt o.dst=true then match uz au [] ops CX CW N (N+ops.size) (N+i) s o with
    | none=>K (i::r) res s
    | some x=>uF W dyn res i x∧lV au W nt ops N dyn K r (note dyn res i x) (Ox o.dst x.1 s)
   else False
def CE (P:Program)(au:List (Nat×TI))(W:List q9)(nt:Nat)(ops:Array Oper)(N:Nat)(dyn:List (Nat×Nat))(K:St→Prop):List Nat→(Nat→Er)→St→Prop
 | [],_,s=>K s
 | i::r,res,s=>RX P au W nt ops N dyn K (i::r) res s
theorem RX.go {W:List q9}{nt N:Nat}{dyn:List (Nat×Nat)}{K:St→Prop}:∀ {l:List Nat} {res:Nat→Er} {s:St},lV au W nt ops N dyn (CE P au W nt ops N dyn K) l res s→RX P au W nt ops N dyn K l res s
 | [],_,_,h=>h
 | i::r,res,s,h=>by
  simp only[lV] at h;split at h
  ·exact h.elim
  ·rename_i o ho;split at h
   ·exact h
   ·split at h
    ·rename_i hd;split at h
     ·exact h
     ·rename_i x hx;exact⟨o,ho,hd,.inl ⟨x,hx,h.1,RX.go h.2⟩⟩
    ·exact h.elim
theorem T.rxw (ht:aB P au)(hm:P.follows .mixedOrders=true){id:Nat}{l:List Oper}{Q:Exit→St→Prop}(W:List q9)(hW:uZ W (assoc s.heap))(ord:List Nat)(dyn:List (Nat×Nat))(hS:rxS l.toArray ord dyn=true)
  (h:lV au W C.nt l.toArray s.nx dyn (CE P au W C.nt l.toArray s.nx dyn (Q .normal)) ord (fun _=>default) ⟨s.env,s.heap,s.nx+l.toArray.size⟩):T P C (.region id l.toArray true) s Q:=
 T.rxg ht vY (fun _ _ _ _ _ _ _ h=>by cases h) (fun _ _ _ h=>by cases h) hm W hW ord dyn hS (RX.go h)
theorem T.rx (ht:aB P au)(hm:P.follows .mixedOrders=true){id:Nat}{l:List Oper}{Q:Exit→St→Prop}(ord:List Nat)(dyn:List (Nat×Nat))(hS:rxS l.toArray ord dyn=true)
  (h:lV au [] C.nt l.toArray s.nx dyn (CE P au [] C.nt l.toArray s.nx dyn (Q .normal)) ord (fun _=>default) ⟨s.env,s.heap,s.nx+l.toArray.size⟩):T P C (.region id l.toArray true) s Q:=
 T.rxw ht hm [] (fun _ h=>by cases h) ord dyn hS h
variable {W:List q9}
variable {nt N:Nat}{dyn:List (Nat×Nat)}{K:St→Prop}{i:Nat}{r:List Nat}{res:Nat→Er}
theorem RX.It {o:Oper}{cl:Call}{g:FuncId}{cs:List CV}{G:CV→Prop}(hi:ops[i]? = Option.some o)(hd:aZ nt o.dst=true)(hg:bN ops s o=Option.some true)(hu:cc o=Option.some cl)(Qb:bl s cl=Option.some (g,cs))(ht:trees cs=true)(hP:lU P g cs G)
  (hK:∀ v,G v→lV au W nt ops N dyn (CE P au W nt ops N dyn K) r (note dyn res i (hU v)) (s.put o.dst v)):RX P au W nt ops N dyn K (i::r) res s:=
 ⟨o,hi,hd,.inr (.inr ⟨[],false,_,rfl,by simp[hu],KF.pure hi hd hu Qb hg ht hP,fun _ _ _=>⟨fun _ _=>List.not_mem_nil,fun h=>by cases h⟩,by
  rintro e s' ⟨v,hv,rfl,rfl⟩;exact⟨mB _ _ _,⟨List.all_eq_true.2 fun p _=>by simp[wA],fun _ _ _ h=>by cases h⟩,RX.go (hK v hv)⟩⟩)⟩
theorem RX.quiet {o:Oper}(v:CV)(hi:ops[i]? = Option.some o)(hd:aZ nt o.dst=true)(hg:bN ops s o=Option.some true)(hx:XV P W o s v)(hK:lV au W nt ops N dyn (CE P au W nt ops N dyn K) r (note dyn res i (hU v)) (s.put o.dst v)):RX P au W nt ops N dyn K (i::r) res s:=
 ⟨o,hi,hd,.inr (.inl ⟨hg,v,hx,RX.go hK⟩)⟩
theorem XV.load (ht:aB P au){o:Oper}{t:TypeId}{x:Operand}{p j:Nat}{v:CV}{ti:TI}(ho:o.op=.load t x)(hx:ev s x=Option.some (.av p j))(hc:(p,j,[v])∈W)(hti:assoc au t=Option.some ti)(ha:ti.agg=false):XV P W o s v:=fun C σ s1 a w he hw hr=>by
 obtain⟨ob,h1,h2⟩:=hw _ hc;simp only[List.length_cons,List.length_nil] at h1 h2;refine xL ht hr o ?_;rw[ho];simp only[eV,(he x (by simp[ho,Op.operands])).trans hx,hti,gh,h1,Option.map_some,lj,ha,Bool.false_eq_true,if_false]
 cases hd:ob.cells.drop j with
 | nil=>rw[hd] at h2;simp at h2
 | cons c r=>rw[hd] at h2;simpa using h2
theorem RX.body {o:Oper}{cl:Call}{g:FuncId}{cs:List CV}{R:CV→St→Prop}(ks eP:List Nat)(d:Nat){H:List (Nat×Ob)}(hi:ops[i]? = Option.some o)(hd:aZ nt o.dst=true)(hg:bN ops s o=Option.some true)(hu:cc o=Option.some cl)(Qb:bl s cl=Option.some (g,cs))
  (hp:dX s.heap ks=Option.some H) (hb:Body P au g cs H s.nx R) (hv:Au dyn res i ks=true)
  (hR:∀ v s1,R v s1→s1.nx=s.nx+d∧(∀ p ob,assoc s1.heap p=Option.some ob→p∈ks∨s.nx≤p)∧(∀ p,p∉eP→assoc s1.heap p=assoc H p)∧∀ p∈eP,p∈ks∨(assoc s1.heap p).isSome=true)
  (hK:∀ v s1,R v s1→uF W dyn res i (iZ v ks eP d s1.heap)∧lV au W nt ops N dyn (CE P au W nt ops N dyn K) r (note dyn res i (iZ v ks eP d s1.heap)) (St.put ⟨s.env,s1.heap++dy s.heap ks,s.nx+d⟩ o.dst v)):RX P au W nt ops N dyn K (i::r) res s:=
 ⟨o,hi,hd,.inr (.inr ⟨ks,true,_,rfl,by simp[hu],KF.body hi hd hu Qb hg hp hb hR,fun p hp e=>by
  have:=List.all_eq_true.1 hv p hp;simp only[e,bne_self_eq_false,Bool.false_or,Bool.and_eq_true,List.all_eq_true,beq_iff_eq,Bool.not_eq_true'] at this;exact⟨fun q hq=>by have:=this.1 q hq;simpa using this,fun _=>this.2⟩,by
  rintro e s' ⟨v,s1,h,rfl,rfl⟩;obtain⟨_,_,k3,k4⟩:=hR v s1 h;exact⟨KF.fs hp k3 k4,(hK v s1 h).1,RX.go (hK v s1 h).2⟩⟩)⟩
theorem RX.call {o:Oper}{cl:Call}{g:FuncId}{cs:List CV}{v:CV}(hi:ops[i]? = Option.some o)(hd:aZ nt o.dst=true)(hg:bN ops s o=Option.some true)(hu:cc o=Option.some cl)(Qb:bl s cl=Option.some (g,cs))(ht:trees cs=true)(hP:ae P g cs v)
  (hK:lV au W nt ops N dyn (CE P au W nt ops N dyn K) r (note dyn res i (hU v)) (s.put o.dst v)):RX P au W nt ops N dyn K (i::r) res s:=
 RX.It hi hd hg hu Qb ht (hP.toP (G:=fun x=>x=v) rfl) fun x hx=>by rw[hx];exact hK
theorem RX.Iv {o:Oper}{cl:Call}{g:FuncId}{cs:List CV}{R:CV→St→Prop}(ks eP:List Nat){H:List (Nat×Ob)}(n:Nat)(hi:ops[i]? = Option.some o)(hd:aZ nt o.dst=true)(hg:bN ops s o=Option.some true)(hu:cc o=Option.some cl)(Qb:bl s cl=Option.some (g,cs))
  (hp:dX s.heap ks=Option.some H) (hn:n≤s.nx) (ha:aS n cs=true) (hH:cT n H=true) (hb:Body P au g cs H n R) (hv:Au dyn res i ks=true) (hc:(eP.all fun p=>ks.contains p)=true)
  (hR:∀ v s1,R v s1→s1.nx=n∧lx ks s1.heap=true∧∀ p,p∉eP→assoc s1.heap p=assoc H p)
  (hK:∀ v s1,R v s1→uF W dyn res i (oE v ks eP s1.heap)∧lV au W nt ops N dyn (CE P au W nt ops N dyn K) r (note dyn res i (oE v ks eP s1.heap)) (St.put ⟨s.env,s1.heap++dy s.heap ks,s.nx⟩ o.dst v)):RX P au W nt ops N dyn K (i::r) res s:=by
 refine RX.body ks eP 0 hi hd hg hu Qb hp (hb.lift hn ha hH fun v s h=>(hR v s h).1) hv ?_ ?_
 ·rintro v s2 ⟨s1,h1,rfl⟩;obtain⟨k1,k2,k3⟩:=hR v s1 h1;exact⟨rfl,fun p ob h=>.inl (qk k2 p ob h),k3,fun p hp=>by have:=List.all_eq_true.1 hc p hp;exact .inl (by simpa using this)⟩
 ·rintro v s2 ⟨s1,h1,rfl⟩;exact hK v s1 h1
@[congr] theorem LU {Kx:List Nat→(Nat→Er)→St→Prop}{s s':St}{res Vf:Nat→Er}{l:List Nat}(h:s=s')(h2:res=Vf):lV au W nt ops N dyn Kx l res s=lV au W nt ops N dyn Kx l Vf s':=by rw[h,h2]
@[congr] theorem RX_congr {s s':St}{res Vf:Nat→Er}{l:List Nat}(h:s=s')(h2:res=Vf):RX P au W nt ops N dyn K l res s=RX P au W nt ops N dyn K l Vf s':=by rw[h,h2]
end
end Go.Can
