/- **A region that draws, walked in one order, calls by their c -/
import Derived.Test.YtlkmbdfhdknlgaaGreatDoorZ11
namespace Go.Can
section
variable {P:Program}{C:Cx}{s:St}{ops:Array Oper}{av:List (Nat×TI)}{mt:hZ}{call:fL}{pc:FuncId→List CV→Option CV}
theorem Ly (ht:aF P av)(TG:iN P mt)(hCl:gx P av call)(ji:wA P pc){q0:Bool}{W:List rh}{ord:List Nat}{dyn:List (Nat×Nat)}(hn:ord.Nodup)(RC:∀ j,j<ops.size→j∈ord)(Oa:∀ i∈ord,i<ops.size)(hox:GU ops [] ord=true)(hpx:z9 ops dyn q0 [] [] ord=true)
  {N:Nat} (ZS:C.n0≤N) {x0:FS} {K:St→Prop} {Q':Exit→Act→World→Prop} (hQ:∀ s' a w,K s'→Rel C s' a w→Q' .normal a w) :
  ∀ (rest pre cl:List Nat) (res Q5:Nat→Er) (sc:St),ord=pre++rest→fs sc=bU (dd ops) (fun j=>(res j).1) (fun _=>true) pre x0 →
   (∀ p i q,pre=p++i::q→i∈cl∨Kn P C ops N W (res i) i (bU (dd ops) (fun j=>(res j).1) (fun _=>true) p x0)) →
   (∀ i∈cl,∀ j∈rest,BG ops j i) →
   (∀ p i q,pre=p++i::q→∀ j∈q,BG ops j i∨FJ (dd ops i) (dd ops j) (res i).1 (res j).1 (zl ops (res i) i) (zl ops (res j) j)) →
   (∀ p∈dyn,p.1∈pre→Q5 p.1=res p.1) →
   K8 P av mt call pc q0 W C.nt ops N dyn K rest Q5 sc →
   ∀ (m:Nat) (listed:Array Bool) (a:Act) (w:World),listed.size=ops.size→ss ops listed→(∀ j∈rest,listed.getD j false=false)→(ord.countP fun j=>!listed.getD j false)=m →
    Rr C N ops cl listed (bU (dd ops) (fun j=>(res j).1) (fun j=>listed.getD j false) pre x0) a w∧vN W (bU (dd ops) (fun j=>(res j).1) (fun j=>listed.getD j false) pre x0).h→wpAny P .any ops Q' m listed a w:=by
 have VQ:∀ pre i post,ord=pre++i::post→∀ oi,ops[i]? = some oi→∀ e∈oi.after,Region.binds .any e=true→e.on∈pre:=fun pre i post ho oi SY e he hb=>(xe ord [] hox pre i post ho oi SY e he hb).resolve_left List.not_mem_nil;have Vl:∀ pre j post,ord=pre++j::post→∀ i∈pre,BG ops j i∨((q0=true→(ops[i]?).bind cg=none)∧xd ops dyn i j=true):=fun pre j post h i hi=>uQ ord [] [] (fun _ _ h=>by cases h) hpx pre j post h i (.inr hi);intro rest
 induction rest with
 | nil=>
  intro pre cl res Q5 sc ho VO hF hC hI hX ZO m listed a w Oh Og TC hc hR;rw[List.append_nil] at ho;subst ho;refine Es (P:=P) (ops:=ops) (ord:=ord) (dst:=dd ops) (E:=fun j=>(res j).1) (V:=fun j=>zl ops (res j) j) (x0:=x0) (R:=fun listed x a w=>Rr C N ops cl listed x a w∧vN W x.h) (Q':=Q') hn RC Oa VQ hI ?_ ?_ m listed a w Oh Og hc hR
  ·intro p i q ho listed x a w K Oh QH hR P1 hK;rcases hF p i q ho with h | ⟨o,_,_,_,hW,h⟩
   ·have:=hR.1.2 i h;rw[QH] at this;cases this
   ·exact h cl Q' listed x a w K Oh (Oa i (by rw[ho];simp)) QH hR.1 hR.2 P1 fun a' w' h=>hK a' w' ⟨h,xS hR.2 hW⟩
  ·rintro listed a w ⟨⟨⟨s1,σ1,e1,OX,_,_⟩,_⟩,_⟩;exact hQ sc a w ZO ⟨σ1,OX.MD (by rw[e1,VO])⟩
 | cons k r ih=>
  intro pre cl res Q5 sc ho VO hF hC hI hX ZO m listed a w Oh Og TC hc hR;obtain⟨o,Om,UY,ZO⟩:=ZO;have QE:=hn;rw[ho,List.nodup_append,List.nodup_cons] at QE;have Ze:k∉pre:=fun h=>QE.2.2 k h k N3 rfl;have Ot:k<ops.size:=Oa k (by rw[ho];simp);have Zw:dd ops k=o.dst:=by simp[dd,Om]
  have OI:ord=(pre++[k])++r:=by rw[ho];simp
  have hun':∀ j∈r,listed.getD j false=false:=fun j hj=>TC j (List.mem_cons_of_mem _ hj);have Zd:listed.getD k false=false:=TC k List.mem_cons_self;have PA:∀ (x:Er),∀ i∈pre,BQ res k x i=res i:=fun x i hi=>BP _ _ fun e=>by subst e;exact Ze hi
  have Ro:∀ (x:Er) (L:Nat→Bool) (p:List Nat) (y:FS),(∀ i∈p,i∈pre)→bU (dd ops) (fun j=>(BQ res k x j).1) L p y=bU (dd ops) (fun j=>(res j).1) L p y:=fun x L p y hp=>
   xx p y fun i hi=>by rw[PA x i (hp i hi)]
  have splits:∀ (p:List Nat) (i:Nat) (q:List Nat),pre++[k]=p++i::q→(p=pre∧i=k∧q=[])∨∃ q',q=q'++[k]∧pre=p++i::q':=by
   intro p i q h;rcases List.eq_nil_or_concat q with hq | ⟨q',z,hq⟩
   ·subst hq;have:=List.append_inj' h rfl;refine .inl ⟨this.1.symm,?_,rfl⟩
    simpa using this.2.symm
   ·rw[List.concat_eq_append] at hq;subst hq;have h':pre++[k]=(p++i::q')++[z]:=by rw[h];simp
    have:=List.append_inj' h' rfl;refine .inr ⟨q',?_,this.1⟩;rw[show z=k by simpa using this.2.symm]
  have Yg:∀ (p:List Nat) (i:Nat) (q:List Nat),pre=p++i::q→(∀ t∈p,t∈pre)∧i∈pre∧∀ t∈q,t∈pre:=fun p i q h=>by
   rw[h];exact⟨fun t ht=>by simp[ht],by simp,fun t ht=>by simp[ht]⟩
  have hX':∀ x:Er,∀ p∈dyn,p.1∈pre++[k]→note dyn Q5 k x p.1=BQ res k x p.1:=fun x p hp hm=>by
   unfold note;rcases List.mem_append.1 hm with h1 | h1
   ·have Ok:p.1≠k:=fun e=>Ze (e ▸ h1);rw[BP _ _ Ok];split
    ·rw[BP _ _ Ok];exact hX p hp h1
    ·exact hX p hp h1
   ·have e:p.1=k:=by simpa using h1
    have hany:(dyn.any fun p=>p.1 == k)=true:=List.any_eq_true.2 ⟨p,hp,by simp[e]⟩;rw[if_pos hany,e,jK,jK]
  have facts:∀ (x:Er) (cl':List Nat),(∀ i∈cl,i∈cl')→(k∈cl'∨Kn P C ops N W x k (fs sc))→∀ p i q,pre++[k]=p++i::q→i∈cl'∨Kn P C ops N W (BQ res k x i) i (bU (dd ops) (fun j=>(BQ res k x j).1) (fun _=>true) p x0):=by
   intro x cl' RE hk p i q h;rcases splits p i q h with ⟨rfl,rfl,_⟩ | ⟨q',rfl,h2⟩
   ·rcases hk with hk | hk
    ·exact .inl hk
    ·refine .inr ?_;rw[Ro x _ p x0 fun i hi=>hi,← VO,jK];exact hk
   ·obtain⟨m1,m2,m3⟩:=Yg p i q' h2;rcases hF p i q' h2 with h3 | h3
    ·exact .inl (RE i h3)
    ·refine .inr ?_;rw[PA x i m2,Ro x _ p x0 m1];exact h3
  have VT:∀ (x:Er),(∀ i∈pre,BG ops k i∨FJ (dd ops i) (dd ops k) (res i).1 x.1 (zl ops (res i) i) ⟨o.looksAt ops,x.2.1,x.2.2.1,x.2.2.2⟩) →
    ∀ p i q,pre++[k]=p++i::q→∀ j∈q,BG ops j i∨FJ (dd ops i) (dd ops j) (BQ res k x i).1 (BQ res k x j).1 (zl ops (BQ res k x i) i) (zl ops (BQ res k x j) j):=by
   intro x hx p i q h j hj;rcases splits p i q h with ⟨_,_,rfl⟩ | ⟨q',rfl,h2⟩
   ·cases hj
   ·obtain⟨m1,m2,m3⟩:=Yg p i q' h2;rw[PA x i m2];rcases List.mem_append.1 hj with hj | hj
    ·rw[PA x j (m3 j hj)];exact hI p i q' h2 j hj
    ·have:j=k:=by simpa using hj
     subst this;rw[jK,show zl ops x j=⟨o.looksAt ops,x.2.1,x.2.2.1,x.2.2.2⟩ by simp only[zl,Om]];exact hx i m2
  have Qg:∀ i∈pre,∃ f,i∈cl∨Kn P C ops N W (res i) i f:=fun i hi=>by
   obtain⟨p1,p2,hp⟩:=List.append_of_mem hi;exact⟨_,hF p1 i p2 hp⟩
  have pairs:∀ (x:Er),(iW o=false→IK x)→(oX o=true→x.2.1=[])→chk dyn Q5 k x=true →
    ∀ i∈pre,BG ops k i∨FJ (dd ops i) (dd ops k) (res i).1 x.1 (zl ops (res i) i) ⟨o.looksAt ops,x.2.1,x.2.2.1,x.2.2.2⟩:=by
   intro x h1 h2 h3 i hi;obtain⟨f,h4 | h4⟩:=Qg i hi
   ·exact .inl (hC i h4 k List.mem_cons_self)
   ·refine (Vl pre k r ho i hi).imp id fun h5=>Js h5.2 h4 Om h1 h2 fun hd=>?_;have:=List.all_eq_true.1 h3 (i,k) hd;simp only[bne_self_eq_false,Bool.false_or] at this;rwa [hX (i,k) hd hi] at this
  have hC':∀ i∈cl,∀ j∈r,BG ops j i:=fun i h j hj=>hC i h j (List.mem_cons_of_mem _ hj);have next:∀ (x:Er) (sn:St),Kn P C ops N W x k (fs sc)→chk dyn Q5 k x=true→fs sn=ap o.dst x.1 (fs sc)→K8 P av mt call pc q0 W C.nt ops N dyn K r (note dyn Q5 k x) sn→wpAny P .any ops Q' m listed a w:=by
   intro x sn hk Rp YE hrx;have WN:=hk;obtain⟨o',e1,e2,e3,_⟩:=WN;rw[Om] at e1;cases e1;refine ih (pre++[k]) cl (BQ res k x) (note dyn Q5 k x) sn OI ?_ (facts x cl (fun _ h=>h) (.inr hk)) hC' (VT x (pairs x e2 e3 Rp)) (hX' x) hrx m listed a w Oh Og hun' hc ?_
   ·rw[YE,dN,Ro x _ pre x0 fun i hi=>hi,← VO];simp only[bU,jK,if_true,Zw]
   ·rw[dN,Ro x _ pre x0 fun i hi=>hi];simp only[bU,Zd,Bool.false_eq_true,if_false];exact hR
  rcases ZO with ⟨x,q1,q2,q3⟩ | ⟨hg,v,hx,q3⟩ | ⟨ks,nb,OUT,hq0,hu,hO,hdn,hK⟩
  ·exact next x _ (Kn.eff ht TG hCl ji ZS Om UY q1 q2.2) q2.1 (HK _ _ _) q3
  ·exact next (iz v) _ (Kn.quiet Om UY hg hx) (List.all_eq_true.2 fun p _=>by simp[xv]) (nC _ _ _) q3
  ·obtain⟨c,hu⟩:=Option.isSome_iff_exists.1 hu;have Uq:=Fy hu;have RT:∀ j∈r,BG ops j k:=fun j hj=>by
    obtain⟨r1,r2,hr⟩:=List.append_of_mem hj;rcases Vl (pre++k::r1) j r2 (by rw[ho,hr];simp) k N3 with h5 | ⟨h5,_⟩
    ·exact h5
    ·simp[Om,hu] at h5;rw[hq0] at h5;cases h5
   have view:∀ i∈pre,BG ops k i∨∀ z,dV ⟨o.looksAt ops,ks,nb,none⟩ (ap (dd ops i) (res i).1 z) z:=by
    intro i hi;obtain⟨f,h4 | ⟨oi,a1,a2,_⟩⟩:=Qg i hi
    ·exact .inl (hC i h4 k List.mem_cons_self)
    ·rcases Vl pre k r ho i hi with hp | ⟨_,hp⟩
     ·exact .inl hp
     ·unfold xd at hp;rw[a1,Om] at hp;simp only[Bool.or_eq_true,Bool.and_eq_true] at hp;obtain⟨RN,hp⟩:=hp;refine .inr fun z=>?_;have quiet:iW oi=false→(∀ o' y,assoc (res i).1.w o'=some y→o'∉ks)∧(nb=true→(res i).1.k=0):=fun hl=>by
       obtain⟨u1,u2,_,_⟩:=a2 hl;exact⟨fun o' y h=>by rw[u1] at h;simp[assoc] at h,fun _=>u2⟩
      have hq:(∀ o' y,assoc (res i).1.w o'=some y→o'∉ks)∧(nb=true→(res i).1.k=0):=by
       rcases hp with ((hp | hp) | hp) | hp
       ·obtain⟨c1,c2⟩:=hdn (i,k) (by simpa using hp) rfl;rw[hX (i,k) (by simpa using hp) hi] at c1 c2;exact⟨fun o' y h=>c1 _ (bG _ _ _ h),c2⟩
       ·simp only[Bool.not_eq_true'] at hp;exact quiet hp.1
       ·exact quiet yCo
       ·simp only[oX,Bool.and_eq_true,Bool.not_eq_true'] at hp;rw[Uq] at hp;simp at hp
      exact nK (V:=⟨o.looksAt ops,ks,nb,none⟩) (by rw[show dd ops i=oi.dst by simp[dd,a1]];exact (Oper.apart_spec RN).1) hq.1 hq.2 (fun _ h=>by cases h) z
   rw[ho] at hn hc;refine Ez (P:=P) (pre:=pre) (r:=r) (k:=k) (dst:=dd ops) (E:=fun j=>(res j).1) (V:=fun j=>zl ops (res j) j) (Vk:=⟨o.looksAt ops,ks,nb,none⟩) (OUT:=fun Ek=>∃ e s',OUT e s'∧Ek=e.1) (x0:=x0) (R:=fun listed x a w=>Rr C N ops cl listed x a w∧vN W x.h) (Q':=Q') hn
    (fun j hj=>by rw[← ho];exact RC j hj) (fun i hi=>Oa i (by rw[ho];exact hi)) (fun p i q h=>VQ p i q (ho.trans h)) hI RT view ?_ ?_ ?_ m listed a w Oh Og Zd hc hR
   ·intro p i q h listed x a w K Oh QH hR P1 hK;rcases hF p i q h with h1 | ⟨o,_,_,_,hW,h1⟩
    ·have:=hR.1.2 i h1;rw[QH] at this;cases this
    ·exact h1 cl Q' listed x a w K Oh (Oa i (by rw[ho,h];simp)) QH hR.1 hR.2 P1 fun a' w' h=>hK a' w' ⟨h,xS hR.2 hW⟩
   ·intro listed x a w K' Oh QH hR P1 hK';rw[← VO] at P1;exact hO ht C cl Q' listed x a w K' rfl Oh Ot hR.1 P1 fun e s' a' w' h hr=>hK' e.1 a' w' ⟨e,s',h,rfl⟩ ⟨hr,xS hR.2 (hK e s' h).2.1.2⟩
   ·rintro Ek ⟨e,sn,hG,rfl⟩ m listed a w Oh Og Ot TC hc hR;obtain⟨YE,Rp,hRX'⟩:=hK e sn hG;refine ih (pre++[k]) (k::cl) (BQ res k e) (note dyn Q5 k e) sn OI ?_ (facts e (k::cl) (fun i h=>List.mem_cons_of_mem _ h) (.inl List.mem_cons_self)) ?_ (VT e (pairs e (fun h=>by rw[Uq] at h;cases h) (fun h=>by simp[oX,Uq] at h) Rp.1)) (hX' e) hRX' m listed a w Oh Og TC (by rw[ho];exact hc) ?_
    ·rw[YE,dN,Ro e _ pre x0 fun i hi=>hi,← VO];simp only[bU,jK,if_true,Zw]
    ·intro i hi;rcases List.mem_cons.1 hi with rfl | hi
     ·exact RT
     ·exact hC' i hi
    ·rw[dN,Ro e _ pre x0 fun i hi=>hi];simp only[bU,Ot,if_true,jK];refine⟨⟨hR.1.1,fun i hi=>?_⟩,hR.2⟩;rcases List.mem_cons.1 hi with e | hi
     ·rw[e];exact Ot
     ·exact hR.1.2 i hi
def rxS (ops:Array Oper)(ord:List Nat)(dyn:List (Nat×Nat)):Bool:=ur ops true ord dyn
theorem T.rxg (ht:aF P av)(TG:iN P mt)(hCl:gx P av call)(ji:wA P pc)(hm:P.follows .mixedOrders=true){id:Nat}{q0:Bool}{Q:Exit→St→Prop}(W:List rh)(hW:vN W (assoc s.heap))(ord:List Nat)(dyn:List (Nat×Nat))(hS:ur ops q0 ord dyn=true)
  (h:K8 P av mt call pc q0 W C.nt ops s.nx dyn (Q .normal) ord (fun _=>default) ⟨s.env,s.heap,s.nx+ops.size⟩):T P C (.region id ops true) s Q:=by
 intro a w ⟨σ,hr⟩;simp only[ur,Bool.and_eq_true,decide_eq_true_eq,List.all_eq_true,List.contains_eq_mem] at hS;obtain⟨⟨⟨⟨hn,RC⟩,Oa⟩,hox⟩,hpx⟩:=hS;have V3:∀ j,j<ops.size→j∈ord:=fun j hj=>RC j (List.mem_range.2 hj);have R7:=hr.low;have Wp:aK C σ ⟨s.env,s.heap,s.nx+ops.size⟩ a { w with drawn:=w.drawn+1 }:=by
  obtain⟨σ2,h2⟩:Rel C s a { w with drawn:=w.drawn+1 }:=Rel.drew ⟨σ,hr⟩;exact⟨hr.oA,hr.tm,hr.os,hr.tape,hr.output,hr.size,hr.frame,fun t c hc=>(by
   obtain⟨v,k1,k2⟩:=hr.env t c hc;exact⟨v,k1,VR.bl u7 c v (fun _ _=>rfl) k2⟩),fun o ob ho=>(by
   obtain⟨B,m1,m2,m3,m4,m5⟩:=hr.obj o ob ho;refine⟨B,m1,m2,m3,m4,fun b hb=>?_⟩;obtain⟨cur,n1,n2,n3,n4,n5,n6⟩:=m5 b hb;exact⟨cur,n1,n2,n3,n4,n5,aT.bl u7 _ _ (fun _ _=>rfl) n6⟩),hr.inj,fun o ho=>hr.nx o (by simp only at ho ⊢;omega),hr.gO,by simp only;omega,hr.new⟩
 refine wp_mono (Q:=fun e a' w'=>e=.normal∧∃ s',Q .normal s'∧Rel C s' a' w') (wp_region_any hm ?_) (fun e a' w' ⟨he,s',h1,OS⟩=>⟨s',he ▸ h1,OS⟩);refine Ly ht TG hCl ji hn V3 Oa hox hpx (N:=s.nx) R7 (x0:=fs ⟨s.env,s.heap,s.nx+ops.size⟩) (K:=Q .normal) (Q':=fun e a' w'=>e=.normal∧∃ s',Q .normal s'∧Rel C s' a' w') (fun s' a w h1 h2=>⟨rfl,s',h1,h2⟩)
  ord [] [] (fun _=>default) (fun _=>default) _ rfl rfl (fun p i q h=>by simp at h) (fun i hi=>by cases hi) (fun p i q h=>by simp at h) (fun _ _ _=>rfl) h ops.size _ _ _ N3 ?_ (fun j _=>vd _ _) ?_ ?_
 ·intro j oj _ hl;rw[vd] at hl;cases hl
 ·have:ord.length=ops.size:=by
   have h1:ord.Perm (List.range ops.size):=(List.perm_ext_iff_of_nodup hn List.nodup_range).2 fun j=>⟨fun hj=>List.mem_range.2 (Oa j hj),fun hj=>V3 j (List.mem_range.1 hj)⟩
   simpa using h1.length_eq
  rw[← this,List.countP_eq_length];intro j _;rw[vd];rfl
 ·exact⟨⟨⟨_,σ,rfl,Wp,Nat.le_refl _,fun j hj _=>hr.nx _ yA⟩,fun c hc=>by cases hc⟩,hW⟩
def C6 (av:List (Nat×TI))(mt:hZ)(call:fL)(pc:FuncId→List CV→Option CV)(nt:Nat)(ops:Array Oper)(N:Nat)(dyn:List (Nat×Nat)):List Nat→(Nat→Er)→St→Option St
 | [],_,s=>some s
 | i::r,res,s=>match ops[i]? with
  | none=>none
  | some o=>if bt nt o.dst=true then match vo av mt ops call pc N (N+ops.size) (N+i) s o with
    | none=>none
    | some x=>if chk dyn res i x=true then C6 av mt call pc nt ops N dyn r (note dyn res i x) (N0 o.dst x.1 s) else none
   else none
theorem zK {q:Bool}{nt N:Nat}{dyn:List (Nat×Nat)}:∀ {l:List Nat} {res:Nat→Er} {s s':St},C6 av mt call pc nt ops N dyn l res s=some s'→K8 P av mt call pc q [] nt ops N dyn (fun x=>x=s') l res s
 | [],_,_,_,h=>by cases h;rfl
 | i::r,res,s,s',h=>by
  simp only[C6] at h;split at h
  ·cases h
  ·rename_i o ho;split at h
   ·rename_i hd;split at h
    ·cases h
    ·rename_i x hx;split at h
     ·rename_i hc;exact⟨o,ho,hd,.inl ⟨x,hx,⟨hc,Ed _⟩,zK h⟩⟩
     ·cases h
   ·cases h
def Kt (av:List (Nat×TI))(mt:hZ)(nt:Nat)(ops:Array Oper)(call:fL)(pc:FuncId→List CV→Option CV)(ord:List Nat)(dyn:List (Nat×Nat))(s:St):Option St:=
 C6 av mt call pc nt ops s.nx dyn ord (fun _=>default) { s with nx:=s.nx+ops.size }
theorem T.trace (ht:aF P av)(TG:iN P mt)(Og:gx P av call)(ji:wA P pc)(hm:P.follows .mixedOrders=true){id:Nat}{ord:List Nat}{dyn:List (Nat×Nat)}{s':St}(hS:ur ops false ord dyn=true)(h:Kt av mt C.nt ops call pc ord dyn s=some s') :
  T P C (.region id ops true) s fun e x=>e=.normal∧x=s':=
 T.rxg (Q:=fun e x=>e=.normal∧x=s') ht TG Og ji hm [] (fun _ h=>by cases h) ord dyn hS (by simpa using zK h)
end
section
variable {P:Program}{C:Cx}{s:St}{ops:Array Oper}{av:List (Nat×TI)}
def xN (W:List rh)(s:St)(o:Oper):Bool:=!W.isEmpty && match o.op with
 | .load _ x=>W.any fun c=>match ev s x with
  | some (.aq p j)=>p == c.1 && j == c.2.1
  | _=>false
 | _=>false
def mK (av:List (Nat×TI))(W:List rh)(nt:Nat)(ops:Array Oper)(N:Nat)(dyn:List (Nat×Nat))(K:List Nat→(Nat→Er)→St→Prop):List Nat→(Nat→Er)→St→Prop
 | [],res,s=>K [] res s
 | i::r,res,s=>match ops[i]? with
  | none=>False
  | some o=>if ((cg o).isSome && (b9 ops s o == some true)) || xN W s o then K (i::r) res s else
   if bt nt o.dst=true then match vo av [] ops Dn Dm N (N+ops.size) (N+i) s o with
    | none=>K (i::r) res s
    | some x=>vu W dyn res i x∧mK av W nt ops N dyn K r (note dyn res i x) (N0 o.dst x.1 s)
   else False
def C7 (P:Program)(av:List (Nat×TI))(W:List rh)(nt:Nat)(ops:Array Oper)(N:Nat)(dyn:List (Nat×Nat))(K:St→Prop):List Nat→(Nat→Er)→St→Prop
 | [],_,s=>K s
 | i::r,res,s=>RX P av W nt ops N dyn K (i::r) res s
theorem RX.go {W:List rh}{nt N:Nat}{dyn:List (Nat×Nat)}{K:St→Prop}:∀ {l:List Nat} {res:Nat→Er} {s:St},mK av W nt ops N dyn (C7 P av W nt ops N dyn K) l res s→RX P av W nt ops N dyn K l res s
 | [],_,_,h=>h
 | i::r,res,s,h=>by
  simp only[mK] at h;split at h
  ·exact h.elim
  ·rename_i o ho;split at h
   ·exact h
   ·split at h
    ·rename_i hd;split at h
     ·exact h
     ·rename_i x hx;exact⟨o,ho,hd,.inl ⟨x,hx,h.1,RX.go h.2⟩⟩
    ·exact h.elim
theorem T.rxw (ht:aF P av)(hm:P.follows .mixedOrders=true){id:Nat}{l:List Oper}{Q:Exit→St→Prop}(W:List rh)(hW:vN W (assoc s.heap))(ord:List Nat)(dyn:List (Nat×Nat))(hS:rxS l.toArray ord dyn=true)
  (h:mK av W C.nt l.toArray s.nx dyn (C7 P av W C.nt l.toArray s.nx dyn (Q .normal)) ord (fun _=>default) ⟨s.env,s.heap,s.nx+l.toArray.size⟩):T P C (.region id l.toArray true) s Q:=
 T.rxg ht xj (fun _ _ _ _ _ _ _ h=>by cases h) (fun _ _ _ h=>by cases h) hm W hW ord dyn hS (RX.go h)
theorem T.rx (ht:aF P av)(hm:P.follows .mixedOrders=true){id:Nat}{l:List Oper}{Q:Exit→St→Prop}(ord:List Nat)(dyn:List (Nat×Nat))(hS:rxS l.toArray ord dyn=true)
  (h:mK av [] C.nt l.toArray s.nx dyn (C7 P av [] C.nt l.toArray s.nx dyn (Q .normal)) ord (fun _=>default) ⟨s.env,s.heap,s.nx+l.toArray.size⟩):T P C (.region id l.toArray true) s Q:=
 T.rxw ht hm [] (fun _ h=>by cases h) ord dyn hS h
variable {W:List rh}
variable {nt N:Nat}{dyn:List (Nat×Nat)}{K:St→Prop}{i:Nat}{r:List Nat}{res:Nat→Er}
theorem RX.Bl {o:Oper}{cl:Call}{g:FuncId}{cs:List CV}{G:CV→Prop}(hi:ops[i]? = Option.some o)(hd:bt nt o.dst=true)(hg:b9 ops s o=Option.some true)(hu:cg o=Option.some cl)(OG:bB s cl=Option.some (g,cs))(ht:trees cs=true)(hP:jk P g cs G)
  (hK:∀ v,G v→mK av W nt ops N dyn (C7 P av W nt ops N dyn K) r (note dyn res i (iz v)) (s.put o.dst v)):RX P av W nt ops N dyn K (i::r) res s:=
 ⟨o,hi,hd,.inr (.inr ⟨[],false,_,rfl,by simp[hu],Kr.pure hi hd hu OG hg ht hP,fun _ _ _=>⟨fun _ _=>List.not_mem_nil,fun h=>by cases h⟩,by
  rintro e s' ⟨v,hv,rfl,rfl⟩;exact⟨nC _ _ _,⟨List.all_eq_true.2 fun p _=>by simp[xv],fun _ _ _ h=>by cases h⟩,RX.go (hK v hv)⟩⟩)⟩
theorem RX.quiet {o:Oper}(v:CV)(hi:ops[i]? = Option.some o)(hd:bt nt o.dst=true)(hg:b9 ops s o=Option.some true)(hx:XV P W o s v)(hK:mK av W nt ops N dyn (C7 P av W nt ops N dyn K) r (note dyn res i (iz v)) (s.put o.dst v)):RX P av W nt ops N dyn K (i::r) res s:=
 ⟨o,hi,hd,.inr (.inl ⟨hg,v,hx,RX.go hK⟩)⟩
theorem XV.load (ht:aF P av){o:Oper}{t:TypeId}{x:Operand}{p j:Nat}{v:CV}{ti:TI}(ho:o.op=.load t x)(hx:ev s x=Option.some (.aq p j))(hc:(p,j,[v])∈W)(hti:assoc av t=Option.some ti)(ha:ti.agg=false):XV P W o s v:=fun C σ s1 a w he hw hr=>by
 obtain⟨ob,h1,h2⟩:=hw _ hc;simp only[List.length_cons,List.length_nil] at h1 h2;refine ym ht hr o ?_;rw[ho];simp only[fz,(he x (by simp[ho,Op.operands])).trans hx,hti,gF,h1,Option.map_some,lW,ha,Bool.false_eq_true,if_false]
 cases hd:ob.cells.drop j with
 | nil=>rw[hd] at h2;simp at h2
 | cons c r=>rw[hd] at h2;simpa using h2
theorem RX.body {o:Oper}{cl:Call}{g:FuncId}{cs:List CV}{R:CV→St→Prop}(ks dw:List Nat)(d:Nat){H:List (Nat×Ob)}(hi:ops[i]? = Option.some o)(hd:bt nt o.dst=true)(hg:b9 ops s o=Option.some true)(hu:cg o=Option.some cl)(OG:bB s cl=Option.some (g,cs))
  (hp:fk s.heap ks=Option.some H) (hb:Body P av g cs H s.nx R) (hv:Bh dyn res i ks=true)
  (hR:∀ v s1,R v s1→s1.nx=s.nx+d∧(∀ p ob,assoc s1.heap p=Option.some ob→p∈ks∨s.nx≤p)∧(∀ p,p∉dw→assoc s1.heap p=assoc H p)∧∀ p∈dw,p∈ks∨(assoc s1.heap p).isSome=true)
  (hK:∀ v s1,R v s1→vu W dyn res i (jh v ks dw d s1.heap)∧mK av W nt ops N dyn (C7 P av W nt ops N dyn K) r (note dyn res i (jh v ks dw d s1.heap)) (St.put ⟨s.env,s1.heap++eB s.heap ks,s.nx+d⟩ o.dst v)):RX P av W nt ops N dyn K (i::r) res s:=
 ⟨o,hi,hd,.inr (.inr ⟨ks,true,_,rfl,by simp[hu],Kr.body hi hd hu OG hg hp hb hR,fun p hp e=>by
  have:=List.all_eq_true.1 hv p hp;simp only[e,bne_self_eq_false,Bool.false_or,Bool.and_eq_true,List.all_eq_true,beq_iff_eq,Bool.not_eq_true'] at this;exact⟨fun q hq=>by have:=this.1 q hq;simpa using this,fun _=>this.2⟩,by
  rintro e s' ⟨v,s1,h,rfl,rfl⟩;obtain⟨_,_,k3,k4⟩:=hR v s1 h;exact⟨Kr.fs hp k3 k4,(hK v s1 h).1,RX.go (hK v s1 h).2⟩⟩)⟩
theorem RX.call {o:Oper}{cl:Call}{g:FuncId}{cs:List CV}{v:CV}(hi:ops[i]? = Option.some o)(hd:bt nt o.dst=true)(hg:b9 ops s o=Option.some true)(hu:cg o=Option.some cl)(OG:bB s cl=Option.some (g,cs))(ht:trees cs=true)(hP:ae P g cs v)
  (hK:mK av W nt ops N dyn (C7 P av W nt ops N dyn K) r (note dyn res i (iz v)) (s.put o.dst v)):RX P av W nt ops N dyn K (i::r) res s:=
 RX.Bl hi hd hg hu OG ht (hP.toP (G:=fun x=>x=v) rfl) fun x hx=>by rw[hx];exact hK
theorem RX.Ir {o:Oper}{cl:Call}{g:FuncId}{cs:List CV}{R:CV→St→Prop}(ks dw:List Nat){H:List (Nat×Ob)}(n:Nat)(hi:ops[i]? = Option.some o)(hd:bt nt o.dst=true)(hg:b9 ops s o=Option.some true)(hu:cg o=Option.some cl)(OG:bB s cl=Option.some (g,cs))
  (hp:fk s.heap ks=Option.some H) (hn:n≤s.nx) (ha:a6 n cs=true) (hH:dD n H=true) (hb:Body P av g cs H n R) (hv:Bh dyn res i ks=true) (hc:(dw.all fun p=>ks.contains p)=true)
  (hR:∀ v s1,R v s1→s1.nx=n∧me ks s1.heap=true∧∀ p,p∉dw→assoc s1.heap p=assoc H p)
  (hK:∀ v s1,R v s1→vu W dyn res i (pP v ks dw s1.heap)∧mK av W nt ops N dyn (C7 P av W nt ops N dyn K) r (note dyn res i (pP v ks dw s1.heap)) (St.put ⟨s.env,s1.heap++eB s.heap ks,s.nx⟩ o.dst v)):RX P av W nt ops N dyn K (i::r) res s:=by
 refine RX.body ks dw 0 hi hd hg hu OG hp (hb.lift hn ha hH fun v s h=>(hR v s h).1) hv ?_ ?_
 ·rintro v s2 ⟨s1,h1,rfl⟩;obtain⟨k1,k2,k3⟩:=hR v s1 h1;exact⟨rfl,fun p ob h=>.inl (rV k2 p ob h),k3,fun p hp=>by have:=List.all_eq_true.1 hc p hp;exact .inl (by simpa using this)⟩
 ·rintro v s2 ⟨s1,h1,rfl⟩;exact hK v s1 h1
@[congr] theorem Lw {Kx:List Nat→(Nat→Er)→St→Prop}{s s':St}{res T5:Nat→Er}{l:List Nat}(h:s=s')(h2:res=T5):mK av W nt ops N dyn Kx l res s=mK av W nt ops N dyn Kx l T5 s':=by rw[h,h2]
@[congr] theorem RX_congr {s s':St}{res T5:Nat→Er}{l:List Nat}(h:s=s')(h2:res=T5):RX P av W nt ops N dyn K l res s=RX P av W nt ops N dyn K l T5 s':=by rw[h,h2]
end
end Go.Can
