/- **A region that draws, walked in one order, calls by their c -/
import Derived.Test.YtlkmbdfhdknlgaaGreatDoorZ12
namespace Go.Can
section
variable {P:Program}{C:Cx}{s:St}{ops:Array Oper}{ak:List (Nat×TI)}{mt:gh}{call:eP}{pc:FuncId→List CV→Option CV}
theorem Hm (ht:ay P ak)(OT:gM P mt)(Xb:fv P ak call)(kp:sP P pc){q0:Bool}{W:List oR}{ord:List Nat}{dyn:List (Nat×Nat)}(hn:ord.Nodup)(M4:∀ j,j<ops.size→j∈ord)(yN:∀ i∈ord,i<ops.size)(VS:CU ops [] ord=true)(VM:wM ops dyn q0 [] [] ord=true)
  {N:Nat} (Uc:C.n0≤N) {x0:FS} {K:St→Prop} {Q':Exit→Act→World→Prop} (hQ:∀ s' a w,K s'→Rel C s' a w→Q' .normal a w) :
  ∀ (rest pre cl:List Nat) (res Mt:Nat→Er) (sc:St),ord=pre++rest→fs sc=bI (cF ops) (fun j=>(res j).1) (fun _=>true) pre x0 →
   (∀ p i q,pre=p++i::q→i∈cl∨Kn P C ops N W (res i) i (bI (cF ops) (fun j=>(res j).1) (fun _=>true) p x0)) →
   (∀ i∈cl,∀ j∈rest,yk ops j i) →
   (∀ p i q,pre=p++i::q→∀ j∈q,yk ops j i∨BQ (cF ops i) (cF ops j) (res i).1 (res j).1 (vG ops (res i) i) (vG ops (res j) j)) →
   (∀ p∈dyn,p.1∈pre→Mt p.1=res p.1) →
   G0 P ak mt call pc q0 W C.nt ops N dyn K rest Mt sc →
   ∀ (m:Nat) (listed:Array Bool) (a:Act) (w:World),listed.size=ops.size→pE ops listed→(∀ j∈rest,listed.getD j false=false)→(ord.countP fun j=>!listed.getD j false)=m →
    Rr C N ops cl listed (bI (cF ops) (fun j=>(res j).1) (fun j=>listed.getD j false) pre x0) a w∧ss W (bI (cF ops) (fun j=>(res j).1) (fun j=>listed.getD j false) pre x0).h→wpAny P .any ops Q' m listed a w:=by
 have R6:∀ pre i post,ord=pre++i::post→∀ oi,ops[i]? = some oi→∀ e∈oi.after,Region.binds .any e=true→e.on∈pre:=fun pre i post ho oi Ol e he hb=>(tz ord [] VS pre i post ho oi Ol e he hb).resolve_left List.not_mem_nil;have Qg:∀ pre j post,ord=pre++j::post→∀ i∈pre,yk ops j i∨((q0=true→(ops[i]?).bind bR=none)∧tw ops dyn i j=true):=fun pre j post h i hi=>rh ord [] [] (fun _ _ h=>by cases h) VM pre j post h i (.inr hi);intro rest
 induction rest with
 | nil=>
  intro pre cl res Mt sc ho QE hF hC hI hX T8 m listed a w CX De OR hc hR;rw[List.append_nil] at ho;subst ho;refine AI (P:=P) (ops:=ops) (ord:=ord) (dst:=cF ops) (E:=fun j=>(res j).1) (V:=fun j=>vG ops (res j) j) (x0:=x0) (R:=fun listed x a w=>Rr C N ops cl listed x a w∧ss W x.h) (Q':=Q') hn M4 yN R6 hI ?_ ?_ m listed a w CX De hc hR
  ·intro p i q ho listed x a w K CX Mb hR LZ hK;rcases hF p i q ho with h | ⟨o,_,_,_,hW,h⟩
   ·have:=hR.1.2 i h;rw[Mb] at this;cases this
   ·exact h cl Q' listed x a w K CX (yN i (by rw[ho];simp)) Mb hR.1 hR.2 LZ fun a' w' h=>hK a' w' ⟨h,uu hR.2 hW⟩
  ·rintro listed a w ⟨⟨⟨s1,σ1,e1,KL,_,_⟩,_⟩,_⟩;exact hQ sc a w T8 ⟨σ1,KL.Iu (by rw[e1,QE])⟩
 | cons k r ih=>
  intro pre cl res Mt sc ho QE hF hC hI hX T8 m listed a w CX De OR hc hR;obtain⟨o,Kb,P2,T8⟩:=T8;have LC:=hn;rw[ho,List.nodup_append,List.nodup_cons] at LC;have Tw:k∉pre:=fun h=>LC.2.2 k h k j5 rfl;have Ke:k<ops.size:=yN k (by rw[ho];simp);have TN:cF ops k=o.dst:=by simp[cF,Kb]
  have Kv:ord=(pre++[k])++r:=by rw[ho];simp
  have VA:∀ j∈r,listed.getD j false=false:=fun j hj=>OR j (List.mem_cons_of_mem _ hj);have Tv:listed.getD k false=false:=OR k List.mem_cons_self;have K7:∀ (x:Er),∀ i∈pre,yv res k x i=res i:=fun x i hi=>yu _ _ fun e=>by subst e;exact Tw hi
  have MO:∀ (x:Er) (L:Nat→Bool) (p:List Nat) (y:FS),(∀ i∈p,i∈pre)→bI (cF ops) (fun j=>(yv res k x j).1) L p y=bI (cF ops) (fun j=>(res j).1) L p y:=fun x L p y hp=>
   tT p y fun i hi=>by rw[K7 x i (hp i hi)]
  have splits:∀ (p:List Nat) (i:Nat) (q:List Nat),pre++[k]=p++i::q→(p=pre∧i=k∧q=[])∨∃ q',q=q'++[k]∧pre=p++i::q':=by
   intro p i q h;rcases List.eq_nil_or_concat q with hq | ⟨q',z,hq⟩
   ·subst hq;have:=List.append_inj' h rfl;refine .inl ⟨this.1.symm,?_,rfl⟩
    simpa using this.2.symm
   ·rw[List.concat_eq_append] at hq;subst hq;have h':pre++[k]=(p++i::q')++[z]:=by rw[h];simp
    have:=List.append_inj' h' rfl;refine .inr ⟨q',?_,this.1⟩;rw[show z=k by simpa using this.2.symm]
  have SB:∀ (p:List Nat) (i:Nat) (q:List Nat),pre=p++i::q→(∀ t∈p,t∈pre)∧i∈pre∧∀ t∈q,t∈pre:=fun p i q h=>by
   rw[h];exact⟨fun t ht=>by simp[ht],by simp,fun t ht=>by simp[ht]⟩
  have Yq:∀ x:Er,∀ p∈dyn,p.1∈pre++[k]→note dyn Mt k x p.1=yv res k x p.1:=fun x p hp hm=>by
   unfold note;rcases List.mem_append.1 hm with h1 | h1
   ·have F0:p.1≠k:=fun e=>Tw (e ▸ h1);rw[yu _ _ F0];split
    ·rw[yu _ _ F0];exact hX p hp h1
    ·exact hX p hp h1
   ·have e:p.1=k:=by simpa using h1
    have W0:(dyn.any fun p=>p.1 == k)=true:=List.any_eq_true.2 ⟨p,hp,by simp[e]⟩;rw[if_pos W0,e,iJ,iJ]
  have facts:∀ (x:Er) (UT:List Nat),(∀ i∈cl,i∈UT)→(k∈UT∨Kn P C ops N W x k (fs sc))→∀ p i q,pre++[k]=p++i::q→i∈UT∨Kn P C ops N W (yv res k x i) i (bI (cF ops) (fun j=>(yv res k x j).1) (fun _=>true) p x0):=by
   intro x UT M6 hk p i q h;rcases splits p i q h with ⟨rfl,rfl,_⟩ | ⟨q',rfl,h2⟩
   ·rcases hk with hk | hk
    ·exact .inl hk
    ·refine .inr ?_;rw[MO x _ p x0 fun i hi=>hi,← QE,iJ];exact hk
   ·obtain⟨m1,m2,m3⟩:=SB p i q' h2;rcases hF p i q' h2 with h3 | h3
    ·exact .inl (M6 i h3)
    ·refine .inr ?_;rw[K7 x i m2,MO x _ p x0 m1];exact h3
  have QF:∀ (x:Er),(∀ i∈pre,yk ops k i∨BQ (cF ops i) (cF ops k) (res i).1 x.1 (vG ops (res i) i) ⟨o.looksAt ops,x.2.1,x.2.2.1,x.2.2.2⟩) →
    ∀ p i q,pre++[k]=p++i::q→∀ j∈q,yk ops j i∨BQ (cF ops i) (cF ops j) (yv res k x i).1 (yv res k x j).1 (vG ops (yv res k x i) i) (vG ops (yv res k x j) j):=by
   intro x hx p i q h j hj;rcases splits p i q h with ⟨_,_,rfl⟩ | ⟨q',rfl,h2⟩
   ·cases hj
   ·obtain⟨m1,m2,m3⟩:=SB p i q' h2;rw[K7 x i m2];rcases List.mem_append.1 hj with hj | hj
    ·rw[K7 x j (m3 j hj)];exact hI p i q' h2 j hj
    ·have:j=k:=by simpa using hj
     subst this;rw[iJ,show vG ops x j=⟨o.looksAt ops,x.2.1,x.2.2.1,x.2.2.2⟩ by simp only[vG,Kb]];exact hx i m2
  have NV:∀ i∈pre,∃ f,i∈cl∨Kn P C ops N W (res i) i f:=fun i hi=>by
   obtain⟨p1,p2,hp⟩:=List.append_of_mem hi;exact⟨_,hF p1 i p2 hp⟩
  have pairs:∀ (x:Er),(gU o=false→EE x)→(mJ o=true→x.2.1=[])→chk dyn Mt k x=true →
    ∀ i∈pre,yk ops k i∨BQ (cF ops i) (cF ops k) (res i).1 x.1 (vG ops (res i) i) ⟨o.looksAt ops,x.2.1,x.2.2.1,x.2.2.2⟩:=by
   intro x h1 h2 h3 i hi;obtain⟨f,h4 | h4⟩:=NV i hi
   ·exact .inl (hC i h4 k List.mem_cons_self)
   ·refine (Qg pre k r ho i hi).imp id fun h5=>Fi h5.2 h4 Kb h1 h2 fun hd=>?_;have:=List.all_eq_true.1 h3 (i,k) hd;simp only[bne_self_eq_false,Bool.false_or] at this;rwa [hX (i,k) hd hi] at this
  have Yt:∀ i∈cl,∀ j∈r,yk ops j i:=fun i h j hj=>hC i h j (List.mem_cons_of_mem _ hj);have next:∀ (x:Er) (sn:St),Kn P C ops N W x k (fs sc)→chk dyn Mt k x=true→fs sn=ap o.dst x.1 (fs sc)→G0 P ak mt call pc q0 W C.nt ops N dyn K r (note dyn Mt k x) sn→wpAny P .any ops Q' m listed a w:=by
   intro x sn hk NH VG Zj;have Wm:=hk;obtain⟨o',e1,e2,e3,_⟩:=Wm;rw[Kb] at e1;cases e1;refine ih (pre++[k]) cl (yv res k x) (note dyn Mt k x) sn Kv ?_ (facts x cl (fun _ h=>h) (.inr hk)) Yt (QF x (pairs x e2 e3 NH)) (Yq x) Zj m listed a w CX De VA hc ?_
   ·rw[VG,dd,MO x _ pre x0 fun i hi=>hi,← QE];simp only[bI,iJ,if_true,TN]
   ·rw[dd,MO x _ pre x0 fun i hi=>hi];simp only[bI,Tv,Bool.false_eq_true,if_false];exact hR
  rcases T8 with ⟨x,q1,q2,q3⟩ | ⟨hg,v,hx,q3⟩ | ⟨ks,nb,OUT,Uy,hu,hO,WI,hK⟩
  ·exact next x _ (Kn.eff ht OT Xb kp Uc Kb P2 q1 q2.2) q2.1 (DK _ _ _) q3
  ·exact next (gB v) _ (Kn.quiet Kb P2 hg hx) (List.all_eq_true.2 fun p _=>by simp[tO]) (lH _ _ _) q3
  ·obtain⟨c,hu⟩:=Option.isSome_iff_exists.1 hu;have Pu:=BG hu;have Np:∀ j∈r,yk ops j k:=fun j hj=>by
    obtain⟨r1,r2,hr⟩:=List.append_of_mem hj;rcases Qg (pre++k::r1) j r2 (by rw[ho,hr];simp) k j5 with h5 | ⟨h5,_⟩
    ·exact h5
    ·simp[Kb,hu] at h5;rw[Uy] at h5;cases h5
   have view:∀ i∈pre,yk ops k i∨∀ z,dp ⟨o.looksAt ops,ks,nb,none⟩ (ap (cF ops i) (res i).1 z) z:=by
    intro i hi;obtain⟨f,h4 | ⟨oi,a1,a2,_⟩⟩:=NV i hi
    ·exact .inl (hC i h4 k List.mem_cons_self)
    ·rcases Qg pre k r ho i hi with hp | ⟨_,hp⟩
     ·exact .inl hp
     ·unfold tw at hp;rw[a1,Kb] at hp;simp only[Bool.or_eq_true,Bool.and_eq_true] at hp;obtain⟨T1,hp⟩:=hp;refine .inr fun z=>?_;have quiet:gU oi=false→(∀ o' y,assoc (res i).1.w o'=some y→o'∉ks)∧(nb=true→(res i).1.k=0):=fun hl=>by
       obtain⟨u1,u2,_,_⟩:=a2 hl;exact⟨fun o' y h=>by rw[u1] at h;simp[assoc] at h,fun _=>u2⟩
      have hq:(∀ o' y,assoc (res i).1.w o'=some y→o'∉ks)∧(nb=true→(res i).1.k=0):=by
       rcases hp with ((hp | hp) | hp) | hp
       ·obtain⟨c1,c2⟩:=WI (i,k) (by simpa using hp) rfl;rw[hX (i,k) (by simpa using hp) hi] at c1 c2;exact⟨fun o' y h=>c1 _ (br _ _ _ h),c2⟩
       ·simp only[Bool.not_eq_true'] at hp;exact quiet hp.1
       ·exact quiet U1
       ·simp only[mJ,Bool.and_eq_true,Bool.not_eq_true'] at hp;rw[Pu] at hp;simp at hp
      exact lL (V:=⟨o.looksAt ops,ks,nb,none⟩) (by rw[show cF ops i=oi.dst by simp[cF,a1]];exact (Oper.apart_spec T1).1) hq.1 hq.2 (fun _ h=>by cases h) z
   rw[ho] at hn hc;refine AN (P:=P) (pre:=pre) (r:=r) (k:=k) (dst:=cF ops) (E:=fun j=>(res j).1) (V:=fun j=>vG ops (res j) j) (Vk:=⟨o.looksAt ops,ks,nb,none⟩) (OUT:=fun Ek=>∃ e s',OUT e s'∧Ek=e.1) (x0:=x0) (R:=fun listed x a w=>Rr C N ops cl listed x a w∧ss W x.h) (Q':=Q') hn
    (fun j hj=>by rw[← ho];exact M4 j hj) (fun i hi=>yN i (by rw[ho];exact hi)) (fun p i q h=>R6 p i q (ho.trans h)) hI Np view ?_ ?_ ?_ m listed a w CX De Tv hc hR
   ·intro p i q h listed x a w K CX Mb hR LZ hK;rcases hF p i q h with h1 | ⟨o,_,_,_,hW,h1⟩
    ·have:=hR.1.2 i h1;rw[Mb] at this;cases this
    ·exact h1 cl Q' listed x a w K CX (yN i (by rw[ho,h];simp)) Mb hR.1 hR.2 LZ fun a' w' h=>hK a' w' ⟨h,uu hR.2 hW⟩
   ·intro listed x a w K' CX Mb hR LZ hK';rw[← QE] at LZ;exact hO ht C cl Q' listed x a w K' rfl CX Ke hR.1 LZ fun e s' a' w' h hr=>hK' e.1 a' w' ⟨e,s',h,rfl⟩ ⟨hr,uu hR.2 (hK e s' h).2.1.2⟩
   ·rintro Ek ⟨e,sn,hG,rfl⟩ m listed a w CX De Ke OR hc hR;obtain⟨VG,NH,W4⟩:=hK e sn hG;refine ih (pre++[k]) (k::cl) (yv res k e) (note dyn Mt k e) sn Kv ?_ (facts e (k::cl) (fun i h=>List.mem_cons_of_mem _ h) (.inl List.mem_cons_self)) ?_ (QF e (pairs e (fun h=>by rw[Pu] at h;cases h) (fun h=>by simp[mJ,Pu] at h) NH.1)) (Yq e) W4 m listed a w CX De OR (by rw[ho];exact hc) ?_
    ·rw[VG,dd,MO e _ pre x0 fun i hi=>hi,← QE];simp only[bI,iJ,if_true,TN]
    ·intro i hi;rcases List.mem_cons.1 hi with rfl | hi
     ·exact Np
     ·exact Yt i hi
    ·rw[dd,MO e _ pre x0 fun i hi=>hi];simp only[bI,Ke,if_true,iJ];refine⟨⟨hR.1.1,fun i hi=>?_⟩,hR.2⟩;rcases List.mem_cons.1 hi with e | hi
     ·rw[e];exact Ke
     ·exact hR.1.2 i hi
def rxS (ops:Array Oper)(ord:List Nat)(dyn:List (Nat×Nat)):Bool:=qG ops true ord dyn
theorem T.rxg (ht:ay P ak)(OT:gM P mt)(Xb:fv P ak call)(kp:sP P pc)(hm:P.follows .mixedOrders=true){id:Nat}{q0:Bool}{Q:Exit→St→Prop}(W:List oR)(hW:ss W (assoc s.heap))(ord:List Nat)(dyn:List (Nat×Nat))(hS:qG ops q0 ord dyn=true)
  (h:G0 P ak mt call pc q0 W C.nt ops s.nx dyn (Q .normal) ord (fun _=>default) ⟨s.env,s.heap,s.nx+ops.size⟩):T P C (.region id ops true) s Q:=by
 intro a w ⟨σ,hr⟩;simp only[qG,Bool.and_eq_true,decide_eq_true_eq,List.all_eq_true,List.contains_eq_mem] at hS;obtain⟨⟨⟨⟨hn,M4⟩,yN⟩,VS⟩,VM⟩:=hS;have QL:∀ j,j<ops.size→j∈ord:=fun j hj=>M4 j (List.mem_range.2 hj);have NB:=hr.low;have Q0:aB C σ ⟨s.env,s.heap,s.nx+ops.size⟩ a { w with drawn:=w.drawn+1 }:=by
  obtain⟨σ2,h2⟩:Rel C s a { w with drawn:=w.drawn+1 }:=Rel.drew ⟨σ,hr⟩;exact⟨hr.me,hr.tm,hr.os,hr.tape,hr.output,hr.size,hr.frame,fun t c hc=>(by
   obtain⟨v,k1,k2⟩:=hr.env t c hc;exact⟨v,k1,VR.a7 rD c v (fun _ _=>rfl) k2⟩),fun o ob ho=>(by
   obtain⟨B,m1,m2,m3,m4,m5⟩:=hr.obj o ob ho;refine⟨B,m1,m2,m3,m4,fun b hb=>?_⟩;obtain⟨cur,n1,n2,n3,n4,n5,n6⟩:=m5 b hb;exact⟨cur,n1,n2,n3,n4,n5,aG.a7 rD _ _ (fun _ _=>rfl) n6⟩),hr.inj,fun o ho=>hr.nx o (by simp only at ho ⊢;omega),hr.fM,by simp only;omega,hr.new⟩
 refine wp_mono (Q:=fun e a' w'=>e=.normal∧∃ s',Q .normal s'∧Rel C s' a' w') (wp_region_any hm ?_) (fun e a' w' ⟨he,s',h1,KF⟩=>⟨s',he ▸ h1,KF⟩);refine Hm ht OT Xb kp hn QL yN VS VM (N:=s.nx) NB (x0:=fs ⟨s.env,s.heap,s.nx+ops.size⟩) (K:=Q .normal) (Q':=fun e a' w'=>e=.normal∧∃ s',Q .normal s'∧Rel C s' a' w') (fun s' a w h1 h2=>⟨rfl,s',h1,h2⟩)
  ord [] [] (fun _=>default) (fun _=>default) _ rfl rfl (fun p i q h=>by simp at h) (fun i hi=>by cases hi) (fun p i q h=>by simp at h) (fun _ _ _=>rfl) h ops.size _ _ _ j5 ?_ (fun j _=>rI _ _) ?_ ?_
 ·intro j oj _ hl;rw[rI] at hl;cases hl
 ·have:ord.length=ops.size:=by
   have h1:ord.Perm (List.range ops.size):=(List.perm_ext_iff_of_nodup hn List.nodup_range).2 fun j=>⟨fun hj=>List.mem_range.2 (yN j hj),fun hj=>QL j (List.mem_range.1 hj)⟩
   simpa using h1.length_eq
  rw[← this,List.countP_eq_length];intro j _;rw[rI];rfl
 ·exact⟨⟨⟨_,σ,rfl,Q0,Nat.le_refl _,fun j hj _=>hr.nx _ yA⟩,fun c hc=>by cases hc⟩,hW⟩
def zC (ak:List (Nat×TI))(mt:gh)(call:eP)(pc:FuncId→List CV→Option CV)(nt:Nat)(ops:Array Oper)(N:Nat)(dyn:List (Nat×Nat)):List Nat→(Nat→Er)→St→Option St
 | [],_,s=>some s
 | i::r,res,s=>match ops[i]? with
  | none=>none
  | some o=>if a9 nt o.dst=true then match rO ak mt ops call pc N (N+ops.size) (N+i) s o with
    | none=>none
    | some x=>if chk dyn res i x=true then zC ak mt call pc nt ops N dyn r (note dyn res i x) (JK o.dst x.1 s) else none
   else none
theorem vZ {q:Bool}{nt N:Nat}{dyn:List (Nat×Nat)}:∀ {l:List Nat} {res:Nat→Er} {s s':St},zC ak mt call pc nt ops N dyn l res s=some s'→G0 P ak mt call pc q [] nt ops N dyn (fun x=>x=s') l res s
 | [],_,_,_,h=>by cases h;rfl
 | i::r,res,s,s',h=>by
  simp only[zC] at h;split at h
  ·cases h
  ·rename_i o ho;split at h
   ·rename_i hd;split at h
    ·cases h
    ·rename_i x hx;split at h
     ·rename_i hc;exact⟨o,ho,hd,.inl ⟨x,hx,⟨hc,Ay _⟩,vZ h⟩⟩
     ·cases h
   ·cases h
def Gm (ak:List (Nat×TI))(mt:gh)(nt:Nat)(ops:Array Oper)(call:eP)(pc:FuncId→List CV→Option CV)(ord:List Nat)(dyn:List (Nat×Nat))(s:St):Option St:=
 zC ak mt call pc nt ops s.nx dyn ord (fun _=>default) { s with nx:=s.nx+ops.size }
theorem T.trace (ht:ay P ak)(OT:gM P mt)(De:fv P ak call)(kp:sP P pc)(hm:P.follows .mixedOrders=true){id:Nat}{ord:List Nat}{dyn:List (Nat×Nat)}{s':St}(hS:qG ops false ord dyn=true)(h:Gm ak mt C.nt ops call pc ord dyn s=some s') :
  T P C (.region id ops true) s fun e x=>e=.normal∧x=s':=
 T.rxg (Q:=fun e x=>e=.normal∧x=s') ht OT De kp hm [] (fun _ h=>by cases h) ord dyn hS (by simpa using vZ h)
end
section
variable {P:Program}{C:Cx}{s:St}{ops:Array Oper}{ak:List (Nat×TI)}
def ui (W:List oR)(s:St)(o:Oper):Bool:=!W.isEmpty && match o.op with
 | .load _ x=>W.any fun c=>match ev s x with
  | some (.ai p j)=>p == c.1 && j == c.2.1
  | _=>false
 | _=>false
def kV (ak:List (Nat×TI))(W:List oR)(nt:Nat)(ops:Array Oper)(N:Nat)(dyn:List (Nat×Nat))(K:List Nat→(Nat→Er)→St→Prop):List Nat→(Nat→Er)→St→Prop
 | [],res,s=>K [] res s
 | i::r,res,s=>match ops[i]? with
  | none=>False
  | some o=>if ((bR o).isSome && (bM ops s o == some true)) || ui W s o then K (i::r) res s else
   if a9 nt o.dst=true then match rO ak [] ops zR zQ N (N+ops.size) (N+i) s o with
    | none=>K (i::r) res s
    | some x=>rV W dyn res i x∧kV ak W nt ops N dyn K r (note dyn res i x) (JK o.dst x.1 s)
   else False
def zD (P:Program)(ak:List (Nat×TI))(W:List oR)(nt:Nat)(ops:Array Oper)(N:Nat)(dyn:List (Nat×Nat))(K:St→Prop):List Nat→(Nat→Er)→St→Prop
 | [],_,s=>K s
 | i::r,res,s=>RX P ak W nt ops N dyn K (i::r) res s
theorem RX.go {W:List oR}{nt N:Nat}{dyn:List (Nat×Nat)}{K:St→Prop}:∀ {l:List Nat} {res:Nat→Er} {s:St},kV ak W nt ops N dyn (zD P ak W nt ops N dyn K) l res s→RX P ak W nt ops N dyn K l res s
 | [],_,_,h=>h
 | i::r,res,s,h=>by
  simp only[kV] at h;split at h
  ·exact h.elim
  ·rename_i o ho;split at h
   ·exact h
   ·split at h
    ·rename_i hd;split at h
     ·exact h
     ·rename_i x hx;exact⟨o,ho,hd,.inl ⟨x,hx,h.1,RX.go h.2⟩⟩
    ·exact h.elim
theorem T.rxw (ht:ay P ak)(hm:P.follows .mixedOrders=true){id:Nat}{l:List Oper}{Q:Exit→St→Prop}(W:List oR)(hW:ss W (assoc s.heap))(ord:List Nat)(dyn:List (Nat×Nat))(hS:rxS l.toArray ord dyn=true)
  (h:kV ak W C.nt l.toArray s.nx dyn (zD P ak W C.nt l.toArray s.nx dyn (Q .normal)) ord (fun _=>default) ⟨s.env,s.heap,s.nx+l.toArray.size⟩):T P C (.region id l.toArray true) s Q:=
 T.rxg ht tF (fun _ _ _ _ _ _ _ h=>by cases h) (fun _ _ _ h=>by cases h) hm W hW ord dyn hS (RX.go h)
theorem T.rx (ht:ay P ak)(hm:P.follows .mixedOrders=true){id:Nat}{l:List Oper}{Q:Exit→St→Prop}(ord:List Nat)(dyn:List (Nat×Nat))(hS:rxS l.toArray ord dyn=true)
  (h:kV ak [] C.nt l.toArray s.nx dyn (zD P ak [] C.nt l.toArray s.nx dyn (Q .normal)) ord (fun _=>default) ⟨s.env,s.heap,s.nx+l.toArray.size⟩):T P C (.region id l.toArray true) s Q:=
 T.rxw ht hm [] (fun _ h=>by cases h) ord dyn hS h
variable {W:List oR}
variable {nt N:Nat}{dyn:List (Nat×Nat)}{K:St→Prop}{i:Nat}{r:List Nat}{res:Nat→Er}
theorem RX.Eh {o:Oper}{cl:Call}{g:FuncId}{cs:List CV}{G:CV→Prop}(hi:ops[i]? = Option.some o)(hd:a9 nt o.dst=true)(hg:bM ops s o=Option.some true)(hu:bR o=Option.some cl)(Kj:bl s cl=Option.some (g,cs))(ht:trees cs=true)(hP:kU P g cs G)
  (hK:∀ v,G v→kV ak W nt ops N dyn (zD P ak W nt ops N dyn K) r (note dyn res i (gB v)) (s.put o.dst v)):RX P ak W nt ops N dyn K (i::r) res s:=
 ⟨o,hi,hd,.inr (.inr ⟨[],false,_,rfl,by simp[hu],Gj.pure hi hd hu Kj hg ht hP,fun _ _ _=>⟨fun _ _=>List.not_mem_nil,fun h=>by cases h⟩,by
  rintro e s' ⟨v,hv,rfl,rfl⟩;exact⟨lH _ _ _,⟨List.all_eq_true.2 fun p _=>by simp[tO],fun _ _ _ h=>by cases h⟩,RX.go (hK v hv)⟩⟩)⟩
theorem RX.quiet {o:Oper}(v:CV)(hi:ops[i]? = Option.some o)(hd:a9 nt o.dst=true)(hg:bM ops s o=Option.some true)(hx:XV P W o s v)(hK:kV ak W nt ops N dyn (zD P ak W nt ops N dyn K) r (note dyn res i (gB v)) (s.put o.dst v)):RX P ak W nt ops N dyn K (i::r) res s:=
 ⟨o,hi,hd,.inr (.inl ⟨hg,v,hx,RX.go hK⟩)⟩
theorem XV.load (ht:ay P ak){o:Oper}{t:TypeId}{x:Operand}{p j:Nat}{v:CV}{ti:TI}(ho:o.op=.load t x)(hx:ev s x=Option.some (.ai p j))(hc:(p,j,[v])∈W)(Zd:assoc ak t=Option.some ti)(ha:ti.agg=false):XV P W o s v:=fun C σ s1 a w he hw hr=>by
 obtain⟨ob,h1,h2⟩:=hw _ hc;simp only[List.length_cons,List.length_nil] at h1 h2;refine uP ht hr o ?_;rw[ho];simp only[eE,(he x (by simp[ho,Op.operands])).trans hx,Zd,fD,h1,Option.map_some,kj,ha,Bool.false_eq_true,if_false]
 cases hd:ob.cells.drop j with
 | nil=>rw[hd] at h2;simp at h2
 | cons c r=>rw[hd] at h2;simpa using h2
theorem RX.body {o:Oper}{cl:Call}{g:FuncId}{cs:List CV}{R:CV→St→Prop}(ks dO:List Nat)(d:Nat){H:List (Nat×Ob)}(hi:ops[i]? = Option.some o)(hd:a9 nt o.dst=true)(hg:bM ops s o=Option.some true)(hu:bR o=Option.some cl)(Kj:bl s cl=Option.some (g,cs))
  (hp:er s.heap ks=Option.some H) (hb:Body P ak g cs H s.nx R) (hv:xU dyn res i ks=true)
  (hR:∀ v s1,R v s1→s1.nx=s.nx+d∧(∀ p ob,assoc s1.heap p=Option.some ob→p∈ks∨s.nx≤p)∧(∀ p,p∉dO→assoc s1.heap p=assoc H p)∧∀ p∈dO,p∈ks∨(assoc s1.heap p).isSome=true)
  (hK:∀ v s1,R v s1→rV W dyn res i (hU v ks dO d s1.heap)∧kV ak W nt ops N dyn (zD P ak W nt ops N dyn K) r (note dyn res i (hU v ks dO d s1.heap)) (St.put ⟨s.env,s1.heap++dG s.heap ks,s.nx+d⟩ o.dst v)):RX P ak W nt ops N dyn K (i::r) res s:=
 ⟨o,hi,hd,.inr (.inr ⟨ks,true,_,rfl,by simp[hu],Gj.body hi hd hu Kj hg hp hb hR,fun p hp e=>by
  have:=List.all_eq_true.1 hv p hp;simp only[e,bne_self_eq_false,Bool.false_or,Bool.and_eq_true,List.all_eq_true,beq_iff_eq,Bool.not_eq_true'] at this;exact⟨fun q hq=>by have:=this.1 q hq;simpa using this,fun _=>this.2⟩,by
  rintro e s' ⟨v,s1,h,rfl,rfl⟩;obtain⟨_,_,k3,k4⟩:=hR v s1 h;exact⟨Gj.fs hp k3 k4,(hK v s1 h).1,RX.go (hK v s1 h).2⟩⟩)⟩
theorem RX.call {o:Oper}{cl:Call}{g:FuncId}{cs:List CV}{v:CV}(hi:ops[i]? = Option.some o)(hd:a9 nt o.dst=true)(hg:bM ops s o=Option.some true)(hu:bR o=Option.some cl)(Kj:bl s cl=Option.some (g,cs))(ht:trees cs=true)(hP:ae P g cs v)
  (hK:kV ak W nt ops N dyn (zD P ak W nt ops N dyn K) r (note dyn res i (gB v)) (s.put o.dst v)):RX P ak W nt ops N dyn K (i::r) res s:=
 RX.Eh hi hd hg hu Kj ht (hP.toP (G:=fun x=>x=v) rfl) fun x hx=>by rw[hx];exact hK
theorem RX.Ej {o:Oper}{cl:Call}{g:FuncId}{cs:List CV}{R:CV→St→Prop}(ks dO:List Nat){H:List (Nat×Ob)}(n:Nat)(hi:ops[i]? = Option.some o)(hd:a9 nt o.dst=true)(hg:bM ops s o=Option.some true)(hu:bR o=Option.some cl)(Kj:bl s cl=Option.some (g,cs))
  (hp:er s.heap ks=Option.some H) (hn:n≤s.nx) (ha:aO n cs=true) (hH:cV n H=true) (hb:Body P ak g cs H n R) (hv:xU dyn res i ks=true) (hc:(dO.all fun p=>ks.contains p)=true)
  (hR:∀ v s1,R v s1→s1.nx=n∧kA ks s1.heap=true∧∀ p,p∉dO→assoc s1.heap p=assoc H p)
  (hK:∀ v s1,R v s1→rV W dyn res i (ny v ks dO s1.heap)∧kV ak W nt ops N dyn (zD P ak W nt ops N dyn K) r (note dyn res i (ny v ks dO s1.heap)) (St.put ⟨s.env,s1.heap++dG s.heap ks,s.nx⟩ o.dst v)):RX P ak W nt ops N dyn K (i::r) res s:=by
 refine RX.body ks dO 0 hi hd hg hu Kj hp (hb.lift hn ha hH fun v s h=>(hR v s h).1) hv ?_ ?_
 ·rintro v s2 ⟨s1,h1,rfl⟩;obtain⟨k1,k2,k3⟩:=hR v s1 h1;exact⟨rfl,fun p ob h=>.inl (pg k2 p ob h),k3,fun p hp=>by have:=List.all_eq_true.1 hc p hp;exact .inl (by simpa using this)⟩
 ·rintro v s2 ⟨s1,h1,rfl⟩;exact hK v s1 h1
@[congr] theorem Hl {Kx:List Nat→(Nat→Er)→St→Prop}{s s':St}{res O8:Nat→Er}{l:List Nat}(h:s=s')(h2:res=O8):kV ak W nt ops N dyn Kx l res s=kV ak W nt ops N dyn Kx l O8 s':=by rw[h,h2]
@[congr] theorem RX_congr {s s':St}{res O8:Nat→Er}{l:List Nat}(h:s=s')(h2:res=O8):RX P ak W nt ops N dyn K l res s=RX P ak W nt ops N dyn K l O8 s':=by rw[h,h2]
end
end Go.Can
