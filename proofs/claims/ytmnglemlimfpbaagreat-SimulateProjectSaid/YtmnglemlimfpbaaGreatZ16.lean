/- **A region that draws, walked in one order, calls by their c -/
import Derived.Test.YtmnglemlimfpbaaGreatZ15
namespace Go.Can
section
variable {P:Program}{C:Cx}{s:St}{ops:Array Oper}{aq:List (Nat×TI)}
theorem Ki (ht:ay P aq){ord:List Nat}{dyn:List (Nat×Nat)}(hn:ord.Nodup)(hcov:∀ j,j<ops.size→j∈ord)(hlt:∀ i∈ord,i<ops.size)(hox:F0 ops [] ord=true)(hpx:uA ops dyn ord=true)(hcw:vr ops ord=true)
  {N:Nat} (hN0:C.n0≤N) {x0:FS} {K:St→Prop} {Q':Exit→Act→World→Prop} (hQ:∀ s' a w,K s'→Rel C s' a w→Q' .normal a w) :
  ∀ (rest pre cl:List Nat) (res resX:Nat→Er) (sc:St),ord=pre++rest→fs sc=bH (bN ops) (fun j=>(res j).1) (fun _=>true) pre x0 →
   (∀ p i q,pre=p++i::q→i∈cl∨Fn aq C.nt ops N res i (bH (bN ops) (fun j=>(res j).1) (fun _=>true) p x0)) →
   (∀ i∈cl,∃ o c,ops[i]? = some o∧cg o=some c) →
   (∀ p i q,pre=p++i::q→∀ j∈q,Dv ops j i∨EO (bN ops i) (bN ops j) (res i).1 (res j).1 (vK ops res i) (vK ops res j)) →
   (∀ p∈dyn,p.1∈pre→resX p.1=res p.1) →
   RX P aq C.nt ops N dyn K rest resX sc →
   ∀ (m:Nat) (listed:Array Bool) (a:Act) (w:World),listed.size=ops.size→iU ops listed→(∀ j∈rest,listed.getD j false=false)→(ord.countP fun j=>!listed.getD j false)=m →
    Rr C N ops cl listed (bH (bN ops) (fun j=>(res j).1) (fun j=>listed.getD j false) pre x0) a w→wpAny P .any ops Q' m listed a w:=by
 have hrd:∀ pre i post,ord=pre++i::post→∀ oi,ops[i]? = some oi→∀ e∈oi.after,Region.binds .any e=true→e.on∈pre:=by
  intro pre i post ho oi hoi e he hb
  rcases rp ord [] hox pre i post ho oi hoi e he hb with h1 | h1
  ·cases h1
  ·exact h1
 intro rest
 induction rest with
 | nil=>
  intro pre cl res resX sc ho hsc hF hC hI hX hRX m listed a w hsz hcl hun hc hR
  rw[List.append_nil] at ho
  subst ho
  refine wA (P:=P) (ops:=ops) (ord:=ord) (dst:=bN ops) (E:=fun j=>(res j).1) (V:=vK ops res) (x0:=x0) (R:=Rr C N ops cl) (Q':=Q') hn hcov hlt hrd hI ?_ ?_ m listed a w hsz hcl hc hR
  ·intro p i q ho listed x a w K hsz hui hR hag hK
   rcases hF p i q ho with h | h
   ·have:=hR.2 i h
    rw[hui] at this;cases this
   ·exact Da ht hN0 h (hlt i (by rw[ho];simp)) hsz hui hR hag hK
  ·rintro listed a w ⟨⟨s1,σ1,e1,hr1,_,_⟩,_⟩
   exact hQ sc a w hRX ⟨σ1,hr1.He (by rw[e1,hsc])⟩
 | cons k r ih=>
  intro pre cl res resX sc ho hsc hF hC hI hX hRX m listed a w hsz hcl hun hc hR
  obtain⟨o,hok,hdk,hRX⟩:=hRX
  have hnd:=hn
  rw[ho,List.nodup_append,List.nodup_cons] at hnd
  have hkp:k∉pre:=fun h=>hnd.2.2 k h k yAa rfl
  have hkl:k<ops.size:=hlt k (by rw[ho];simp)
  have hdst:bN ops k=o.dst:=by simp[bN,hok]
  have ho':ord=(pre++[k])++r:=by rw[ho];simp
  have hun':∀ j∈r,listed.getD j false=false:=fun j hj=>hun j (List.mem_cons_of_mem _ hj)
  have hkun:listed.getD k false=false:=hun k List.mem_cons_self
    /- the facts about the longer list, for whatever effect the operation has -/
  have hres:∀ (x:Er),∀ i∈pre,zj res k x i=res i:=fun x i hi=>Bu _ _ fun e=>by subst e;exact hkp hi
  have hfold:∀ (x:Er) (L:Nat→Bool) (p:List Nat) (y:FS),(∀ i∈p,i∈pre)→bH (bN ops) (fun j=>(zj res k x j).1) L p y=bH (bN ops) (fun j=>(res j).1) L p y:=fun x L p y hp=>
   xp p y fun i hi=>by rw[hres x i (hp i hi)]
  have splits:∀ (p:List Nat) (i:Nat) (q:List Nat),pre++[k]=p++i::q→(p=pre∧i=k∧q=[])∨∃ q',q=q'++[k]∧pre=p++i::q':=by
   intro p i q h
   rcases List.eq_nil_or_concat q with hq | ⟨q',z,hq⟩
   ·subst hq
    have:=List.append_inj' h rfl
    refine .inl ⟨this.1.symm,?_,rfl⟩
    simpa using this.2.symm
   ·rw[List.concat_eq_append] at hq
    subst hq
    have h':pre++[k]=(p++i::q')++[z]:=by rw[h];simp
    have:=List.append_inj' h' rfl
    refine .inr ⟨q',?_,this.1⟩
    rw[show z=k by simpa using this.2.symm]
  have memp:∀ (p:List Nat) (i:Nat) (q:List Nat),pre=p++i::q→(∀ t∈p,t∈pre)∧i∈pre∧∀ t∈q,t∈pre:=fun p i q h=>by
   rw[h]
   exact⟨fun t ht=>by simp[ht],by simp,fun t ht=>by simp[ht]⟩
  have hX':∀ x:Er,∀ p∈dyn,p.1∈pre++[k]→note dyn resX k x p.1=zj res k x p.1:=fun x p hp hm=>by
   unfold note
   rcases List.mem_append.1 hm with h1 | h1
   ·have hne:p.1≠k:=fun e=>hkp (e ▸ h1)
    rw[Bu _ _ hne]
    split
    ·rw[Bu _ _ hne];exact hX p hp h1
    ·exact hX p hp h1
   ·have e:p.1=k:=by simpa using h1
    have hany:(dyn.any fun p=>p.1 == k)=true:=List.any_eq_true.2 ⟨p,hp,by simp[e]⟩
    rw[if_pos hany,e,jc,jc]
  have facts:∀ (x:Er) (cl':List Nat),(∀ i∈cl,i∈cl')→(k∈cl'∨Fn aq C.nt ops N (zj res k x) k (fs sc))→∀ p i q,pre++[k]=p++i::q→i∈cl'∨Fn aq C.nt ops N (zj res k x) i (bH (bN ops) (fun j=>(zj res k x j).1) (fun _=>true) p x0):=by
   intro x cl' hcl' hk p i q h
   rcases splits p i q h with ⟨rfl,rfl,_⟩ | ⟨q',rfl,h2⟩
   ·rcases hk with hk | hk
    ·exact .inl hk
    ·refine .inr ?_
     rw[hfold x _ p x0 fun i hi=>hi,← hsc]
     exact hk
   ·obtain⟨m1,m2,m3⟩:=memp p i q' h2
    rcases hF p i q' h2 with h3 | ⟨o,sm,a1,a2,a3,a4⟩
    ·exact .inl (hcl' i h3)
    ·refine .inr ⟨o,sm,a1,a2,?_,?_⟩
     ·rw[hres x i m2];exact a3
     ·rw[hfold x _ p x0 m1];exact a4
  have hpair:∀ (x:Er),(∀ i∈pre,Dv ops k i∨EO (bN ops i) (bN ops k) (res i).1 x.1 (vK ops res i) ⟨o.looksAt ops,x.2.1,x.2.2.1,x.2.2.2⟩) →
    ∀ p i q,pre++[k]=p++i::q→∀ j∈q,Dv ops j i∨EO (bN ops i) (bN ops j) (zj res k x i).1 (zj res k x j).1 (vK ops (zj res k x) i) (vK ops (zj res k x) j):=by
   intro x hx p i q h j hj
   rcases splits p i q h with ⟨_,_,rfl⟩ | ⟨q',rfl,h2⟩
   ·cases hj
   ·obtain⟨m1,m2,m3⟩:=memp p i q' h2
    rw[hres x i m2,xM (hres x i m2)]
    rcases List.mem_append.1 hj with hj | hj
    ·rw[hres x j (m3 j hj),xM (hres x j (m3 j hj))]
     exact hI p i q' h2 j hj
    ·have:j=k:=by simpa using hj
     subst this
     have hV:vK ops (zj res j x) j=⟨o.looksAt ops,x.2.1,x.2.2.1,x.2.2.2⟩:=by simp only[vK,hok,jc]
     rw[jc,hV]
     exact hx i m2
  have wait_cl:∀ i∈pre,i∈cl→Dv ops k i:=fun i hi hc=>by
   obtain⟨oi,ci,b1,b2⟩:=hC i hc
   obtain⟨p1,p2,hp⟩:=List.append_of_mem hi
   exact gw _ _ _ (n7 ord hcw p1 i (p2++k::r) (by rw[ho,hp];simp) oi ci b1 b2 k yAa)
  have pairs:∀ (x:Er),(gQ o=false→x.1.w=[]∧x.1.k=0∧x.2.2.1=false∧x.2.2.2=none)→(lM o=true→x.2.1=[])→(∀ i∈pre,(i,k)∈dyn→ml (res i) x=true) →
    ∀ i∈pre,Dv ops k i∨EO (bN ops i) (bN ops k) (res i).1 x.1 (vK ops res i) ⟨o.looksAt ops,x.2.1,x.2.2.1,x.2.2.2⟩:=by
   intro x h1 h2 h3 i hi
   obtain⟨p1,p2,hp⟩:=List.append_of_mem hi
   rcases hF p1 i p2 hp with h4 | h4
   ·exact .inl (wait_cl i hi h4)
   ·exact Ip (kL ord hpx p1 i (p2++k::r) (by rw[ho,hp];simp) k yAa) h4 hok h1 h2 (h3 i hi)
  have chk_ok:∀ x:Er,EV dyn resX k x=true→∀ i∈pre,(i,k)∈dyn→ml (res i) x=true:=fun x hx i hi hd=>by
   have:=List.all_eq_true.1 hx (i,k) hd
   simp only[bne_self_eq_false,Bool.false_or] at this
   rwa [hX (i,k) hd hi] at this
  rcases hRX with ⟨x,q1,q2,q3⟩ | ⟨hg,c,g,cs,hu,hca,hcall⟩
  ·/- no call -/
   refine ih (pre++[k]) cl (zj res k x) (note dyn resX k x) _ ho' ?_ (facts x cl (fun _ h=>h) (.inr ⟨o,sc,hok,hdk,by rw[jc];exact q1,rfl⟩)) hC (hpair x (pairs x (gO q1) (qb q1) (chk_ok x q2))) (hX' x) q3 m listed a w hsz hcl hun' hc ?_
   ·rw[yJ,dK,hfold x _ pre x0 fun i hi=>hi,← hsc]
    simp only[bH,jc,if_true,hdst]
   ·rw[dK,hfold x _ pre x0 fun i hi=>hi]
    simp only[bH,hkun,Bool.false_eq_true,if_false]
    exact hR
  ·have hwait:∀ j∈r,Dv ops j k:=fun j hj=>gw _ _ _ (n7 ord hcw pre k r ho o c hok hu j hj)
   have hloud:=EE hu
   have gq:∀ p i q,pre=p++i::q→∀ (listed:Array Bool) (x:FS) (a:Act) (w:World) (K:Act→World→Prop),listed.size=ops.size→listed.getD i false=false→Rr C N ops cl listed x a w→dI (vK ops res i) x (bH (bN ops) (fun j=>(res j).1) (fun _=>true) p x0) →
     (∀ a' w',Rr C N ops cl (listed.setIfInBounds i true) (ap (bN ops i) (res i).1 x) a' w'→K a' w')→wpOp P ops Q' i K a w:=by
    intro p i q h listed x a w K hsz hui hR hag hK
    rcases hF p i q h with h1 | h1
    ·have:=hR.2 i h1
     rw[hui] at this;cases this
    ·exact Da ht hN0 h1 (hlt i (by rw[ho,h];simp)) hsz hui hR hag hK
   have view:∀ (vo:List Nat) (vn:Bool),(∀ i∈pre,(i,k)∈dyn→(∀ q∈(res i).1.w,q.1∉vo)∧(vn=true→(res i).1.k=0)) →
     ∀ i∈pre,Dv ops k i∨∀ z,dI ⟨o.looksAt ops,vo,vn,none⟩ (ap (bN ops i) (res i).1 z) z:=by
    intro vo vn hv i hi
    obtain⟨p1,p2,hp⟩:=List.append_of_mem hi
    rcases hF p1 i p2 hp with h4 | h4
    ·exact .inl (wait_cl i hi h4)
    ·obtain⟨oi,sm,a1,a2,a3,a4⟩:=h4
     have hp:=kL ord hpx p1 i (p2++k::r) (by rw[ho,hp];simp) k yAa
     unfold wW at hp
     rw[a1,hok] at hp
     simp only[Bool.or_eq_true,Bool.and_eq_true] at hp
     rcases hp with hp | ⟨hap,hp⟩
     ·exact .inl (gw _ _ _ hp)
     ·refine .inr fun z=>?_
      obtain⟨b1,_,_⟩:=Oper.apart_spec hap
      have hdi:bN ops i=oi.dst:=by simp[bN,a1]
      have hq:(∀ o' y,assoc (res i).1.w o'=some y→o'∉vo)∧(vn=true→(res i).1.k=0):=by
       have quiet:gQ oi=false→(∀ o' y,assoc (res i).1.w o'=some y→o'∉vo)∧(vn=true→(res i).1.k=0):=fun hl=>by
        obtain⟨u1,u2,_,_⟩:=gO a3 hl
        exact⟨fun o' y h=>by rw[u1] at h;simp[assoc] at h,fun _=>u2⟩
       rcases hp with ((hp | hp) | hp) | hp
       ·obtain⟨c1,c2⟩:=hv i hi (by simpa using hp)
        exact⟨fun o' y h=>c1 _ (bB _ _ _ h),c2⟩
       ·simp only[Bool.not_eq_true'] at hp
        exact quiet hp.1
       ·exact quiet (by simp only[lM,Bool.and_eq_true,Bool.not_eq_true'] at hp;exact hp.1)
       ·simp only[lM,Bool.and_eq_true,Bool.not_eq_true'] at hp
        rw[hloud] at hp
        simp at hp
      exact od (V:=⟨o.looksAt ops,vo,vn,none⟩) (by rw[hdi];exact b1) hq.1 hq.2 (fun _ h=>by cases h) z
   have next:∀ (x:Er) (sn:St),fs sn=ap o.dst x.1 (fs sc)→(∀ i∈pre,(i,k)∈dyn→ml (res i) x=true)→RX P aq C.nt ops N dyn K r (note dyn resX k x) sn →
     ∀ (m:Nat) (listed:Array Bool) (a:Act) (w:World),listed.size=ops.size→iU ops listed→listed.getD k false=true→(∀ j∈r,listed.getD j false=false)→((pre++k::r).countP fun j=>!listed.getD j false)=m →
      Rr C N ops cl listed (ap (bN ops k) x.1 (bH (bN ops) (fun j=>(res j).1) (fun j=>listed.getD j false) pre x0)) a w→wpAny P .any ops Q' m listed a w:=by
    intro x sn hsn hch hRX' m listed a w hsz hcl hkl hun hc hR
    refine ih (pre++[k]) (k::cl) (zj res k x) (note dyn resX k x) sn ho' ?_ (facts x (k::cl) (fun i h=>List.mem_cons_of_mem _ h) (.inl List.mem_cons_self)) ?_ (hpair x (pairs x (fun h=>by rw[hloud] at h;cases h) (fun h=>by simp[lM,hloud] at h) hch)) (hX' x) hRX' m listed a w hsz hcl hun (by rw[ho];exact hc) ?_
    ·rw[hsn,dK,hfold x _ pre x0 fun i hi=>hi,← hsc]
     simp only[bH,jc,if_true,hdst]
    ·intro i hi
     rcases List.mem_cons.1 hi with e | hi
     ·exact⟨o,c,by rw[e];exact hok,hu⟩
     ·exact hC i hi
    ·rw[dK,hfold x _ pre x0 fun i hi=>hi]
     simp only[bH,hkl,if_true,jc]
     refine⟨hR.1,fun i hi=>?_⟩
     rcases List.mem_cons.1 hi with e | hi
     ·rw[e];exact hkl
     ·exact hR.2 i hi
   rw[ho] at hn hc
   rcases hcall with ⟨htr,G,hP,hK⟩ | ⟨ks,chg,H,R,hp,hB,hv,hRR,hK⟩ | ⟨ks,chg,d,H,R,hp,hB,hv,hRR,hK⟩
   ·refine qW (P:=P) (pre:=pre) (r:=r) (k:=k) (dst:=bN ops) (E:=fun j=>(res j).1) (V:=vK ops res) (Vk:=⟨o.looksAt ops,[],false,none⟩) (OUT:=fun Ek=>∃ v,G v∧Ek=(la v).1) (x0:=x0) (R:=Rr C N ops cl) (Q':=Q') hn
     (fun j hj=>by rw[← ho];exact hcov j hj) (fun i hi=>hlt i (by rw[ho];exact hi)) (fun p i q h=>hrd p i q (ho.trans h)) hI hwait (view [] false fun i _ _=>⟨fun _ _=>by simp,fun h=>by cases h⟩) gq ?_ ?_ m listed a w hsz hcl hkun hc hR
    ·intro listed x a w K' hsz hui hR hag hK'
     rw[← hsc] at hag
     exact DX hok hdk hu hca hg htr hP hsz hkl hR hag hK'
    ·rintro Ek ⟨v,hG,rfl⟩
     exact next (la v) (sc.put o.dst v) (rz _ _ _) (fun i _ _=>Ej _ _) (hK v hG)
   ·refine qW (P:=P) (pre:=pre) (r:=r) (k:=k) (dst:=bN ops) (E:=fun j=>(res j).1) (V:=vK ops res) (Vk:=⟨o.looksAt ops,ks,true,none⟩) (OUT:=fun Ek=>∃ v s1,R v s1∧Ek=(iR v ks chg s1.heap).1) (x0:=x0) (R:=Rr C N ops cl) (Q':=Q') hn
     (fun j hj=>by rw[← ho];exact hcov j hj) (fun i hi=>hlt i (by rw[ho];exact hi)) (fun p i q h=>hrd p i q (ho.trans h)) hI hwait (view ks true fun i hi hd=>?_) gq ?_ ?_ m listed a w hsz hcl hkun hc hR
    ·have:=List.all_eq_true.1 hv (i,k) hd
     simp only[bne_self_eq_false,Bool.false_or,Bool.and_eq_true,List.all_eq_true,beq_iff_eq,Bool.not_eq_true'] at this
     rw[hX (i,k) hd hi] at this
     exact⟨fun q hq=>by have:=this.1 q hq;simpa using this,fun _=>this.2⟩
    ·intro listed x a w K' hsz hui hR hag hK'
     rw[← hsc] at hag
     exact EH ht hok hdk hu hca hg hp hB hRR hsz hkl hR hag hK'
    ·rintro Ek ⟨v,s1,hG,rfl⟩
     obtain⟨hch,hRX'⟩:=hK v s1 hG
     refine next (iR v ks chg s1.heap) _ ?_ (chk_ok _ hch) hRX'
     obtain⟨k1,k2,k3,k4⟩:=hRR v s1 hG
     have:=eT (s:=sc) (H:=s1.heap++dx sc.heap ks) (n:=sc.nx) (k:=0) (d:=o.dst) (r:=some v) (w:=chg.map fun p=>(p,assoc s1.heap p)) (fun p=>?_) rfl
     ·exact this
     ·exact vD hp k3 k4 p
   ·refine qW (P:=P) (pre:=pre) (r:=r) (k:=k) (dst:=bN ops) (E:=fun j=>(res j).1) (V:=vK ops res) (Vk:=⟨o.looksAt ops,ks,true,none⟩) (OUT:=fun Ek=>∃ v s1,R v s1∧Ek=(iS v ks chg d s1.heap).1) (x0:=x0) (R:=Rr C N ops cl) (Q':=Q') hn
     (fun j hj=>by rw[← ho];exact hcov j hj) (fun i hi=>hlt i (by rw[ho];exact hi)) (fun p i q h=>hrd p i q (ho.trans h)) hI hwait (view ks true fun i hi hd=>?_) gq ?_ ?_ m listed a w hsz hcl hkun hc hR
    ·have:=List.all_eq_true.1 hv (i,k) hd
     simp only[bne_self_eq_false,Bool.false_or,Bool.and_eq_true,List.all_eq_true,beq_iff_eq,Bool.not_eq_true'] at this
     rw[hX (i,k) hd hi] at this
     exact⟨fun q hq=>by have:=this.1 q hq;simpa using this,fun _=>this.2⟩
    ·intro listed x a w K' hsz hui hR hag hK'
     rw[← hsc] at hag
     exact Ck ht hok hdk hu hca hg hp hB hRR hsz hkl hR hag hK'
    ·rintro Ek ⟨v,s1,hG,rfl⟩
     obtain⟨hch,hRX'⟩:=hK v s1 hG
     refine next (iS v ks chg d s1.heap) _ ?_ (chk_ok _ hch) hRX'
     obtain⟨k1,k2,k3,k4⟩:=hRR v s1 hG
     have:=eT (s:=sc) (H:=s1.heap++dx sc.heap ks) (n:=sc.nx+d) (k:=d) (d:=o.dst) (r:=some v) (w:=chg.map fun p=>(p,assoc s1.heap p)) (fun p=>?_) rfl
     ·exact this
     ·exact sy hp k3 k4 p
def rxS (ops:Array Oper)(ord:List Nat)(dyn:List (Nat×Nat)):Bool:=tU ops ord dyn && vr ops ord
theorem T.rx0 (ht:ay P aq)(hm:P.follows .mixedOrders=true){id:Nat}{Q:Exit→St→Prop}(ord:List Nat)(dyn:List (Nat×Nat))(hS:rxS ops ord dyn=true)
  (h:RX P aq C.nt ops s.nx dyn (Q .normal) ord (fun _=>default) ⟨s.env,s.heap,s.nx+ops.size⟩):T P C (.region id ops true) s Q:=by
 intro a w ⟨σ,hr⟩
 simp only[rxS,tU,Bool.and_eq_true,decide_eq_true_eq,List.all_eq_true,List.contains_eq_mem] at hS
 obtain⟨⟨⟨⟨⟨hn,hcov⟩,hlt⟩,hox⟩,hpx⟩,hcw⟩:=hS
 have hcov':∀ j,j<ops.size→j∈ord:=fun j hj=>hcov j (List.mem_range.2 hj)
 have hlow:=hr.low
 have hstart:aG C σ ⟨s.env,s.heap,s.nx+ops.size⟩ a { w with drawn:=w.drawn+1 }:=by
  obtain⟨σ2,h2⟩:Rel C s a { w with drawn:=w.drawn+1 }:=Rel.drew ⟨σ,hr⟩
  exact⟨hr.nq,hr.tm,hr.os,hr.tape,hr.output,hr.size,hr.frame,fun t c hc=>(by
   obtain⟨v,k1,k2⟩:=hr.env t c hc
   exact⟨v,k1,VR.bp mj c v (fun _ _=>rfl) k2⟩),fun o ob ho=>(by
   obtain⟨B,m1,m2,m3,m4,m5⟩:=hr.obj o ob ho
   refine⟨B,m1,m2,m3,m4,fun b hb=>?_⟩
   obtain⟨cur,n1,n2,n3,n4,n5,n6⟩:=m5 b hb
   exact⟨cur,n1,n2,n3,n4,n5,aS.bp mj _ _ (fun _ _=>rfl) n6⟩),hr.inj,fun o ho=>hr.nx o (by simp only at ho ⊢;omega),hr.fj,by simp only;omega,hr.new⟩
 refine wp_mono (Q:=fun e a' w'=>e=.normal∧∃ s',Q .normal s'∧Rel C s' a' w') (wp_region_any hm ?_) (fun e a' w' ⟨he,s',h1,hr'⟩=>⟨s',he ▸ h1,hr'⟩)
 refine Ki ht hn hcov' hlt hox hpx hcw (N:=s.nx) hlow (x0:=fs ⟨s.env,s.heap,s.nx+ops.size⟩) (K:=Q .normal) (Q':=fun e a' w'=>e=.normal∧∃ s',Q .normal s'∧Rel C s' a' w') (fun s' a w h1 h2=>⟨rfl,s',h1,h2⟩)
  ord [] [] (fun _=>default) (fun _=>default) _ rfl rfl (fun p i q h=>by simp at h) (fun i hi=>by cases hi) (fun p i q h=>by simp at h) (fun _ _ _=>rfl) h ops.size _ _ _ yAa ?_ (fun j _=>jj _ _) ?_ ?_
 ·intro j oj _ hl
  rw[jj] at hl;cases hl
 ·have:ord.length=ops.size:=by
   have h1:ord.Perm (List.range ops.size):=(List.perm_ext_iff_of_nodup hn List.nodup_range).2 fun j=>⟨fun hj=>List.mem_range.2 (hlt j hj),fun hj=>hcov' j (List.mem_range.1 hj)⟩
   simpa using h1.length_eq
  rw[← this,List.countP_eq_length]
  intro j _
  rw[jj];rfl
 ·exact⟨⟨_,σ,rfl,hstart,Nat.le_refl _,fun j hj _=>hr.nx _ yA⟩,fun c hc=>by cases hc⟩
def px (aq:List (Nat×TI))(nt:Nat)(ops:Array Oper)(N:Nat)(dyn:List (Nat×Nat))(K:List Nat→(Nat→Er)→St→Prop):List Nat→(Nat→Er)→St→Prop
 | [],res,s=>K [] res s
 | i::r,res,s=>match ops[i]? with
  | none=>False
  | some o=>if (cg o).isSome && (bU ops s o == some true) then K (i::r) res s else
   if aU nt o.dst=true then match rD aq [] ops sW sV N (N+ops.size) (N+i) s o with
    | none=>False
    | some x=>if EV dyn res i x=true then px aq nt ops N dyn K r (note dyn res i x) (Lu o.dst x.1 s) else False
   else False
def FH (P:Program)(aq:List (Nat×TI))(nt:Nat)(ops:Array Oper)(N:Nat)(dyn:List (Nat×Nat))(K:St→Prop):List Nat→(Nat→Er)→St→Prop
 | [],_,s=>K s
 | i::r,res,s=>RX P aq nt ops N dyn K (i::r) res s
theorem RX.go {nt N:Nat}{dyn:List (Nat×Nat)}{K:St→Prop}:∀ {l:List Nat} {res:Nat→Er} {s:St},px aq nt ops N dyn (FH P aq nt ops N dyn K) l res s→RX P aq nt ops N dyn K l res s
 | [],_,_,h=>h
 | i::r,res,s,h=>by
  simp only[px] at h
  split at h
  ·exact h.elim
  ·rename_i o ho
   split at h
   ·exact h
   ·split at h
    ·rename_i hd
     split at h
     ·exact h.elim
     ·rename_i x hx
      split at h
      ·rename_i hc
       exact⟨o,ho,hd,.inl ⟨x,hx,hc,RX.go h⟩⟩
      ·exact h.elim
    ·exact h.elim
theorem T.rx (ht:ay P aq)(hm:P.follows .mixedOrders=true){id:Nat}{l:List Oper}{Q:Exit→St→Prop}(ord:List Nat)(dyn:List (Nat×Nat))(hS:rxS l.toArray ord dyn=true)
  (h:px aq C.nt l.toArray s.nx dyn (FH P aq C.nt l.toArray s.nx dyn (Q .normal)) ord (fun _=>default) ⟨s.env,s.heap,s.nx+l.toArray.size⟩):T P C (.region id l.toArray true) s Q:=
 T.rx0 ht hm ord dyn hS (RX.go h)
variable {nt N:Nat}{dyn:List (Nat×Nat)}{K:St→Prop}{i:Nat}{r:List Nat}{res:Nat→Er}
theorem RX.Hr {o:Oper}{cl:Call}{g:FuncId}{cs:List CV}{G:CV→Prop}(hi:ops[i]? = Option.some o)(hd:aU nt o.dst=true)(hg:bU ops s o=Option.some true)(hu:cg o=Option.some cl)(hca:bl s cl=Option.some (g,cs))(ht:trees cs=true)(hP:l8 P g cs G)
  (hK:∀ v,G v→px aq nt ops N dyn (FH P aq nt ops N dyn K) r (note dyn res i (la v)) (s.put o.dst v)):RX P aq nt ops N dyn K (i::r) res s:=
 ⟨o,hi,hd,.inr ⟨hg,cl,g,cs,hu,hca,.inl ⟨ht,G,hP,fun v hv=>RX.go (hK v hv)⟩⟩⟩
theorem RX.call {o:Oper}{cl:Call}{g:FuncId}{cs:List CV}{v:CV}(hi:ops[i]? = Option.some o)(hd:aU nt o.dst=true)(hg:bU ops s o=Option.some true)(hu:cg o=Option.some cl)(hca:bl s cl=Option.some (g,cs))(ht:trees cs=true)(hP:ae P g cs v)
  (hK:px aq nt ops N dyn (FH P aq nt ops N dyn K) r (note dyn res i (la v)) (s.put o.dst v)):RX P aq nt ops N dyn K (i::r) res s:=
 RX.Hr hi hd hg hu hca ht (hP.toP (G:=fun x=>x=v) rfl) fun x hx=>by rw[hx];exact hK
theorem RX.Ht {o:Oper}{cl:Call}{g:FuncId}{cs:List CV}{R:CV→St→Prop}(ks chg:List Nat){H:List (Nat×Ob)}(n:Nat)(hi:ops[i]? = Option.some o)(hd:aU nt o.dst=true)(hg:bU ops s o=Option.some true)(hu:cg o=Option.some cl)(hca:bl s cl=Option.some (g,cs))
  (hp:dZ s.heap ks=Option.some H) (hn:n≤s.nx) (ha:aQ n cs=true) (hH:de n H=true) (hb:Body P aq g cs H n R) (hv:yU dyn res i ks=true) (hc:(chg.all fun p=>ks.contains p)=true)
  (hR:∀ v s1,R v s1→s1.nx=n∧j6 ks s1.heap=true∧∀ p,p∉chg→assoc s1.heap p=assoc H p)
  (hK:∀ v s1,R v s1→EV dyn res i (iR v ks chg s1.heap)=true∧px aq nt ops N dyn (FH P aq nt ops N dyn K) r (note dyn res i (iR v ks chg s1.heap)) (St.put ⟨s.env,s1.heap++dx s.heap ks,s.nx⟩ o.dst v)):RX P aq nt ops N dyn K (i::r) res s:=by
 refine⟨o,hi,hd,.inr ⟨hg,cl,g,cs,hu,hca,.inr (.inl ⟨ks,chg,H,_,hp,hb.lift hn ha hH (fun v s h=>(hR v s h).1),hv,?_,?_⟩)⟩⟩
 ·rintro v s2 ⟨s1,h1,rfl⟩
  obtain⟨k1,k2,k3⟩:=hR v s1 h1
  exact⟨rfl,k2,k3,fun p hp=>by have:=List.all_eq_true.1 hc p hp;simpa using this⟩
 ·rintro v s2 ⟨s1,h1,rfl⟩
  obtain⟨k1,k2⟩:=hK v s1 h1
  exact⟨k1,RX.go k2⟩
@[congr] theorem Kh {Kx:List Nat→(Nat→Er)→St→Prop}{s s':St}{res res':Nat→Er}{l:List Nat}(h:s=s')(h2:res=res'):px aq nt ops N dyn Kx l res s=px aq nt ops N dyn Kx l res' s':=by rw[h,h2]
@[congr] theorem RX_congr {s s':St}{res res':Nat→Er}{l:List Nat}(h:s=s')(h2:res=res'):RX P aq nt ops N dyn K l res s=RX P aq nt ops N dyn K l res' s':=by rw[h,h2]
end
end Go.Can
