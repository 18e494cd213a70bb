/- **A region that draws, walked in one order, calls by their contracts**: the theorem. No function of the program is mentioned here. | Contracts with known results; the walk's short forms. No function of the program is mentioned here. -/
import Derived.Test.YtmnglemlimfpbaaGreatZ16
namespace Go.Can
section
variable {P:Program}{C:Cx}{s:St}{ops:Array Oper}{aj:List (Nat×TI)}
theorem HS (ht:aF P aj){ord:List Nat}{dyn:List (Nat×Nat)}(hn:ord.Nodup)(hcov:∀ j,j<ops.size→j∈ord)(hlt:∀ i∈ord,i<ops.size)(hox:DH ops [] ord=true)(hpx:sb ops dyn ord=true)(hcw:sZ ops ord=true)
  {N:Nat} (hN0:C.n0≤N) {x0:FS} {K:St→Prop} {Q':Exit→Act→World→Prop} (hQ:∀ s' a w,K s'→Rel C s' a w→Q' .normal a w) :
  ∀ (rest pre cl:List Nat) (res resX:Nat→Er) (sc:St),ord=pre++rest→fs sc=bC (bH ops) (fun j=>(res j).1) (fun _=>true) pre x0 →
   (∀ p i q,pre=p++i::q→i∈cl∨Fn aj C.nt ops N res i (bC (bH ops) (fun j=>(res j).1) (fun _=>true) p x0)) →
   (∀ i∈cl,∃ o c,ops[i]? = some o∧bV o=some c) →
   (∀ p i q,pre=p++i::q→∀ j∈q,Bq ops j i∨CB (bH ops i) (bH ops j) (res i).1 (res j).1 (tK ops res i) (tK ops res j)) →
   (∀ p∈dyn,p.1∈pre→resX p.1=res p.1) →
   RX P aj C.nt ops N dyn K rest resX sc →
   ∀ (m:Nat) (listed:Array Bool) (a:Act) (w:World),listed.size=ops.size→hZ ops listed→(∀ j∈rest,listed.getD j false=false)→(ord.countP fun j=>!listed.getD j false)=m →
    Rr C N ops cl listed (bC (bH ops) (fun j=>(res j).1) (fun j=>listed.getD j false) pre x0) a w→wpAny P .any ops Q' m listed a w:=by
 have hrd:∀ pre i post,ord=pre++i::post→∀ oi,ops[i]? = some oi→∀ e∈oi.after,Region.binds .any e=true→e.on∈pre:=by
  intro pre i post ho oi hoi e he hb
  rcases pU ord [] hox pre i post ho oi hoi e he hb with h1 | h1
  ·cases h1
  ·exact h1
 intro rest
 induction rest with
 | nil=>
  intro pre cl res resX sc ho hsc hF hC hI hX hRX m listed a w hsz hcl hun hc hR
  rw[List.append_nil] at ho
  subst ho
  refine uz (P:=P) (ops:=ops) (ord:=ord) (dst:=bH ops) (E:=fun j=>(res j).1) (V:=tK ops res) (x0:=x0) (R:=Rr C N ops cl) (Q':=Q') hn hcov hlt hrd hI ?_ ?_ m listed a w hsz hcl hc hR
  ·intro p i q ho listed x a w K hsz hui hR hag hK
   rcases hF p i q ho with h | h
   ·have:=hR.2 i h
    rw[hui] at this;cases this
   ·exact AR ht hN0 h (hlt i (by rw[ho];simp)) hsz hui hR hag hK
  ·rintro listed a w ⟨⟨s1,σ1,e1,hr1,_,_⟩,_⟩
   exact hQ sc a w hRX ⟨σ1,hr1.EV (by rw[e1,hsc])⟩
 | cons k r ih=>
  intro pre cl res resX sc ho hsc hF hC hI hX hRX m listed a w hsz hcl hun hc hR
  obtain⟨o,hok,hdk,hRX⟩:=hRX
  have hnd:=hn
  rw[ho,List.nodup_append,List.nodup_cons] at hnd
  have hkp:k∉pre:=fun h=>hnd.2.2 k h k (by simp) rfl
  have hkl:k<ops.size:=hlt k (by rw[ho];simp)
  have hdst:bH ops k=o.dst:=by simp[bH,hok]
  have ho':ord=(pre++[k])++r:=by rw[ho];simp
  have hun':∀ j∈r,listed.getD j false=false:=fun j hj=>hun j (List.mem_cons_of_mem _ hj)
  have hkun:listed.getD k false=false:=hun k List.mem_cons_self
    /- the facts about the longer list, for whatever effect the operation has -/
  have hres:∀ (x:Er),∀ i∈pre,xh res k x i=res i:=fun x i hi=>za _ _ fun e=>by subst e;exact hkp hi
  have hfold:∀ (x:Er) (L:Nat→Bool) (p:List Nat) (y:FS),(∀ i∈p,i∈pre)→bC (bH ops) (fun j=>(xh res k x j).1) L p y=bC (bH ops) (fun j=>(res j).1) L p y:=fun x L p y hp=>
   u9 p y fun i hi=>by rw[hres x i (hp i hi)]
  have splits:∀ (p:List Nat) (i:Nat) (q:List Nat),pre++[k]=p++i::q→(p=pre∧i=k∧q=[])∨∃ q',q=q'++[k]∧pre=p++i::q':=by
   intro p i q h
   rcases List.eq_nil_or_concat q with hq | ⟨q',z,hq⟩
   ·subst hq
    have:=List.append_inj' h rfl
    refine .inl ⟨this.1.symm,?_,rfl⟩
    simpa using this.2.symm
   ·rw[List.concat_eq_append] at hq
    subst hq
    have h':pre++[k]=(p++i::q')++[z]:=by rw[h];simp
    have:=List.append_inj' h' rfl
    refine .inr ⟨q',?_,this.1⟩
    rw[show z=k by simpa using this.2.symm]
  have memp:∀ (p:List Nat) (i:Nat) (q:List Nat),pre=p++i::q→(∀ t∈p,t∈pre)∧i∈pre∧∀ t∈q,t∈pre:=fun p i q h=>by
   rw[h]
   exact⟨fun t ht=>by simp[ht],by simp,fun t ht=>by simp[ht]⟩
  have hX':∀ x:Er,∀ p∈dyn,p.1∈pre++[k]→note dyn resX k x p.1=xh res k x p.1:=fun x p hp hm=>by
   unfold note
   rcases List.mem_append.1 hm with h1 | h1
   ·have hne:p.1≠k:=fun e=>hkp (e ▸ h1)
    rw[za _ _ hne]
    split
    ·rw[za _ _ hne];exact hX p hp h1
    ·exact hX p hp h1
   ·have e:p.1=k:=by simpa using h1
    have hany:(dyn.any fun p=>p.1 == k)=true:=List.any_eq_true.2 ⟨p,hp,by simp[e]⟩
    rw[if_pos hany,e,im,im]
  have facts:∀ (x:Er) (cl':List Nat),(∀ i∈cl,i∈cl')→(k∈cl'∨Fn aj C.nt ops N (xh res k x) k (fs sc))→∀ p i q,pre++[k]=p++i::q→i∈cl'∨Fn aj C.nt ops N (xh res k x) i (bC (bH ops) (fun j=>(xh res k x j).1) (fun _=>true) p x0):=by
   intro x cl' hcl' hk p i q h
   rcases splits p i q h with ⟨rfl,rfl,_⟩ | ⟨q',rfl,h2⟩
   ·rcases hk with hk | hk
    ·exact .inl hk
    ·refine .inr ?_
     rw[hfold x _ p x0 fun i hi=>hi,← hsc]
     exact hk
   ·obtain⟨m1,m2,m3⟩:=memp p i q' h2
    rcases hF p i q' h2 with h3 | ⟨o,sm,a1,a2,a3,a4⟩
    ·exact .inl (hcl' i h3)
    ·refine .inr ⟨o,sm,a1,a2,?_,?_⟩
     ·rw[hres x i m2];exact a3
     ·rw[hfold x _ p x0 m1];exact a4
  have hpair:∀ (x:Er),(∀ i∈pre,Bq ops k i∨CB (bH ops i) (bH ops k) (res i).1 x.1 (tK ops res i) ⟨o.looksAt ops,x.2.1,x.2.2.1,x.2.2.2⟩) →
    ∀ p i q,pre++[k]=p++i::q→∀ j∈q,Bq ops j i∨CB (bH ops i) (bH ops j) (xh res k x i).1 (xh res k x j).1 (tK ops (xh res k x) i) (tK ops (xh res k x) j):=by
   intro x hx p i q h j hj
   rcases splits p i q h with ⟨_,_,rfl⟩ | ⟨q',rfl,h2⟩
   ·cases hj
   ·obtain⟨m1,m2,m3⟩:=memp p i q' h2
    rw[hres x i m2,vl (hres x i m2)]
    rcases List.mem_append.1 hj with hj | hj
    ·rw[hres x j (m3 j hj),vl (hres x j (m3 j hj))]
     exact hI p i q' h2 j hj
    ·have:j=k:=by simpa using hj
     subst this
     have hV:tK ops (xh res j x) j=⟨o.looksAt ops,x.2.1,x.2.2.1,x.2.2.2⟩:=by simp only[tK,hok,im]
     rw[im,hV]
     exact hx i m2
  have wait_cl:∀ i∈pre,i∈cl→Bq ops k i:=fun i hi hc=>by
   obtain⟨oi,ci,b1,b2⟩:=hC i hc
   obtain⟨p1,p2,hp⟩:=List.append_of_mem hi
   exact fN _ _ _ (mA ord hcw p1 i (p2++k::r) (by rw[ho,hp];simp) oi ci b1 b2 k (by simp))
  have pairs:∀ (x:Er),(gf o=false→x.1.w=[]∧x.1.k=0∧x.2.2.1=false∧x.2.2.2=none)→(kD o=true→x.2.1=[])→(∀ i∈pre,(i,k)∈dyn→la (res i) x=true) →
    ∀ i∈pre,Bq ops k i∨CB (bH ops i) (bH ops k) (res i).1 x.1 (tK ops res i) ⟨o.looksAt ops,x.2.1,x.2.2.1,x.2.2.2⟩:=by
   intro x h1 h2 h3 i hi
   obtain⟨p1,p2,hp⟩:=List.append_of_mem hi
   rcases hF p1 i p2 hp with h4 | h4
   ·exact .inl (wait_cl i hi h4)
   ·exact F4 (jM ord hpx p1 i (p2++k::r) (by rw[ho,hp];simp) k (by simp)) h4 hok h1 h2 (h3 i hi)
  have chk_ok:∀ x:Er,CK dyn resX k x=true→∀ i∈pre,(i,k)∈dyn→la (res i) x=true:=fun x hx i hi hd=>by
   have:=List.all_eq_true.1 hx (i,k) hd
   simp only[bne_self_eq_false,Bool.false_or] at this
   rwa [hX (i,k) hd hi] at this
  rcases hRX with ⟨x,q1,q2,q3⟩ | ⟨hg,c,g,cs,hu,hca,hcall⟩
  ·/- no call -/
   refine ih (pre++[k]) cl (xh res k x) (note dyn resX k x) _ ho' ?_ (facts x cl (fun _ h=>h) (.inr ⟨o,sc,hok,hdk,by rw[im];exact q1,rfl⟩)) hC (hpair x (pairs x (fY q1) (oI q1) (chk_ok x q2))) (hX' x) q3 m listed a w hsz hcl hun' hc ?_
   ·rw[wy,dx,hfold x _ pre x0 fun i hi=>hi,← hsc]
    simp only[bC,im,if_true,hdst]
   ·rw[dx,hfold x _ pre x0 fun i hi=>hi]
    simp only[bC,hkun,Bool.false_eq_true,if_false]
    exact hR
  ·have hwait:∀ j∈r,Bq ops j k:=fun j hj=>fN _ _ _ (mA ord hcw pre k r ho o c hok hu j hj)
   have hloud:=Cs hu
   have fz:∀ p i q,pre=p++i::q→∀ (listed:Array Bool) (x:FS) (a:Act) (w:World) (K:Act→World→Prop),listed.size=ops.size→listed.getD i false=false→Rr C N ops cl listed x a w→Agree (tK ops res i) x (bC (bH ops) (fun j=>(res j).1) (fun _=>true) p x0) →
     (∀ a' w',Rr C N ops cl (listed.setIfInBounds i true) (ap (bH ops i) (res i).1 x) a' w'→K a' w')→wpOp P ops Q' i K a w:=by
    intro p i q h listed x a w K hsz hui hR hag hK
    rcases hF p i q h with h1 | h1
    ·have:=hR.2 i h1
     rw[hui] at this;cases this
    ·exact AR ht hN0 h1 (hlt i (by rw[ho,h];simp)) hsz hui hR hag hK
   have view:∀ (vo:List Nat) (vn:Bool),(∀ i∈pre,(i,k)∈dyn→(∀ q∈(res i).1.w,q.1∉vo)∧(vn=true→(res i).1.k=0)) →
     ∀ i∈pre,Bq ops k i∨∀ z,Agree ⟨o.looksAt ops,vo,vn,none⟩ (ap (bH ops i) (res i).1 z) z:=by
    intro vo vn hv i hi
    obtain⟨p1,p2,hp⟩:=List.append_of_mem hi
    rcases hF p1 i p2 hp with h4 | h4
    ·exact .inl (wait_cl i hi h4)
    ·obtain⟨oi,sm,a1,a2,a3,a4⟩:=h4
     have hp:=jM ord hpx p1 i (p2++k::r) (by rw[ho,hp];simp) k (by simp)
     unfold uO at hp
     rw[a1,hok] at hp
     simp only[Bool.or_eq_true,Bool.and_eq_true] at hp
     rcases hp with hp | ⟨hap,hp⟩
     ·exact .inl (fN _ _ _ hp)
     ·refine .inr fun z=>?_
      obtain⟨b1,_,_⟩:=Oper.apart_spec hap
      have hdi:bH ops i=oi.dst:=by simp[bH,a1]
      have hq:(∀ o' y,assoc (res i).1.w o'=some y→o'∉vo)∧(vn=true→(res i).1.k=0):=by
       have quiet:gf oi=false→(∀ o' y,assoc (res i).1.w o'=some y→o'∉vo)∧(vn=true→(res i).1.k=0):=fun hl=>by
        obtain⟨u1,u2,_,_⟩:=fY a3 hl
        exact⟨fun o' y h=>by rw[u1] at h;simp[assoc] at h,fun _=>u2⟩
       rcases hp with ((hp | hp) | hp) | hp
       ·obtain⟨c1,c2⟩:=hv i hi (by simpa using hp)
        exact⟨fun o' y h=>c1 _ (a7 _ _ _ h),c2⟩
       ·simp only[Bool.not_eq_true'] at hp
        exact quiet hp.1
       ·exact quiet (by simp only[kD,Bool.and_eq_true,Bool.not_eq_true'] at hp;exact hp.1)
       ·simp only[kD,Bool.and_eq_true,Bool.not_eq_true'] at hp
        rw[hloud] at hp
        simp at hp
      exact mD (V:=⟨o.looksAt ops,vo,vn,none⟩) (by rw[hdi];exact b1) hq.1 hq.2 (fun _ h=>by cases h) z
   have next:∀ (x:Er) (sn:St),fs sn=ap o.dst x.1 (fs sc)→(∀ i∈pre,(i,k)∈dyn→la (res i) x=true)→RX P aj C.nt ops N dyn K r (note dyn resX k x) sn →
     ∀ (m:Nat) (listed:Array Bool) (a:Act) (w:World),listed.size=ops.size→hZ ops listed→listed.getD k false=true→(∀ j∈r,listed.getD j false=false)→((pre++k::r).countP fun j=>!listed.getD j false)=m →
      Rr C N ops cl listed (ap (bH ops k) x.1 (bC (bH ops) (fun j=>(res j).1) (fun j=>listed.getD j false) pre x0)) a w→wpAny P .any ops Q' m listed a w:=by
    intro x sn hsn hch hRX' m listed a w hsz hcl hkl hun hc hR
    refine ih (pre++[k]) (k::cl) (xh res k x) (note dyn resX k x) sn ho' ?_ (facts x (k::cl) (fun i h=>List.mem_cons_of_mem _ h) (.inl List.mem_cons_self)) ?_ (hpair x (pairs x (fun h=>by rw[hloud] at h;cases h) (fun h=>by simp[kD,hloud] at h) hch)) (hX' x) hRX' m listed a w hsz hcl hun (by rw[ho];exact hc) ?_
    ·rw[hsn,dx,hfold x _ pre x0 fun i hi=>hi,← hsc]
     simp only[bC,im,if_true,hdst]
    ·intro i hi
     rcases List.mem_cons.1 hi with e | hi
     ·exact⟨o,c,by rw[e];exact hok,hu⟩
     ·exact hC i hi
    ·rw[dx,hfold x _ pre x0 fun i hi=>hi]
     simp only[bC,hkl,if_true,im]
     refine⟨hR.1,fun i hi=>?_⟩
     rcases List.mem_cons.1 hi with e | hi
     ·rw[e];exact hkl
     ·exact hR.2 i hi
   rw[ho] at hn hc
   rcases hcall with ⟨htr,G,hP,hK⟩ | ⟨ks,chg,H,R,hp,hB,hv,hRR,hK⟩ | ⟨ks,chg,d,H,R,hp,hB,hv,hRR,hK⟩
   ·refine pM (P:=P) (pre:=pre) (r:=r) (k:=k) (dst:=bH ops) (E:=fun j=>(res j).1) (V:=tK ops res) (Vk:=⟨o.looksAt ops,[],false,none⟩) (OUT:=fun Ek=>∃ v,G v∧Ek=(j7 v).1) (x0:=x0) (R:=Rr C N ops cl) (Q':=Q') hn
     (fun j hj=>by rw[← ho];exact hcov j hj) (fun i hi=>hlt i (by rw[ho];exact hi)) (fun p i q h=>hrd p i q (ho.trans h)) hI hwait (view [] false fun i _ _=>⟨fun _ _=>by simp,fun h=>by cases h⟩) fz ?_ ?_ m listed a w hsz hcl hkun hc hR
    ·intro listed x a w K' hsz hui hR hag hK'
     rw[← hsc] at hag
     exact BQ hok hdk hu hca hg htr hP hsz hkl hR hag hK'
    ·rintro Ek ⟨v,hG,rfl⟩
     exact next (j7 v) (sc.put o.dst v) (p7 _ _ _) (fun i _ _=>Cc _ _) (hK v hG)
   ·refine pM (P:=P) (pre:=pre) (r:=r) (k:=k) (dst:=bH ops) (E:=fun j=>(res j).1) (V:=tK ops res) (Vk:=⟨o.looksAt ops,ks,true,none⟩) (OUT:=fun Ek=>∃ v s1,R v s1∧Ek=(hD v ks chg s1.heap).1) (x0:=x0) (R:=Rr C N ops cl) (Q':=Q') hn
     (fun j hj=>by rw[← ho];exact hcov j hj) (fun i hi=>hlt i (by rw[ho];exact hi)) (fun p i q h=>hrd p i q (ho.trans h)) hI hwait (view ks true fun i hi hd=>?_) fz ?_ ?_ m listed a w hsz hcl hkun hc hR
    ·have:=List.all_eq_true.1 hv (i,k) hd
     simp only[bne_self_eq_false,Bool.false_or,Bool.and_eq_true,List.all_eq_true,beq_iff_eq,Bool.not_eq_true'] at this
     rw[hX (i,k) hd hi] at this
     exact⟨fun q hq=>by have:=this.1 q hq;simpa using this,fun _=>this.2⟩
    ·intro listed x a w K' hsz hui hR hag hK'
     rw[← hsc] at hag
     exact Cv ht hok hdk hu hca hg hp hB hRR hsz hkl hR hag hK'
    ·rintro Ek ⟨v,s1,hG,rfl⟩
     obtain⟨hch,hRX'⟩:=hK v s1 hG
     refine next (hD v ks chg s1.heap) _ ?_ (chk_ok _ hch) hRX'
     obtain⟨k1,k2,k3,k4⟩:=hRR v s1 hG
     have:=eE (s:=sc) (H:=s1.heap++cN sc.heap ks) (n:=sc.nx) (k:=0) (d:=o.dst) (r:=some v) (w:=chg.map fun p=>(p,assoc s1.heap p)) (fun p=>?_) rfl
     ·exact this
     ·exact tA hp k3 k4 p
   ·refine pM (P:=P) (pre:=pre) (r:=r) (k:=k) (dst:=bH ops) (E:=fun j=>(res j).1) (V:=tK ops res) (Vk:=⟨o.looksAt ops,ks,true,none⟩) (OUT:=fun Ek=>∃ v s1,R v s1∧Ek=(hU v ks chg d s1.heap).1) (x0:=x0) (R:=Rr C N ops cl) (Q':=Q') hn
     (fun j hj=>by rw[← ho];exact hcov j hj) (fun i hi=>hlt i (by rw[ho];exact hi)) (fun p i q h=>hrd p i q (ho.trans h)) hI hwait (view ks true fun i hi hd=>?_) fz ?_ ?_ m listed a w hsz hcl hkun hc hR
    ·have:=List.all_eq_true.1 hv (i,k) hd
     simp only[bne_self_eq_false,Bool.false_or,Bool.and_eq_true,List.all_eq_true,beq_iff_eq,Bool.not_eq_true'] at this
     rw[hX (i,k) hd hi] at this
     exact⟨fun q hq=>by have:=this.1 q hq;simpa using this,fun _=>this.2⟩
    ·intro listed x a w K' hsz hui hR hag hK'
     rw[← hsc] at hag
     exact z7 ht hok hdk hu hca hg hp hB hRR hsz hkl hR hag hK'
    ·rintro Ek ⟨v,s1,hG,rfl⟩
     obtain⟨hch,hRX'⟩:=hK v s1 hG
     refine next (hU v ks chg d s1.heap) _ ?_ (chk_ok _ hch) hRX'
     obtain⟨k1,k2,k3,k4⟩:=hRR v s1 hG
     have:=eE (s:=sc) (H:=s1.heap++cN sc.heap ks) (n:=sc.nx+d) (k:=d) (d:=o.dst) (r:=some v) (w:=chg.map fun p=>(p,assoc s1.heap p)) (fun p=>?_) rfl
     ·exact this
     ·exact qE hp k3 k4 p
def rxS (ops:Array Oper)(ord:List Nat)(dyn:List (Nat×Nat)):Bool:=rG ops ord dyn && sZ ops ord
theorem T.rx0 (ht:aF P aj)(hm:P.follows .mixedOrders=true){id:Nat}{Q:Exit→St→Prop}(ord:List Nat)(dyn:List (Nat×Nat))(hS:rxS ops ord dyn=true)
  (h:RX P aj C.nt ops s.nx dyn (Q .normal) ord (fun _=>default) ⟨s.env,s.heap,s.nx+ops.size⟩):T P C (.region id ops true) s Q:=by
 intro a w ⟨σ,hr⟩
 simp only[rxS,rG,Bool.and_eq_true,decide_eq_true_eq,List.all_eq_true,List.contains_eq_mem] at hS
 obtain⟨⟨⟨⟨⟨hn,hcov⟩,hlt⟩,hox⟩,hpx⟩,hcw⟩:=hS
 have hcov':∀ j,j<ops.size→j∈ord:=fun j hj=>hcov j (List.mem_range.2 hj)
 have hlow:=hr.low
 have hstart:aH C σ ⟨s.env,s.heap,s.nx+ops.size⟩ a { w with drawn:=w.drawn+1 }:=by
  obtain⟨σ2,h2⟩:Rel C s a { w with drawn:=w.drawn+1 }:=Rel.drew ⟨σ,hr⟩
  exact⟨hr.kO,hr.tm,hr.os,hr.tape,hr.output,hr.size,hr.frame,fun t c hc=>(by
   obtain⟨v,k1,k2⟩:=hr.env t c hc
   exact⟨v,k1,VR.keep k8 c v (fun _ _=>rfl) k2⟩),fun o ob ho=>(by
   obtain⟨B,m1,m2,m3,m4,m5⟩:=hr.obj o ob ho
   refine⟨B,m1,m2,m3,m4,fun b hb=>?_⟩
   obtain⟨cur,n1,n2,n3,n4,n5,n6⟩:=m5 b hb
   exact⟨cur,n1,n2,n3,n4,n5,aQ.keep k8 _ _ (fun _ _=>rfl) n6⟩),hr.inj,fun o ho=>hr.nx o (by simp only at ho ⊢;omega),hr.ek,by simp only;omega,hr.new⟩
 refine wp_mono (Q:=fun e a' w'=>e=.normal∧∃ s',Q .normal s'∧Rel C s' a' w') (wp_region_any hm ?_) (fun e a' w' ⟨he,s',h1,hr'⟩=>⟨s',he ▸ h1,hr'⟩)
 refine HS ht hn hcov' hlt hox hpx hcw (N:=s.nx) hlow (x0:=fs ⟨s.env,s.heap,s.nx+ops.size⟩) (K:=Q .normal) (Q':=fun e a' w'=>e=.normal∧∃ s',Q .normal s'∧Rel C s' a' w') (fun s' a w h1 h2=>⟨rfl,s',h1,h2⟩)
  ord [] [] (fun _=>default) (fun _=>default) _ rfl rfl (fun p i q h=>by simp at h) (fun i hi=>by cases hi) (fun p i q h=>by simp at h) (fun _ _ _=>rfl) h ops.size _ _ _ (by simp) ?_ (fun j _=>iy _ _) ?_ ?_
 ·intro j oj _ hl
  rw[iy] at hl;cases hl
 ·have:ord.length=ops.size:=by
   have h1:ord.Perm (List.range ops.size):=(List.perm_ext_iff_of_nodup hn List.nodup_range).2 fun j=>⟨fun hj=>List.mem_range.2 (hlt j hj),fun hj=>hcov' j (List.mem_range.1 hj)⟩
   simpa using h1.length_eq
  rw[← this,List.countP_eq_length]
  intro j _
  rw[iy];rfl
 ·exact⟨⟨_,σ,rfl,hstart,Nat.le_refl _,fun j hj _=>hr.nx _ (by omega)⟩,fun c hc=>by cases hc⟩
def nJ (aj:List (Nat×TI))(nt:Nat)(ops:Array Oper)(N:Nat)(dyn:List (Nat×Nat))(K:List Nat→(Nat→Er)→St→Prop):List Nat→(Nat→Er)→St→Prop
 | [],res,s=>K [] res s
 | i::r,res,s=>match ops[i]? with
  | none=>False
  | some o=>if (bV o).isSome && (bK ops s o == some true) then K (i::r) res s else
   if aW nt o.dst=true then match p9 aj [] ops q8 qZ N (N+ops.size) (N+i) s o with
    | none=>False
    | some x=>if CK dyn res i x=true then nJ aj nt ops N dyn K r (note dyn res i x) (I5 o.dst x.1 s) else False
   else False
def Dt (P:Program)(aj:List (Nat×TI))(nt:Nat)(ops:Array Oper)(N:Nat)(dyn:List (Nat×Nat))(K:St→Prop):List Nat→(Nat→Er)→St→Prop
 | [],_,s=>K s
 | i::r,res,s=>RX P aj nt ops N dyn K (i::r) res s
theorem RX.go {nt N:Nat}{dyn:List (Nat×Nat)}{K:St→Prop}:∀ {l:List Nat} {res:Nat→Er} {s:St},nJ aj nt ops N dyn (Dt P aj nt ops N dyn K) l res s→RX P aj nt ops N dyn K l res s
 | [],_,_,h=>h
 | i::r,res,s,h=>by
  simp only[nJ] at h
  split at h
  ·exact h.elim
  ·rename_i o ho
   split at h
   ·exact h
   ·split at h
    ·rename_i hd
     split at h
     ·exact h.elim
     ·rename_i x hx
      split at h
      ·rename_i hc
       exact⟨o,ho,hd,.inl ⟨x,hx,hc,RX.go h⟩⟩
      ·exact h.elim
    ·exact h.elim
theorem T.rx (ht:aF P aj)(hm:P.follows .mixedOrders=true){id:Nat}{l:List Oper}{Q:Exit→St→Prop}(ord:List Nat)(dyn:List (Nat×Nat))(hS:rxS l.toArray ord dyn=true)
  (h:nJ aj C.nt l.toArray s.nx dyn (Dt P aj C.nt l.toArray s.nx dyn (Q .normal)) ord (fun _=>default) ⟨s.env,s.heap,s.nx+l.toArray.size⟩):T P C (.region id l.toArray true) s Q:=
 T.rx0 ht hm ord dyn hS (RX.go h)
variable {nt N:Nat}{dyn:List (Nat×Nat)}{K:St→Prop}{i:Nat}{r:List Nat}{res:Nat→Er}
theorem RX.E7 {o:Oper}{cl:Call}{g:FuncId}{cs:List CV}{G:CV→Prop}(hi:ops[i]? = Option.some o)(hd:aW nt o.dst=true)(hg:bK ops s o=Option.some true)(hu:bV o=Option.some cl)(hca:aK s cl=Option.some (g,cs))(ht:trees cs=true)(hP:kT P g cs G)
  (hK:∀ v,G v→nJ aj nt ops N dyn (Dt P aj nt ops N dyn K) r (note dyn res i (j7 v)) (s.put o.dst v)):RX P aj nt ops N dyn K (i::r) res s:=
 ⟨o,hi,hd,.inr ⟨hg,cl,g,cs,hu,hca,.inl ⟨ht,G,hP,fun v hv=>RX.go (hK v hv)⟩⟩⟩
theorem RX.call {o:Oper}{cl:Call}{g:FuncId}{cs:List CV}{v:CV}(hi:ops[i]? = Option.some o)(hd:aW nt o.dst=true)(hg:bK ops s o=Option.some true)(hu:bV o=Option.some cl)(hca:aK s cl=Option.some (g,cs))(ht:trees cs=true)(hP:ah P g cs v)
  (hK:nJ aj nt ops N dyn (Dt P aj nt ops N dyn K) r (note dyn res i (j7 v)) (s.put o.dst v)):RX P aj nt ops N dyn K (i::r) res s:=
 RX.E7 hi hd hg hu hca ht (hP.toP (G:=fun x=>x=v) rfl) fun x hx=>by rw[hx];exact hK
theorem RX.E8 {o:Oper}{cl:Call}{g:FuncId}{cs:List CV}{R:CV→St→Prop}(ks chg:List Nat){H:List (Nat×Ob)}(n:Nat)(hi:ops[i]? = Option.some o)(hd:aW nt o.dst=true)(hg:bK ops s o=Option.some true)(hu:bV o=Option.some cl)(hca:aK s cl=Option.some (g,cs))
  (hp:dE s.heap ks=Option.some H) (hn:n≤s.nx) (ha:aC n cs=true) (hH:cF n H=true) (hb:Body P aj g cs H n R) (hv:wN dyn res i ks=true) (hc:(chg.all fun p=>ks.contains p)=true)
  (hR:∀ v s1,R v s1→s1.nx=n∧jr ks s1.heap=true∧∀ p,p∉chg→assoc s1.heap p=assoc H p)
  (hK:∀ v s1,R v s1→CK dyn res i (hD v ks chg s1.heap)=true∧nJ aj nt ops N dyn (Dt P aj nt ops N dyn K) r (note dyn res i (hD v ks chg s1.heap)) (St.put ⟨s.env,s1.heap++cN s.heap ks,s.nx⟩ o.dst v)):RX P aj nt ops N dyn K (i::r) res s:=by
 refine⟨o,hi,hd,.inr ⟨hg,cl,g,cs,hu,hca,.inr (.inl ⟨ks,chg,H,_,hp,hb.lift hn ha hH (fun v s h=>(hR v s h).1),hv,?_,?_⟩)⟩⟩
 ·rintro v s2 ⟨s1,h1,rfl⟩
  obtain⟨k1,k2,k3⟩:=hR v s1 h1
  exact⟨rfl,k2,k3,fun p hp=>by have:=List.all_eq_true.1 hc p hp;simpa using this⟩
 ·rintro v s2 ⟨s1,h1,rfl⟩
  obtain⟨k1,k2⟩:=hK v s1 h1
  exact⟨k1,RX.go k2⟩
@[congr] theorem HR {Kx:List Nat→(Nat→Er)→St→Prop}{s s':St}{res res':Nat→Er}{l:List Nat}(h:s=s')(h2:res=res'):nJ aj nt ops N dyn Kx l res s=nJ aj nt ops N dyn Kx l res' s':=by rw[h,h2]
@[congr] theorem RX_congr {s s':St}{res res':Nat→Er}{l:List Nat}(h:s=s')(h2:res=res'):RX P aj nt ops N dyn K l res s=RX P aj nt ops N dyn K l res' s':=by rw[h,h2]
end
end Go.Can
namespace Go.Can
@[reducible] def iR (r0:CV)(H:List (Nat×Ob))(n:Nat):CV→St→Prop:=fun r s=>r=r0∧s.heap=H∧s.nx=n
section
variable {P:Program}{C:Cx}{s:St}{ops:Array Oper}{aj:List (Nat×TI)}
theorem TL.cr (ht0:aF P aj){o:Oper}{l:List Oper}{c:Call}{g:FuncId}{cs:List CV}{K:St→Prop}{r0:CV}{H1:List (Nat×Ob)}(ks:List Nat){H:List (Nat×Ob)}(n:Nat)(hb:Body P aj g cs H n (iR r0 H1 n))(hd:aW C.nt o.dst=true)(hg:bK ops s o=Option.some true)(ho:o.op=.call c)(hca:aK s c=Option.some (g,cs))
  (hp:dE s.heap ks=Option.some H) (hn:n≤s.nx) (ha:aC n cs=true) (hH:cF n H=true) (hk:jr ks H1=true)
  (hK:TL P C ops l (St.put ⟨s.env,H1++cN s.heap ks,s.nx⟩ o.dst r0) K):TL P C ops (o::l) s K:=
 TL.E8 ht0 ks n hd hg ho hca hp hn ha hH hb (fun r s1 h=>⟨h.2.2,by rw[h.2.1];exact hk⟩) fun r s1 h=>by rw[h.1,h.2.1];exact hK
variable {nt N:Nat}{dyn:List (Nat×Nat)}{K:St→Prop}{i:Nat}{r:List Nat}{res:Nat→Er}
theorem RX.cr {o:Oper}{cl:Call}{g:FuncId}{cs:List CV}{r0:CV}{H1:List (Nat×Ob)}(ks chg:List Nat){H:List (Nat×Ob)}(n:Nat)(hb:Body P aj g cs H n (iR r0 H1 n))(hi:ops[i]? = Option.some o)(hd:aW nt o.dst=true)(hg:bK ops s o=Option.some true)(hu:bV o=Option.some cl)(hca:aK s cl=Option.some (g,cs))
  (hp:dE s.heap ks=Option.some H) (hn:n≤s.nx) (ha:aC n cs=true) (hH:cF n H=true) (hk:jr ks H1=true) (hv:wN dyn res i ks=true) (hc:(chg.all fun p=>ks.contains p)=true) (hs:∀ p∈ks,p∉chg→assoc H1 p=assoc H p)
  (hK:CK dyn res i (hD r0 ks chg H1)=true∧nJ aj nt ops N dyn (Dt P aj nt ops N dyn K) r (note dyn res i (hD r0 ks chg H1)) (St.put ⟨s.env,H1++cN s.heap ks,s.nx⟩ o.dst r0)):RX P aj nt ops N dyn K (i::r) res s:=by
 refine RX.E8 ks chg n hi hd hg hu hca hp hn ha hH hb hv hc (fun v s1 h=>⟨h.2.2,by rw[h.2.1];exact hk,fun p hp'=>?_⟩) fun v s1 h=>by rw[h.1,h.2.1];exact hK
 rw[h.2.1]
 by_cases hm:p∈ks
 ·exact hs p hm hp'
 ·obtain⟨i1,_⟩:=jl hp
  have h1:assoc H p=none:=by
   cases h2:assoc H p with
   | none=>rfl
   | some y=>exact (hm (i1 p y h2).1).elim
  have h2:assoc H1 p=none:=by
   cases h3:assoc H1 p with
   | none=>rfl
   | some y=>exact (hm (pV hk p y h3)).elim
  rw[h1,h2]
theorem Body.ret {f:FuncId}{args:List CV}{H:List (Nat×Ob)}{n:Nat}{R R':CV→St→Prop}(h:Body P aj f args H n R)(hR:∀ r s,R r s→R' r s):Body P aj f args H n R':=by
 obtain⟨fn,c,h1,h2,h3,h4,h5⟩:=h
 have key:∀ (C:Cx) s,ae C (fun s'=>∃ r,bb aj fn s'=some r∧R r s') s→ae C (fun s'=>∃ r,bb aj fn s'=some r∧R' r s') s:=fun C s ⟨s',⟨r,q1,q2⟩,hl⟩=>⟨s',⟨r,q1,hR r s' q2⟩,hl⟩
 refine⟨fn,c,h1,h2,h3,h4,fun C hC hC0=>T.mono (h5 C hC hC0) fun e s q=>?_⟩
 cases e with
 | normal=>exact key C s q
 | ret=>exact key C s q
 | _=>exact q
end
def oN:Option CV→List Nat
 | some v=>ka v
 | none=>[]
def oNO (s:St):Option Operand→List Nat
 | some x=>oN (ev s x)
 | none=>[]
theorem DA (s:St)(op:Op):F3 s op=op.operands.toList.flatMap fun x=>oN (ev s x):=rfl
theorem Dz (s:St)(t:TypeId)(x:Operand):F3 s (.load t x)=oN (ev s x):=by
 rw[DA]
 exact List.append_nil _
theorem BN (s:St)(t:TypeId)(x:Operand)(a b c:Option Operand):F3 s (.slice t x a b c)=oN (ev s x)++oNO s a++oNO s b++oNO s c:=by
 rw[DA]
 cases a<;>cases b<;>cases c<;>simp[Op.operands,oNO]
@[simp] theorem ep (a b:Nat):((a:Int) == (b:Int))=decide (a=b):=by
 by_cases h:a=b
 ·simp[h]
 ·have:¬ (a:Int)=(b:Int):=by omega
  simp only[h,decide_false]
  exact beq_eq_false_iff_ne.2 this
@[simp] theorem natbeq_0 (a:Nat):((a:Int) == 0)=decide (a=0):=ep a 0
@[simp] theorem natbeq_1 (a:Nat):((a:Int) == 1)=decide (a=1):=ep a 1
@[simp] theorem natbeq_2 (a:Nat):((a:Int) == 2)=decide (a=2):=ep a 2
@[simp] theorem natbeq_3 (a:Nat):((a:Int) == 3)=decide (a=3):=ep a 3
@[simp] theorem natbeq_4 (a:Nat):((a:Int) == 4)=decide (a=4):=ep a 4
@[simp] theorem natbeq_5 (a:Nat):((a:Int) == 5)=decide (a=5):=ep a 5
@[simp] theorem natbeq_6 (a:Nat):((a:Int) == 6)=decide (a=6):=ep a 6
@[simp] theorem natbeq_7 (a:Nat):((a:Int) == 7)=decide (a=7):=ep a 7
@[simp] theorem natbeq_8 (a:Nat):((a:Int) == 8)=decide (a=8):=ep a 8
@[simp] theorem natbeq_9 (a:Nat):((a:Int) == 9)=decide (a=9):=ep a 9
@[simp] theorem JQ (a:Nat):((a:Int) == 10)=decide (a=10):=ep a 10
@[simp] theorem JP (a:Nat):((a:Int) == 11)=decide (a=11):=ep a 11
@[simp] theorem JO (a:Nat):((a:Int) == 12)=decide (a=12):=ep a 12
@[simp] theorem JN (a:Nat):((a:Int) == 13)=decide (a=13):=ep a 13
@[simp] theorem JM (a:Nat):((a:Int) == 14)=decide (a=14):=ep a 14
@[simp] theorem JL (a:Nat):((a:Int) == 15)=decide (a=15):=ep a 15
@[simp] theorem JK (a:Nat):((a:Int) == 16)=decide (a=16):=ep a 16
@[simp] theorem JJ (a:Nat):((a:Int) == 17)=decide (a=17):=ep a 17
@[simp] theorem JI (a:Nat):((a:Int) == 18)=decide (a=18):=ep a 18
@[simp] theorem JH (a:Nat):((a:Int) == 19)=decide (a=19):=ep a 19
@[simp] theorem natlt_2 (a:Nat):((a:Int)<2)=(a<2):=by rw[eq_iff_iff];omega
@[simp] theorem natle_2 (a:Nat):((a:Int)≤2)=(a≤2):=by rw[eq_iff_iff];omega
@[simp] theorem natgt_2 (a:Nat):(2<(a:Int))=(2<a):=by rw[eq_iff_iff];omega
@[simp] theorem natge_2 (a:Nat):(2≤(a:Int))=(2≤a):=by rw[eq_iff_iff];omega
@[simp] theorem nateq_2 (a:Nat):((a:Int)=2)=(a=2):=by rw[eq_iff_iff];omega
@[simp] theorem natlt_3 (a:Nat):((a:Int)<3)=(a<3):=by rw[eq_iff_iff];omega
@[simp] theorem natle_3 (a:Nat):((a:Int)≤3)=(a≤3):=by rw[eq_iff_iff];omega
@[simp] theorem natgt_3 (a:Nat):(3<(a:Int))=(3<a):=by rw[eq_iff_iff];omega
@[simp] theorem natge_3 (a:Nat):(3≤(a:Int))=(3≤a):=by rw[eq_iff_iff];omega
@[simp] theorem nateq_3 (a:Nat):((a:Int)=3)=(a=3):=by rw[eq_iff_iff];omega
@[simp] theorem natlt_4 (a:Nat):((a:Int)<4)=(a<4):=by rw[eq_iff_iff];omega
@[simp] theorem natle_4 (a:Nat):((a:Int)≤4)=(a≤4):=by rw[eq_iff_iff];omega
@[simp] theorem natgt_4 (a:Nat):(4<(a:Int))=(4<a):=by rw[eq_iff_iff];omega
@[simp] theorem natge_4 (a:Nat):(4≤(a:Int))=(4≤a):=by rw[eq_iff_iff];omega
@[simp] theorem nateq_4 (a:Nat):((a:Int)=4)=(a=4):=by rw[eq_iff_iff];omega
@[simp] theorem natlt_5 (a:Nat):((a:Int)<5)=(a<5):=by rw[eq_iff_iff];omega
@[simp] theorem natle_5 (a:Nat):((a:Int)≤5)=(a≤5):=by rw[eq_iff_iff];omega
@[simp] theorem natgt_5 (a:Nat):(5<(a:Int))=(5<a):=by rw[eq_iff_iff];omega
@[simp] theorem natge_5 (a:Nat):(5≤(a:Int))=(5≤a):=by rw[eq_iff_iff];omega
@[simp] theorem nateq_5 (a:Nat):((a:Int)=5)=(a=5):=by rw[eq_iff_iff];omega
@[simp] theorem natlt_6 (a:Nat):((a:Int)<6)=(a<6):=by rw[eq_iff_iff];omega
@[simp] theorem natle_6 (a:Nat):((a:Int)≤6)=(a≤6):=by rw[eq_iff_iff];omega
@[simp] theorem natgt_6 (a:Nat):(6<(a:Int))=(6<a):=by rw[eq_iff_iff];omega
@[simp] theorem natge_6 (a:Nat):(6≤(a:Int))=(6≤a):=by rw[eq_iff_iff];omega
@[simp] theorem nateq_6 (a:Nat):((a:Int)=6)=(a=6):=by rw[eq_iff_iff];omega
@[simp] theorem natlt_7 (a:Nat):((a:Int)<7)=(a<7):=by rw[eq_iff_iff];omega
@[simp] theorem natle_7 (a:Nat):((a:Int)≤7)=(a≤7):=by rw[eq_iff_iff];omega
@[simp] theorem natgt_7 (a:Nat):(7<(a:Int))=(7<a):=by rw[eq_iff_iff];omega
@[simp] theorem natge_7 (a:Nat):(7≤(a:Int))=(7≤a):=by rw[eq_iff_iff];omega
@[simp] theorem nateq_7 (a:Nat):((a:Int)=7)=(a=7):=by rw[eq_iff_iff];omega
@[simp] theorem natlt_8 (a:Nat):((a:Int)<8)=(a<8):=by rw[eq_iff_iff];omega
@[simp] theorem natle_8 (a:Nat):((a:Int)≤8)=(a≤8):=by rw[eq_iff_iff];omega
@[simp] theorem natgt_8 (a:Nat):(8<(a:Int))=(8<a):=by rw[eq_iff_iff];omega
@[simp] theorem natge_8 (a:Nat):(8≤(a:Int))=(8≤a):=by rw[eq_iff_iff];omega
@[simp] theorem nateq_8 (a:Nat):((a:Int)=8)=(a=8):=by rw[eq_iff_iff];omega
@[simp] theorem natlt_9 (a:Nat):((a:Int)<9)=(a<9):=by rw[eq_iff_iff];omega
@[simp] theorem natle_9 (a:Nat):((a:Int)≤9)=(a≤9):=by rw[eq_iff_iff];omega
@[simp] theorem natgt_9 (a:Nat):(9<(a:Int))=(9<a):=by rw[eq_iff_iff];omega
@[simp] theorem natge_9 (a:Nat):(9≤(a:Int))=(9≤a):=by rw[eq_iff_iff];omega
@[simp] theorem nateq_9 (a:Nat):((a:Int)=9)=(a=9):=by rw[eq_iff_iff];omega
@[simp] theorem natlt_10 (a:Nat):((a:Int)<10)=(a<10):=by rw[eq_iff_iff];omega
@[simp] theorem natle_10 (a:Nat):((a:Int)≤10)=(a≤10):=by rw[eq_iff_iff];omega
@[simp] theorem natgt_10 (a:Nat):(10<(a:Int))=(10<a):=by rw[eq_iff_iff];omega
@[simp] theorem natge_10 (a:Nat):(10≤(a:Int))=(10≤a):=by rw[eq_iff_iff];omega
@[simp] theorem nateq_10 (a:Nat):((a:Int)=10)=(a=10):=by rw[eq_iff_iff];omega
@[simp] theorem natlt_11 (a:Nat):((a:Int)<11)=(a<11):=by rw[eq_iff_iff];omega
@[simp] theorem natle_11 (a:Nat):((a:Int)≤11)=(a≤11):=by rw[eq_iff_iff];omega
@[simp] theorem natgt_11 (a:Nat):(11<(a:Int))=(11<a):=by rw[eq_iff_iff];omega
@[simp] theorem natge_11 (a:Nat):(11≤(a:Int))=(11≤a):=by rw[eq_iff_iff];omega
@[simp] theorem nateq_11 (a:Nat):((a:Int)=11)=(a=11):=by rw[eq_iff_iff];omega
@[simp] theorem natlt_12 (a:Nat):((a:Int)<12)=(a<12):=by rw[eq_iff_iff];omega
@[simp] theorem natle_12 (a:Nat):((a:Int)≤12)=(a≤12):=by rw[eq_iff_iff];omega
@[simp] theorem natgt_12 (a:Nat):(12<(a:Int))=(12<a):=by rw[eq_iff_iff];omega
@[simp] theorem natge_12 (a:Nat):(12≤(a:Int))=(12≤a):=by rw[eq_iff_iff];omega
@[simp] theorem nateq_12 (a:Nat):((a:Int)=12)=(a=12):=by rw[eq_iff_iff];omega
@[simp] theorem natlt_13 (a:Nat):((a:Int)<13)=(a<13):=by rw[eq_iff_iff];omega
@[simp] theorem natle_13 (a:Nat):((a:Int)≤13)=(a≤13):=by rw[eq_iff_iff];omega
@[simp] theorem natgt_13 (a:Nat):(13<(a:Int))=(13<a):=by rw[eq_iff_iff];omega
@[simp] theorem natge_13 (a:Nat):(13≤(a:Int))=(13≤a):=by rw[eq_iff_iff];omega
@[simp] theorem nateq_13 (a:Nat):((a:Int)=13)=(a=13):=by rw[eq_iff_iff];omega
@[simp] theorem natlt_14 (a:Nat):((a:Int)<14)=(a<14):=by rw[eq_iff_iff];omega
@[simp] theorem natle_14 (a:Nat):((a:Int)≤14)=(a≤14):=by rw[eq_iff_iff];omega
@[simp] theorem natgt_14 (a:Nat):(14<(a:Int))=(14<a):=by rw[eq_iff_iff];omega
@[simp] theorem natge_14 (a:Nat):(14≤(a:Int))=(14≤a):=by rw[eq_iff_iff];omega
@[simp] theorem nateq_14 (a:Nat):((a:Int)=14)=(a=14):=by rw[eq_iff_iff];omega
@[simp] theorem natlt_15 (a:Nat):((a:Int)<15)=(a<15):=by rw[eq_iff_iff];omega
@[simp] theorem natle_15 (a:Nat):((a:Int)≤15)=(a≤15):=by rw[eq_iff_iff];omega
@[simp] theorem natgt_15 (a:Nat):(15<(a:Int))=(15<a):=by rw[eq_iff_iff];omega
@[simp] theorem natge_15 (a:Nat):(15≤(a:Int))=(15≤a):=by rw[eq_iff_iff];omega
@[simp] theorem nateq_15 (a:Nat):((a:Int)=15)=(a=15):=by rw[eq_iff_iff];omega
@[simp] theorem natlt_16 (a:Nat):((a:Int)<16)=(a<16):=by rw[eq_iff_iff];omega
@[simp] theorem natle_16 (a:Nat):((a:Int)≤16)=(a≤16):=by rw[eq_iff_iff];omega
@[simp] theorem natgt_16 (a:Nat):(16<(a:Int))=(16<a):=by rw[eq_iff_iff];omega
@[simp] theorem natge_16 (a:Nat):(16≤(a:Int))=(16≤a):=by rw[eq_iff_iff];omega
@[simp] theorem nateq_16 (a:Nat):((a:Int)=16)=(a=16):=by rw[eq_iff_iff];omega
@[simp] theorem natlt_17 (a:Nat):((a:Int)<17)=(a<17):=by rw[eq_iff_iff];omega
@[simp] theorem natle_17 (a:Nat):((a:Int)≤17)=(a≤17):=by rw[eq_iff_iff];omega
@[simp] theorem natgt_17 (a:Nat):(17<(a:Int))=(17<a):=by rw[eq_iff_iff];omega
@[simp] theorem natge_17 (a:Nat):(17≤(a:Int))=(17≤a):=by rw[eq_iff_iff];omega
@[simp] theorem nateq_17 (a:Nat):((a:Int)=17)=(a=17):=by rw[eq_iff_iff];omega
@[simp] theorem natlt_18 (a:Nat):((a:Int)<18)=(a<18):=by rw[eq_iff_iff];omega
@[simp] theorem natle_18 (a:Nat):((a:Int)≤18)=(a≤18):=by rw[eq_iff_iff];omega
@[simp] theorem natgt_18 (a:Nat):(18<(a:Int))=(18<a):=by rw[eq_iff_iff];omega
@[simp] theorem natge_18 (a:Nat):(18≤(a:Int))=(18≤a):=by rw[eq_iff_iff];omega
@[simp] theorem nateq_18 (a:Nat):((a:Int)=18)=(a=18):=by rw[eq_iff_iff];omega
@[simp] theorem natlt_19 (a:Nat):((a:Int)<19)=(a<19):=by rw[eq_iff_iff];omega
@[simp] theorem natle_19 (a:Nat):((a:Int)≤19)=(a≤19):=by rw[eq_iff_iff];omega
@[simp] theorem natgt_19 (a:Nat):(19<(a:Int))=(19<a):=by rw[eq_iff_iff];omega
@[simp] theorem natge_19 (a:Nat):(19≤(a:Int))=(19≤a):=by rw[eq_iff_iff];omega
@[simp] theorem nateq_19 (a:Nat):((a:Int)=19)=(a=19):=by rw[eq_iff_iff];omega
@[simp] theorem natlt_20 (a:Nat):((a:Int)<20)=(a<20):=by rw[eq_iff_iff];omega
@[simp] theorem natle_20 (a:Nat):((a:Int)≤20)=(a≤20):=by rw[eq_iff_iff];omega
@[simp] theorem natgt_20 (a:Nat):(20<(a:Int))=(20<a):=by rw[eq_iff_iff];omega
@[simp] theorem natge_20 (a:Nat):(20≤(a:Int))=(20≤a):=by rw[eq_iff_iff];omega
@[simp] theorem nateq_20 (a:Nat):((a:Int)=20)=(a=20):=by rw[eq_iff_iff];omega
@[simp] theorem natlt_24 (a:Nat):((a:Int)<24)=(a<24):=by rw[eq_iff_iff];omega
@[simp] theorem natle_24 (a:Nat):((a:Int)≤24)=(a≤24):=by rw[eq_iff_iff];omega
@[simp] theorem natgt_24 (a:Nat):(24<(a:Int))=(24<a):=by rw[eq_iff_iff];omega
@[simp] theorem natge_24 (a:Nat):(24≤(a:Int))=(24≤a):=by rw[eq_iff_iff];omega
@[simp] theorem nateq_24 (a:Nat):((a:Int)=24)=(a=24):=by rw[eq_iff_iff];omega
@[simp] theorem natlt_26 (a:Nat):((a:Int)<26)=(a<26):=by rw[eq_iff_iff];omega
@[simp] theorem natle_26 (a:Nat):((a:Int)≤26)=(a≤26):=by rw[eq_iff_iff];omega
@[simp] theorem natgt_26 (a:Nat):(26<(a:Int))=(26<a):=by rw[eq_iff_iff];omega
@[simp] theorem natge_26 (a:Nat):(26≤(a:Int))=(26≤a):=by rw[eq_iff_iff];omega
@[simp] theorem nateq_26 (a:Nat):((a:Int)=26)=(a=26):=by rw[eq_iff_iff];omega
@[simp] theorem natlt_36 (a:Nat):((a:Int)<36)=(a<36):=by rw[eq_iff_iff];omega
@[simp] theorem natle_36 (a:Nat):((a:Int)≤36)=(a≤36):=by rw[eq_iff_iff];omega
@[simp] theorem natgt_36 (a:Nat):(36<(a:Int))=(36<a):=by rw[eq_iff_iff];omega
@[simp] theorem natge_36 (a:Nat):(36≤(a:Int))=(36≤a):=by rw[eq_iff_iff];omega
@[simp] theorem nateq_36 (a:Nat):((a:Int)=36)=(a=36):=by rw[eq_iff_iff];omega
@[simp] theorem nateq_1 (a:Nat):((a:Int)=1)=(a=1):=by rw[eq_iff_iff];omega
@[simp] theorem natlt_1 (a:Nat):((a:Int)<1)=(a<1):=by rw[eq_iff_iff];omega
attribute [simp] nJ Dt CK wN note xh hD j7 la zp qy
attribute [simp] Bc pj bytesOf p9 bK bV iQ pt mC DB Dz BN oN oNO ka px xP rmL I5 cA oe IS
end Go.Can
