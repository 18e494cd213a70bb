/- **A region that draws, walked in one order, calls by their c -/
import Derived.Test.YtnecpnjdonibmaaGreatZ14
namespace Go.Can
section
variable {P:Program}{C:Cx}{s:St}{ops:Array Oper}{ak:List (Nat×TI)}
theorem Mt (ht:aG P ak){ord:List Nat}{dyn:List (Nat×Nat)}(hn:ord.Nodup)(Rb:∀ j,j<ops.size→j∈ord)(O1:∀ i∈ord,i<ops.size)(YW:HS ops [] ord=true)(XV:vg ops dyn ord=true)(hcw:vX ops ord=true)
  {N:Nat} (X7:C.n0≤N) {x0:FS} {K:St→Prop} {Q':Exit→Act→World→Prop} (hQ:∀ s' a w,K s'→Rel C s' a w→Q' .normal a w) :
  ∀ (rest pre cl:List Nat) (res R2:Nat→Er) (sc:St),ord=pre++rest→fs sc=bS (bU ops) (fun j=>(res j).1) (fun _=>true) pre x0 →
   (∀ p i q,pre=p++i::q→i∈cl∨Fn ak C.nt ops N res i (bS (bU ops) (fun j=>(res j).1) (fun _=>true) p x0)) →
   (∀ i∈cl,∃ o c,ops[i]? = some o∧ck o=some c) →
   (∀ p i q,pre=p++i::q→∀ j∈q,EU ops j i∨Gm (bU ops i) (bU ops j) (res i).1 (res j).1 (wJ ops res i) (wJ ops res j)) →
   (∀ p∈dyn,p.1∈pre→R2 p.1=res p.1) →
   RX P ak C.nt ops N dyn K rest R2 sc →
   ∀ (m:Nat) (listed:Array Bool) (a:Act) (w:World),listed.size=ops.size→iS ops listed→(∀ j∈rest,listed.getD j false=false)→(ord.countP fun j=>!listed.getD j false)=m →
    Rr C N ops cl listed (bS (bU ops) (fun j=>(res j).1) (fun j=>listed.getD j false) pre x0) a w→wpAny P .any ops Q' m listed a w:=by
 have Tt:∀ pre i post,ord=pre++i::post→∀ oi,ops[i]? = some oi→∀ e∈oi.after,Region.binds .any e=true→e.on∈pre:=by
  intro pre i post ho oi Qo e he hb;rcases sb ord [] YW pre i post ho oi Qo e he hb with h1 | h1
  ·cases h1
  ·exact h1
 intro rest
 induction rest with
 | nil=>
  intro pre cl res R2 sc ho Vm hF hC hI hX ZN m listed a w O9 O7 Tq hc hR;rw[List.append_nil] at ho;subst ho;refine xn (P:=P) (ops:=ops) (ord:=ord) (dst:=bU ops) (E:=fun j=>(res j).1) (V:=wJ ops res) (x0:=x0) (R:=Rr C N ops cl) (Q':=Q') hn Rb O1 Tt hI ?_ ?_ m listed a w O9 O7 hc hR
  ·intro p i q ho listed x a w K O9 QM hR P9 hK;rcases hF p i q ho with h | h
   ·have:=hR.2 i h;rw[QM] at this;cases this
   ·exact El ht X7 h (O1 i (by rw[ho];simp)) O9 QM hR P9 hK
  ·rintro listed a w ⟨⟨s1,σ1,e1,PQ,_,_⟩,_⟩;exact hQ sc a w ZN ⟨σ1,PQ.I9 (by rw[e1,Vm])⟩
 | cons k r ih=>
  intro pre cl res R2 sc ho Vm hF hC hI hX ZN m listed a w O9 O7 Tq hc hR;obtain⟨o,Pe,Xr,ZN⟩:=ZN;have QY:=hn;rw[ho,List.nodup_append,List.nodup_cons] at QY;have Zf:k∉pre:=fun h=>QY.2.2 k h k OU rfl;have PD:k<ops.size:=O1 k (by rw[ho];simp);have Qv:bU ops k=o.dst:=by simp[bU,Pe]
  have Py:ord=(pre++[k])++r:=by rw[ho];simp
  have hun':∀ j∈r,listed.getD j false=false:=fun j hj=>Tq j (List.mem_cons_of_mem _ hj);have VP:listed.getD k false=false:=Tq k List.mem_cons_self
    /- the facts about the longer list, for whatever effect the operation has -/
  have P0:∀ (x:Er),∀ i∈pre,Ag res k x i=res i:=fun x i hi=>B8 _ _ fun e=>by subst e;exact Zf hi
  have RY:∀ (x:Er) (L:Nat→Bool) (p:List Nat) (y:FS),(∀ i∈p,i∈pre)→bS (bU ops) (fun j=>(Ag res k x j).1) L p y=bS (bU ops) (fun j=>(res j).1) L p y:=fun x L p y hp=>
   x7 p y fun i hi=>by rw[P0 x i (hp i hi)]
  have splits:∀ (p:List Nat) (i:Nat) (q:List Nat),pre++[k]=p++i::q→(p=pre∧i=k∧q=[])∨∃ q',q=q'++[k]∧pre=p++i::q':=by
   intro p i q h;rcases List.eq_nil_or_concat q with hq | ⟨q',z,hq⟩
   ·subst hq;have:=List.append_inj' h rfl;refine .inl ⟨this.1.symm,?_,rfl⟩
    simpa using this.2.symm
   ·rw[List.concat_eq_append] at hq;subst hq;have h':pre++[k]=(p++i::q')++[z]:=by rw[h];simp
    have:=List.append_inj' h' rfl;refine .inr ⟨q',?_,this.1⟩;rw[show z=k by simpa using this.2.symm]
  have Yo:∀ (p:List Nat) (i:Nat) (q:List Nat),pre=p++i::q→(∀ t∈p,t∈pre)∧i∈pre∧∀ t∈q,t∈pre:=fun p i q h=>by
   rw[h];exact⟨fun t ht=>by simp[ht],by simp,fun t ht=>by simp[ht]⟩
  have hX':∀ x:Er,∀ p∈dyn,p.1∈pre++[k]→note dyn R2 k x p.1=Ag res k x p.1:=fun x p hp hm=>by
   unfold note;rcases List.mem_append.1 hm with h1 | h1
   ·have Pf:p.1≠k:=fun e=>Zf (e ▸ h1);rw[B8 _ _ Pf];split
    ·rw[B8 _ _ Pf];exact hX p hp h1
    ·exact hX p hp h1
   ·have e:p.1=k:=by simpa using h1
    have hany:(dyn.any fun p=>p.1 == k)=true:=List.any_eq_true.2 ⟨p,hp,by simp[e]⟩;rw[if_pos hany,e,jc,jc]
  have facts:∀ (x:Er) (cl':List Nat),(∀ i∈cl,i∈cl')→(k∈cl'∨Fn ak C.nt ops N (Ag res k x) k (fs sc))→∀ p i q,pre++[k]=p++i::q→i∈cl'∨Fn ak C.nt ops N (Ag res k x) i (bS (bU ops) (fun j=>(Ag res k x j).1) (fun _=>true) p x0):=by
   intro x cl' Sf hk p i q h;rcases splits p i q h with ⟨rfl,rfl,_⟩ | ⟨q',rfl,h2⟩
   ·rcases hk with hk | hk
    ·exact .inl hk
    ·refine .inr ?_;rw[RY x _ p x0 fun i hi=>hi,← Vm];exact hk
   ·obtain⟨m1,m2,m3⟩:=Yo p i q' h2;rcases hF p i q' h2 with h3 | ⟨o,sm,a1,a2,a3,a4⟩
    ·exact .inl (Sf i h3)
    ·refine .inr ⟨o,sm,a1,a2,?_,?_⟩
     ·rw[P0 x i m2];exact a3
     ·rw[RY x _ p x0 m1];exact a4
  have Wj:∀ (x:Er),(∀ i∈pre,EU ops k i∨Gm (bU ops i) (bU ops k) (res i).1 x.1 (wJ ops res i) ⟨o.looksAt ops,x.2.1,x.2.2.1,x.2.2.2⟩) →
    ∀ p i q,pre++[k]=p++i::q→∀ j∈q,EU ops j i∨Gm (bU ops i) (bU ops j) (Ag res k x i).1 (Ag res k x j).1 (wJ ops (Ag res k x) i) (wJ ops (Ag res k x) j):=by
   intro x hx p i q h j hj;rcases splits p i q h with ⟨_,_,rfl⟩ | ⟨q',rfl,h2⟩
   ·cases hj
   ·obtain⟨m1,m2,m3⟩:=Yo p i q' h2;rw[P0 x i m2,ym (P0 x i m2)];rcases List.mem_append.1 hj with hj | hj
    ·rw[P0 x j (m3 j hj),ym (P0 x j (m3 j hj))];exact hI p i q' h2 j hj
    ·have:j=k:=by simpa using hj
     subst this;have hV:wJ ops (Ag res j x) j=⟨o.looksAt ops,x.2.1,x.2.2.1,x.2.2.2⟩:=by simp only[wJ,Pe,jc]
     rw[jc,hV];exact hx i m2
  have Tn:∀ i∈pre,i∈cl→EU ops k i:=fun i hi hc=>by
   obtain⟨oi,ci,b1,b2⟩:=hC i hc;obtain⟨p1,p2,hp⟩:=List.append_of_mem hi;exact gH _ _ _ (od ord hcw p1 i (p2++k::r) (by rw[ho,hp];simp) oi ci b1 b2 k OU)
  have pairs:∀ (x:Er),(gS o=false→x.1.w=[]∧x.1.k=0∧x.2.2.1=false∧x.2.2.2=none)→(lL o=true→x.2.1=[])→(∀ i∈pre,(i,k)∈dyn→mj (res i) x=true) →
    ∀ i∈pre,EU ops k i∨Gm (bU ops i) (bU ops k) (res i).1 x.1 (wJ ops res i) ⟨o.looksAt ops,x.2.1,x.2.2.1,x.2.2.2⟩:=by
   intro x h1 h2 h3 i hi;obtain⟨p1,p2,hp⟩:=List.append_of_mem hi;rcases hF p1 i p2 hp with h4 | h4
   ·exact .inl (Tn i hi h4)
   ·exact Km (kH ord XV p1 i (p2++k::r) (by rw[ho,hp];simp) k OU) h4 Pe h1 h2 (h3 i hi)
  have Tl:∀ x:Er,Gx dyn R2 k x=true→∀ i∈pre,(i,k)∈dyn→mj (res i) x=true:=fun x hx i hi hd=>by
   have:=List.all_eq_true.1 hx (i,k) hd;simp only[bne_self_eq_false,Bool.false_or] at this;rwa [hX (i,k) hd hi] at this
  rcases ZN with ⟨x,q1,q2,q3⟩ | ⟨hg,c,g,cs,hu,Ps,U5⟩
  ·/- no call -/
   refine ih (pre++[k]) cl (Ag res k x) (note dyn R2 k x) _ Py ?_ (facts x cl (fun _ h=>h) (.inr ⟨o,sc,Pe,Xr,by rw[jc];exact q1,rfl⟩)) hC (Wj x (pairs x (gP q1) (qo q1) (Tl x q2))) (hX' x) q3 m listed a w O9 O7 hun' hc ?_
   ·rw[zA,dL,RY x _ pre x0 fun i hi=>hi,← Vm];simp only[bS,jc,if_true,Qv]
   ·rw[dL,RY x _ pre x0 fun i hi=>hi];simp only[bS,VP,Bool.false_eq_true,if_false];exact hR
  ·have RU:∀ j∈r,EU ops j k:=fun j hj=>gH _ _ _ (od ord hcw pre k r ho o c Pe hu j hj);have UR:=Gc hu;have bq:∀ p i q,pre=p++i::q→∀ (listed:Array Bool) (x:FS) (a:Act) (w:World) (K:Act→World→Prop),listed.size=ops.size→listed.getD i false=false→Rr C N ops cl listed x a w→dI (wJ ops res i) x (bS (bU ops) (fun j=>(res j).1) (fun _=>true) p x0) →
     (∀ a' w',Rr C N ops cl (listed.setIfInBounds i true) (ap (bU ops i) (res i).1 x) a' w'→K a' w')→wpOp P ops Q' i K a w:=by
    intro p i q h listed x a w K O9 QM hR P9 hK;rcases hF p i q h with h1 | h1
    ·have:=hR.2 i h1;rw[QM] at this;cases this
    ·exact El ht X7 h1 (O1 i (by rw[ho,h];simp)) O9 QM hR P9 hK
   have view:∀ (vo:List Nat) (vn:Bool),(∀ i∈pre,(i,k)∈dyn→(∀ q∈(res i).1.w,q.1∉vo)∧(vn=true→(res i).1.k=0)) →
     ∀ i∈pre,EU ops k i∨∀ z,dI ⟨o.looksAt ops,vo,vn,none⟩ (ap (bU ops i) (res i).1 z) z:=by
    intro vo vn hv i hi;obtain⟨p1,p2,hp⟩:=List.append_of_mem hi;rcases hF p1 i p2 hp with h4 | h4
    ·exact .inl (Tn i hi h4)
    ·obtain⟨oi,sm,a1,a2,a3,a4⟩:=h4;have hp:=kH ord XV p1 i (p2++k::r) (by rw[ho,hp];simp) k OU;unfold xK at hp;rw[a1,Pe] at hp;simp only[Bool.or_eq_true,Bool.and_eq_true] at hp;rcases hp with hp | ⟨PJ,hp⟩
     ·exact .inl (gH _ _ _ hp)
     ·refine .inr fun z=>?_;obtain⟨b1,_,_⟩:=Oper.apart_spec PJ;have Sd:bU ops i=oi.dst:=by simp[bU,a1]
      have hq:(∀ o' y,assoc (res i).1.w o'=some y→o'∉vo)∧(vn=true→(res i).1.k=0):=by
       have quiet:gS oi=false→(∀ o' y,assoc (res i).1.w o'=some y→o'∉vo)∧(vn=true→(res i).1.k=0):=fun hl=>by
        obtain⟨u1,u2,_,_⟩:=gP a3 hl;exact⟨fun o' y h=>by rw[u1] at h;simp[assoc] at h,fun _=>u2⟩
       rcases hp with ((hp | hp) | hp) | hp
       ·obtain⟨c1,c2⟩:=hv i hi (by simpa using hp);exact⟨fun o' y h=>c1 _ (bD _ _ _ h),c2⟩
       ·simp only[Bool.not_eq_true'] at hp;exact quiet hp.1
       ·exact quiet (by simp only[lL,Bool.and_eq_true,Bool.not_eq_true'] at hp;exact hp.1)
       ·simp only[lL,Bool.and_eq_true,Bool.not_eq_true'] at hp;rw[UR] at hp;simp at hp
      exact ox (V:=⟨o.looksAt ops,vo,vn,none⟩) (by rw[Sd];exact b1) hq.1 hq.2 (fun _ h=>by cases h) z
   have next:∀ (x:Er) (sn:St),fs sn=ap o.dst x.1 (fs sc)→(∀ i∈pre,(i,k)∈dyn→mj (res i) x=true)→RX P ak C.nt ops N dyn K r (note dyn R2 k x) sn →
     ∀ (m:Nat) (listed:Array Bool) (a:Act) (w:World),listed.size=ops.size→iS ops listed→listed.getD k false=true→(∀ j∈r,listed.getD j false=false)→((pre++k::r).countP fun j=>!listed.getD j false)=m →
      Rr C N ops cl listed (ap (bU ops k) x.1 (bS (bU ops) (fun j=>(res j).1) (fun j=>listed.getD j false) pre x0)) a w→wpAny P .any ops Q' m listed a w:=by
    intro x sn hsn RN Va m listed a w O9 O7 PD Tq hc hR;refine ih (pre++[k]) (k::cl) (Ag res k x) (note dyn R2 k x) sn Py ?_ (facts x (k::cl) (fun i h=>List.mem_cons_of_mem _ h) (.inl List.mem_cons_self)) ?_ (Wj x (pairs x (fun h=>by rw[UR] at h;cases h) (fun h=>by simp[lL,UR] at h) RN)) (hX' x) Va m listed a w O9 O7 Tq (by rw[ho];exact hc) ?_
    ·rw[hsn,dL,RY x _ pre x0 fun i hi=>hi,← Vm];simp only[bS,jc,if_true,Qv]
    ·intro i hi;rcases List.mem_cons.1 hi with e | hi
     ·exact⟨o,c,by rw[e];exact Pe,hu⟩
     ·exact hC i hi
    ·rw[dL,RY x _ pre x0 fun i hi=>hi];simp only[bS,PD,if_true,jc];refine⟨hR.1,fun i hi=>?_⟩;rcases List.mem_cons.1 hi with e | hi
     ·rw[e];exact PD
     ·exact hR.2 i hi
   rw[ho] at hn hc;rcases U5 with ⟨QU,G,hP,hK⟩ | ⟨ks,du,H,R,hp,hB,hv,Vb,hK⟩ | ⟨ks,du,d,H,R,hp,hB,hv,Vb,hK⟩
   ·refine rM (P:=P) (pre:=pre) (r:=r) (k:=k) (dst:=bU ops) (E:=fun j=>(res j).1) (V:=wJ ops res) (Vk:=⟨o.looksAt ops,[],false,none⟩) (OUT:=fun Ek=>∃ v,G v∧Ek=(ld v).1) (x0:=x0) (R:=Rr C N ops cl) (Q':=Q') hn
     (fun j hj=>by rw[← ho];exact Rb j hj) (fun i hi=>O1 i (by rw[ho];exact hi)) (fun p i q h=>Tt p i q (ho.trans h)) hI RU (view [] false fun i _ _=>⟨fun _ _=>by simp,fun h=>by cases h⟩) bq ?_ ?_ m listed a w O9 O7 VP hc hR
    ·intro listed x a w K' O9 QM hR P9 ZR;rw[← Vm] at P9;exact Fv Pe Xr hu Ps hg QU hP O9 PD hR P9 ZR
    ·rintro Ek ⟨v,hG,rfl⟩;exact next (ld v) (sc.put o.dst v) (su _ _ _) (fun i _ _=>FR _ _) (hK v hG)
   ·refine rM (P:=P) (pre:=pre) (r:=r) (k:=k) (dst:=bU ops) (E:=fun j=>(res j).1) (V:=wJ ops res) (Vk:=⟨o.looksAt ops,ks,true,none⟩) (OUT:=fun Ek=>∃ v s1,R v s1∧Ek=(iO v ks du s1.heap).1) (x0:=x0) (R:=Rr C N ops cl) (Q':=Q') hn
     (fun j hj=>by rw[← ho];exact Rb j hj) (fun i hi=>O1 i (by rw[ho];exact hi)) (fun p i q h=>Tt p i q (ho.trans h)) hI RU (view ks true fun i hi hd=>?_) bq ?_ ?_ m listed a w O9 O7 VP hc hR
    ·have:=List.all_eq_true.1 hv (i,k) hd;simp only[bne_self_eq_false,Bool.false_or,Bool.and_eq_true,List.all_eq_true,beq_iff_eq,Bool.not_eq_true'] at this;rw[hX (i,k) hd hi] at this;exact⟨fun q hq=>by have:=this.1 q hq;simpa using this,fun _=>this.2⟩
    ·intro listed x a w K' O9 QM hR P9 ZR;rw[← Vm] at P9;exact Gg ht Pe Xr hu Ps hg hp hB Vb O9 PD hR P9 ZR
    ·rintro Ek ⟨v,s1,hG,rfl⟩;obtain⟨RN,Va⟩:=hK v s1 hG;refine next (iO v ks du s1.heap) _ ?_ (Tl _ RN) Va
     obtain⟨k1,k2,k3,k4⟩:=Vb v s1 hG;have:=eV (s:=sc) (H:=s1.heap++dx sc.heap ks) (n:=sc.nx) (k:=0) (d:=o.dst) (r:=some v) (w:=du.map fun p=>(p,assoc s1.heap p)) (fun p=>?_) rfl
     ·exact this
     ·exact wB hp k3 k4 p
   ·refine rM (P:=P) (pre:=pre) (r:=r) (k:=k) (dst:=bU ops) (E:=fun j=>(res j).1) (V:=wJ ops res) (Vk:=⟨o.looksAt ops,ks,true,none⟩) (OUT:=fun Ek=>∃ v s1,R v s1∧Ek=(iP v ks du d s1.heap).1) (x0:=x0) (R:=Rr C N ops cl) (Q':=Q') hn
     (fun j hj=>by rw[← ho];exact Rb j hj) (fun i hi=>O1 i (by rw[ho];exact hi)) (fun p i q h=>Tt p i q (ho.trans h)) hI RU (view ks true fun i hi hd=>?_) bq ?_ ?_ m listed a w O9 O7 VP hc hR
    ·have:=List.all_eq_true.1 hv (i,k) hd;simp only[bne_self_eq_false,Bool.false_or,Bool.and_eq_true,List.all_eq_true,beq_iff_eq,Bool.not_eq_true'] at this;rw[hX (i,k) hd hi] at this;exact⟨fun q hq=>by have:=this.1 q hq;simpa using this,fun _=>this.2⟩
    ·intro listed x a w K' O9 QM hR P9 ZR;rw[← Vm] at P9;exact C9 ht Pe Xr hu Ps hg hp hB Vb O9 PD hR P9 ZR
    ·rintro Ek ⟨v,s1,hG,rfl⟩;obtain⟨RN,Va⟩:=hK v s1 hG;refine next (iP v ks du d s1.heap) _ ?_ (Tl _ RN) Va
     obtain⟨k1,k2,k3,k4⟩:=Vb v s1 hG;have:=eV (s:=sc) (H:=s1.heap++dx sc.heap ks) (n:=sc.nx+d) (k:=d) (d:=o.dst) (r:=some v) (w:=du.map fun p=>(p,assoc s1.heap p)) (fun p=>?_) rfl
     ·exact this
     ·exact tj hp k3 k4 p
def rxS (ops:Array Oper)(ord:List Nat)(dyn:List (Nat×Nat)):Bool:=uN ops ord dyn && vX ops ord
theorem T.rx0 (ht:aG P ak)(hm:P.follows .mixedOrders=true){id:Nat}{Q:Exit→St→Prop}(ord:List Nat)(dyn:List (Nat×Nat))(hS:rxS ops ord dyn=true)
  (h:RX P ak C.nt ops s.nx dyn (Q .normal) ord (fun _=>default) ⟨s.env,s.heap,s.nx+ops.size⟩):T P C (.region id ops true) s Q:=by
 intro a w ⟨σ,hr⟩;simp only[rxS,uN,Bool.and_eq_true,decide_eq_true_eq,List.all_eq_true,List.contains_eq_mem] at hS;obtain⟨⟨⟨⟨⟨hn,Rb⟩,O1⟩,YW⟩,XV⟩,hcw⟩:=hS;have SL:∀ j,j<ops.size→j∈ord:=fun j hj=>Rb j (List.mem_range.2 hj);have R8:=hr.low;have S9:aM C σ ⟨s.env,s.heap,s.nx+ops.size⟩ a { w with drawn:=w.drawn+1 }:=by
  obtain⟨σ2,h2⟩:Rel C s a { w with drawn:=w.drawn+1 }:=Rel.drew ⟨σ,hr⟩;exact⟨hr.nk,hr.tm,hr.os,hr.tape,hr.output,hr.size,hr.frame,fun t c hc=>(by
   obtain⟨v,k1,k2⟩:=hr.env t c hc;exact⟨v,k1,VR.bk mh c v (fun _ _=>rfl) k2⟩),fun o ob ho=>(by
   obtain⟨B,m1,m2,m3,m4,m5⟩:=hr.obj o ob ho;refine⟨B,m1,m2,m3,m4,fun b hb=>?_⟩;obtain⟨cur,n1,n2,n3,n4,n5,n6⟩:=m5 b hb;exact⟨cur,n1,n2,n3,n4,n5,aS.bk mh _ _ (fun _ _=>rfl) n6⟩),hr.inj,fun o ho=>hr.nx o (by simp only at ho ⊢;omega),hr.fh,by simp only;omega,hr.new⟩
 refine wp_mono (Q:=fun e a' w'=>e=.normal∧∃ s',Q .normal s'∧Rel C s' a' w') (wp_region_any hm ?_) (fun e a' w' ⟨he,s',h1,Pp⟩=>⟨s',he ▸ h1,Pp⟩);refine Mt ht hn SL O1 YW XV hcw (N:=s.nx) R8 (x0:=fs ⟨s.env,s.heap,s.nx+ops.size⟩) (K:=Q .normal) (Q':=fun e a' w'=>e=.normal∧∃ s',Q .normal s'∧Rel C s' a' w') (fun s' a w h1 h2=>⟨rfl,s',h1,h2⟩)
  ord [] [] (fun _=>default) (fun _=>default) _ rfl rfl (fun p i q h=>by simp at h) (fun i hi=>by cases hi) (fun p i q h=>by simp at h) (fun _ _ _=>rfl) h ops.size _ _ _ OU ?_ (fun j _=>jl _ _) ?_ ?_
 ·intro j oj _ hl;rw[jl] at hl;cases hl
 ·have:ord.length=ops.size:=by
   have h1:ord.Perm (List.range ops.size):=(List.perm_ext_iff_of_nodup hn List.nodup_range).2 fun j=>⟨fun hj=>List.mem_range.2 (O1 j hj),fun hj=>SL j (List.mem_range.1 hj)⟩
   simpa using h1.length_eq
  rw[← this,List.countP_eq_length];intro j _;rw[jl];rfl
 ·exact⟨⟨_,σ,rfl,S9,Nat.le_refl _,fun j hj _=>hr.nx _ yA⟩,fun c hc=>by cases hc⟩
def pJ (ak:List (Nat×TI))(nt:Nat)(ops:Array Oper)(N:Nat)(dyn:List (Nat×Nat))(K:List Nat→(Nat→Er)→St→Prop):List Nat→(Nat→Er)→St→Prop
 | [],res,s=>K [] res s
 | i::r,res,s=>match ops[i]? with
  | none=>False
  | some o=>if (ck o).isSome && (bZ ops s o == some true) then K (i::r) res s else
   if a6 nt o.dst=true then match sw ak [] ops uq um N (N+ops.size) (N+i) s o with
    | none=>False
    | some x=>if Gx dyn res i x=true then pJ ak nt ops N dyn K r (note dyn res i x) (NL o.dst x.1 s) else False
   else False
def Hv (P:Program)(ak:List (Nat×TI))(nt:Nat)(ops:Array Oper)(N:Nat)(dyn:List (Nat×Nat))(K:St→Prop):List Nat→(Nat→Er)→St→Prop
 | [],_,s=>K s
 | i::r,res,s=>RX P ak nt ops N dyn K (i::r) res s
theorem RX.go {nt N:Nat}{dyn:List (Nat×Nat)}{K:St→Prop}:∀ {l:List Nat} {res:Nat→Er} {s:St},pJ ak nt ops N dyn (Hv P ak nt ops N dyn K) l res s→RX P ak nt ops N dyn K l res s
 | [],_,_,h=>h
 | i::r,res,s,h=>by
  simp only[pJ] at h;split at h
  ·exact h.elim
  ·rename_i o ho;split at h
   ·exact h
   ·split at h
    ·rename_i hd;split at h
     ·exact h.elim
     ·rename_i x hx;split at h
      ·rename_i hc;exact⟨o,ho,hd,.inl ⟨x,hx,hc,RX.go h⟩⟩
      ·exact h.elim
    ·exact h.elim
theorem T.rx (ht:aG P ak)(hm:P.follows .mixedOrders=true){id:Nat}{l:List Oper}{Q:Exit→St→Prop}(ord:List Nat)(dyn:List (Nat×Nat))(hS:rxS l.toArray ord dyn=true)
  (h:pJ ak C.nt l.toArray s.nx dyn (Hv P ak C.nt l.toArray s.nx dyn (Q .normal)) ord (fun _=>default) ⟨s.env,s.heap,s.nx+l.toArray.size⟩):T P C (.region id l.toArray true) s Q:=
 T.rx0 ht hm ord dyn hS (RX.go h)
variable {nt N:Nat}{dyn:List (Nat×Nat)}{K:St→Prop}{i:Nat}{r:List Nat}{res:Nat→Er}
theorem RX.Jm {o:Oper}{cl:Call}{g:FuncId}{cs:List CV}{G:CV→Prop}(hi:ops[i]? = Option.some o)(hd:a6 nt o.dst=true)(hg:bZ ops s o=Option.some true)(hu:ck o=Option.some cl)(Ps:bm s cl=Option.some (g,cs))(ht:trees cs=true)(hP:l9 P g cs G)
  (hK:∀ v,G v→pJ ak nt ops N dyn (Hv P ak nt ops N dyn K) r (note dyn res i (ld v)) (s.put o.dst v)):RX P ak nt ops N dyn K (i::r) res s:=
 ⟨o,hi,hd,.inr ⟨hg,cl,g,cs,hu,Ps,.inl ⟨ht,G,hP,fun v hv=>RX.go (hK v hv)⟩⟩⟩
theorem RX.call {o:Oper}{cl:Call}{g:FuncId}{cs:List CV}{v:CV}(hi:ops[i]? = Option.some o)(hd:a6 nt o.dst=true)(hg:bZ ops s o=Option.some true)(hu:ck o=Option.some cl)(Ps:bm s cl=Option.some (g,cs))(ht:trees cs=true)(hP:af P g cs v)
  (hK:pJ ak nt ops N dyn (Hv P ak nt ops N dyn K) r (note dyn res i (ld v)) (s.put o.dst v)):RX P ak nt ops N dyn K (i::r) res s:=
 RX.Jm hi hd hg hu Ps ht (hP.toP (G:=fun x=>x=v) rfl) fun x hx=>by rw[hx];exact hK
theorem RX.Jo {o:Oper}{cl:Call}{g:FuncId}{cs:List CV}{R:CV→St→Prop}(ks du:List Nat){H:List (Nat×Ob)}(n:Nat)(hi:ops[i]? = Option.some o)(hd:a6 nt o.dst=true)(hg:bZ ops s o=Option.some true)(hu:ck o=Option.some cl)(Ps:bm s cl=Option.some (g,cs))
  (hp:eg s.heap ks=Option.some H) (hn:n≤s.nx) (ha:aX n cs=true) (hH:dc n H=true) (hb:Body P ak g cs H n R) (hv:zP dyn res i ks=true) (hc:(du.all fun p=>ks.contains p)=true)
  (hR:∀ v s1,R v s1→s1.nx=n∧j8 ks s1.heap=true∧∀ p,p∉du→assoc s1.heap p=assoc H p)
  (hK:∀ v s1,R v s1→Gx dyn res i (iO v ks du s1.heap)=true∧pJ ak nt ops N dyn (Hv P ak nt ops N dyn K) r (note dyn res i (iO v ks du s1.heap)) (St.put ⟨s.env,s1.heap++dx s.heap ks,s.nx⟩ o.dst v)):RX P ak nt ops N dyn K (i::r) res s:=by
 refine⟨o,hi,hd,.inr ⟨hg,cl,g,cs,hu,Ps,.inr (.inl ⟨ks,du,H,_,hp,hb.lift hn ha hH (fun v s h=>(hR v s h).1),hv,?_,?_⟩)⟩⟩
 ·rintro v s2 ⟨s1,h1,rfl⟩;obtain⟨k1,k2,k3⟩:=hR v s1 h1;exact⟨rfl,k2,k3,fun p hp=>by have:=List.all_eq_true.1 hc p hp;simpa using this⟩
 ·rintro v s2 ⟨s1,h1,rfl⟩;obtain⟨k1,k2⟩:=hK v s1 h1;exact⟨k1,RX.go k2⟩
@[congr] theorem Ms {Kx:List Nat→(Nat→Er)→St→Prop}{s s':St}{res QT:Nat→Er}{l:List Nat}(h:s=s')(h2:res=QT):pJ ak nt ops N dyn Kx l res s=pJ ak nt ops N dyn Kx l QT s':=by rw[h,h2]
@[congr] theorem RX_congr {s s':St}{res QT:Nat→Er}{l:List Nat}(h:s=s')(h2:res=QT):RX P ak nt ops N dyn K l res s=RX P ak nt ops N dyn K l QT s':=by rw[h,h2]
end
end Go.Can
