/- **A region that draws, wal -/
import Derived.Test.YtlkmbdfhdknlgaaGreatZ13
namespace Go.Can
open List
section
variable {P:Program}{C:Cx}{s:St}{ops:Array Oper}{av:List (Nat×TI)}{mt:iX}{call:gv}{pc:FuncId->List CV->Option CV}
theorem Ph (ht:aD P av)(UX:j5 P mt)(hCl:gT P av call)(gZ:yz P pc){q0:Bool}{W:List uI}{ord:List Nat}{dyn:List (Nat×Nat)}(hn:ord.Nodup)(Ve:∀ j,j<ops.size->j∈ord)(RS:∀ i∈ord,i<ops.size)(hox:JI ops [] ord=true)(XH:Ck ops dyn q0 [] [] ord=true)
  {N:Nat} (hN0:C.n0<=N) {x0:FS} {K:St->Prop} {Q':Exit->Act->World->Prop} (hQ:∀ s' a w,K s'->Rel C s' a w->Q' .normal a w) :
  ∀ (rest pre cl:List Nat) (res UM:Nat->Er) (sc:St),ord=pre++rest->fs sc=cf (dz ops) (λ j=>(res j).1) (λ _=>true) pre x0 ->
   (∀ p i q,pre=p++i::q->i∈cl\/Kn P C ops N W (res i) i (cf (dz ops) (λ j=>(res j).1) (λ _=>true) p x0)) ->
   (∀ i∈cl,∀ j∈rest,DR ops j i) ->
   (∀ p i q,pre=p++i::q->∀ j∈q,DR ops j i\/Io (dz ops i) (dz ops j) (res i).1 (res j).1 (BA ops (res i) i) (BA ops (res j) j)) ->
   (∀ p∈dyn,p.1∈pre->UM p.1=res p.1) ->
   OQ P av mt call pc q0 W C.nt ops N dyn K rest UM sc ->
   ∀ (m:Nat) (listed:Array Bool) (a:Act) (w:World),listed.size=ops.size->uK ops listed->(∀ j∈rest,listed.getD j false=false)->(ord.countP λ j=>!listed.getD j false)=m ->
    Rr C N ops cl listed (cf (dz ops) (λ j=>(res j).1) (λ j=>listed.getD j false) pre x0) a w/\yh W (cf (dz ops) (λ j=>(res j).1) (λ j=>listed.getD j false) pre x0).h->wpAny P .any ops Q' m listed a w:=by
 have Zg:∀ pre i post,ord=pre++i::post->∀ oi,ops[i]? = some oi->∀ e∈oi.after,Region.binds .any e=true->e.on∈pre:=λ pre i post ho oi WD e he hb=>(ze ord [] hox pre i post ho oi WD e he hb).resolve_left not_mem_nil;have YI:∀ pre j post,ord=pre++j::post->∀ i∈pre,DR ops j i\/((q0=true->(ops[i]?).bind ct=none)/\zd ops dyn i j=true):=λ pre j post h i hi=>wV ord [] [] (λ _ _ h=>by cases h) XH pre j post h i (.inr hi);intro rest
 induction rest with
 | nil=>
  intro pre cl res UM sc ho Zf hF hC hI hX hRX m listed a w R0 RY WA hc hR;rw[append_nil] at ho;subst ho;refine G9 (P:=P) (ops:=ops) (ord:=ord) (dst:=dz ops) (E:=λ j=>(res j).1) (V:=λ j=>BA ops (res j) j) (x0:=x0) (R:=λ listed x a w=>Rr C N ops cl listed x a w/\yh W x.h) (Q':=Q') hn Ve RS Zg hI ?_ ?_ m listed a w R0 RY hc hR
  ·intro p i q ho listed x a w K R0 Us hR TP hK;rcases hF p i q ho with h | ⟨o,_,_,_,hW,h⟩
   ·have:=hR.1.2 i h;rw[Us] at this;cases this
   ·exact h cl Q' listed x a w K R0 (RS i (by rw[ho];simp)) Us hR.1 hR.2 TP λ a' w' h=>hK a' w' ⟨h,zZ hR.2 hW⟩
  ·rintro listed a w ⟨⟨⟨s1,σ1,e1,Tk,_,_⟩,_⟩,_⟩;exact hQ sc a w hRX ⟨σ1,Tk.Qt (by rw[e1,Zf])⟩
 | cons k r ih=>
  intro pre cl res UM sc ho Zf hF hC hI hX hRX m listed a w R0 RY WA hc hR;obtain⟨o,Sg,hdk,hRX⟩:=hRX;have U9:=hn;rw[ho,nodup_append,nodup_cons] at U9;have hkp:k∉pre:=λ h=>U9.2.2 k h k xr rfl;have R8:k<ops.size:=RS k (by rw[ho];simp);have VX:dz ops k=o.dst:=by simp[dz,Sg]
  have Sr:ord=(pre++[k])++r:=by rw[ho];simp
  have hun':∀ j∈r,listed.getD j false=false:=λ j hj=>WA j (mem_cons_of_mem _ hj);have hkun:listed.getD k false=false:=WA k mem_cons_self;have SP:∀ (x:Er),∀ i∈pre,D0 res k x i=res i:=λ x i hi=>DZ _ _ λ e=>by subst e;exact hkp hi
  have U1:∀ (x:Er) (L:Nat->Bool) (p:List Nat) (y:FS),(∀ i∈p,i∈pre)->cf (dz ops) (λ j=>(D0 res k x j).1) L p y=cf (dz ops) (λ j=>(res j).1) L p y:=λ x L p y hp=>
   zy p y λ i hi=>by rw[SP x i (hp i hi)]
  have splits:∀ (p:List Nat) (i:Nat) (q:List Nat),pre++[k]=p++i::q->(p=pre/\i=k/\q=[])\/∃ q',q=q'++[k]/\pre=p++i::q':=by
   intro p i q h;rcases eq_nil_or_concat q with hq | ⟨q',z,hq⟩
   ·subst hq;have:=append_inj' h rfl;refine .inl ⟨this.1.symm,?_,rfl⟩
    simpa using this.2.symm
   ·rw[concat_eq_append] at hq;subst hq;have h':pre++[k]=(p++i::q')++[z]:=by rw[h];simp
    have:=append_inj' h' rfl;refine .inr ⟨q',?_,this.1⟩;rw[show z=k by simpa using this.2.symm]
  have memp:∀ (p:List Nat) (i:Nat) (q:List Nat),pre=p++i::q->(∀ t∈p,t∈pre)/\i∈pre/\∀ t∈q,t∈pre:=λ p i q h=>by
   rw[h];exact⟨λ t ht=>by simp[ht],by simp,λ t ht=>by simp[ht]⟩
  have hX':∀ x:Er,∀ p∈dyn,p.1∈pre++[k]->note dyn UM k x p.1=D0 res k x p.1:=λ x p hp hm=>by
   unfold note;rcases mem_append.1 hm with h1 | h1
   ·have Sb:p.1≠k:=λ e=>hkp (e ▸ h1);rw[DZ _ _ Sb];split
    ·rw[DZ _ _ Sb];exact hX p hp h1
    ·exact hX p hp h1
   ·have e:p.1=k:=by simpa using h1
    have hany:(dyn.any λ p=>p.1 == k)=true:=any_eq_true.2 ⟨p,hp,by simp[e]⟩;rw[if_pos hany,e,kg,kg]
  have facts:∀ (x:Er) (cl':List Nat),(∀ i∈cl,i∈cl')->(k∈cl'\/Kn P C ops N W x k (fs sc))->∀ p i q,pre++[k]=p++i::q->i∈cl'\/Kn P C ops N W (D0 res k x i) i (cf (dz ops) (λ j=>(D0 res k x j).1) (λ _=>true) p x0):=by
   intro x cl' Vg hk p i q h;rcases splits p i q h with ⟨rfl,rfl,_⟩ | ⟨q',rfl,h2⟩
   ·rcases hk with hk | hk
    ·exact .inl hk
    ·refine .inr ?_;rw[U1 x _ p x0 λ i hi=>hi,<- Zf,kg];exact hk
   ·obtain⟨m1,m2,m3⟩:=memp p i q' h2;rcases hF p i q' h2 with h3 | h3
    ·exact .inl (Vg i h3)
    ·refine .inr ?_;rw[SP x i m2,U1 x _ p x0 m1];exact h3
  have Zi:∀ (x:Er),(∀ i∈pre,DR ops k i\/Io (dz ops i) (dz ops k) (res i).1 x.1 (BA ops (res i) i) ⟨o.looksAt ops,x.2.1,x.2.2.1,x.2.2.2⟩) ->
    ∀ p i q,pre++[k]=p++i::q->∀ j∈q,DR ops j i\/Io (dz ops i) (dz ops j) (D0 res k x i).1 (D0 res k x j).1 (BA ops (D0 res k x i) i) (BA ops (D0 res k x j) j):=by
   intro x hx p i q h j hj;rcases splits p i q h with ⟨_,_,rfl⟩ | ⟨q',rfl,h2⟩
   ·cases hj
   ·obtain⟨m1,m2,m3⟩:=memp p i q' h2;rw[SP x i m2];rcases mem_append.1 hj with hj | hj
    ·rw[SP x j (m3 j hj)];exact hI p i q' h2 j hj
    ·have:j=k:=by simpa using hj
     subst this;rw[kg,show BA ops x j=⟨o.looksAt ops,x.2.1,x.2.2.1,x.2.2.2⟩ by simp only[BA,Sg]];exact hx i m2
  have TJ:∀ i∈pre,∃ f,i∈cl\/Kn P C ops N W (res i) i f:=λ i hi=>by
   obtain⟨p1,p2,hp⟩:=append_of_mem hi;exact⟨_,hF p1 i p2 hp⟩
  have pairs:∀ (x:Er),(jw o=false->LC x)->(qi o=true->x.2.1=[])->chk dyn UM k x=true ->
    ∀ i∈pre,DR ops k i\/Io (dz ops i) (dz ops k) (res i).1 x.1 (BA ops (res i) i) ⟨o.looksAt ops,x.2.1,x.2.2.1,x.2.2.2⟩:=by
   intro x h1 h2 h3 i hi;obtain⟨f,h4 | h4⟩:=TJ i hi
   ·exact .inl (hC i h4 k mem_cons_self)
   ·refine (YI pre k r ho i hi).imp id λ h5=>MB h5.2 h4 Sg h1 h2 λ hd=>?_;have:=all_eq_true.1 h3 (i,k) hd;simp only[bne_self_eq_false,Bool.false_or] at this;rwa [hX (i,k) hd hi] at this
  have hC':∀ i∈cl,∀ j∈r,DR ops j i:=λ i h j hj=>hC i h j (mem_cons_of_mem _ hj);have next:∀ (x:Er) (sn:St),Kn P C ops N W x k (fs sc)->chk dyn UM k x=true->fs sn=ap o.dst x.1 (fs sc)->OQ P av mt call pc q0 W C.nt ops N dyn K r (note dyn UM k x) sn->wpAny P .any ops Q' m listed a w:=by
   intro x sn hk WL hsn hrx;have hk':=hk;obtain⟨o',e1,e2,e3,_⟩:=hk';rw[Sg] at e1;cases e1;refine ih (pre++[k]) cl (D0 res k x) (note dyn UM k x) sn Sr ?_ (facts x cl (λ _ h=>h) (.inr hk)) hC' (Zi x (pairs x e2 e3 WL)) (hX' x) hrx m listed a w R0 RY hun' hc ?_
   ·rw[hsn,ej,U1 x _ pre x0 λ i hi=>hi,<- Zf];simp only[cf,kg,if_true,VX]
   ·rw[ej,U1 x _ pre x0 λ i hi=>hi];simp only[cf,hkun,Bool.false_eq_true,if_false];exact hR
  rcases hRX with ⟨x,q1,q2,q3⟩ | ⟨hg,v,hx,q3⟩ | ⟨ks,nb,OUT,Z0,hu,hO,hdn,hK⟩
  ·exact next x _ (Kn.eff ht UX hCl gZ hN0 Sg hdk q1 q2.2) q2.1 (KJ _ _ _) q3
  ·exact next (je v) _ (Kn.quiet Sg hdk hg hx) (all_eq_true.2 λ p _=>by simp[zw]) (oY _ _ _) q3
  ·obtain⟨c,hu⟩:=Option.isSome_iff_exists.1 hu;have XR:=Ib hu;have VD:∀ j∈r,DR ops j k:=λ j hj=>by
    obtain⟨r1,r2,hr⟩:=append_of_mem hj;rcases YI (pre++k::r1) j r2 (by rw[ho,hr];simp) k xr with h5 | ⟨h5,_⟩
    ·exact h5
    ·simp[Sg,hu] at h5;rw[Z0] at h5;cases h5
   have view:∀ i∈pre,DR ops k i\/∀ z,eL ⟨o.looksAt ops,ks,nb,none⟩ (ap (dz ops i) (res i).1 z) z:=by
    intro i hi;obtain⟨f,h4 | ⟨oi,a1,a2,_⟩⟩:=TJ i hi
    ·exact .inl (hC i h4 k mem_cons_self)
    ·rcases YI pre k r ho i hi with hp | ⟨_,hp⟩
     ·exact .inl hp
     ·unfold zd at hp;rw[a1,Sg] at hp;simp only[Bool.or_eq_true,Bool.and_eq_true] at hp;obtain⟨Vu,hp⟩:=hp;refine .inr λ z=>?_;have quiet:jw oi=false->(∀ o' y,assoc (res i).1.w o'=some y->o'∉ks)/\(nb=true->(res i).1.k=0):=λ hl=>by
       obtain⟨u1,u2,_,_⟩:=a2 hl;exact⟨λ o' y h=>by rw[u1] at h;simp[assoc] at h,λ _=>u2⟩
      have hq:(∀ o' y,assoc (res i).1.w o'=some y->o'∉ks)/\(nb=true->(res i).1.k=0):=by
       rcases hp with ((hp | hp) | hp) | hp
       ·obtain⟨c1,c2⟩:=hdn (i,k) (by simpa using hp) rfl;rw[hX (i,k) (by simpa using hp) hi] at c1 c2;exact⟨λ o' y h=>c1 _ (bx _ _ _ h),c2⟩
       ·simp only[Bool.not_eq_true'] at hp;exact quiet hp.1
       ·exact quiet yDe
       ·simp only[qi,Bool.and_eq_true,Bool.not_eq_true'] at hp;rw[XR] at hp;simp at hp
      exact ph (V:=⟨o.looksAt ops,ks,nb,none⟩) (by rw[show dz ops i=oi.dst by simp[dz,a1]];exact (Oper.apart_spec Vu).1) hq.1 hq.2 (λ _ h=>by cases h) z
   rw[ho] at hn hc;refine Hf (P:=P) (pre:=pre) (r:=r) (k:=k) (dst:=dz ops) (E:=λ j=>(res j).1) (V:=λ j=>BA ops (res j) j) (Vk:=⟨o.looksAt ops,ks,nb,none⟩) (OUT:=λ Ek=>∃ e s',OUT e s'/\Ek=e.1) (x0:=x0) (R:=λ listed x a w=>Rr C N ops cl listed x a w/\yh W x.h) (Q':=Q') hn
    (λ j hj=>by rw[<- ho];exact Ve j hj) (λ i hi=>RS i (by rw[ho];exact hi)) (λ p i q h=>Zg p i q (ho.trans h)) hI VD view ?_ ?_ ?_ m listed a w R0 RY hkun hc hR
   ·intro p i q h listed x a w K R0 Us hR TP hK;rcases hF p i q h with h1 | ⟨o,_,_,_,hW,h1⟩
    ·have:=hR.1.2 i h1;rw[Us] at this;cases this
    ·exact h1 cl Q' listed x a w K R0 (RS i (by rw[ho,h];simp)) Us hR.1 hR.2 TP λ a' w' h=>hK a' w' ⟨h,zZ hR.2 hW⟩
   ·intro listed x a w K' R0 Us hR TP hK';rw[<- Zf] at TP;exact hO ht C cl Q' listed x a w K' rfl R0 R8 hR.1 TP λ e s' a' w' h hr=>hK' e.1 a' w' ⟨e,s',h,rfl⟩ ⟨hr,zZ hR.2 (hK e s' h).2.1.2⟩
   ·rintro Ek ⟨e,sn,hG,rfl⟩ m listed a w R0 RY R8 WA hc hR;obtain⟨hsn,WL,hRX'⟩:=hK e sn hG;refine ih (pre++[k]) (k::cl) (D0 res k e) (note dyn UM k e) sn Sr ?_ (facts e (k::cl) (λ i h=>mem_cons_of_mem _ h) (.inl mem_cons_self)) ?_ (Zi e (pairs e (λ h=>by rw[XR] at h;cases h) (λ h=>by simp[qi,XR] at h) WL.1)) (hX' e) hRX' m listed a w R0 RY WA (by rw[ho];exact hc) ?_
    ·rw[hsn,ej,U1 e _ pre x0 λ i hi=>hi,<- Zf];simp only[cf,kg,if_true,VX]
    ·intro i hi;rcases mem_cons.1 hi with rfl | hi
     ·exact VD
     ·exact hC' i hi
    ·rw[ej,U1 e _ pre x0 λ i hi=>hi];simp only[cf,R8,if_true,kg];refine⟨⟨hR.1.1,λ i hi=>?_⟩,hR.2⟩;rcases mem_cons.1 hi with e | hi
     ·rw[e];exact R8
     ·exact hR.1.2 i hi
def rxS (ops:Array Oper)(ord:List Nat)(dyn:List (Nat×Nat)):Bool:=wu ops true ord dyn
theorem T.rxg (ht:aD P av)(UX:j5 P mt)(hCl:gT P av call)(gZ:yz P pc)(hm:P.follows .mixedOrders=true){id:Nat}{q0:Bool}{Q:Exit->St->Prop}(W:List uI)(hW:yh W (assoc s.heap))(ord:List Nat)(dyn:List (Nat×Nat))(hS:wu ops q0 ord dyn=true)
  (h:OQ P av mt call pc q0 W C.nt ops s.nx dyn (Q .normal) ord (λ _=>default) ⟨s.env,s.heap,s.nx+ops.size⟩):T P C (.region id ops true) s Q:=by
 intro a w ⟨σ,hr⟩;simp only[wu,Bool.and_eq_true,decide_eq_true_eq,all_eq_true,contains_eq_mem] at hS;obtain⟨⟨⟨⟨hn,Ve⟩,RS⟩,hox⟩,XH⟩:=hS;have Zw:∀ j,j<ops.size->j∈ord:=λ j hj=>Ve j (mem_range.2 hj);have VS:=hr.low;have ZW:aQ C σ ⟨s.env,s.heap,s.nx+ops.size⟩ a { w with drawn:=w.drawn+1 }:=by
  obtain⟨σ2,h2⟩:Rel C s a { w with drawn:=w.drawn+1 }:=Rel.drew ⟨σ,hr⟩;exact⟨hr.pQ,hr.tm,hr.os,hr.tape,hr.output,hr.size,hr.frame,λ t c hc=>(by
   obtain⟨v,k1,k2⟩:=hr.env t c hc;exact⟨v,k1,VR.bG xq c v (λ _ _=>rfl) k2⟩),λ o ob ho=>(by
   obtain⟨B,m1,m2,m3,m4,m5⟩:=hr.obj o ob ho;refine⟨B,m1,m2,m3,m4,λ b hb=>?_⟩;obtain⟨cur,n1,n2,n3,n4,n5,n6⟩:=m5 b hb;exact⟨cur,n1,n2,n3,n4,n5,a6.bG xq _ _ (λ _ _=>rfl) n6⟩),hr.inj,λ o ho=>hr.nx o (by simp only at ho |-;omega),hr.gA,by simp only;omega,hr.new⟩
 refine wp_mono (Q:=λ e a' w'=>e=.normal/\∃ s',Q .normal s'/\Rel C s' a' w') (wp_region_any hm ?_) (λ e a' w' ⟨he,s',h1,So⟩=>⟨s',he ▸ h1,So⟩);refine Ph ht UX hCl gZ hn Zw RS hox XH (N:=s.nx) VS (x0:=fs ⟨s.env,s.heap,s.nx+ops.size⟩) (K:=Q .normal) (Q':=λ e a' w'=>e=.normal/\∃ s',Q .normal s'/\Rel C s' a' w') (λ s' a w h1 h2=>⟨rfl,s',h1,h2⟩)
  ord [] [] (λ _=>default) (λ _=>default) _ rfl rfl (λ p i q h=>by simp at h) (λ i hi=>by cases hi) (λ p i q h=>by simp at h) (λ _ _ _=>rfl) h ops.size _ _ _ xr ?_ (λ j _=>xy _ _) ?_ ?_
 ·intro j oj _ hl;rw[xy] at hl;cases hl
 ·have:ord.length=ops.size:=by
   have h1:ord.Perm (range ops.size):=(perm_ext_iff_of_nodup hn nodup_range).2 λ j=>⟨λ hj=>mem_range.2 (RS j hj),λ hj=>Zw j (mem_range.1 hj)⟩
   simpa using h1.length_eq
  rw[<- this,countP_eq_length];intro j _;rw[xy];rfl
 ·exact⟨⟨⟨_,σ,rfl,ZW,Nat.le_refl _,λ j hj _=>hr.nx _ yA⟩,λ c hc=>by cases hc⟩,hW⟩
def FL (av:List (Nat×TI))(mt:iX)(call:gv)(pc:FuncId->List CV->Option CV)(nt:Nat)(ops:Array Oper)(N:Nat)(dyn:List (Nat×Nat)):List Nat->(Nat->Er)->St->Option St
 | [],_,s=>some s
 | i::r,res,s=>match ops[i]? with
  | none=>none
  | some o=>if bm nt o.dst=true then match xK av mt ops call pc N (N+ops.size) (N+i) s o with
    | none=>none
    | some x=>if chk dyn res i x=true then FL av mt call pc nt ops N dyn r (note dyn res i x) (RN o.dst x.1 s) else none
   else none
theorem BY {q:Bool}{nt N:Nat}{dyn:List (Nat×Nat)}:∀ {l:List Nat} {res:Nat->Er} {s s':St},FL av mt call pc nt ops N dyn l res s=some s'->OQ P av mt call pc q [] nt ops N dyn (λ x=>x=s') l res s
 | [],_,_,_,h=>by cases h;rfl
 | i::r,res,s,s',h=>by
  simp only[FL] at h;split at h
  ·cases h
  ·rename_i o ho;split at h
   ·rename_i hd;split at h
    ·cases h
    ·rename_i x hx;split at h
     ·rename_i hc;exact⟨o,ho,hd,.inl ⟨x,hx,⟨hc,GX _⟩,BY h⟩⟩
     ·cases h
   ·cases h
def NY (av:List (Nat×TI))(mt:iX)(nt:Nat)(ops:Array Oper)(call:gv)(pc:FuncId->List CV->Option CV)(ord:List Nat)(dyn:List (Nat×Nat))(s:St):Option St:=
 FL av mt call pc nt ops s.nx dyn ord (λ _=>default) { s with nx:=s.nx+ops.size }
theorem T.trace (ht:aD P av)(UX:j5 P mt)(RY:gT P av call)(gZ:yz P pc)(hm:P.follows .mixedOrders=true){id:Nat}{ord:List Nat}{dyn:List (Nat×Nat)}{s':St}(hS:wu ops false ord dyn=true)(h:NY av mt C.nt ops call pc ord dyn s=some s') :
  T P C (.region id ops true) s λ e x=>e=.normal/\x=s':=
 T.rxg (Q:=λ e x=>e=.normal/\x=s') ht UX RY gZ hm [] (λ _ h=>by cases h) ord dyn hS (by simpa using BY h)
end
section
variable {P:Program}{C:Cx}{s:St}{ops:Array Oper}{av:List (Nat×TI)}
def zS (W:List uI)(s:St)(o:Oper):Bool:=!W.isEmpty && match o.op with
 | .load _ x=>W.any λ c=>match ev s x with
  | some (.aw p j)=>p == c.1 && j == c.2.1
  | _=>false
 | _=>false
def nh (av:List (Nat×TI))(W:List uI)(nt:Nat)(ops:Array Oper)(N:Nat)(dyn:List (Nat×Nat))(K:List Nat->(Nat->Er)->St->Prop):List Nat->(Nat->Er)->St->Prop
 | [],res,s=>K [] res s
 | i::r,res,s=>match ops[i]? with
  | none=>False
  | some o=>if ((ct o).isSome && (bY ops s o == some true)) || zS W s o then K (i::r) res s else
   if bm nt o.dst=true then match xK av [] ops F2 F1 N (N+ops.size) (N+i) s o with
    | none=>K (i::r) res s
    | some x=>vu W dyn res i x/\nh av W nt ops N dyn K r (note dyn res i x) (RN o.dst x.1 s)
   else False
def Ec (P:Program)(av:List (Nat×TI))(W:List uI)(nt:Nat)(ops:Array Oper)(N:Nat)(dyn:List (Nat×Nat))(K:St->Prop):List Nat->(Nat->Er)->St->Prop
 | [],_,s=>K s
 | i::r,res,s=>RX P av W nt ops N dyn K (i::r) res s
theorem RX.go {W:List uI}{nt N:Nat}{dyn:List (Nat×Nat)}{K:St->Prop}:∀ {l:List Nat} {res:Nat->Er} {s:St},nh av W nt ops N dyn (Ec P av W nt ops N dyn K) l res s->RX P av W nt ops N dyn K l res s
 | [],_,_,h=>h
 | i::r,res,s,h=>by
  simp only[nh] at h;split at h
  ·exact h.elim
  ·rename_i o ho;split at h
   ·exact h
   ·split at h
    ·rename_i hd;split at h
     ·exact h
     ·rename_i x hx;exact⟨o,ho,hd,.inl ⟨x,hx,h.1,RX.go h.2⟩⟩
    ·exact h.elim
theorem T.rxw (ht:aD P av)(hm:P.follows .mixedOrders=true){id:Nat}{l:List Oper}{Q:Exit->St->Prop}(W:List uI)(hW:yh W (assoc s.heap))(ord:List Nat)(dyn:List (Nat×Nat))(hS:rxS l.toArray ord dyn=true)
  (h:nh av W C.nt l.toArray s.nx dyn (Ec P av W C.nt l.toArray s.nx dyn (Q .normal)) ord (λ _=>default) ⟨s.env,s.heap,s.nx+l.toArray.size⟩):T P C (.region id l.toArray true) s Q:=
 T.rxg ht zj (λ _ _ _ _ _ _ _ h=>by cases h) (λ _ _ _ h=>by cases h) hm W hW ord dyn hS (RX.go h)
theorem T.rx (ht:aD P av)(hm:P.follows .mixedOrders=true){id:Nat}{l:List Oper}{Q:Exit->St->Prop}(ord:List Nat)(dyn:List (Nat×Nat))(hS:rxS l.toArray ord dyn=true)
  (h:nh av [] C.nt l.toArray s.nx dyn (Ec P av [] C.nt l.toArray s.nx dyn (Q .normal)) ord (λ _=>default) ⟨s.env,s.heap,s.nx+l.toArray.size⟩):T P C (.region id l.toArray true) s Q:=
 T.rxw ht hm [] (λ _ h=>by cases h) ord dyn hS h
variable {W:List uI}
variable {nt N:Nat}{dyn:List (Nat×Nat)}{K:St->Prop}{i:Nat}{r:List Nat}{res:Nat->Er}
theorem RX.Li {o:Oper}{cl:Call}{g:FuncId}{cs:List CV}{G:CV->Prop}(hi:ops[i]? = Option.some o)(hd:bm nt o.dst=true)(hg:bY ops s o=Option.some true)(hu:ct o=Option.some cl)(Se:bM s cl=Option.some (g,cs))(ht:trees cs=true)(hP:n9 P g cs G)
  (hK:∀ v,G v->nh av W nt ops N dyn (Ec P av W nt ops N dyn K) r (note dyn res i (je v)) (s.put o.dst v)):RX P av W nt ops N dyn K (i::r) res s:=
 ⟨o,hi,hd,.inr (.inr ⟨[],false,_,rfl,by simp[hu],NV.pure hi hd hu Se hg ht hP,λ _ _ _=>⟨λ _ _=>not_mem_nil,λ h=>by cases h⟩,by
  rintro e s' ⟨v,hv,rfl,rfl⟩;exact⟨oY _ _ _,⟨all_eq_true.2 λ p _=>by simp[zw],λ _ _ _ h=>by cases h⟩,RX.go (hK v hv)⟩⟩)⟩
theorem RX.quiet {o:Oper}(v:CV)(hi:ops[i]? = Option.some o)(hd:bm nt o.dst=true)(hg:bY ops s o=Option.some true)(hx:XV P W o s v)(hK:nh av W nt ops N dyn (Ec P av W nt ops N dyn K) r (note dyn res i (je v)) (s.put o.dst v)):RX P av W nt ops N dyn K (i::r) res s:=
 ⟨o,hi,hd,.inr (.inl ⟨hg,v,hx,RX.go hK⟩)⟩
theorem XV.load (ht:aD P av){o:Oper}{t:TypeId}{x:Operand}{p j:Nat}{v:CV}{ti:TI}(ho:o.op=.load t x)(hx:ev s x=Option.some (.aw p j))(hc:(p,j,[v])∈W)(hti:assoc av t=Option.some ti)(ha:ti.agg=false):XV P W o s v:=λ C σ s1 a w he hw hr=>by
 obtain⟨ob,h1,h2⟩:=hw _ hc;simp only[length_cons,length_nil] at h1 h2;refine Au ht hr o ?_;rw[ho];simp only[fC,(he x (by simp[ho,Op.operands])).trans hx,hti,ib,h1,Option.map_some,mS,ha,Bool.false_eq_true,if_false]
 cases hd:ob.cells.drop j with
 | nil=>rw[hd] at h2;simp at h2
 | cons c r=>rw[hd] at h2;simpa using h2
theorem RX.body {o:Oper}{cl:Call}{g:FuncId}{cs:List CV}{R:CV->St->Prop}(ks eT:List Nat)(d:Nat){H:List (Nat×Ob)}(hi:ops[i]? = Option.some o)(hd:bm nt o.dst=true)(hg:bY ops s o=Option.some true)(hu:ct o=Option.some cl)(Se:bM s cl=Option.some (g,cs))
  (hp:eZ s.heap ks=Option.some H) (hb:Body P av g cs H s.nx R) (hv:Bi dyn res i ks=true)
  (hR:∀ v s1,R v s1->s1.nx=s.nx+d/\(∀ p ob,assoc s1.heap p=Option.some ob->p∈ks\/s.nx<=p)/\(∀ p,p∉eT->assoc s1.heap p=assoc H p)/\∀ p∈eT,p∈ks\/(assoc s1.heap p).isSome=true)
  (hK:∀ v s1,R v s1->vu W dyn res i (iN v ks eT d s1.heap)/\nh av W nt ops N dyn (Ec P av W nt ops N dyn K) r (note dyn res i (iN v ks eT d s1.heap)) (St.put ⟨s.env,s1.heap++ep s.heap ks,s.nx+d⟩ o.dst v)):RX P av W nt ops N dyn K (i::r) res s:=
 ⟨o,hi,hd,.inr (.inr ⟨ks,true,_,rfl,by simp[hu],NV.body hi hd hu Se hg hp hb hR,λ p hp e=>by
  have:=all_eq_true.1 hv p hp;simp only[e,bne_self_eq_false,Bool.false_or,Bool.and_eq_true,all_eq_true,beq_iff_eq,Bool.not_eq_true'] at this;exact⟨λ q hq=>by have:=this.1 q hq;simpa using this,λ _=>this.2⟩,by
  rintro e s' ⟨v,s1,h,rfl,rfl⟩;obtain⟨_,_,k3,k4⟩:=hR v s1 h;exact⟨NV.fs hp k3 k4,(hK v s1 h).1,RX.go (hK v s1 h).2⟩⟩)⟩
theorem RX.call {o:Oper}{cl:Call}{g:FuncId}{cs:List CV}{v:CV}(hi:ops[i]? = Option.some o)(hd:bm nt o.dst=true)(hg:bY ops s o=Option.some true)(hu:ct o=Option.some cl)(Se:bM s cl=Option.some (g,cs))(ht:trees cs=true)(hP:ae P g cs v)
  (hK:nh av W nt ops N dyn (Ec P av W nt ops N dyn K) r (note dyn res i (je v)) (s.put o.dst v)):RX P av W nt ops N dyn K (i::r) res s:=
 RX.Li hi hd hg hu Se ht (hP.toP (G:=λ x=>x=v) rfl) λ x hx=>by rw[hx];exact hK
theorem RX.Lj {o:Oper}{cl:Call}{g:FuncId}{cs:List CV}{R:CV->St->Prop}(ks eT:List Nat){H:List (Nat×Ob)}(n:Nat)(hi:ops[i]? = Option.some o)(hd:bm nt o.dst=true)(hg:bY ops s o=Option.some true)(hu:ct o=Option.some cl)(Se:bM s cl=Option.some (g,cs))
  (hp:eZ s.heap ks=Option.some H) (hn:n<=s.nx) (ha:ba n cs=true) (hH:dh n H=true) (hb:Body P av g cs H n R) (hv:Bi dyn res i ks=true) (hc:(eT.all λ p=>ks.contains p)=true)
  (hR:∀ v s1,R v s1->s1.nx=n/\nu ks s1.heap=true/\∀ p,p∉eT->assoc s1.heap p=assoc H p)
  (hK:∀ v s1,R v s1->vu W dyn res i (qP v ks eT s1.heap)/\nh av W nt ops N dyn (Ec P av W nt ops N dyn K) r (note dyn res i (qP v ks eT s1.heap)) (St.put ⟨s.env,s1.heap++ep s.heap ks,s.nx⟩ o.dst v)):RX P av W nt ops N dyn K (i::r) res s:=by
 refine RX.body ks eT 0 hi hd hg hu Se hp (hb.lift hn ha hH λ v s h=>(hR v s h).1) hv ?_ ?_
 ·rintro v s2 ⟨s1,h1,rfl⟩;obtain⟨k1,k2,k3⟩:=hR v s1 h1;exact⟨rfl,λ p ob h=>.inl (uh k2 p ob h),k3,λ p hp=>by have:=all_eq_true.1 hc p hp;exact .inl (by simpa using this)⟩
 ·rintro v s2 ⟨s1,h1,rfl⟩;exact hK v s1 h1
@[congr] theorem Pf {Kx:List Nat->(Nat->Er)->St->Prop}{s s':St}{res Xv:Nat->Er}{l:List Nat}(h:s=s')(h2:res=Xv):nh av W nt ops N dyn Kx l res s=nh av W nt ops N dyn Kx l Xv s':=by rw[h,h2]
@[congr] theorem RX_congr {s s':St}{res Xv:Nat->Er}{l:List Nat}(h:s=s')(h2:res=Xv):RX P av W nt ops N dyn K l res s=RX P av W nt ops N dyn K l Xv s':=by rw[h,h2]
end
end Go.Can
