/- What a closure is: the calls, where instances come from, the -/
import Derived.Test.YtnecpnjdonibmaaGreatZ17
namespace Go.aP
open Go.Can
def u5 (l:List Is)(x:Is)(c:List In):List Int:=c.map fun i=>match jn x i with
 | none=>-1
 | some y=>(fJ l y:Int)
theorem uq {l:List Is}{y:Is}(h:y∈l)(t:List Is):fJ (l++t) y=fJ l y:=by
 unfold fJ;rw[List.findIdx_append,if_pos];exact List.findIdx_lt_length_of_exists ⟨y,h,by simp⟩
theorem ze (x:Is)(t:List Is):∀ (c:List In) (l:List Is),(∀ i∈c,∀ y,jn x i=some y→y∈l)→u5 (l++t) x c=u5 l x c
 | [],_,_=>rfl
 | i::c,l,h=>by
  have ih:=ze x t c l fun j hj=>h j (List.mem_cons_of_mem _ hj);unfold u5 at ih ⊢;rw[List.map_cons,List.map_cons,ih];congr 1
  cases hc:jn x i with
  | none=>rfl
  | some y=>
   simp only;rw[uq (h i List.mem_cons_self y hc)]
theorem ou (l:List Nat)(n x:Nat):x∈gz l n↔x∈l∨x=n:=by
 unfold gz;split
 ·rename_i h;exact⟨.inl,fun h2=>h2.elim id fun e=>e ▸ h⟩
 ·rw[List.mem_append,List.mem_cons];have:=List.take_append_drop (cz l n) l;constructor
  ·rintro (h | h | h)
   ·exact .inl (List.mem_of_mem_take h)
   ·exact .inr h
   ·exact .inl (List.mem_of_mem_drop h)
  ·rintro (h | h)
   ·rw[← this,List.mem_append] at h;exact h.elim .inl fun h=>.inr (.inr h)
   ·exact .inr (.inl h)
structure SI (x:Is)(c:List In)(l:List Is)(r:List Nat)(L:List Is)(row:List Int)(R:List Nat):Prop where
 pre:∃ t,L=l++t
 row:row=u5 L x c
 mem:∀ i∈c,∀ y,jn x i=some y→y∈L
 nd:l.Nodup→L.Nodup
 new:∀ k y,l.length≤k→L[k]? = some y→∃ i∈c,jn x i=some y
 root:∀ n,n∈R↔n∈r∨∃ i∈c,qq i=true∧∃ y,jn x i=some y∧fJ L y=n
theorem Bg (x:Is):∀ (c:List In) (l:List Is) (r:List Nat),SI x c l r (gw x c l r).1 (gw x c l r).2.1 (gw x c l r).2.2
 | [],l,r=>by
  refine⟨⟨[],by simp[gw]⟩,rfl,(fun i hi=>by cases hi),id,fun k y h1 h2=>?_,fun n=>by simp[gw]⟩;simp only[gw] at h2;rw[List.getElem?_eq_none h1] at h2;cases h2
 | i::c,l,r=>by
  cases hc:jn x i with
  | none=>
   have ih:=Bg x c l r;simp only[gw,hc];refine⟨ih.pre,?_,?_,ih.nd,?_,?_⟩
   ·rw[ih.row];simp only[u5,List.map_cons,hc]
   ·intro j hj y hy;rcases List.mem_cons.1 hj with rfl | hj
    ·rw[hc] at hy;cases hy
    ·exact ih.mem j hj y hy
   ·intro k y h1 h2;obtain⟨j,hj,hy⟩:=ih.new k y h1 h2;exact⟨j,List.mem_cons_of_mem _ hj,hy⟩
   ·intro n;rw[ih.root];constructor
    ·rintro (h | ⟨j,hj,h⟩)
     ·exact .inl h
     ·exact .inr ⟨j,List.mem_cons_of_mem _ hj,h⟩
    ·rintro (h | ⟨j,hj,hg,y,hy,h⟩)
     ·exact .inl h
     ·rcases List.mem_cons.1 hj with rfl | hj
      ·rw[hc] at hy;cases hy
      ·exact .inr ⟨j,hj,hg,y,hy,h⟩
  | some z=>
   have ih:=Bg x c (ec l z) (if qq i=true then gz r (fJ (ec l z) z) else r);simp only[gw,hc];generalize gw x c (ec l z) (if qq i=true then gz r (fJ (ec l z) z) else r)=S at ih ⊢;obtain⟨t,ht⟩:=ih.pre;obtain⟨t',ht'⟩:=AG l z;have hz:z∈ec l z:=AH l z;have hzi:fJ S.1 z=fJ (ec l z) z:=by rw[ht];exact uq hz t
   refine⟨⟨t'++t,by rw[ht,ht',List.append_assoc]⟩,?_,?_,fun h=>ih.nd (lN h),?_,?_⟩
   ·rw[ih.row];simp only[u5,List.map_cons,hc,hzi]
   ·intro j hj y hy;rcases List.mem_cons.1 hj with rfl | hj
    ·rw[hc] at hy;cases hy;rw[ht];exact List.mem_append_left _ hz
    ·exact ih.mem j hj y hy
   ·intro k y h1 h2;by_cases hk:(ec l z).length≤k
    ·obtain⟨j,hj,hy⟩:=ih.new k y hk h2;exact⟨j,List.mem_cons_of_mem _ hj,hy⟩
    ·rw[ht,List.getElem?_append_left yA] at h2;refine⟨i,List.mem_cons_self,?_⟩;unfold ec at h2 hk;split at h2
     ·rw[List.getElem?_eq_none h1] at h2;cases h2
     ·rw[List.getElem?_append_right h1] at h2;have:k-l.length=0:=by
       have:=(List.getElem?_eq_some_iff.1 h2).1;simp only[List.length_cons,List.length_nil] at this;omega
      rw[this] at h2;simp only[List.getElem?_cons_zero,Option.some.injEq] at h2;rw[hc,h2]
   ·intro n;rw[ih.root];constructor
    ·rintro (h | ⟨j,hj,h⟩)
     ·by_cases hg:qq i=true
      ·rw[if_pos hg,ou] at h;rcases h with h | h
       ·exact .inl h
       ·exact .inr ⟨i,List.mem_cons_self,hg,z,hc,by rw[hzi,h]⟩
      ·rw[if_neg hg] at h;exact .inl h
     ·exact .inr ⟨j,List.mem_cons_of_mem _ hj,h⟩
    ·rintro (h | ⟨j,hj,hg,y,hy,h⟩)
     ·refine .inl ?_;split
      ·rw[ou];exact .inl h
      ·exact h
     ·rcases List.mem_cons.1 hj with rfl | hj
      ·refine .inl ?_;rw[if_pos hg,ou];rw[hc] at hy;cases hy;exact .inr (by rw[← h,hzi])
      ·exact .inr ⟨j,hj,hg,y,hy,h⟩
structure CI (u:Un)(i:Nat)(l:List Is)(cs:List (List Int))(r:List Nat):Prop where
 len:cs.length=i
 le:i≤l.length
 pos:0<l.length
 nd:l.Nodup
 mem:∀ j x,j<i→l[j]? = some x→∀ c∈aq u x,∀ y,jn x c=some y→y∈l
 row:∀ j x,j<i→l[j]? = some x→cs[j]? = some (u5 l x (aq u x))
 up:∀ k y,0<k→l[k]? = some y→∃ j x,j<i∧j<k∧l[j]? = some x∧∃ c∈aq u x,jn x c=some y
 root:∀ n,n∈r↔n=0∨∃ j x,j<i∧l[j]? = some x∧∃ c∈aq u x,qq c=true∧∃ y,jn x c=some y∧fJ l y=n
theorem CI.step {u:Un}{i:Nat}{l:List Is}{cs:List (List Int)}{r:List Nat}(h:CI u i l cs r){x:Is}(hx:l[i]? = some x) :
  CI u (i+1) (gw x (aq u x) l r).1 (cs++[(gw x (aq u x) l r).2.1]) (gw x (aq u x) l r).2.2:=by
 have s:=Bg x (aq u x) l r;generalize gw x (aq u x) l r=S at s ⊢;obtain⟨t,ht⟩:=s.pre;have PJ:=(List.getElem?_eq_some_iff.1 hx).1;have QO:∀ j,j<l.length→S.1[j]? = l[j]?:=fun j hj=>by rw[ht,List.getElem?_append_left hj]
 have hle:l.length≤S.1.length:=by rw[ht];simp
 have Wp:S.1[i]? = some x:=by rw[QO i PJ,hx]
 have hlen:=h.len;have Q1:∀ j y,j<i→l[j]? = some y→∀ c∈aq u y,∀ z,jn y c=some z→fJ S.1 z=fJ l z:=fun j y hj hy c hc z hz=>by
  rw[ht];exact uq (h.mem j y hj hy c hc z hz) t
 refine⟨by simp[hlen],by omega,by have:=h.pos;omega,s.nd h.nd,?_,?_,?_,?_⟩
 ·intro j y hj hy c hc z hz;by_cases e:j=i
  ·subst e;rw[Wp] at hy;cases hy;exact s.mem c hc z hz
  ·rw[QO j yA] at hy;rw[ht];exact List.mem_append_left _ (h.mem j y yA hy c hc z hz)
 ·intro j y hj hy;by_cases e:j=i
  ·subst e;rw[Wp] at hy;cases hy;rw[List.getElem?_append_right yA,hlen,Nat.sub_self,s.row];rfl
  ·rw[QO j yA] at hy;rw[List.getElem?_append_left yA,h.row j y yA hy,ht,ze];exact fun c hc z hz=>h.mem j y yA hy c hc z hz
 ·intro k y hk hy;by_cases Qh:k<l.length
  ·rw[QO k Qh] at hy;obtain⟨j,z,h1,h2,h3,h4⟩:=h.up k y hk hy;exact⟨j,z,by omega,h2,by rw[QO j yA];exact h3,h4⟩
  ·obtain⟨c,hc,hy2⟩:=s.new k y yA hy;exact⟨i,x,by omega,by omega,Wp,c,hc,hy2⟩
 ·intro n;rw[s.root,h.root];constructor
  ·rintro ((h1 | ⟨j,y,h1,h2,c,h3,h4,z,h5,h6⟩) | ⟨c,hc,hg,y,hy,h1⟩)
   ·exact .inl h1
   ·exact .inr ⟨j,y,by omega,by rw[QO j yA];exact h2,c,h3,h4,z,h5,by rw[Q1 j y h1 h2 c h3 z h5];exact h6⟩
   ·exact .inr ⟨i,x,by omega,Wp,c,hc,hg,y,hy,h1⟩
  ·rintro (h1 | ⟨j,y,h1,h2,c,h3,h4,z,h5,h6⟩)
   ·exact .inl (.inl h1)
   ·by_cases e:j=i
    ·subst e;rw[Wp] at h2;cases h2;exact .inr ⟨c,h3,h4,z,h5,h6⟩
    ·rw[QO j yA] at h2;exact .inl (.inr ⟨j,y,by omega,h2,c,h3,h4,z,h5,by rw[← Q1 j y yA h2 c h3 z h5];exact h6⟩)
theorem oV {u:Un}(hu:ik u){x:Is}(hx:pV u x):∀ (c:List In) (l:List Is) (r:List Nat),(∀ i∈c,i∈aq u x)→l.Nodup→(∀ y∈l,pV u y)→(gw x c l r).1.Nodup∧∀ y∈(gw x c l r).1,pV u y
 | [],_,_,_,h1,h2=>⟨h1,h2⟩
 | i::c,l,r,hc,h1,h2=>by
  simp only[gw];split
  ·exact oV hu hx c l r (fun j hj=>hc j (List.mem_cons_of_mem _ hj)) h1 h2
  ·rename_i y hy;exact oV hu hx c _ _ (fun j hj=>hc j (List.mem_cons_of_mem _ hj)) (lN h1) (B8 h2 (BY hu hx (hc i List.mem_cons_self) hy))
theorem Dy {u:Un}(hu:ik u):∀ (f i:Nat) (l:List Is) (cs:List (List Int)) (r:List Nat),i+f=100→(∀ y∈l,pV u y)→CI u i l cs r →
  CI u (lE u f i l cs r).is.length (lE u f i l cs r).is (lE u f i l cs r).calls (lE u f i l cs r).roots
 | 0,i,l,cs,r,hf,hv,h=>by
  have:=jD hu h.nd hv;have:=h.le;omega
 | f+1,i,l,cs,r,hf,hv,h=>by
  simp only[lE];split
  ·rename_i hn;have hle:l.length≤i:=by simpa using hn
   have hi:i=l.length:=by have:=h.le;omega
   subst hi;exact h
  ·rename_i x hx;exact Dy hu f (i+1) _ _ _ yA (oV hu (hv x (List.mem_of_getElem? hx)) (aq u x) l r (fun _ h=>h) h.nd hv).2 (h.step hx)
theorem sC {u:Un}(hu:ik u):CI u (ak u).is.length (ak u).is (ak u).calls (ak u).roots:=by
 refine Dy hu 100 0 [⟨u.main,[]⟩] [] [0] rfl (fun x hx=>?_) ⟨rfl,by simp,by simp,by simp,(fun j x hj=>by omega),(fun j x hj=>by omega),fun k y hk hy=>?_,fun n=>by simp⟩
 ·rw[List.mem_singleton.1 hx];have hp:=hu.np.1;obtain⟨q,hq⟩:∃ q,u.ps[0]? = some q:=⟨_,List.getElem?_eq_getElem yA⟩;exact⟨⟨q,by rw[hu.main];exact hq,by rw[(hu.p0 q hq).2];rfl⟩,fun l hl=>by cases hl⟩
 ·obtain⟨k',rfl⟩:∃ k',k=k' + 1:=⟨k-1,by omega⟩;simp at hy
theorem jV (p:Nat→Prop):∀ n:Nat,∃ x,x<2 ^ n∧∀ e,e<n→(x.testBit e=true↔p e)
 | 0=>⟨0,by simp,fun e h=>by omega⟩
 | n+1=>by
  obtain⟨x,hx,hb⟩:=jV p n;by_cases h:p n
  ·refine⟨2 ^ n+x,by rw[Nat.pow_succ];omega,fun e he=>?_⟩;by_cases h2:e=n
   ·subst h2;rw[Nat.testBit_two_pow_add_eq,Nat.testBit_lt_two_pow hx];simp[h]
   ·rw[Nat.testBit_two_pow_add_gt yA];exact hb e yA
  ·refine⟨x,by rw[Nat.pow_succ];omega,fun e he=>?_⟩;by_cases h2:e=n
   ·subst h2;rw[Nat.testBit_lt_two_pow hx];simp[h]
   ·exact hb e yA
noncomputable def jB (L:Nat) (p:Nat→Prop):Nat:=Classical.choose (jV p (L+1))
theorem jA (L:Nat)(p:Nat→Prop):jB L p<2 ^ (L+1):=(Classical.choose_spec (jV p (L+1))).1
theorem qo {L:Nat}{p:Nat→Prop}{e:Nat}(h:e≤L):((jB L p).testBit e=true↔p e):=(Classical.choose_spec (jV p (L+1))).2 e yA
theorem BZ {L x e:Nat}(hx:x<2 ^ (L+1))(h:x.testBit e=true):e≤L:=by
 by_cases h2:e≤L
 ·exact h2
 ·have h3:x<2 ^ e:=Nat.lt_of_lt_of_le hx (Nat.pow_le_pow_right yA yA);rw[Nat.testBit_lt_two_pow h3] at h;cases h
theorem C8 {L x:Nat}{p:Nat→Prop}(hx:x<2 ^ (L+1))(h:∀ e,e≤L→(x.testBit e=true↔p e)):x=jB L p:=by
 refine Nat.eq_of_testBit_eq fun i=>?_;by_cases hi:i≤L
 ·have h1:=h i hi;have h2:=qo (p:=p) hi;cases hb:x.testBit i<;>cases hc:(jB L p).testBit i<;>simp_all
 ·have h3:∀ y,y<2 ^ (L+1)→y.testBit i=false:=fun y hy=>Nat.testBit_lt_two_pow (Nat.lt_of_lt_of_le hy (Nat.pow_le_pow_right yA yA));rw[h3 x hx,h3 _ (jA L p)]
def bm (r:List Nat)(d e:Nat):Bool:=(r.getD d 0).testBit e
def fG (t:List (List Nat))(p d e:Nat):Bool:=bm (t.getD p []) d e
structure sI (L:Nat)(r:List Nat):Prop where
 len:r.length=L+1
 lt:∀ s∈r,s<2 ^ (L+1)
theorem lI {L:Nat}{r:List Nat}(h:sI L r){d e:Nat}(hb:bm r d e=true):d≤L∧e≤L:=by
 unfold bm at hb;rw[List.getD_eq_getElem?_getD] at hb
 cases hx:r[d]? with
 | none=>rw[hx] at hb;simp at hb
 | some s=>
  rw[hx] at hb;have h1:=(List.getElem?_eq_some_iff.1 hx).1;have h2:=h.len;exact⟨by omega,BZ (h.lt s (List.mem_of_getElem? hx)) hb⟩
theorem Cq {L:Nat}{a b:List Nat}(ha:sI L a)(hb:sI L b)(h:∀ d e,d≤L→e≤L→bm a d e=bm b d e):a=b:=by
 refine List.ext_getElem? fun d=>?_;by_cases hd:d≤L
 ·obtain⟨x,hx⟩:∃ x,a[d]? = some x:=⟨_,List.getElem?_eq_getElem (by have:=ha.len;omega)⟩;obtain⟨y,hy⟩:∃ y,b[d]? = some y:=⟨_,List.getElem?_eq_getElem (by have:=hb.len;omega)⟩;rw[hx,hy];congr 1;refine Nat.eq_of_testBit_eq fun e=>?_;by_cases he:e≤L
  ·have:=h d e hd he
   simpa [bm,List.getD_eq_getElem?_getD,hx,hy] using this
  ·have h3:∀ z,z<2 ^ (L+1)→z.testBit e=false:=fun z hz=>Nat.testBit_lt_two_pow (Nat.lt_of_lt_of_le hz (Nat.pow_le_pow_right yA yA));rw[h3 x (ha.lt x (List.mem_of_getElem? hx)),h3 y (hb.lt y (List.mem_of_getElem? hy))]
 ·rw[List.getElem?_eq_none (by have:=ha.len;omega),List.getElem?_eq_none (by have:=hb.len;omega)]
def B7:List Nat→Nat→Nat→Nat
 | [],_,_=>0
 | s::r,x,d=>(if x.testBit d=true then s else 0) ||| B7 r x (d+1)
def wT (r:List Nat)(x:Nat):Nat:=B7 r x 0
theorem DI:∀ (r:List Nat) (x d e:Nat),(B7 r x d).testBit e=true↔∃ k,x.testBit (d+k)=true∧bm r k e=true
 | [],x,d,e=>by simp[B7,bm]
 | s::r,x,d,e=>by
  rw[B7,Nat.testBit_or,Bool.or_eq_true,DI r x (d+1) e];constructor
  ·rintro (h | ⟨k,h1,h2⟩)
   ·split at h
    ·rename_i hx;exact⟨0,hx,by simpa [bm] using h⟩
    ·simp at h
   ·exact⟨k+1,by rw[show d+(k+1)=d+1+k by omega];exact h1,by simpa [bm] using h2⟩
  ·rintro⟨k,h1,h2⟩
   cases k with
   | zero=>
    left;rw[Nat.add_zero] at h1;rw[if_pos h1]
    simpa [bm] using h2
   | succ k=>exact .inr ⟨k,by rw[show d+1+k=d+(k+1) by omega];exact h1,by simpa [bm] using h2⟩
theorem DH (r:List Nat)(x e:Nat):(wT r x).testBit e=true↔∃ k,x.testBit k=true∧bm r k e=true:=by
 rw[wT,DI];simp
theorem yF {L:Nat}:∀ (r:List Nat) (x d:Nat),(∀ s∈r,s<2 ^ (L+1))→B7 r x d<2 ^ (L+1)
 | [],_,_,_=>by simp[B7];exact Nat.two_pow_pos _
 | s::r,x,d,h=>by
  rw[B7];refine Nat.or_lt_two_pow ?_ (yF r x (d+1) fun y hy=>h y (List.mem_cons_of_mem _ hy));split
  ·exact h s List.mem_cons_self
  ·exact Nat.two_pow_pos _
def nK (a b:List Nat):List Nat:=a.map (wT b)
def jK (a b:List Nat):List Nat:=List.zipWith (· ||| ·) a b
def uX (a b:List Nat):Bool:=(List.zipWith (fun x y=>decide (x ||| y=y)) a b).all id
def lp (L:Nat)(c:Int):List Nat:=(List.range (L+1)).map fun d:Nat=>if 0≤(d:Int)+c∧(d:Int)+c≤L then 2 ^ ((d:Int)+c).toNat else 0
theorem uC {L:Nat}{a b:List Nat}(ha:sI L a)(hb:sI L b):sI L (nK a b):=by
 refine⟨by simp[nK,ha.len],fun s hs=>?_⟩;simp only[nK,List.mem_map] at hs;obtain⟨x,_,rfl⟩:=hs;exact yF b x 0 hb.lt
theorem sB (a b:List Nat)(d e:Nat):bm (nK a b) d e=true↔∃ k,bm a d k=true∧bm b k e=true:=by
 unfold bm nK;rw[List.getD_eq_getElem?_getD,List.getElem?_map]
 cases hx:a[d]? with
 | none=>simp[List.getD_eq_getElem?_getD,hx]
 | some x=>
  simp only[Option.map_some,Option.getD_some];rw[DH];simp[List.getD_eq_getElem?_getD,hx,bm]
theorem F4 {L:Nat}{a b:List Nat}(ha:sI L a)(hb:sI L b):sI L (jK a b):=by
 refine⟨by simp[jK,ha.len,hb.len],fun s hs=>?_⟩;simp only[jK] at hs;obtain⟨i,hi⟩:=List.mem_iff_getElem?.1 hs;rw[List.getElem?_zipWith] at hi
 cases hx:a[i]? with
 | none=>rw[hx] at hi;simp at hi
 | some x=>
  cases hy:b[i]? with
  | none=>rw[hx,hy] at hi;simp at hi
  | some y=>
   rw[hx,hy] at hi;simp at hi;subst hi;exact Nat.or_lt_two_pow (ha.lt x (List.mem_of_getElem? hx)) (hb.lt y (List.mem_of_getElem? hy))
theorem Cu {a b:List Nat}(h:a.length=b.length)(d e:Nat):bm (jK a b) d e=(bm a d e || bm b d e):=by
 unfold bm jK;rw[List.getD_eq_getElem?_getD,List.getElem?_zipWith,List.getD_eq_getElem?_getD,List.getD_eq_getElem?_getD];by_cases hd:d<a.length
 ·rw[List.getElem?_eq_getElem hd,List.getElem?_eq_getElem yA];simp[Nat.testBit_or]
 ·rw[List.getElem?_eq_none yA,List.getElem?_eq_none yA];simp
theorem or_self_iff (x y:Nat):x ||| y=y↔∀ e,x.testBit e=true→y.testBit e=true:=by
 constructor
 ·intro h e he;rw[← h,Nat.testBit_or,he];rfl
 ·intro h;refine Nat.eq_of_testBit_eq fun e=>?_;rw[Nat.testBit_or];have:=h e;cases hx:x.testBit e<;>cases hy:y.testBit e<;>simp_all
theorem nh {a b:List Nat}(h:a.length=b.length):uX a b=true↔∀ d e,bm a d e=true→bm b d e=true:=by
 unfold uX;rw[List.all_eq_true];constructor
 ·intro h1 d e hb;unfold bm at hb ⊢;rw[List.getD_eq_getElem?_getD] at hb ⊢;by_cases hd:d<a.length
  ·rw[List.getElem?_eq_getElem hd] at hb;rw[List.getElem?_eq_getElem yA];simp only[Option.getD_some] at hb ⊢;have h2:=h1 (decide (a[d] ||| b[d]'yA=b[d]'yA)) (List.mem_iff_getElem?.2 ⟨d,by rw[List.getElem?_zipWith,List.getElem?_eq_getElem hd,List.getElem?_eq_getElem yA]⟩);simp only[id,decide_eq_true_eq] at h2;exact (or_self_iff _ _).1 h2 e hb
  ·rw[List.getElem?_eq_none yA] at hb;simp at hb
 ·intro h1 z hz;obtain⟨d,hd⟩:=List.mem_iff_getElem?.1 hz;rw[List.getElem?_zipWith] at hd
  cases hx:a[d]? with
  | none=>rw[hx] at hd;simp at hd
  | some x=>
   cases hy:b[d]? with
   | none=>rw[hx,hy] at hd;simp at hd
   | some y=>
    rw[hx,hy] at hd;simp at hd;subst hd;simp only[id,decide_eq_true_eq];refine (or_self_iff x y).2 fun e he=>?_;have h2:=h1 d e;simp only[bm,List.getD_eq_getElem?_getD,hx,hy,Option.getD_some] at h2;exact h2 he
theorem Gt (L:Nat)(c:Int):sI L (lp L c):=by
 refine⟨by simp[lp],fun s hs=>?_⟩;simp only[lp,List.mem_map] at hs;obtain⟨d,_,rfl⟩:=hs;split
 ·exact Nat.pow_lt_pow_right yA yA
 ·exact Nat.two_pow_pos _
theorem rY (L:Nat)(c:Int)(d e:Nat):bm (lp L c) d e=true↔d≤L∧e≤L∧(e:Int)=d+c:=by
 unfold bm lp;rw[List.getD_eq_getElem?_getD,List.getElem?_map];by_cases hd:d<L+1
 ·rw[List.getElem?_eq_getElem (by simpa using hd)];simp only[List.getElem_range,Option.map_some,Option.getD_some];split
  ·rename_i h;rw[Nat.testBit_two_pow,decide_eq_true_eq];omega
  ·rename_i h;simp;omega
 ·rw[List.getElem?_eq_none (by simpa using hd)];simp;omega
def oJ (L:Nat):List Nat:=List.replicate (L+1) 0
theorem AW (L:Nat):sI L (oJ L):=⟨by simp[oJ],fun s hs=>by rw[List.eq_of_mem_replicate hs];exact Nat.two_pow_pos _⟩
theorem rN (L d e:Nat):bm (oJ L) d e=false:=by
 unfold bm oJ;rw[List.getD_eq_getElem?_getD,List.getElem?_replicate];split<;>simp
def bits (x:Nat):Nat:=(List.range 9).countP fun e=>x.testBit e
def dF (r:List Nat):Nat:=(r.map bits).sum
theorem Kw (x:Nat):bits x≤9:=by
 have:=List.countP_le_length (p:=fun e=>x.testBit e) (l:=List.range 9)
 simpa [bits] using this
theorem lD {α:Type}{p q:α→Bool}:∀ l:List α,(∀ x∈l,p x=true→q x=true)→l.countP p≤l.countP q
 | [],_=>by simp
 | a::l,h=>by
  have h1:=lD l fun x hx=>h x (List.mem_cons_of_mem _ hx);have h2:=h a List.mem_cons_self;rw[List.countP_cons,List.countP_cons];cases ha:p a<;>cases hb:q a<;>simp_all<;>omega
theorem uB {α:Type}{p q:α→Bool}:∀ l:List α,(∀ x∈l,p x=true→q x=true)→(∃ x∈l,p x=false∧q x=true)→l.countP p<l.countP q
 | [],_,h=>by obtain⟨x,hx,_⟩:=h;cases hx
 | a::l,h,h'=>by
  have h0:=lD l fun x hx=>h x (List.mem_cons_of_mem _ hx);have h2:=h a List.mem_cons_self;rw[List.countP_cons,List.countP_cons];obtain⟨x,hx,hp,hq⟩:=h';rcases List.mem_cons.1 hx with rfl | hx
  ·simp[hp,hq];omega
  ·have h1:=uB l (fun x hx=>h x (List.mem_cons_of_mem _ hx)) ⟨x,hx,hp,hq⟩;cases ha:p a<;>cases hb:q a<;>simp_all<;>omega
theorem wO {x y:Nat}(h:∀ e,x.testBit e=true→y.testBit e=true):bits x≤bits y:=lD _ fun e _=>h e
theorem DE {x y:Nat}(h:∀ e,x.testBit e=true→y.testBit e=true){e:Nat}(he:e≤8)(h1:x.testBit e=false)(h2:y.testBit e=true):bits x<bits y:=
 uB _ (fun e _=>h e) ⟨e,List.mem_range.2 yA,h1,h2⟩
theorem pH:∀ r:List Nat,dF r≤9*r.length
 | []=>by simp[dF]
 | x::r=>by
  have h1:=Kw x;have h2:=pH r;simp only[dF,List.map_cons,List.sum_cons,List.length_cons] at h2 ⊢;omega
theorem uL:∀ (a b:List Nat),a.length=b.length→(∀ d e,bm a d e=true→bm b d e=true)→dF a≤dF b
 | [],b,_,_=>by simp[dF]
 | x::a,[],h,_=>by simp at h
 | x::a,y::b,h,hb=>by
  have h1:=uL a b Sr fun d e hd=>by simpa [bm] using hb (d+1) e (by simpa [bm] using hd)
  have h2:=wO (x:=x) (y:=y) fun e he=>by simpa [bm] using hb 0 e (by simpa [bm] using he)
  simp only[dF,List.map_cons,List.sum_cons] at h1 ⊢;omega
theorem uM:∀ (a b:List Nat),a.length=b.length→(∀ d e,bm a d e=true→bm b d e=true)→(∃ d e,e≤8∧bm a d e=false∧bm b d e=true)→dF a<dF b
 | [],b,h,_,h'=>by
  obtain⟨d,e,_,_,h2⟩:=h';have:b=[]:=List.length_eq_zero_iff.1 h.symm;subst this;simp[bm] at h2
 | x::a,[],h,_,_=>by simp at h
 | x::a,y::b,h,hb,h'=>by
  have h1:=uL a b Sr fun d e hd=>by simpa [bm] using hb (d+1) e (by simpa [bm] using hd)
  have h2:=wO (x:=x) (y:=y) fun e he=>by simpa [bm] using hb 0 e (by simpa [bm] using he)
  simp only[dF,List.map_cons,List.sum_cons] at h1 ⊢;obtain⟨d,e,he,h3,h4⟩:=h'
  cases d with
  | zero=>
   have:=DE (x:=x) (y:=y) (fun e he=>by simpa [bm] using hb 0 e (by simpa [bm] using he)) he (by simpa [bm] using h3) (by simpa [bm] using h4);omega
  | succ d=>
   have:=uM a b Sr (fun d e hd=>by simpa [bm] using hb (d+1) e (by simpa [bm] using hd)) ⟨d,e,he,by simpa [bm] using h3,by simpa [bm] using h4⟩;simp only[dF] at this;omega
def eD (t:List (List Nat)):Nat:=(t.map dF).sum
theorem qA:∀ (t:List (List Nat)) (i:Nat) (a b:List Nat),t[i]? = some a→eD (t.set i b)+dF a=eD t+dF b
 | [],i,a,b,h=>by simp at h
 | x::t,0,a,b,h=>by
  simp at h;subst h;simp[eD];omega
 | x::t,i+1,a,b,h=>by
  have:=qA t i a b Sr;simp only[eD,List.set_cons_succ,List.map_cons,List.sum_cons] at this ⊢;omega
theorem pG {L:Nat}:∀ t:List (List Nat),(∀ r∈t,sI L r)→eD t≤(9*(L+1))*t.length
 | [],_=>by simp[eD]
 | r::t,h=>by
  have h1:=pH r;rw[(h r List.mem_cons_self).len] at h1;have h2:=pG t fun x hx=>h x (List.mem_cons_of_mem _ hx);simp only[eD,List.map_cons,List.sum_cons,List.length_cons,Nat.mul_add] at h2 ⊢;omega
def eP (x:Is)(m:Nat):In→Int
 | .lock un p=>if ma x p=m then (if un=true then -1 else 1) else 0
 | _=>0
def jS (z:In)(pc:Nat):List Nat:=match z with
 | .ret=>[]
 | .jump g=>[g]
 | .branch g _=>if g=pc+1 then [g] else [min g (pc+1),max g (pc+1)]
 | _=>[pc+1]
def fy:In→Bool
 | .call g _ _ _=>!g
 | _=>false
def D6:In→Bool
 | .ret=>true
 | _=>false
def eQ (c:Cl)(i pc:Nat):Nat:=((c.calls.getD i []).getD pc (-1)).toNat
section
variable (u:Un)(c:Cl)(m L:Nat)
inductive Ri (S:Nat→Nat→Nat→Prop)(i:Nat):Nat→Nat→Nat→Prop
 | base {d:Nat} (h:d≤L):Ri S i 0 d d
 | step {pc d e e' q:Nat} {x:Is} {z:In} (h:Ri S i pc d e) (hx:c.is[i]? = some x) (hz:(aq u x)[pc]? = some z) (hc:fy z=false) (he:(e':Int)=e+eP x m z) (hl:e'≤L) (hq:q∈jS z pc):Ri S i q d e'
 | call {pc d e e':Nat} {x:Is} {z:In} (h:Ri S i pc d e) (hx:c.is[i]? = some x) (hz:(aq u x)[pc]? = some z) (hc:fy z=true) (hs:S (eQ c i pc) e e') (hl:e'≤L):Ri S i (pc+1) d e'
def Fo (S:Nat→Nat→Nat→Prop)(i d e:Nat):Prop:=∃ (pc:Nat) (x:Is),c.is[i]? = some x∧(aq u x)[pc]? = some .ret∧Ri u c m L S i pc d e
inductive Rr:Nat→Nat→Nat→Nat→Prop
 | base {i d:Nat} (h:d≤L):Rr i 0 d d
 | step {i pc d e e' q:Nat} {x:Is} {z:In} (h:Rr i pc d e) (hx:c.is[i]? = some x) (hz:(aq u x)[pc]? = some z) (hc:fy z=false) (he:(e':Int)=e+eP x m z) (hl:e'≤L) (hq:q∈jS z pc):Rr i q d e'
 | call {i pc d e e' pk:Nat} {x y:Is} {z:In} (h:Rr i pc d e) (hx:c.is[i]? = some x) (hz:(aq u x)[pc]? = some z) (hc:fy z=true) (hk:Rr (eQ c i pc) pk e e') (hy:c.is[eQ c i pc]? = some y) (hr:(aq u y)[pk]? = some .ret) (hl:e'≤L):Rr i (pc+1) d e'
def rM (i d e:Nat):Prop:=∃ (pc:Nat) (x:Is),c.is[i]? = some x∧(aq u x)[pc]? = some .ret∧Rr u c m L i pc d e
inductive nw:Nat→Nat→Prop
 | root {r:Nat} (h:r∈c.roots):nw r 0
 | call {i d e pc:Nat} {x:Is} {z:In} (h:nw i d) (hr:Rr u c m L i pc d e) (hx:c.is[i]? = some x) (hz:(aq u x)[pc]? = some z) (hc:fy z=true):nw (eQ c i pc) e
def Be (i pc e:Nat):Prop:=∃ d,nw u c m L i d∧Rr u c m L i pc d e
end
section
variable {u:Un}{c:Cl}{m L:Nat}
theorem Ri.mono {S S':Nat→Nat→Nat→Prop}(hS:∀ i d e,S i d e→S' i d e){i pc d e:Nat}(h:Ri u c m L S i pc d e):Ri u c m L S' i pc d e:=by
 induction h with
 | base h=>exact .base h
 | step _ hx hz hc he hl hq ih=>exact .step ih hx hz hc he hl hq
 | call _ hx hz hc hs hl ih=>exact .call ih hx hz hc (hS _ _ _ hs) hl
theorem Ri.le {S:Nat→Nat→Nat→Prop}{i pc d e:Nat}(h:Ri u c m L S i pc d e):d≤L∧e≤L:=by
 induction h with
 | base h=>exact⟨h,h⟩
 | step _ _ _ _ _ hl _ ih=>exact⟨ih.1,hl⟩
 | call _ _ _ _ _ hl ih=>exact⟨ih.1,hl⟩
theorem Rr.ri {i pc d e:Nat}(h:Rr u c m L i pc d e):Ri u c m L (rM u c m L) i pc d e:=by
 induction h with
 | base h=>exact .base h
 | step _ hx hz hc he hl hq ih=>exact .step ih hx hz hc he hl hq
 | call _ hx hz hc hk hy hr hl ih _=>exact .call ih hx hz hc ⟨_,_,hy,hr,hk⟩ hl
theorem Ri.rr {i pc d e:Nat}(h:Ri u c m L (rM u c m L) i pc d e):Rr u c m L i pc d e:=by
 induction h with
 | base h=>exact .base h
 | step _ hx hz hc he hl hq ih=>exact .step ih hx hz hc he hl hq
 | call _ hx hz hc hs hl ih=>
  obtain⟨pk,y,hy,hr,hk⟩:=hs;exact .call ih hx hz hc hk hy hr hl
theorem LY {i pc d e:Nat}:Ri u c m L (rM u c m L) i pc d e↔Rr u c m L i pc d e:=⟨Ri.rr,Rr.ri⟩
theorem Fo.mono {S S':Nat→Nat→Nat→Prop}(hS:∀ i d e,S i d e→S' i d e){i d e:Nat}:Fo u c m L S i d e→Fo u c m L S' i d e:=fun⟨pc,x,h1,h2,h3⟩=>⟨pc,x,h1,h2,h3.mono hS⟩
theorem Dl {i d e:Nat}:Fo u c m L (rM u c m L) i d e↔rM u c m L i d e:=⟨fun⟨pc,x,h1,h2,h3⟩=>⟨pc,x,h1,h2,h3.rr⟩,fun⟨pc,x,h1,h2,h3⟩=>⟨pc,x,h1,h2,h3.ri⟩⟩
theorem Rr.least {S:Nat→Nat→Nat→Prop}(hS:∀ i d e,Fo u c m L S i d e→S i d e){i pc d e:Nat}(h:Rr u c m L i pc d e):Ri u c m L S i pc d e:=by
 induction h with
 | base h=>exact .base h
 | step _ hx hz hc he hl hq ih=>exact .step ih hx hz hc he hl hq
 | call _ hx hz hc _ hy hr hl ih ih2=>exact .call ih hx hz hc (hS _ _ _ ⟨_,_,hy,hr,ih2⟩) hl
theorem rM.least {S:Nat→Nat→Nat→Prop}(hS:∀ i d e,Fo u c m L S i d e→S i d e){i d e:Nat}(h:rM u c m L i d e):S i d e:=by
 obtain⟨pc,x,h1,h2,h3⟩:=h;exact hS _ _ _ ⟨pc,x,h1,h2,h3.least hS⟩
end
noncomputable def rv (L:Nat) (p:Nat→Nat→Prop):List Nat:=(List.range (L+1)).map fun d=>jB L (p d)
theorem lq (L:Nat)(p:Nat→Nat→Prop):sI L (rv L p):=⟨by simp[rv],fun s hs=>by
 simp only[rv,List.mem_map] at hs;obtain⟨d,_,rfl⟩:=hs;exact jA L _⟩
theorem gC {L:Nat}{p:Nat→Nat→Prop}{d e:Nat}(hd:d≤L)(he:e≤L):(bm (rv L p) d e=true↔p d e):=by
 unfold bm rv;rw[List.getD_eq_getElem?_getD,List.getElem?_map,List.getElem?_eq_getElem Ru];simp only[List.getElem_range,Option.map_some,Option.getD_some];exact qo he
theorem CH {L:Nat}{p:Nat→Nat→Prop}{r:List Nat}(hr:sI L r)(h:∀ d e,d≤L→e≤L→(bm r d e=true↔p d e)):r=rv L p:=
 Cq hr (lq L p) fun d e hd he=>by
  have h1:=h d e hd he;have h2:=gC (p:=p) hd he;cases hb:bm r d e<;>cases hc:bm (rv L p) d e<;>simp_all
structure uS (L n:Nat)(t:List (List Nat)):Prop where
 len:t.length=n
 row:∀ r∈t,sI L r
theorem ij {t:List (List Nat)}{p:Nat}{r:List Nat}(h:t[p]? = some r)(d e:Nat):fG t p d e=bm r d e:=by
 simp[fG,List.getD_eq_getElem?_getD,h]
theorem wQ {t:List (List Nat)}{p:Nat}(h:t.length≤p)(d e:Nat):fG t p d e=false:=by
 simp[fG,List.getD_eq_getElem?_getD,List.getElem?_eq_none h,bm]
theorem uS.get {L n:Nat}{t:List (List Nat)}(h:uS L n t){p:Nat}(hp:p<n):∃ r,t[p]? = some r∧sI L r:=by
 have:=h.len;refine⟨_,List.getElem?_eq_getElem yA,h.row _ (List.getElem_mem _)⟩
theorem uS.lt {L n:Nat}{t:List (List Nat)}(h:uS L n t){p d e:Nat}(hb:fG t p d e=true):p<n∧d≤L∧e≤L:=by
 by_cases hp:p<n
 ·obtain⟨r,hr,hw⟩:=h.get hp;rw[ij hr] at hb;exact⟨hp,lI hw hb⟩
 ·rw[wQ (by have:=h.len;omega)] at hb;cases hb
theorem uS.set {L n:Nat}{t:List (List Nat)}(h:uS L n t){p:Nat}{r:List Nat}(hr:sI L r):uS L n (t.set p r):=⟨by rw[List.length_set];exact h.len,fun x hx=>by
 rcases List.mem_or_eq_of_mem_set hx with hx | rfl
 ·exact h.row x hx
 ·exact hr⟩
theorem jH {t:List (List Nat)}{p q d e:Nat}{r:List Nat}(hp:p<t.length):fG (t.set p r) q d e=if q=p then bm r d e else fG t q d e:=by
 unfold fG;rw[List.getD_eq_getElem?_getD,List.getD_eq_getElem?_getD,List.getElem?_set];by_cases h:p=q
 ·subst h;simp[hp]
 ·rw[if_neg h,if_neg (fun e=>h e.symm)]
noncomputable def p8 (L n:Nat) (p:Nat→Nat→Nat→Prop):List (List Nat):=(List.range n).map fun i=>rv L (p i)
theorem jQ (L n:Nat)(p:Nat→Nat→Nat→Prop):uS L n (p8 L n p):=⟨by simp[p8],fun r hr=>by
 simp only[p8,List.mem_map] at hr;obtain⟨i,_,rfl⟩:=hr;exact lq L _⟩
theorem xv {L n:Nat}(p:Nat→Nat→Nat→Prop){i:Nat}(h:i<n):(p8 L n p)[i]? = some (rv L (p i)):=by
 rw[p8,List.getElem?_map,List.getElem?_eq_getElem Sr];simp
theorem oQ {L n:Nat}{p:Nat→Nat→Nat→Prop}{i d e:Nat}(hi:i<n)(hd:d≤L)(he:e≤L):(fG (p8 L n p) i d e=true↔p i d e):=by
 rw[ij (xv p hi)];exact gC hd he
theorem Cw {L n:Nat}{p:Nat→Nat→Nat→Prop}{t:List (List Nat)}(ht:uS L n t)(h:∀ i d e,i<n→d≤L→e≤L→(fG t i d e=true↔p i d e)):t=p8 L n p:=by
 refine List.ext_getElem? fun i=>?_;by_cases hi:i<n
 ·obtain⟨r,hr,hw⟩:=ht.get hi;rw[hr,xv p hi];congr 1;refine CH hw fun d e hd he=>?_;have:=h i d e hi hd he;rwa [ij hr] at this
 ·rw[List.getElem?_eq_none (by have:=ht.len;omega),List.getElem?_eq_none (by have:=(jQ L n p).len;omega)]
def jL (c:Cl)(L m:Nat)(sm:List (List Nat))(i:Nat)(x:Is)(z:In)(pc:Nat):List Nat:=if fy z=true then sm.getD (eQ c i pc) [] else lp L (eP x m z)
structure InH (u:Un)(c:Cl)(L i:Nat)(x:Is)(sm:List (List Nat)):Prop where
 hx:c.is[i]? = some x
 L8:L≤8
 sm:uS L c.is.length sm
 nx:∀ pc z,(aq u x)[pc]? = some z→∀ q∈jS z pc,q<(aq u x).length
 kal:∀ pc z,(aq u x)[pc]? = some z→fy z=true→eQ c i pc<c.is.length
 pos:0<(aq u x).length
def yJ (sm:List (List Nat))(k d e:Nat):Prop:=fG sm k d e=true
def yU (t:List (List Nat))(q:Nat)(a:List Nat):List (List Nat):=if uX a (t.getD q [])=true then t else t.set q (jK (t.getD q []) a)
theorem F0 {t:List (List Nat)}{q:Nat}{a:List Nat}(h:uX a (t.getD q [])=true):yU t q a=t:=if_pos h
theorem yT {t:List (List Nat)}{q:Nat}{a:List Nat}(h:¬ uX a (t.getD q [])=true):yU t q a=t.set q (jK (t.getD q []) a):=if_neg h
structure IJ (u:Un)(c:Cl)(L m i:Nat)(x:Is)(sm:List (List Nat))(t:List (List Nat)):Prop where
 wf:uS L (aq u x).length t
 sound:∀ pc d e,fG t pc d e=true→Ri u c m L (yJ sm) i pc d e
 base:∀ d,d≤L→fG t 0 d d=true
def Ik (u:Un)(c:Cl)(L m i:Nat)(x:Is)(sm t:List (List Nat))(pc:Nat):Prop:=∀ z,(aq u x)[pc]? = some z→∀ q∈jS z pc,uX (nK (t.getD pc []) (jL c L m sm i x z pc)) (t.getD q [])=true
section
variable {u:Un}{c:Cl}{L m i:Nat}{x:Is}{sm:List (List Nat)}(H:InH u c L i x sm)
include H
theorem mS {pc:Nat}{z:In}(hz:(aq u x)[pc]? = some z):sI L (jL c L m sm i x z pc):=by
 unfold jL;split
 ·rename_i h;obtain⟨r,hr,hw⟩:=H.sm.get (H.kal pc z hz h);rw[List.getD_eq_getElem?_getD,hr];exact hw
 ·exact Gt L _
theorem Cy {pc d e e':Nat}{z:In}(hz:(aq u x)[pc]? = some z){q:Nat}(hq:q∈jS z pc)(h:Ri u c m L (yJ sm) i pc d e)(hb:bm (jL c L m sm i x z pc) e e'=true):Ri u c m L (yJ sm) i q d e':=by
 have hl:=lI (mS H (m:=m) hz) hb;unfold jL at hb;split at hb
 ·rename_i hc;have hqq:q=pc+1:=by
   cases z with
   | call g t l ps=>simpa [jS] using hq
   | _=>simp[fy] at hc
  rw[hqq];exact .call h H.hx hz hc hb hl.2
 ·rename_i hc;have:=(rY L _ e e').1 hb;exact .step h H.hx hz (by simpa using hc) this.2.2 hl.2 hq
theorem x9 {t:List (List Nat)}(ht:uS L (aq u x).length t){p:Nat}(hp:p<(aq u x).length):sI L (t.getD p [])∧t[p]? = some (t.getD p []):=by
 have _:=H;obtain⟨r,hr,hw⟩:=ht.get hp;rw[List.getD_eq_getElem?_getD,hr];exact⟨hw,rfl⟩
theorem IJ.fin {t:List (List Nat)}(h:IJ u c L m i x sm t)(hc:∀ pc,pc<(aq u x).length→Ik u c L m i x sm t pc):t=p8 L (aq u x).length (Ri u c m L (yJ sm) i):=by
 refine Cw h.wf fun pc d e h1 h2 h3=>⟨h.sound pc d e,fun hr=>?_⟩;clear h1 h2 h3;have key:∀ {pc q d e e':Nat} {z:In},fG t pc d e=true→(aq u x)[pc]? = some z→q∈jS z pc→bm (jL c L m sm i x z pc) e e'=true→fG t q d e'=true:=by
  intro pc q d e e' z h1 hz hq hb;have hp:=(List.getElem?_eq_some_iff.1 hz).1;have RI:=H.nx pc z hz q hq;obtain⟨w1,g1⟩:=x9 H h.wf hp;obtain⟨w2,g2⟩:=x9 H h.wf RI;have h2:=hc pc hp z hz q hq;rw[nh (by rw[(uC w1 (mS H hz)).len,w2.len])] at h2;exact h2 d e' ((sB _ _ d e').2 ⟨e,h1,hb⟩)
 induction hr with
 | base hd=>exact h.base _ hd
 | step Qo hx hz Ut he hl hq ih=>
  rw[H.hx] at hx;cases hx;refine key ih hz hq ?_;unfold jL;rw[if_neg (by simp[Ut])];exact (rY L _ _ _).2 ⟨(Qo.le).2,hl,he⟩
 | call Qo hx hz Ut hs hl ih=>
  rw[H.hx] at hx;cases hx;refine key ih hz (q:=_+1) ?_ ?_
  ·rename_i z
   cases z with
   | call g t l ps=>simp[jS]
   | _=>simp[fy] at Ut
  ·unfold jL;rw[if_pos Ut];exact hs
theorem IJ.start:IJ u c L m i x sm ((List.replicate (aq u x).length (oJ L)).set 0 (lp L 0)):=by
 have hp:=H.pos;have hw:uS L (aq u x).length (List.replicate (aq u x).length (oJ L)):=⟨by simp,fun r hr=>by rw[List.eq_of_mem_replicate hr];exact AW L⟩;have hb:∀ pc d e,fG (List.replicate (aq u x).length (oJ L)) pc d e=false:=fun pc d e=>by
  unfold fG;rw[List.getD_eq_getElem?_getD,List.getElem?_replicate];split
  ·exact rN L d e
  ·simp[bm]
 refine⟨hw.set (Gt L 0),fun pc d e h=>?_,fun d hd=>?_⟩
 ·rw[jH (by simpa using hp)] at h;split at h
  ·rename_i h2;subst h2;have:=(rY L 0 d e).1 h;have he:e=d:=by omega
   subst he;exact .base this.1
  ·rw[hb] at h;cases h
 ·rw[jH (by simpa using hp),if_pos rfl];exact (rY L 0 d d).2 ⟨hd,hd,by omega⟩
theorem DW {pc:Nat}(jN:pc<(aq u x).length)(h0:pc≠0):Ik u c L m i x sm ((List.replicate (aq u x).length (oJ L)).set 0 (lp L 0)) pc:=by
 intro z hz q hq;have hw:=(IJ.start (m:=m) H).wf;obtain⟨w1,g1⟩:=x9 H hw jN;obtain⟨w2,g2⟩:=x9 H hw (H.nx pc z hz q hq);rw[nh (by rw[(uC w1 (mS H hz)).len,w2.len])];intro d e hb;obtain⟨k,hk,_⟩:=(sB _ _ d e).1 hb;have:bm (oJ L) d k=true:=by
  rw[List.getD_eq_getElem?_getD,List.getElem?_set_ne yA,List.getElem?_replicate,if_pos jN] at hk;exact hk
 rw[rN] at this;cases this
theorem I5 {t:List (List Nat)}(h:IJ u c L m i x sm t){q:Nat}(hq:q<(aq u x).length){a:List Nat}(ha:sI L a)(hs:∀ d e,bm a d e=true→Ri u c m L (yJ sm) i q d e) :
  IJ u c L m i x sm (yU t q a)∧uX a ((yU t q a).getD q [])=true∧(∀ p d e,fG t p d e=true→fG (yU t q a) p d e=true)∧(∀ p,p≠q→(yU t q a).getD p []=t.getD p [])∧(uX a (t.getD q [])=true→yU t q a=t)∧(uX a (t.getD q [])=false→eD t<eD (yU t q a)):=by
 obtain⟨w,g⟩:=x9 H h.wf hq;have hlen:a.length=(t.getD q []).length:=by rw[ha.len,w.len]
 by_cases P4:uX a (t.getD q [])=true
 ·rw[F0 P4];exact⟨h,P4,fun _ _ _ h=>h,fun _ _=>rfl,fun _=>rfl,fun h=>by rw[P4] at h;cases h⟩
 ·rw[yT P4];have hu:=F4 w ha;have Zf:=Cu (a:=t.getD q []) (b:=a) hlen.symm;have QA:q<t.length:=by rw[h.wf.len];exact hq
  have XK:(t.set q (jK (t.getD q []) a)).getD q []=jK (t.getD q []) a:=by
   rw[List.getD_eq_getElem?_getD,List.getElem?_set,if_pos rfl,if_pos QA];rfl
  have Q5:∀ p d e,fG t p d e=true→fG (t.set q (jK (t.getD q []) a)) p d e=true:=fun p d e hb=>by
   rw[jH QA];split
   ·rename_i hp;subst hp;rw[Zf,show bm (t.getD p []) d e=true from hb];rfl
   ·exact hb
  refine⟨⟨h.wf.set hu,fun p d e hb=>?_,fun d hd=>Q5 0 d d (h.base d hd)⟩,?_,Q5,fun p hp=>?_,fun h=>(P4 h).elim,fun _=>?_⟩
  ·rw[jH QA] at hb;split at hb
   ·rename_i hp;subst hp;rw[Zf,Bool.or_eq_true] at hb;rcases hb with hb | hb
    ·exact h.sound p d e hb
    ·exact hs d e hb
   ·exact h.sound p d e hb
  ·rw[XK,nh (by rw[ha.len,hu.len])];intro d e hb;rw[Zf,hb,Bool.or_true]
  ·rw[List.getD_eq_getElem?_getD,List.getElem?_set_ne (fun e=>hp e.symm),List.getD_eq_getElem?_getD]
  ·have h1:=qA t q (t.getD q []) (jK (t.getD q []) a) g;have h2:dF (t.getD q [])<dF (jK (t.getD q []) a):=by
    have P3:¬ ∀ d e,bm a d e=true→bm (t.getD q []) d e=true:=fun hh=>by
     exact P4 ((nh hlen).2 hh)
    have hex:∃ d e,bm a d e=true∧bm (t.getD q []) d e=false:=by
     refine Classical.byContradiction fun hc=>P3 fun d e hb=>?_
     cases Re:bm (t.getD q []) d e with
     | true=>rfl
     | false=>exact (hc ⟨d,e,hb,Re⟩).elim
    obtain⟨d,e,hb,Re⟩:=hex;have hle:=(lI ha hb).2;have:=H.L8;exact uM _ _ (by rw[w.len,hu.len]) (fun d e hb=>by rw[Zf,hb];rfl) ⟨d,e,by omega,Re,by rw[Zf,hb,Bool.or_true]⟩
   omega
def je (a:List Nat):List Nat→List (List Nat)→List Nat→List (List Nat)×List Nat
 | [],t,td=>(t,td)
 | q::r,t,td=>if uX a (t.getD q [])=true then je a r t td else je a r (t.set q (jK (t.getD q []) a)) (td++[q])
omit H in
theorem tG (a:List Nat):∀ (l:List Nat) (q:Nat) (t:List (List Nat)) (td:List Nat),je a (l++[q]) t td=(if uX a ((je a l t td).1.getD q [])=true then je a l t td else ((je a l t td).1.set q (jK ((je a l t td).1.getD q []) a),(je a l t td).2++[q]))
 | [],q,t,td=>by
  simp only[List.nil_append,je];rfl
 | x::l,q,t,td=>by
  simp only[List.cons_append,je];split<;>exact tG a l q _ _
structure PrcI (u:Un)(c:Cl)(L m i:Nat)(x:Is)(sm:List (List Nat))(a:List Nat)(qs:List Nat)(t0:List (List Nat))(td0:List Nat)(t:List (List Nat))(td:List Nat):Prop where
 A:IJ u c L m i x sm t
 mono:∀ p d e,fG t0 p d e=true→fG t p d e=true
 K9:∀ p,p∈td∨t.getD p []=t0.getD p []
 sub:∀ p,p∈td0→p∈td
 val:∀ p,p∈td→p∈td0∨p<(aq u x).length
 done:∀ q∈qs,uX a (t.getD q [])=true
 ms:td.length+2*eD t0≤td0.length+2*eD t
theorem CK {t0:List (List Nat)}{td0:List Nat}(h0:IJ u c L m i x sm t0){a:List Nat}(ha:sI L a):∀ (qs:List Nat),(∀ q∈qs,q<(aq u x).length∧∀ d e,bm a d e=true→Ri u c m L (yJ sm) i q d e)→∀ n,n≤qs.length→PrcI u c L m i x sm a (qs.take n) t0 td0 (je a (qs.take n) t0 td0).1 (je a (qs.take n) t0 td0).2:=by
 intro qs hqs n
 induction n with
 | zero=>intro _;exact⟨h0,fun _ _ _ h=>h,fun _=>.inr rfl,fun _ h=>h,fun _ h=>.inl h,(fun q hq=>by simp at hq),Nat.le_refl _⟩
 | succ n ih=>
  intro hn;have hI:=ih yA;obtain⟨q,Uk⟩:∃ q,qs[n]? = some q:=⟨_,List.getElem?_eq_getElem yA⟩;obtain⟨hq,hs⟩:=hqs q (List.mem_of_getElem? Uk);have PY:qs.take (n+1)=qs.take n++[q]:=by rw[List.take_add_one,Uk];rfl
  rw[PY];generalize qs.take n=l at hI ⊢;rw[tG];generalize je a l t0 td0=s at hI;obtain⟨t,td⟩:=s;simp only at hI ⊢;obtain⟨k1,k2,k3,k4,k5,k6⟩:=I5 H hI.A hq ha hs;by_cases P4:uX a (t.getD q [])=true
  ·rw[if_pos P4];refine⟨hI.A,hI.mono,hI.K9,hI.sub,hI.val,fun p hp=>?_,hI.ms⟩;rcases List.mem_append.1 hp with hp | hp
   ·exact hI.done p hp
   ·rw[List.mem_singleton.1 hp];exact P4
  ·rw[if_neg P4];rw[yT P4] at k1 k2 k3 k4 k6;have hb:=k6 (by simpa using P4);refine⟨k1,fun p d e h=>k3 p d e (hI.mono p d e h),fun p=>?_,fun p hp=>List.mem_append_left _ (hI.sub p hp),fun p hp=>?_,fun p hp=>?_,?_⟩
   ·by_cases Qe:p=q
    ·exact .inl (by simp[Qe])
    ·rcases hI.K9 p with h | h
     ·exact .inl (List.mem_append_left _ h)
     ·exact .inr (by rw[k4 p Qe];exact h)
   ·rcases List.mem_append.1 hp with hp | hp
    ·exact hI.val p hp
    ·rw[List.mem_singleton.1 hp];exact .inr hq
   ·by_cases Qe:p=q
    ·rw[Qe];exact k2
    ·rw[k4 p Qe];rcases List.mem_append.1 hp with hp | hp
     ·exact hI.done p hp
     ·exact (Qe (List.mem_singleton.1 hp)).elim
   ·have:=hI.ms;simp only[List.length_append,List.length_singleton];omega
structure I0 (u:Un)(c:Cl)(L m i:Nat)(x:Is)(sm:List (List Nat))(t:List (List Nat))(td:List Nat):Prop where
 A:IJ u c L m i x sm t
 val:∀ p∈td,p<(aq u x).length
 Dz:∀ p,p<(aq u x).length→p∈td∨Ik u c L m i x sm t p
theorem I0.start:I0 u c L m i x sm ((List.replicate (aq u x).length (oJ L)).set 0 (lp L 0)) [0]:=by
 refine⟨IJ.start H,fun p hp=>by rw[List.mem_singleton.1 hp];exact H.pos,fun p hp=>?_⟩;by_cases h:p=0
 ·exact .inl (by simp[h])
 ·exact .inr (DW H hp h)
def Ha (n L:Nat)(t:List (List Nat))(td:List Nat):Nat:=2*(9*(L+1)*n-eD t)+td.length
theorem I0.step {t:List (List Nat)}{td:List Nat}{pc:Nat}(h:I0 u c L m i x sm t (td++[pc])){z:In}(hz:(aq u x)[pc]? = some z) :
  I0 u c L m i x sm (je (nK (t.getD pc []) (jL c L m sm i x z pc)) (jS z pc) t td).1 (je (nK (t.getD pc []) (jL c L m sm i x z pc)) (jS z pc) t td).2∧
  Ha (aq u x).length L (je (nK (t.getD pc []) (jL c L m sm i x z pc)) (jS z pc) t td).1 (je (nK (t.getD pc []) (jL c L m sm i x z pc)) (jS z pc) t td).2<Ha (aq u x).length L t (td++[pc]):=by
 have jN:=h.val pc zX;obtain⟨w,g⟩:=x9 H h.A.wf jN;have T0:=mS H (m:=m) hz;have ha:=uC w T0;have hI:=CK H (td0:=td) h.A ha (jS z pc) (fun q hq=>⟨H.nx pc z hz q hq,fun d e hb=>by
  obtain⟨k,k1,k2⟩:=(sB _ _ d e).1 hb;exact Cy H hz hq (h.A.sound pc d k k1) k2⟩) (jS z pc).length (Nat.le_refl _)
 rw[List.take_length] at hI;generalize hae:nK (t.getD pc []) (jL c L m sm i x z pc)=a at ha hI ⊢;generalize je a (jS z pc) t td=s at hI ⊢;obtain⟨t',td'⟩:=s;simp only at hI ⊢;refine⟨⟨hI.A,fun p hp=>?_,fun p hp=>?_⟩,?_⟩
 ·rcases hI.val p hp with hp | hp
  ·exact h.val p (List.mem_append_left _ hp)
  ·exact hp
 ·rcases hI.K9 p with h1 | h1
  ·exact .inl h1
  ·by_cases hpp:p=pc
   ·subst hpp;right;intro z' Qt q hq;rw[hz] at Qt;cases Qt;rw[h1,hae];exact hI.done q hq
   ·rcases h.Dz p hp with h2 | h2
    ·rcases List.mem_append.1 h2 with h2 | h2
     ·exact .inl (hI.sub p h2)
     ·exact (hpp (List.mem_singleton.1 h2)).elim
    ·right;intro z' Qt q hq;have h3:=h2 z' Qt q hq;have RI:=H.nx p z' Qt q hq;obtain⟨w1,_⟩:=x9 H h.A.wf hp;obtain⟨w2,_⟩:=x9 H h.A.wf RI;obtain⟨w3,_⟩:=x9 H hI.A.wf RI;have hc:=uC w1 (mS H (m:=m) Qt);rw[nh (by rw[hc.len,w2.len])] at h3;rw[h1,nh (by rw[hc.len,w3.len])];exact fun d e hb=>hI.mono q d e (h3 d e hb)
 ·have h1:=hI.ms;have h2:=pG t' hI.A.wf.row;rw[hI.A.wf.len] at h2;unfold Ha;simp only[List.length_append,List.length_singleton];omega
theorem I0.fin {t:List (List Nat)}(h:I0 u c L m i x sm t []):t=p8 L (aq u x).length (Ri u c m L (yJ sm) i):=
 h.A.fin H fun p hp=>by
  rcases h.Dz p hp with h1 | h1
  ·cases h1
  ·exact h1
end
end Go.aP
