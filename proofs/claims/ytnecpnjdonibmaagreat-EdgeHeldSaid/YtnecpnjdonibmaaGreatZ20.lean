/- What a closure is: the calls, where instances come from, the -/
import Derived.Test.YtnecpnjdonibmaaGreatZ19
namespace Go.aP
open Go.Can
def y5 (l:List Is)(x:Is)(c:List In):List Int:=c.map fun i=>match jS x i with
 | none=>-1
 | some y=>(gA l y:Int)
theorem vD {l:List Is}{y:Is}(h:y∈l)(t:List Is):gA (l++t) y=gA l y:=by
 unfold gA;rw[List.findIdx_append,if_pos];exact List.findIdx_lt_length_of_exists ⟨y,h,by simp⟩
theorem Ay (x:Is)(t:List Is):∀ (c:List In) (l:List Is),(∀ i∈c,∀ y,jS x i=some y→y∈l)→y5 (l++t) x c=y5 l x c
 | [],_,_=>rfl
 | i::c,l,h=>by
  have ih:=Ay x t c l fun j hj=>h j (List.mem_cons_of_mem _ hj);unfold y5 at ih ⊢;rw[List.map_cons,List.map_cons,ih];congr 1
  cases hc:jS x i with
  | none=>rfl
  | some y=>
   simp only;rw[vD (h i List.mem_cons_self y hc)]
theorem pS (l:List Nat)(n x:Nat):x∈gh l n↔x∈l∨x=n:=by
 unfold gh;split
 ·rename_i h;exact⟨.inl,fun h2=>h2.elim id fun e=>e ▸ h⟩
 ·rw[List.mem_append,List.mem_cons];have:=List.take_append_drop (cD l n) l;constructor
  ·rintro (h | h | h)
   ·exact .inl (List.mem_of_mem_take h)
   ·exact .inr h
   ·exact .inl (List.mem_of_mem_drop h)
  ·rintro (h | h)
   ·rw[← this,List.mem_append] at h;exact h.elim .inl fun h=>.inr (.inr h)
   ·exact .inr (.inl h)
structure SI (x:Is)(c:List In)(l:List Is)(r:List Nat)(L:List Is)(row:List Int)(R:List Nat):Prop where
 pre:∃ t,L=l++t
 row:row=y5 L x c
 mem:∀ i∈c,∀ y,jS x i=some y→y∈L
 nd:l.Nodup→L.Nodup
 new:∀ k y,l.length≤k→L[k]? = some y→∃ i∈c,jS x i=some y
 root:∀ n,n∈R↔n∈r∨∃ i∈c,sj i=true∧∃ y,jS x i=some y∧gA L y=n
theorem Ch (x:Is):∀ (c:List In) (l:List Is) (r:List Nat),SI x c l r (gY x c l r).1 (gY x c l r).2.1 (gY x c l r).2.2
 | [],l,r=>by
  refine⟨⟨[],by simp[gY]⟩,rfl,(fun i hi=>by cases hi),id,fun k y h1 h2=>?_,fun n=>by simp[gY]⟩;simp only[gY] at h2;rw[List.getElem?_eq_none h1] at h2;cases h2
 | i::c,l,r=>by
  cases hc:jS x i with
  | none=>
   have ih:=Ch x c l r;simp only[gY,hc];refine⟨ih.pre,?_,?_,ih.nd,?_,?_⟩
   ·rw[ih.row];simp only[y5,List.map_cons,hc]
   ·intro j hj y hy;rcases List.mem_cons.1 hj with rfl | hj
    ·rw[hc] at hy;cases hy
    ·exact ih.mem j hj y hy
   ·intro k y h1 h2;obtain⟨j,hj,hy⟩:=ih.new k y h1 h2;exact⟨j,List.mem_cons_of_mem _ hj,hy⟩
   ·intro n;rw[ih.root];constructor
    ·rintro (h | ⟨j,hj,h⟩)
     ·exact .inl h
     ·exact .inr ⟨j,List.mem_cons_of_mem _ hj,h⟩
    ·rintro (h | ⟨j,hj,hg,y,hy,h⟩)
     ·exact .inl h
     ·rcases List.mem_cons.1 hj with rfl | hj
      ·rw[hc] at hy;cases hy
      ·exact .inr ⟨j,hj,hg,y,hy,h⟩
  | some z=>
   have ih:=Ch x c (eR l z) (if sj i=true then gh r (gA (eR l z) z) else r);simp only[gY,hc];generalize gY x c (eR l z) (if sj i=true then gh r (gA (eR l z) z) else r)=S at ih ⊢;obtain⟨t,ht⟩:=ih.pre;obtain⟨t',ht'⟩:=BP l z;have hz:z∈eR l z:=BQ l z;have hzi:gA S.1 z=gA (eR l z) z:=by rw[ht];exact vD hz t
   refine⟨⟨t'++t,by rw[ht,ht',List.append_assoc]⟩,?_,?_,fun h=>ih.nd (mM h),?_,?_⟩
   ·rw[ih.row];simp only[y5,List.map_cons,hc,hzi]
   ·intro j hj y hy;rcases List.mem_cons.1 hj with rfl | hj
    ·rw[hc] at hy;cases hy;rw[ht];exact List.mem_append_left _ hz
    ·exact ih.mem j hj y hy
   ·intro k y h1 h2;by_cases hk:(eR l z).length≤k
    ·obtain⟨j,hj,hy⟩:=ih.new k y hk h2;exact⟨j,List.mem_cons_of_mem _ hj,hy⟩
    ·rw[ht,List.getElem?_append_left yA] at h2;refine⟨i,List.mem_cons_self,?_⟩;unfold eR at h2 hk;split at h2
     ·rw[List.getElem?_eq_none h1] at h2;cases h2
     ·rw[List.getElem?_append_right h1] at h2;have:k-l.length=0:=by
       have:=(List.getElem?_eq_some_iff.1 h2).1;simp only[List.length_cons,List.length_nil] at this;omega
      rw[this] at h2;simp only[List.getElem?_cons_zero,Option.some.injEq] at h2;rw[hc,h2]
   ·intro n;rw[ih.root];constructor
    ·rintro (h | ⟨j,hj,h⟩)
     ·by_cases hg:sj i=true
      ·rw[if_pos hg,pS] at h;rcases h with h | h
       ·exact .inl h
       ·exact .inr ⟨i,List.mem_cons_self,hg,z,hc,by rw[hzi,h]⟩
      ·rw[if_neg hg] at h;exact .inl h
     ·exact .inr ⟨j,List.mem_cons_of_mem _ hj,h⟩
    ·rintro (h | ⟨j,hj,hg,y,hy,h⟩)
     ·refine .inl ?_;split
      ·rw[pS];exact .inl h
      ·exact h
     ·rcases List.mem_cons.1 hj with rfl | hj
      ·refine .inl ?_;rw[if_pos hg,pS];rw[hc] at hy;cases hy;exact .inr (by rw[← h,hzi])
      ·exact .inr ⟨j,hj,hg,y,hy,h⟩
structure CI (u:Un)(i:Nat)(l:List Is)(cs:List (List Int))(r:List Nat):Prop where
 len:cs.length=i
 le:i≤l.length
 pos:0<l.length
 nd:l.Nodup
 mem:∀ j x,j<i→l[j]? = some x→∀ c∈au u x,∀ y,jS x c=some y→y∈l
 row:∀ j x,j<i→l[j]? = some x→cs[j]? = some (y5 l x (au u x))
 up:∀ k y,0<k→l[k]? = some y→∃ j x,j<i∧j<k∧l[j]? = some x∧∃ c∈au u x,jS x c=some y
 root:∀ n,n∈r↔n=0∨∃ j x,j<i∧l[j]? = some x∧∃ c∈au u x,sj c=true∧∃ y,jS x c=some y∧gA l y=n
theorem CI.step {u:Un}{i:Nat}{l:List Is}{cs:List (List Int)}{r:List Nat}(h:CI u i l cs r){x:Is}(hx:l[i]? = some x) :
  CI u (i+1) (gY x (au u x) l r).1 (cs++[(gY x (au u x) l r).2.1]) (gY x (au u x) l r).2.2:=by
 have s:=Ch x (au u x) l r;generalize gY x (au u x) l r=S at s ⊢;obtain⟨t,ht⟩:=s.pre;have OX:=(List.getElem?_eq_some_iff.1 hx).1;have P8:∀ j,j<l.length→S.1[j]? = l[j]?:=fun j hj=>by rw[ht,List.getElem?_append_left hj]
 have hle:l.length≤S.1.length:=by rw[ht];simp
 have VG:S.1[i]? = some x:=by rw[P8 i OX,hx]
 have hlen:=h.len;have QD:∀ j y,j<i→l[j]? = some y→∀ c∈au u y,∀ z,jS y c=some z→gA S.1 z=gA l z:=fun j y hj hy c hc z hz=>by
  rw[ht];exact vD (h.mem j y hj hy c hc z hz) t
 refine⟨by simp[hlen],by omega,by have:=h.pos;omega,s.nd h.nd,?_,?_,?_,?_⟩
 ·intro j y hj hy c hc z hz;by_cases e:j=i
  ·subst e;rw[VG] at hy;cases hy;exact s.mem c hc z hz
  ·rw[P8 j yA] at hy;rw[ht];exact List.mem_append_left _ (h.mem j y yA hy c hc z hz)
 ·intro j y hj hy;by_cases e:j=i
  ·subst e;rw[VG] at hy;cases hy;rw[List.getElem?_append_right yA,hlen,Nat.sub_self,s.row];rfl
  ·rw[P8 j yA] at hy;rw[List.getElem?_append_left yA,h.row j y yA hy,ht,Ay];exact fun c hc z hz=>h.mem j y yA hy c hc z hz
 ·intro k y hk hy;by_cases PD:k<l.length
  ·rw[P8 k PD] at hy;obtain⟨j,z,h1,h2,h3,h4⟩:=h.up k y hk hy;exact⟨j,z,by omega,h2,by rw[P8 j yA];exact h3,h4⟩
  ·obtain⟨c,hc,hy2⟩:=s.new k y yA hy;exact⟨i,x,by omega,by omega,VG,c,hc,hy2⟩
 ·intro n;rw[s.root,h.root];constructor
  ·rintro ((h1 | ⟨j,y,h1,h2,c,h3,h4,z,h5,h6⟩) | ⟨c,hc,hg,y,hy,h1⟩)
   ·exact .inl h1
   ·exact .inr ⟨j,y,by omega,by rw[P8 j yA];exact h2,c,h3,h4,z,h5,by rw[QD j y h1 h2 c h3 z h5];exact h6⟩
   ·exact .inr ⟨i,x,by omega,VG,c,hc,hg,y,hy,h1⟩
  ·rintro (h1 | ⟨j,y,h1,h2,c,h3,h4,z,h5,h6⟩)
   ·exact .inl (.inl h1)
   ·by_cases e:j=i
    ·subst e;rw[VG] at h2;cases h2;exact .inr ⟨c,h3,h4,z,h5,h6⟩
    ·rw[P8 j yA] at h2;exact .inl (.inr ⟨j,y,by omega,h2,c,h3,h4,z,h5,by rw[← QD j y yA h2 c h3 z h5];exact h6⟩)
theorem qn {u:Un}(hu:iy u){x:Is}(hx:pE u x):∀ (c:List In) (l:List Is) (r:List Nat),(∀ i∈c,i∈au u x)→l.Nodup→(∀ y∈l,pE u y)→(gY x c l r).1.Nodup∧∀ y∈(gY x c l r).1,pE u y
 | [],_,_,_,h1,h2=>⟨h1,h2⟩
 | i::c,l,r,hc,h1,h2=>by
  simp only[gY];split
  ·exact qn hu hx c l r (fun j hj=>hc j (List.mem_cons_of_mem _ hj)) h1 h2
  ·rename_i y hy;exact qn hu hx c _ _ (fun j hj=>hc j (List.mem_cons_of_mem _ hj)) (mM h1) (Df h2 (C8 hu hx (hc i List.mem_cons_self) hy))
theorem EH {u:Un}(hu:iy u):∀ (f i:Nat) (l:List Is) (cs:List (List Int)) (r:List Nat),i+f=100→(∀ y∈l,pE u y)→CI u i l cs r →
  CI u (mC u f i l cs r).is.length (mC u f i l cs r).is (mC u f i l cs r).calls (mC u f i l cs r).roots
 | 0,i,l,cs,r,hf,hv,h=>by
  have:=ka hu h.nd hv;have:=h.le;omega
 | f+1,i,l,cs,r,hf,hv,h=>by
  simp only[mC];split
  ·rename_i hn;have hle:l.length≤i:=by simpa using hn
   have hi:i=l.length:=by have:=h.le;omega
   subst hi;exact h
  ·rename_i x hx;exact EH hu f (i+1) _ _ _ yA (qn hu (hv x (List.mem_of_getElem? hx)) (au u x) l r (fun _ h=>h) h.nd hv).2 (h.step hx)
theorem zM {u:Un}(hu:iy u):CI u (aj u).is.length (aj u).is (aj u).calls (aj u).roots:=by
 refine EH hu 100 0 [⟨u.main,[]⟩] [] [0] rfl (fun x hx=>?_) ⟨rfl,by simp,by simp,by simp,(fun j x hj=>by omega),(fun j x hj=>by omega),fun k y hk hy=>?_,fun n=>by simp⟩
 ·rw[List.mem_singleton.1 hx];have hp:=hu.np.1;obtain⟨q,hq⟩:∃ q,u.ps[0]? = some q:=⟨_,List.getElem?_eq_getElem yA⟩;exact⟨⟨q,by rw[hu.main];exact hq,by rw[(hu.p0 q hq).2];rfl⟩,fun l hl=>by cases hl⟩
 ·obtain⟨k',rfl⟩:∃ k',k=k' + 1:=⟨k-1,by omega⟩;simp at hy
theorem kL (p:Nat→Prop):∀ n:Nat,∃ x,x<2 ^ n∧∀ e,e<n→(x.testBit e=true↔p e)
 | 0=>⟨0,by simp,fun e h=>by omega⟩
 | n+1=>by
  obtain⟨x,hx,hb⟩:=kL p n;by_cases h:p n
  ·refine⟨2 ^ n+x,by rw[Nat.pow_succ];omega,fun e he=>?_⟩;by_cases h2:e=n
   ·subst h2;rw[Nat.testBit_two_pow_add_eq,Nat.testBit_lt_two_pow hx];simp[h]
   ·rw[Nat.testBit_two_pow_add_gt yA];exact hb e yA
  ·refine⟨x,by rw[Nat.pow_succ];omega,fun e he=>?_⟩;by_cases h2:e=n
   ·subst h2;rw[Nat.testBit_lt_two_pow hx];simp[h]
   ·exact hb e yA
noncomputable def jE (L:Nat) (p:Nat→Prop):Nat:=Classical.choose (kL p (L+1))
theorem jk (L:Nat)(p:Nat→Prop):jE L p<2 ^ (L+1):=(Classical.choose_spec (kL p (L+1))).1
theorem sh {L:Nat}{p:Nat→Prop}{e:Nat}(h:e≤L):((jE L p).testBit e=true↔p e):=(Classical.choose_spec (kL p (L+1))).2 e yA
theorem Da {L x e:Nat}(hx:x<2 ^ (L+1))(h:x.testBit e=true):e≤L:=by
 by_cases h2:e≤L
 ·exact h2
 ·have h3:x<2 ^ e:=Nat.lt_of_lt_of_le hx (Nat.pow_le_pow_right yA yA);rw[Nat.testBit_lt_two_pow h3] at h;cases h
theorem D5 {L x:Nat}{p:Nat→Prop}(hx:x<2 ^ (L+1))(h:∀ e,e≤L→(x.testBit e=true↔p e)):x=jE L p:=by
 refine Nat.eq_of_testBit_eq fun i=>?_;by_cases hi:i≤L
 ·have h1:=h i hi;have h2:=sh (p:=p) hi;cases hb:x.testBit i<;>cases hc:(jE L p).testBit i<;>simp_all
 ·have h3:∀ y,y<2 ^ (L+1)→y.testBit i=false:=fun y hy=>Nat.testBit_lt_two_pow (Nat.lt_of_lt_of_le hy (Nat.pow_le_pow_right yA yA));rw[h3 x hx,h3 _ (jk L p)]
def bf (r:List Nat)(d e:Nat):Bool:=(r.getD d 0).testBit e
def eO (t:List (List Nat))(p d e:Nat):Bool:=bf (t.getD p []) d e
structure qc (L:Nat)(r:List Nat):Prop where
 len:r.length=L+1
 lt:∀ s∈r,s<2 ^ (L+1)
theorem kQ {L:Nat}{r:List Nat}(h:qc L r){d e:Nat}(hb:bf r d e=true):d≤L∧e≤L:=by
 unfold bf at hb;rw[List.getD_eq_getElem?_getD] at hb
 cases hx:r[d]? with
 | none=>rw[hx] at hb;simp at hb
 | some s=>
  rw[hx] at hb;have h1:=(List.getElem?_eq_some_iff.1 hx).1;have h2:=h.len;exact⟨by omega,Da (h.lt s (List.mem_of_getElem? hx)) hb⟩
theorem yM {L:Nat}{a b:List Nat}(ha:qc L a)(hb:qc L b)(h:∀ d e,d≤L→e≤L→bf a d e=bf b d e):a=b:=by
 refine List.ext_getElem? fun d=>?_;by_cases hd:d≤L
 ·obtain⟨x,hx⟩:∃ x,a[d]? = some x:=⟨_,List.getElem?_eq_getElem (by have:=ha.len;omega)⟩;obtain⟨y,hy⟩:∃ y,b[d]? = some y:=⟨_,List.getElem?_eq_getElem (by have:=hb.len;omega)⟩;rw[hx,hy];congr 1;refine Nat.eq_of_testBit_eq fun e=>?_;by_cases he:e≤L
  ·have:=h d e hd he
   simpa [bf,List.getD_eq_getElem?_getD,hx,hy] using this
  ·have h3:∀ z,z<2 ^ (L+1)→z.testBit e=false:=fun z hz=>Nat.testBit_lt_two_pow (Nat.lt_of_lt_of_le hz (Nat.pow_le_pow_right yA yA));rw[h3 x (ha.lt x (List.mem_of_getElem? hx)),h3 y (hb.lt y (List.mem_of_getElem? hy))]
 ·rw[List.getElem?_eq_none (by have:=ha.len;omega),List.getElem?_eq_none (by have:=hb.len;omega)]
def De:List Nat→Nat→Nat→Nat
 | [],_,_=>0
 | s::r,x,d=>(if x.testBit d=true then s else 0) ||| De r x (d+1)
def uF (r:List Nat)(x:Nat):Nat:=De r x 0
theorem ET:∀ (r:List Nat) (x d e:Nat),(De r x d).testBit e=true↔∃ k,x.testBit (d+k)=true∧bf r k e=true
 | [],x,d,e=>by simp[De,bf]
 | s::r,x,d,e=>by
  rw[De,Nat.testBit_or,Bool.or_eq_true,ET r x (d+1) e];constructor
  ·rintro (h | ⟨k,h1,h2⟩)
   ·split at h
    ·rename_i hx;exact⟨0,hx,by simpa [bf] using h⟩
    ·simp at h
   ·exact⟨k+1,by rw[show d+(k+1)=d+1+k by omega];exact h1,by simpa [bf] using h2⟩
  ·rintro⟨k,h1,h2⟩
   cases k with
   | zero=>
    left;rw[Nat.add_zero] at h1;rw[if_pos h1]
    simpa [bf] using h2
   | succ k=>exact .inr ⟨k,by rw[show d+1+k=d+(k+1) by omega];exact h1,by simpa [bf] using h2⟩
theorem ES (r:List Nat)(x e:Nat):(uF r x).testBit e=true↔∃ k,x.testBit k=true∧bf r k e=true:=by
 rw[uF,ET];simp
theorem wy {L:Nat}:∀ (r:List Nat) (x d:Nat),(∀ s∈r,s<2 ^ (L+1))→De r x d<2 ^ (L+1)
 | [],_,_,_=>by simp[De];exact Nat.two_pow_pos _
 | s::r,x,d,h=>by
  rw[De];refine Nat.or_lt_two_pow ?_ (wy r x (d+1) fun y hy=>h y (List.mem_cons_of_mem _ hy));split
  ·exact h s List.mem_cons_self
  ·exact Nat.two_pow_pos _
def nr (a b:List Nat):List Nat:=a.map (uF b)
def iU (a b:List Nat):List Nat:=List.zipWith (· ||| ·) a b
def rv (a b:List Nat):Bool:=(List.zipWith (fun x y=>decide (x ||| y=y)) a b).all id
def kr (L:Nat)(c:Int):List Nat:=(List.range (L+1)).map fun d:Nat=>if 0≤(d:Int)+c∧(d:Int)+c≤L then 2 ^ ((d:Int)+c).toNat else 0
theorem pZ {L:Nat}{a b:List Nat}(ha:qc L a)(hb:qc L b):qc L (nr a b):=by
 refine⟨by simp[nr,ha.len],fun s hs=>?_⟩;simp only[nr,List.mem_map] at hs;obtain⟨x,_,rfl⟩:=hs;exact wy b x 0 hb.lt
theorem oQ (a b:List Nat)(d e:Nat):bf (nr a b) d e=true↔∃ k,bf a d k=true∧bf b k e=true:=by
 unfold bf nr;rw[List.getD_eq_getElem?_getD,List.getElem?_map]
 cases hx:a[d]? with
 | none=>simp[List.getD_eq_getElem?_getD,hx]
 | some x=>
  simp only[Option.map_some,Option.getD_some];rw[ES];simp[List.getD_eq_getElem?_getD,hx,bf]
theorem B9 {L:Nat}{a b:List Nat}(ha:qc L a)(hb:qc L b):qc L (iU a b):=by
 refine⟨by simp[iU,ha.len,hb.len],fun s hs=>?_⟩;simp only[iU] at hs;obtain⟨i,hi⟩:=List.mem_iff_getElem?.1 hs;rw[List.getElem?_zipWith] at hi
 cases hx:a[i]? with
 | none=>rw[hx] at hi;simp at hi
 | some x=>
  cases hy:b[i]? with
  | none=>rw[hx,hy] at hi;simp at hi
  | some y=>
   rw[hx,hy] at hi;simp at hi;subst hi;exact Nat.or_lt_two_pow (ha.lt x (List.mem_of_getElem? hx)) (hb.lt y (List.mem_of_getElem? hy))
theorem yO {a b:List Nat}(h:a.length=b.length)(d e:Nat):bf (iU a b) d e=(bf a d e || bf b d e):=by
 unfold bf iU;rw[List.getD_eq_getElem?_getD,List.getElem?_zipWith,List.getD_eq_getElem?_getD,List.getD_eq_getElem?_getD];by_cases hd:d<a.length
 ·rw[List.getElem?_eq_getElem hd,List.getElem?_eq_getElem yA];simp[Nat.testBit_or]
 ·rw[List.getElem?_eq_none yA,List.getElem?_eq_none yA];simp
theorem or_self_iff (x y:Nat):x ||| y=y↔∀ e,x.testBit e=true→y.testBit e=true:=by
 constructor
 ·intro h e he;rw[← h,Nat.testBit_or,he];rfl
 ·intro h;refine Nat.eq_of_testBit_eq fun e=>?_;rw[Nat.testBit_or];have:=h e;cases hx:x.testBit e<;>cases hy:y.testBit e<;>simp_all
theorem ml {a b:List Nat}(h:a.length=b.length):rv a b=true↔∀ d e,bf a d e=true→bf b d e=true:=by
 unfold rv;rw[List.all_eq_true];constructor
 ·intro h1 d e hb;unfold bf at hb ⊢;rw[List.getD_eq_getElem?_getD] at hb ⊢;by_cases hd:d<a.length
  ·rw[List.getElem?_eq_getElem hd] at hb;rw[List.getElem?_eq_getElem yA];simp only[Option.getD_some] at hb ⊢;have h2:=h1 (decide (a[d] ||| b[d]'yA=b[d]'yA)) (List.mem_iff_getElem?.2 ⟨d,by rw[List.getElem?_zipWith,List.getElem?_eq_getElem hd,List.getElem?_eq_getElem yA]⟩);simp only[id,decide_eq_true_eq] at h2;exact (or_self_iff _ _).1 h2 e hb
  ·rw[List.getElem?_eq_none yA] at hb;simp at hb
 ·intro h1 z hz;obtain⟨d,hd⟩:=List.mem_iff_getElem?.1 hz;rw[List.getElem?_zipWith] at hd
  cases hx:a[d]? with
  | none=>rw[hx] at hd;simp at hd
  | some x=>
   cases hy:b[d]? with
   | none=>rw[hx,hy] at hd;simp at hd
   | some y=>
    rw[hx,hy] at hd;simp at hd;subst hd;simp only[id,decide_eq_true_eq];refine (or_self_iff x y).2 fun e he=>?_;have h2:=h1 d e;simp only[bf,List.getD_eq_getElem?_getD,hx,hy,Option.getD_some] at h2;exact h2 he
theorem Hp (L:Nat)(c:Int):qc L (kr L c):=by
 refine⟨by simp[kr],fun s hs=>?_⟩;simp only[kr,List.mem_map] at hs;obtain⟨d,_,rfl⟩:=hs;split
 ·exact Nat.pow_lt_pow_right yA yA
 ·exact Nat.two_pow_pos _
theorem ue (L:Nat)(c:Int)(d e:Nat):bf (kr L c) d e=true↔d≤L∧e≤L∧(e:Int)=d+c:=by
 unfold bf kr;rw[List.getD_eq_getElem?_getD,List.getElem?_map];by_cases hd:d<L+1
 ·rw[List.getElem?_eq_getElem (by simpa using hd)];simp only[List.getElem_range,Option.map_some,Option.getD_some];split
  ·rename_i h;rw[Nat.testBit_two_pow,decide_eq_true_eq];omega
  ·rename_i h;simp;omega
 ·rw[List.getElem?_eq_none (by simpa using hd)];simp;omega
def kS (L:Nat):List Nat:=List.replicate (L+1) 0
theorem B5 (L:Nat):qc L (kS L):=⟨by simp[kS],fun s hs=>by rw[List.eq_of_mem_replicate hs];exact Nat.two_pow_pos _⟩
theorem tO (L d e:Nat):bf (kS L) d e=false:=by
 unfold bf kS;rw[List.getD_eq_getElem?_getD,List.getElem?_replicate];split<;>simp
def bits (x:Nat):Nat:=(List.range 9).countP fun e=>x.testBit e
def cT (r:List Nat):Nat:=(r.map bits).sum
theorem La (x:Nat):bits x≤9:=by
 have:=List.countP_le_length (p:=fun e=>x.testBit e) (l:=List.range 9)
 simpa [bits] using this
theorem mB {α:Type}{p q:α→Bool}:∀ l:List α,(∀ x∈l,p x=true→q x=true)→l.countP p≤l.countP q
 | [],_=>by simp
 | a::l,h=>by
  have h1:=mB l fun x hx=>h x (List.mem_cons_of_mem _ hx);have h2:=h a List.mem_cons_self;rw[List.countP_cons,List.countP_cons];cases ha:p a<;>cases hb:q a<;>simp_all<;>omega
theorem vS {α:Type}{p q:α→Bool}:∀ l:List α,(∀ x∈l,p x=true→q x=true)→(∃ x∈l,p x=false∧q x=true)→l.countP p<l.countP q
 | [],_,h=>by obtain⟨x,hx,_⟩:=h;cases hx
 | a::l,h,h'=>by
  have h0:=mB l fun x hx=>h x (List.mem_cons_of_mem _ hx);have h2:=h a List.mem_cons_self;rw[List.countP_cons,List.countP_cons];obtain⟨x,hx,hp,hq⟩:=h';rcases List.mem_cons.1 hx with rfl | hx
  ·simp[hp,hq];omega
  ·have h1:=vS l (fun x hx=>h x (List.mem_cons_of_mem _ hx)) ⟨x,hx,hp,hq⟩;cases ha:p a<;>cases hb:q a<;>simp_all<;>omega
theorem yi {x y:Nat}(h:∀ e,x.testBit e=true→y.testBit e=true):bits x≤bits y:=mB _ fun e _=>h e
theorem EO {x y:Nat}(h:∀ e,x.testBit e=true→y.testBit e=true){e:Nat}(he:e≤8)(h1:x.testBit e=false)(h2:y.testBit e=true):bits x<bits y:=
 vS _ (fun e _=>h e) ⟨e,List.mem_range.2 yA,h1,h2⟩
theorem oo:∀ r:List Nat,cT r≤9*r.length
 | []=>by simp[cT]
 | x::r=>by
  have h1:=La x;have h2:=oo r;simp only[cT,List.map_cons,List.sum_cons,List.length_cons] at h2 ⊢;omega
theorem p5:∀ (a b:List Nat),a.length=b.length→(∀ d e,bf a d e=true→bf b d e=true)→cT a≤cT b
 | [],b,_,_=>by simp[cT]
 | x::a,[],h,_=>by simp at h
 | x::a,y::b,h,hb=>by
  have h1:=p5 a b RC fun d e hd=>by simpa [bf] using hb (d+1) e (by simpa [bf] using hd)
  have h2:=yi (x:=x) (y:=y) fun e he=>by simpa [bf] using hb 0 e (by simpa [bf] using he)
  simp only[cT,List.map_cons,List.sum_cons] at h1 ⊢;omega
theorem qR:∀ (a b:List Nat),a.length=b.length→(∀ d e,bf a d e=true→bf b d e=true)→(∃ d e,e≤8∧bf a d e=false∧bf b d e=true)→cT a<cT b
 | [],b,h,_,h'=>by
  obtain⟨d,e,_,_,h2⟩:=h';have:b=[]:=List.length_eq_zero_iff.1 h.symm;subst this;simp[bf] at h2
 | x::a,[],h,_,_=>by simp at h
 | x::a,y::b,h,hb,h'=>by
  have h1:=p5 a b RC fun d e hd=>by simpa [bf] using hb (d+1) e (by simpa [bf] using hd)
  have h2:=yi (x:=x) (y:=y) fun e he=>by simpa [bf] using hb 0 e (by simpa [bf] using he)
  simp only[cT,List.map_cons,List.sum_cons] at h1 ⊢;obtain⟨d,e,he,h3,h4⟩:=h'
  cases d with
  | zero=>
   have:=EO (x:=x) (y:=y) (fun e he=>by simpa [bf] using hb 0 e (by simpa [bf] using he)) he (by simpa [bf] using h3) (by simpa [bf] using h4);omega
  | succ d=>
   have:=qR a b RC (fun d e hd=>by simpa [bf] using hb (d+1) e (by simpa [bf] using hd)) ⟨d,e,he,by simpa [bf] using h3,by simpa [bf] using h4⟩;simp only[cT] at this;omega
def cL (t:List (List Nat)):Nat:=(t.map cT).sum
theorem sE:∀ (t:List (List Nat)) (i:Nat) (a b:List Nat),t[i]? = some a→cL (t.set i b)+cT a=cL t+cT b
 | [],i,a,b,h=>by simp at h
 | x::t,0,a,b,h=>by
  simp at h;subst h;simp[cL];omega
 | x::t,i+1,a,b,h=>by
  have:=sE t i a b RC;simp only[cL,List.set_cons_succ,List.map_cons,List.sum_cons] at this ⊢;omega
theorem l8 {L:Nat}:∀ t:List (List Nat),(∀ r∈t,qc L r)→cL t≤(9*(L+1))*t.length
 | [],_=>by simp[cL]
 | r::t,h=>by
  have h1:=oo r;rw[(h r List.mem_cons_self).len] at h1;have h2:=l8 t fun x hx=>h x (List.mem_cons_of_mem _ hx);simp only[cL,List.map_cons,List.sum_cons,List.length_cons,Nat.mul_add] at h2 ⊢;omega
def du (x:Is)(m:Nat):In→Int
 | .lock un p=>if oK x p=m then (if un=true then -1 else 1) else 0
 | _=>0
def eM (z:In)(pc:Nat):List Nat:=match z with
 | .ret=>[]
 | .jump g=>[g]
 | .branch g _=>if g=pc+1 then [g] else [min g (pc+1),max g (pc+1)]
 | _=>[pc+1]
def eF:In→Bool
 | .call g _ _ _=>!g
 | _=>false
def AD:In→Bool
 | .ret=>true
 | _=>false
def dH (c:Cl)(i pc:Nat):Nat:=((c.calls.getD i []).getD pc (-1)).toNat
section
variable (u:Un)(c:Cl)(m L:Nat)
inductive Ri (S:Nat→Nat→Nat→Prop)(i:Nat):Nat→Nat→Nat→Prop
 | base {d:Nat} (h:d≤L):Ri S i 0 d d
 | step {pc d e e' q:Nat} {x:Is} {z:In} (h:Ri S i pc d e) (hx:c.is[i]? = some x) (hz:(au u x)[pc]? = some z) (hc:eF z=false) (he:(e':Int)=e+du x m z) (hl:e'≤L) (hq:q∈eM z pc):Ri S i q d e'
 | call {pc d e e':Nat} {x:Is} {z:In} (h:Ri S i pc d e) (hx:c.is[i]? = some x) (hz:(au u x)[pc]? = some z) (hc:eF z=true) (hs:S (dH c i pc) e e') (hl:e'≤L):Ri S i (pc+1) d e'
def Gn (S:Nat→Nat→Nat→Prop)(i d e:Nat):Prop:=∃ (pc:Nat) (x:Is),c.is[i]? = some x∧(au u x)[pc]? = some .ret∧Ri u c m L S i pc d e
inductive Rr:Nat→Nat→Nat→Nat→Prop
 | base {i d:Nat} (h:d≤L):Rr i 0 d d
 | step {i pc d e e' q:Nat} {x:Is} {z:In} (h:Rr i pc d e) (hx:c.is[i]? = some x) (hz:(au u x)[pc]? = some z) (hc:eF z=false) (he:(e':Int)=e+du x m z) (hl:e'≤L) (hq:q∈eM z pc):Rr i q d e'
 | call {i pc d e e' pk:Nat} {x y:Is} {z:In} (h:Rr i pc d e) (hx:c.is[i]? = some x) (hz:(au u x)[pc]? = some z) (hc:eF z=true) (hk:Rr (dH c i pc) pk e e') (hy:c.is[dH c i pc]? = some y) (hr:(au u y)[pk]? = some .ret) (hl:e'≤L):Rr i (pc+1) d e'
def q9 (i d e:Nat):Prop:=∃ (pc:Nat) (x:Is),c.is[i]? = some x∧(au u x)[pc]? = some .ret∧Rr u c m L i pc d e
inductive pf:Nat→Nat→Prop
 | root {r:Nat} (h:r∈c.roots):pf r 0
 | call {i d e pc:Nat} {x:Is} {z:In} (h:pf i d) (hr:Rr u c m L i pc d e) (hx:c.is[i]? = some x) (hz:(au u x)[pc]? = some z) (hc:eF z=true):pf (dH c i pc) e
def Be (i pc e:Nat):Prop:=∃ d,pf u c m L i d∧Rr u c m L i pc d e
end
section
variable {u:Un}{c:Cl}{m L:Nat}
theorem Ri.mono {S S':Nat→Nat→Nat→Prop}(hS:∀ i d e,S i d e→S' i d e){i pc d e:Nat}(h:Ri u c m L S i pc d e):Ri u c m L S' i pc d e:=by
 induction h with
 | base h=>exact .base h
 | step _ hx hz hc he hl hq ih=>exact .step ih hx hz hc he hl hq
 | call _ hx hz hc hs hl ih=>exact .call ih hx hz hc (hS _ _ _ hs) hl
theorem Ri.le {S:Nat→Nat→Nat→Prop}{i pc d e:Nat}(h:Ri u c m L S i pc d e):d≤L∧e≤L:=by
 induction h with
 | base h=>exact⟨h,h⟩
 | step _ _ _ _ _ hl _ ih=>exact⟨ih.1,hl⟩
 | call _ _ _ _ _ hl ih=>exact⟨ih.1,hl⟩
theorem Rr.ri {i pc d e:Nat}(h:Rr u c m L i pc d e):Ri u c m L (q9 u c m L) i pc d e:=by
 induction h with
 | base h=>exact .base h
 | step _ hx hz hc he hl hq ih=>exact .step ih hx hz hc he hl hq
 | call _ hx hz hc hk hy hr hl ih _=>exact .call ih hx hz hc ⟨_,_,hy,hr,hk⟩ hl
theorem Ri.rr {i pc d e:Nat}(h:Ri u c m L (q9 u c m L) i pc d e):Rr u c m L i pc d e:=by
 induction h with
 | base h=>exact .base h
 | step _ hx hz hc he hl hq ih=>exact .step ih hx hz hc he hl hq
 | call _ hx hz hc hs hl ih=>
  obtain⟨pk,y,hy,hr,hk⟩:=hs;exact .call ih hx hz hc hk hy hr hl
theorem Mw {i pc d e:Nat}:Ri u c m L (q9 u c m L) i pc d e↔Rr u c m L i pc d e:=⟨Ri.rr,Rr.ri⟩
theorem Gn.mono {S S':Nat→Nat→Nat→Prop}(hS:∀ i d e,S i d e→S' i d e){i d e:Nat}:Gn u c m L S i d e→Gn u c m L S' i d e:=fun⟨pc,x,h1,h2,h3⟩=>⟨pc,x,h1,h2,h3.mono hS⟩
theorem zC {i d e:Nat}:Gn u c m L (q9 u c m L) i d e↔q9 u c m L i d e:=⟨fun⟨pc,x,h1,h2,h3⟩=>⟨pc,x,h1,h2,h3.rr⟩,fun⟨pc,x,h1,h2,h3⟩=>⟨pc,x,h1,h2,h3.ri⟩⟩
theorem Rr.least {S:Nat→Nat→Nat→Prop}(hS:∀ i d e,Gn u c m L S i d e→S i d e){i pc d e:Nat}(h:Rr u c m L i pc d e):Ri u c m L S i pc d e:=by
 induction h with
 | base h=>exact .base h
 | step _ hx hz hc he hl hq ih=>exact .step ih hx hz hc he hl hq
 | call _ hx hz hc _ hy hr hl ih ih2=>exact .call ih hx hz hc (hS _ _ _ ⟨_,_,hy,hr,ih2⟩) hl
theorem q9.least {S:Nat→Nat→Nat→Prop}(hS:∀ i d e,Gn u c m L S i d e→S i d e){i d e:Nat}(h:q9 u c m L i d e):S i d e:=by
 obtain⟨pc,x,h1,h2,h3⟩:=h;exact hS _ _ _ ⟨pc,x,h1,h2,h3.least hS⟩
end
noncomputable def tG (L:Nat) (p:Nat→Nat→Prop):List Nat:=(List.range (L+1)).map fun d=>jE L (p d)
theorem kG (L:Nat)(p:Nat→Nat→Prop):qc L (tG L p):=⟨by simp[tG],fun s hs=>by
 simp only[tG,List.mem_map] at hs;obtain⟨d,_,rfl⟩:=hs;exact jk L _⟩
theorem g9 {L:Nat}{p:Nat→Nat→Prop}{d e:Nat}(hd:d≤L)(he:e≤L):(bf (tG L p) d e=true↔p d e):=by
 unfold bf tG;rw[List.getD_eq_getElem?_getD,List.getElem?_map,List.getElem?_eq_getElem QS];simp only[List.getElem_range,Option.map_some,Option.getD_some];exact sh he
theorem DL {L:Nat}{p:Nat→Nat→Prop}{r:List Nat}(hr:qc L r)(h:∀ d e,d≤L→e≤L→(bf r d e=true↔p d e)):r=tG L p:=
 yM hr (kG L p) fun d e hd he=>by
  have h1:=h d e hd he;have h2:=g9 (p:=p) hd he;cases hb:bf r d e<;>cases hc:bf (tG L p) d e<;>simp_all
structure qb (L n:Nat)(t:List (List Nat)):Prop where
 len:t.length=n
 row:∀ r∈t,qc L r
theorem iQ {t:List (List Nat)}{p:Nat}{r:List Nat}(h:t[p]? = some r)(d e:Nat):eO t p d e=bf r d e:=by
 simp[eO,List.getD_eq_getElem?_getD,h]
theorem yk {t:List (List Nat)}{p:Nat}(h:t.length≤p)(d e:Nat):eO t p d e=false:=by
 simp[eO,List.getD_eq_getElem?_getD,List.getElem?_eq_none h,bf]
theorem qb.get {L n:Nat}{t:List (List Nat)}(h:qb L n t){p:Nat}(hp:p<n):∃ r,t[p]? = some r∧qc L r:=by
 have:=h.len;refine⟨_,List.getElem?_eq_getElem yA,h.row _ (List.getElem_mem _)⟩
theorem qb.lt {L n:Nat}{t:List (List Nat)}(h:qb L n t){p d e:Nat}(hb:eO t p d e=true):p<n∧d≤L∧e≤L:=by
 by_cases hp:p<n
 ·obtain⟨r,hr,hw⟩:=h.get hp;rw[iQ hr] at hb;exact⟨hp,kQ hw hb⟩
 ·rw[yk (by have:=h.len;omega)] at hb;cases hb
theorem qb.set {L n:Nat}{t:List (List Nat)}(h:qb L n t){p:Nat}{r:List Nat}(hr:qc L r):qb L n (t.set p r):=⟨by rw[List.length_set];exact h.len,fun x hx=>by
 rcases List.mem_or_eq_of_mem_set hx with hx | rfl
 ·exact h.row x hx
 ·exact hr⟩
theorem kk {t:List (List Nat)}{p q d e:Nat}{r:List Nat}(hp:p<t.length):eO (t.set p r) q d e=if q=p then bf r d e else eO t q d e:=by
 unfold eO;rw[List.getD_eq_getElem?_getD,List.getD_eq_getElem?_getD,List.getElem?_set];by_cases h:p=q
 ·subst h;simp[hp]
 ·rw[if_neg h,if_neg (fun e=>h e.symm)]
noncomputable def qh (L n:Nat) (p:Nat→Nat→Nat→Prop):List (List Nat):=(List.range n).map fun i=>tG L (p i)
theorem fX (L n:Nat)(p:Nat→Nat→Nat→Prop):qb L n (qh L n p):=⟨by simp[qh],fun r hr=>by
 simp only[qh,List.mem_map] at hr;obtain⟨i,_,rfl⟩:=hr;exact kG L _⟩
theorem yR {L n:Nat}(p:Nat→Nat→Nat→Prop){i:Nat}(h:i<n):(qh L n p)[i]? = some (tG L (p i)):=by
 rw[qh,List.getElem?_map,List.getElem?_eq_getElem RC];simp
theorem qg {L n:Nat}{p:Nat→Nat→Nat→Prop}{i d e:Nat}(hi:i<n)(hd:d≤L)(he:e≤L):(eO (qh L n p) i d e=true↔p i d e):=by
 rw[iQ (yR p hi)];exact g9 hd he
theorem DE {L n:Nat}{p:Nat→Nat→Nat→Prop}{t:List (List Nat)}(ht:qb L n t)(h:∀ i d e,i<n→d≤L→e≤L→(eO t i d e=true↔p i d e)):t=qh L n p:=by
 refine List.ext_getElem? fun i=>?_;by_cases hi:i<n
 ·obtain⟨r,hr,hw⟩:=ht.get hi;rw[hr,yR p hi];congr 1;refine DL hw fun d e hd he=>?_;have:=h i d e hi hd he;rwa [iQ hr] at this
 ·rw[List.getElem?_eq_none (by have:=ht.len;omega),List.getElem?_eq_none (by have:=(fX L n p).len;omega)]
def fC (c:Cl)(L m:Nat)(sm:List (List Nat))(i:Nat)(x:Is)(z:In)(pc:Nat):List Nat:=if eF z=true then sm.getD (dH c i pc) [] else kr L (du x m z)
structure InH (u:Un)(c:Cl)(L i:Nat)(x:Is)(sm:List (List Nat)):Prop where
 hx:c.is[i]? = some x
 L8:L≤8
 sm:qb L c.is.length sm
 nx:∀ pc z,(au u x)[pc]? = some z→∀ q∈eM z pc,q<(au u x).length
 kal:∀ pc z,(au u x)[pc]? = some z→eF z=true→dH c i pc<c.is.length
 pos:0<(au u x).length
def xv (sm:List (List Nat))(k d e:Nat):Prop:=eO sm k d e=true
def Af (t:List (List Nat))(q:Nat)(a:List Nat):List (List Nat):=if rv a (t.getD q [])=true then t else t.set q (iU (t.getD q []) a)
theorem GY {t:List (List Nat)}{q:Nat}{a:List Nat}(h:rv a (t.getD q [])=true):Af t q a=t:=if_pos h
theorem uI {t:List (List Nat)}{q:Nat}{a:List Nat}(h:¬ rv a (t.getD q [])=true):Af t q a=t.set q (iU (t.getD q []) a):=if_neg h
structure z9 (u:Un)(c:Cl)(L m i:Nat)(x:Is)(sm:List (List Nat))(t:List (List Nat)):Prop where
 wf:qb L (au u x).length t
 sound:∀ pc d e,eO t pc d e=true→Ri u c m L (xv sm) i pc d e
 base:∀ d,d≤L→eO t 0 d d=true
def EJ (u:Un)(c:Cl)(L m i:Nat)(x:Is)(sm t:List (List Nat))(pc:Nat):Prop:=∀ z,(au u x)[pc]? = some z→∀ q∈eM z pc,rv (nr (t.getD pc []) (fC c L m sm i x z pc)) (t.getD q [])=true
section
variable {u:Un}{c:Cl}{L m i:Nat}{x:Is}{sm:List (List Nat)}(H:InH u c L i x sm)
include H
theorem kD {pc:Nat}{z:In}(hz:(au u x)[pc]? = some z):qc L (fC c L m sm i x z pc):=by
 unfold fC;split
 ·rename_i h;obtain⟨r,hr,hw⟩:=H.sm.get (H.kal pc z hz h);rw[List.getD_eq_getElem?_getD,hr];exact hw
 ·exact Hp L _
theorem tY {pc d e e':Nat}{z:In}(hz:(au u x)[pc]? = some z){q:Nat}(hq:q∈eM z pc)(h:Ri u c m L (xv sm) i pc d e)(hb:bf (fC c L m sm i x z pc) e e'=true):Ri u c m L (xv sm) i q d e':=by
 have hl:=kQ (kD H (m:=m) hz) hb;unfold fC at hb;split at hb
 ·rename_i hc;have hqq:q=pc+1:=by
   cases z with
   | call g t l ps=>simpa [eM] using hq
   | _=>simp[eF] at hc
  rw[hqq];exact .call h H.hx hz hc hb hl.2
 ·rename_i hc;have:=(ue L _ e e').1 hb;exact .step h H.hx hz (by simpa using hc) this.2.2 hl.2 hq
theorem vI {t:List (List Nat)}(ht:qb L (au u x).length t){p:Nat}(hp:p<(au u x).length):qc L (t.getD p [])∧t[p]? = some (t.getD p []):=by
 have _:=H;obtain⟨r,hr,hw⟩:=ht.get hp;rw[List.getD_eq_getElem?_getD,hr];exact⟨hw,rfl⟩
theorem z9.fin {t:List (List Nat)}(h:z9 u c L m i x sm t)(hc:∀ pc,pc<(au u x).length→EJ u c L m i x sm t pc):t=qh L (au u x).length (Ri u c m L (xv sm) i):=by
 refine DE h.wf fun pc d e h1 h2 h3=>⟨h.sound pc d e,fun hr=>?_⟩;clear h1 h2 h3;have key:∀ {pc q d e e':Nat} {z:In},eO t pc d e=true→(au u x)[pc]? = some z→q∈eM z pc→bf (fC c L m sm i x z pc) e e'=true→eO t q d e'=true:=by
  intro pc q d e e' z h1 hz hq hb;have hp:=(List.getElem?_eq_some_iff.1 hz).1;have QW:=H.nx pc z hz q hq;obtain⟨w1,g1⟩:=vI H h.wf hp;obtain⟨w2,g2⟩:=vI H h.wf QW;have h2:=hc pc hp z hz q hq;rw[ml (by rw[(pZ w1 (kD H hz)).len,w2.len])] at h2;exact h2 d e' ((oQ _ _ d e').2 ⟨e,h1,hb⟩)
 induction hr with
 | base hd=>exact h.base _ hd
 | step Pp hx hz TB he hl hq ih=>
  rw[H.hx] at hx;cases hx;refine key ih hz hq ?_;unfold fC;rw[if_neg (by simp[TB])];exact (ue L _ _ _).2 ⟨(Pp.le).2,hl,he⟩
 | call Pp hx hz TB hs hl ih=>
  rw[H.hx] at hx;cases hx;refine key ih hz (q:=_+1) ?_ ?_
  ·rename_i z
   cases z with
   | call g t l ps=>simp[eM]
   | _=>simp[eF] at TB
  ·unfold fC;rw[if_pos TB];exact hs
theorem z9.start:z9 u c L m i x sm ((List.replicate (au u x).length (kS L)).set 0 (kr L 0)):=by
 have hp:=H.pos;have hw:qb L (au u x).length (List.replicate (au u x).length (kS L)):=⟨by simp,fun r hr=>by rw[List.eq_of_mem_replicate hr];exact B5 L⟩;have hb:∀ pc d e,eO (List.replicate (au u x).length (kS L)) pc d e=false:=fun pc d e=>by
  unfold eO;rw[List.getD_eq_getElem?_getD,List.getElem?_replicate];split
  ·exact tO L d e
  ·simp[bf]
 refine⟨hw.set (Hp L 0),fun pc d e h=>?_,fun d hd=>?_⟩
 ·rw[kk (by simpa using hp)] at h;split at h
  ·rename_i h2;subst h2;have:=(ue L 0 d e).1 h;have he:e=d:=by omega
   subst he;exact .base this.1
  ·rw[hb] at h;cases h
 ·rw[kk (by simpa using hp),if_pos rfl];exact (ue L 0 d d).2 ⟨hd,hd,by omega⟩
theorem Fc {pc:Nat}(mV:pc<(au u x).length)(h0:pc≠0):EJ u c L m i x sm ((List.replicate (au u x).length (kS L)).set 0 (kr L 0)) pc:=by
 intro z hz q hq;have hw:=(z9.start (m:=m) H).wf;obtain⟨w1,g1⟩:=vI H hw mV;obtain⟨w2,g2⟩:=vI H hw (H.nx pc z hz q hq);rw[ml (by rw[(pZ w1 (kD H hz)).len,w2.len])];intro d e hb;obtain⟨k,hk,_⟩:=(oQ _ _ d e).1 hb;have:bf (kS L) d k=true:=by
  rw[List.getD_eq_getElem?_getD,List.getElem?_set_ne yA,List.getElem?_replicate,if_pos mV] at hk;exact hk
 rw[tO] at this;cases this
theorem DA {t:List (List Nat)}(h:z9 u c L m i x sm t){q:Nat}(hq:q<(au u x).length){a:List Nat}(ha:qc L a)(hs:∀ d e,bf a d e=true→Ri u c m L (xv sm) i q d e) :
  z9 u c L m i x sm (Af t q a)∧rv a ((Af t q a).getD q [])=true∧(∀ p d e,eO t p d e=true→eO (Af t q a) p d e=true)∧(∀ p,p≠q→(Af t q a).getD p []=t.getD p [])∧(rv a (t.getD q [])=true→Af t q a=t)∧(rv a (t.getD q [])=false→cL t<cL (Af t q a)):=by
 obtain⟨w,g⟩:=vI H h.wf hq;have hlen:a.length=(t.getD q []).length:=by rw[ha.len,w.len]
 by_cases Pj:rv a (t.getD q [])=true
 ·rw[GY Pj];exact⟨h,Pj,fun _ _ _ h=>h,fun _ _=>rfl,fun _=>rfl,fun h=>by rw[Pj] at h;cases h⟩
 ·rw[uI Pj];have hu:=B9 w ha;have Yz:=yO (a:=t.getD q []) (b:=a) hlen.symm;have PK:q<t.length:=by rw[h.wf.len];exact hq
  have WX:(t.set q (iU (t.getD q []) a)).getD q []=iU (t.getD q []) a:=by
   rw[List.getD_eq_getElem?_getD,List.getElem?_set,if_pos rfl,if_pos PK];rfl
  have Qp:∀ p d e,eO t p d e=true→eO (t.set q (iU (t.getD q []) a)) p d e=true:=fun p d e hb=>by
   rw[kk PK];split
   ·rename_i hp;subst hp;rw[Yz,show bf (t.getD p []) d e=true from hb];rfl
   ·exact hb
  refine⟨⟨h.wf.set hu,fun p d e hb=>?_,fun d hd=>Qp 0 d d (h.base d hd)⟩,?_,Qp,fun p hp=>?_,fun h=>(Pj h).elim,fun _=>?_⟩
  ·rw[kk PK] at hb;split at hb
   ·rename_i hp;subst hp;rw[Yz,Bool.or_eq_true] at hb;rcases hb with hb | hb
    ·exact h.sound p d e hb
    ·exact hs d e hb
   ·exact h.sound p d e hb
  ·rw[WX,ml (by rw[ha.len,hu.len])];intro d e hb;rw[Yz,hb,Bool.or_true]
  ·rw[List.getD_eq_getElem?_getD,List.getElem?_set_ne (fun e=>hp e.symm),List.getD_eq_getElem?_getD]
  ·have h1:=sE t q (t.getD q []) (iU (t.getD q []) a) g;have h2:cT (t.getD q [])<cT (iU (t.getD q []) a):=by
    have Pf:¬ ∀ d e,bf a d e=true→bf (t.getD q []) d e=true:=fun hh=>by
     exact Pj ((ml hlen).2 hh)
    have hex:∃ d e,bf a d e=true∧bf (t.getD q []) d e=false:=by
     refine Classical.byContradiction fun hc=>Pf fun d e hb=>?_
     cases Qz:bf (t.getD q []) d e with
     | true=>rfl
     | false=>exact (hc ⟨d,e,hb,Qz⟩).elim
    obtain⟨d,e,hb,Qz⟩:=hex;have hle:=(kQ ha hb).2;have:=H.L8;exact qR _ _ (by rw[w.len,hu.len]) (fun d e hb=>by rw[Yz,hb];rfl) ⟨d,e,by omega,Qz,by rw[Yz,hb,Bool.or_true]⟩
   omega
def jI (a:List Nat):List Nat→List (List Nat)→List Nat→List (List Nat)×List Nat
 | [],t,td=>(t,td)
 | q::r,t,td=>if rv a (t.getD q [])=true then jI a r t td else jI a r (t.set q (iU (t.getD q []) a)) (td++[q])
omit H in
theorem va (a:List Nat):∀ (l:List Nat) (q:Nat) (t:List (List Nat)) (td:List Nat),jI a (l++[q]) t td=(if rv a ((jI a l t td).1.getD q [])=true then jI a l t td else ((jI a l t td).1.set q (iU ((jI a l t td).1.getD q []) a),(jI a l t td).2++[q]))
 | [],q,t,td=>by
  simp only[List.nil_append,jI];rfl
 | x::l,q,t,td=>by
  simp only[List.cons_append,jI];split<;>exact va a l q _ _
structure PrcI (u:Un)(c:Cl)(L m i:Nat)(x:Is)(sm:List (List Nat))(a:List Nat)(qs:List Nat)(t0:List (List Nat))(td0:List Nat)(t:List (List Nat))(td:List Nat):Prop where
 A:z9 u c L m i x sm t
 mono:∀ p d e,eO t0 p d e=true→eO t p d e=true
 LM:∀ p,p∈td∨t.getD p []=t0.getD p []
 sub:∀ p,p∈td0→p∈td
 val:∀ p,p∈td→p∈td0∨p<(au u x).length
 done:∀ q∈qs,rv a (t.getD q [])=true
 ms:td.length+2*cL t0≤td0.length+2*cL t
theorem DP {t0:List (List Nat)}{td0:List Nat}(h0:z9 u c L m i x sm t0){a:List Nat}(ha:qc L a):∀ (qs:List Nat),(∀ q∈qs,q<(au u x).length∧∀ d e,bf a d e=true→Ri u c m L (xv sm) i q d e)→∀ n,n≤qs.length→PrcI u c L m i x sm a (qs.take n) t0 td0 (jI a (qs.take n) t0 td0).1 (jI a (qs.take n) t0 td0).2:=by
 intro qs hqs n
 induction n with
 | zero=>intro _;exact⟨h0,fun _ _ _ h=>h,fun _=>.inr rfl,fun _ h=>h,fun _ h=>.inl h,(fun q hq=>by simp at hq),Nat.le_refl _⟩
 | succ n ih=>
  intro hn;have hI:=ih yA;obtain⟨q,Tu⟩:∃ q,qs[n]? = some q:=⟨_,List.getElem?_eq_getElem yA⟩;obtain⟨hq,hs⟩:=hqs q (List.mem_of_getElem? Tu);have Pd:qs.take (n+1)=qs.take n++[q]:=by rw[List.take_add_one,Tu];rfl
  rw[Pd];generalize qs.take n=l at hI ⊢;rw[va];generalize jI a l t0 td0=s at hI;obtain⟨t,td⟩:=s;simp only at hI ⊢;obtain⟨k1,k2,k3,k4,k5,k6⟩:=DA H hI.A hq ha hs;by_cases Pj:rv a (t.getD q [])=true
  ·rw[if_pos Pj];refine⟨hI.A,hI.mono,hI.LM,hI.sub,hI.val,fun p hp=>?_,hI.ms⟩;rcases List.mem_append.1 hp with hp | hp
   ·exact hI.done p hp
   ·rw[List.mem_singleton.1 hp];exact Pj
  ·rw[if_neg Pj];rw[uI Pj] at k1 k2 k3 k4 k6;have hb:=k6 (by simpa using Pj);refine⟨k1,fun p d e h=>k3 p d e (hI.mono p d e h),fun p=>?_,fun p hp=>List.mem_append_left _ (hI.sub p hp),fun p hp=>?_,fun p hp=>?_,?_⟩
   ·by_cases PA:p=q
    ·exact .inl (by simp[PA])
    ·rcases hI.LM p with h | h
     ·exact .inl (List.mem_append_left _ h)
     ·exact .inr (by rw[k4 p PA];exact h)
   ·rcases List.mem_append.1 hp with hp | hp
    ·exact hI.val p hp
    ·rw[List.mem_singleton.1 hp];exact .inr hq
   ·by_cases PA:p=q
    ·rw[PA];exact k2
    ·rw[k4 p PA];rcases List.mem_append.1 hp with hp | hp
     ·exact hI.done p hp
     ·exact (PA (List.mem_singleton.1 hp)).elim
   ·have:=hI.ms;simp only[List.length_append,List.length_singleton];omega
structure JO (u:Un)(c:Cl)(L m i:Nat)(x:Is)(sm:List (List Nat))(t:List (List Nat))(td:List Nat):Prop where
 A:z9 u c L m i x sm t
 val:∀ p∈td,p<(au u x).length
 EK:∀ p,p<(au u x).length→p∈td∨EJ u c L m i x sm t p
theorem JO.start:JO u c L m i x sm ((List.replicate (au u x).length (kS L)).set 0 (kr L 0)) [0]:=by
 refine⟨z9.start H,fun p hp=>by rw[List.mem_singleton.1 hp];exact H.pos,fun p hp=>?_⟩;by_cases h:p=0
 ·exact .inl (by simp[h])
 ·exact .inr (Fc H hp h)
def H7 (n L:Nat)(t:List (List Nat))(td:List Nat):Nat:=2*(9*(L+1)*n-cL t)+td.length
theorem JO.step {t:List (List Nat)}{td:List Nat}{pc:Nat}(h:JO u c L m i x sm t (td++[pc])){z:In}(hz:(au u x)[pc]? = some z) :
  JO u c L m i x sm (jI (nr (t.getD pc []) (fC c L m sm i x z pc)) (eM z pc) t td).1 (jI (nr (t.getD pc []) (fC c L m sm i x z pc)) (eM z pc) t td).2∧
  H7 (au u x).length L (jI (nr (t.getD pc []) (fC c L m sm i x z pc)) (eM z pc) t td).1 (jI (nr (t.getD pc []) (fC c L m sm i x z pc)) (eM z pc) t td).2<H7 (au u x).length L t (td++[pc]):=by
 have mV:=h.val pc OU;obtain⟨w,g⟩:=vI H h.A.wf mV;have S7:=kD H (m:=m) hz;have ha:=pZ w S7;have hI:=DP H (td0:=td) h.A ha (eM z pc) (fun q hq=>⟨H.nx pc z hz q hq,fun d e hb=>by
  obtain⟨k,k1,k2⟩:=(oQ _ _ d e).1 hb;exact tY H hz hq (h.A.sound pc d k k1) k2⟩) (eM z pc).length (Nat.le_refl _)
 rw[List.take_length] at hI;generalize hae:nr (t.getD pc []) (fC c L m sm i x z pc)=a at ha hI ⊢;generalize jI a (eM z pc) t td=s at hI ⊢;obtain⟨t',td'⟩:=s;simp only at hI ⊢;refine⟨⟨hI.A,fun p hp=>?_,fun p hp=>?_⟩,?_⟩
 ·rcases hI.val p hp with hp | hp
  ·exact h.val p (List.mem_append_left _ hp)
  ·exact hp
 ·rcases hI.LM p with h1 | h1
  ·exact .inl h1
  ·by_cases XW:p=pc
   ·subst XW;right;intro z' PZ q hq;rw[hz] at PZ;cases PZ;rw[h1,hae];exact hI.done q hq
   ·rcases h.EK p hp with h2 | h2
    ·rcases List.mem_append.1 h2 with h2 | h2
     ·exact .inl (hI.sub p h2)
     ·exact (XW (List.mem_singleton.1 h2)).elim
    ·right;intro z' PZ q hq;have h3:=h2 z' PZ q hq;have QW:=H.nx p z' PZ q hq;obtain⟨w1,_⟩:=vI H h.A.wf hp;obtain⟨w2,_⟩:=vI H h.A.wf QW;obtain⟨w3,_⟩:=vI H hI.A.wf QW;have hc:=pZ w1 (kD H (m:=m) PZ);rw[ml (by rw[hc.len,w2.len])] at h3;rw[h1,ml (by rw[hc.len,w3.len])];exact fun d e hb=>hI.mono q d e (h3 d e hb)
 ·have h1:=hI.ms;have h2:=l8 t' hI.A.wf.row;rw[hI.A.wf.len] at h2;unfold H7;simp only[List.length_append,List.length_singleton];omega
theorem JO.fin {t:List (List Nat)}(h:JO u c L m i x sm t []):t=qh L (au u x).length (Ri u c m L (xv sm) i):=
 h.A.fin H fun p hp=>by
  rcases h.EK p hp with h1 | h1
  ·cases h1
  ·exact h1
end
end Go.aP
