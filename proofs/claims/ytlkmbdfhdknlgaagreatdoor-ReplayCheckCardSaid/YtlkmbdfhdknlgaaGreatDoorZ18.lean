/- What a closure is: the calls, where instances come from, the -/
import Derived.Test.YtlkmbdfhdknlgaaGreatDoorZ17
import Derived.Test.YtlkmbdfhdknlgaaGreatDoorProg
import Derived.KernelRfl
namespace Go.aT
open Go.Can
def uI (l:List Is)(x:Is)(c:List In):List Int:=c.map fun i=>match iy x i with
 | none=>-1
 | some y=>(fo l y:Int)
theorem rG {l:List Is}{y:Is}(h:y∈l)(t:List Is):fo (l++t) y=fo l y:=by
 unfold fo;rw[List.findIdx_append,if_pos];exact List.findIdx_lt_length_of_exists ⟨y,h,by simp⟩
theorem wg (x:Is)(t:List Is):∀ (c:List In) (l:List Is),(∀ i∈c,∀ y,iy x i=some y→y∈l)→uI (l++t) x c=uI l x c
 | [],_,_=>rfl
 | i::c,l,h=>by
  have ih:=wg x t c l fun j hj=>h j (List.mem_cons_of_mem _ hj);unfold uI at ih ⊢;rw[List.map_cons,List.map_cons,ih];congr 1
  cases hc:iy x i with
  | none=>rfl
  | some y=>
   simp only;rw[rG (h i List.mem_cons_self y hc)]
theorem m8 (l:List Nat)(n x:Nat):x∈eY l n↔x∈l∨x=n:=by
 unfold eY;split
 ·rename_i h;exact⟨.inl,fun h2=>h2.elim id fun e=>e ▸ h⟩
 ·rw[List.mem_append,List.mem_cons];have:=List.take_append_drop (bW l n) l;constructor
  ·rintro (h | h | h)
   ·exact .inl (List.mem_of_mem_take h)
   ·exact .inr h
   ·exact .inl (List.mem_of_mem_drop h)
  ·rintro (h | h)
   ·rw[← this,List.mem_append] at h;exact h.elim .inl fun h=>.inr (.inr h)
   ·exact .inr (.inl h)
structure SI (x:Is)(c:List In)(l:List Is)(r:List Nat)(L:List Is)(row:List Int)(R:List Nat):Prop where
 pre:∃ t,L=l++t
 row:row=uI L x c
 mem:∀ i∈c,∀ y,iy x i=some y→y∈L
 nd:l.Nodup→L.Nodup
 new:∀ k y,l.length≤k→L[k]? = some y→∃ i∈c,iy x i=some y
 root:∀ n,n∈R↔n∈r∨∃ i∈c,pj i=true∧∃ y,iy x i=some y∧fo L y=n
theorem yD (x:Is):∀ (c:List In) (l:List Is) (r:List Nat),SI x c l r (fJ x c l r).1 (fJ x c l r).2.1 (fJ x c l r).2.2
 | [],l,r=>by
  refine⟨⟨[],by simp[fJ]⟩,rfl,(fun i hi=>by cases hi),id,fun k y h1 h2=>?_,fun n=>by simp[fJ]⟩;simp only[fJ] at h2;rw[List.getElem?_eq_none h1] at h2;cases h2
 | i::c,l,r=>by
  cases hc:iy x i with
  | none=>
   have ih:=yD x c l r;simp only[fJ,hc];refine⟨ih.pre,?_,?_,ih.nd,?_,?_⟩
   ·rw[ih.row];simp only[uI,List.map_cons,hc]
   ·intro j hj y hy;rcases List.mem_cons.1 hj with rfl | hj
    ·rw[hc] at hy;cases hy
    ·exact ih.mem j hj y hy
   ·intro k y h1 h2;obtain⟨j,hj,hy⟩:=ih.new k y h1 h2;exact⟨j,List.mem_cons_of_mem _ hj,hy⟩
   ·intro n;rw[ih.root];constructor
    ·rintro (h | ⟨j,hj,h⟩)
     ·exact .inl h
     ·exact .inr ⟨j,List.mem_cons_of_mem _ hj,h⟩
    ·rintro (h | ⟨j,hj,hg,y,hy,h⟩)
     ·exact .inl h
     ·rcases List.mem_cons.1 hj with rfl | hj
      ·rw[hc] at hy;cases hy
      ·exact .inr ⟨j,hj,hg,y,hy,h⟩
  | some z=>
   have ih:=yD x c (dQ l z) (if pj i=true then eY r (fo (dQ l z) z) else r);simp only[fJ,hc];generalize fJ x c (dQ l z) (if pj i=true then eY r (fo (dQ l z) z) else r)=S at ih ⊢;obtain⟨t,ht⟩:=ih.pre;obtain⟨t',XU⟩:=x6 l z;have hz:z∈dQ l z:=x7 l z;have Vl:fo S.1 z=fo (dQ l z) z:=by rw[ht];exact rG hz t
   refine⟨⟨t'++t,by rw[ht,XU,List.append_assoc]⟩,?_,?_,fun h=>ih.nd (kN h),?_,?_⟩
   ·rw[ih.row];simp only[uI,List.map_cons,hc,Vl]
   ·intro j hj y hy;rcases List.mem_cons.1 hj with rfl | hj
    ·rw[hc] at hy;cases hy;rw[ht];exact List.mem_append_left _ hz
    ·exact ih.mem j hj y hy
   ·intro k y h1 h2;by_cases hk:(dQ l z).length≤k
    ·obtain⟨j,hj,hy⟩:=ih.new k y hk h2;exact⟨j,List.mem_cons_of_mem _ hj,hy⟩
    ·rw[ht,List.getElem?_append_left yA] at h2;refine⟨i,List.mem_cons_self,?_⟩;unfold dQ at h2 hk;split at h2
     ·rw[List.getElem?_eq_none h1] at h2;cases h2
     ·rw[List.getElem?_append_right h1] at h2;have:k-l.length=0:=by
       have:=(List.getElem?_eq_some_iff.1 h2).1;simp only[List.length_cons,List.length_nil] at this;omega
      rw[this] at h2;simp only[List.getElem?_cons_zero,Option.some.injEq] at h2;rw[hc,h2]
   ·intro n;rw[ih.root];constructor
    ·rintro (h | ⟨j,hj,h⟩)
     ·by_cases hg:pj i=true
      ·rw[if_pos hg,m8] at h;rcases h with h | h
       ·exact .inl h
       ·exact .inr ⟨i,List.mem_cons_self,hg,z,hc,by rw[Vl,h]⟩
      ·rw[if_neg hg] at h;exact .inl h
     ·exact .inr ⟨j,List.mem_cons_of_mem _ hj,h⟩
    ·rintro (h | ⟨j,hj,hg,y,hy,h⟩)
     ·refine .inl ?_;split
      ·rw[m8];exact .inl h
      ·exact h
     ·rcases List.mem_cons.1 hj with rfl | hj
      ·refine .inl ?_;rw[if_pos hg,m8];rw[hc] at hy;cases hy;exact .inr (by rw[← h,Vl])
      ·exact .inr ⟨j,hj,hg,y,hy,h⟩
structure CI (u:Un)(i:Nat)(l:List Is)(cs:List (List Int))(r:List Nat):Prop where
 len:cs.length=i
 le:i≤l.length
 pos:0<l.length
 nd:l.Nodup
 mem:∀ j x,j<i→l[j]? = some x→∀ c∈aC u x,∀ y,iy x c=some y→y∈l
 row:∀ j x,j<i→l[j]? = some x→cs[j]? = some (uI l x (aC u x))
 up:∀ k y,0<k→l[k]? = some y→∃ j x,j<i∧j<k∧l[j]? = some x∧∃ c∈aC u x,iy x c=some y
 root:∀ n,n∈r↔n=0∨∃ j x,j<i∧l[j]? = some x∧∃ c∈aC u x,pj c=true∧∃ y,iy x c=some y∧fo l y=n
theorem CI.step {u:Un}{i:Nat}{l:List Is}{cs:List (List Int)}{r:List Nat}(h:CI u i l cs r){x:Is}(hx:l[i]? = some x) :
  CI u (i+1) (fJ x (aC u x) l r).1 (cs++[(fJ x (aC u x) l r).2.1]) (fJ x (aC u x) l r).2.2:=by
 have s:=yD x (aC u x) l r;generalize fJ x (aC u x) l r=S at s ⊢;obtain⟨t,ht⟩:=s.pre;have nr:=(List.getElem?_eq_some_iff.1 hx).1;have NV:∀ j,j<l.length→S.1[j]? = l[j]?:=fun j hj=>by rw[ht,List.getElem?_append_left hj]
 have hle:l.length≤S.1.length:=by rw[ht];simp
 have SP:S.1[i]? = some x:=by rw[NV i nr,hx]
 have hlen:=h.len;have Li:∀ j y,j<i→l[j]? = some y→∀ c∈aC u y,∀ z,iy y c=some z→fo S.1 z=fo l z:=fun j y hj hy c hc z hz=>by
  rw[ht];exact rG (h.mem j y hj hy c hc z hz) t
 refine⟨by simp[hlen],by omega,by have:=h.pos;omega,s.nd h.nd,?_,?_,?_,?_⟩
 ·intro j y hj hy c hc z hz;by_cases e:j=i
  ·subst e;rw[SP] at hy;cases hy;exact s.mem c hc z hz
  ·rw[NV j yA] at hy;rw[ht];exact List.mem_append_left _ (h.mem j y yA hy c hc z hz)
 ·intro j y hj hy;by_cases e:j=i
  ·subst e;rw[SP] at hy;cases hy;rw[List.getElem?_append_right yA,hlen,Nat.sub_self,s.row];rfl
  ·rw[NV j yA] at hy;rw[List.getElem?_append_left yA,h.row j y yA hy,ht,wg];exact fun c hc z hz=>h.mem j y yA hy c hc z hz
 ·intro k y hk hy;by_cases Ke:k<l.length
  ·rw[NV k Ke] at hy;obtain⟨j,z,h1,h2,h3,h4⟩:=h.up k y hk hy;exact⟨j,z,by omega,h2,by rw[NV j yA];exact h3,h4⟩
  ·obtain⟨c,hc,Y1⟩:=s.new k y yA hy;exact⟨i,x,by omega,by omega,SP,c,hc,Y1⟩
 ·intro n;rw[s.root,h.root];constructor
  ·rintro ((h1 | ⟨j,y,h1,h2,c,h3,h4,z,h5,h6⟩) | ⟨c,hc,hg,y,hy,h1⟩)
   ·exact .inl h1
   ·exact .inr ⟨j,y,by omega,by rw[NV j yA];exact h2,c,h3,h4,z,h5,by rw[Li j y h1 h2 c h3 z h5];exact h6⟩
   ·exact .inr ⟨i,x,by omega,SP,c,hc,hg,y,hy,h1⟩
  ·rintro (h1 | ⟨j,y,h1,h2,c,h3,h4,z,h5,h6⟩)
   ·exact .inl (.inl h1)
   ·by_cases e:j=i
    ·subst e;rw[SP] at h2;cases h2;exact .inr ⟨c,h3,h4,z,h5,h6⟩
    ·rw[NV j yA] at h2;exact .inl (.inr ⟨j,y,by omega,h2,c,h3,h4,z,h5,by rw[← Li j y yA h2 c h3 z h5];exact h6⟩)
theorem nS {u:Un}(hu:jP u){x:Is}(hx:p6 u x):∀ (c:List In) (l:List Is) (r:List Nat),(∀ i∈c,i∈aC u x)→l.Nodup→(∀ y∈l,p6 u y)→(fJ x c l r).1.Nodup∧∀ y∈(fJ x c l r).1,p6 u y
 | [],_,_,_,h1,h2=>⟨h1,h2⟩
 | i::c,l,r,hc,h1,h2=>by
  simp only[fJ];split
  ·exact nS hu hx c l r (fun j hj=>hc j (List.mem_cons_of_mem _ hj)) h1 h2
  ·rename_i y hy;exact nS hu hx c _ _ (fun j hj=>hc j (List.mem_cons_of_mem _ hj)) (kN h1) (zp h2 (zk hu hx (hc i List.mem_cons_self) hy))
theorem Ap {u:Un}(hu:jP u):∀ (f i:Nat) (l:List Is) (cs:List (List Int)) (r:List Nat),i+f=100→(∀ y∈l,p6 u y)→CI u i l cs r →
  CI u (kG u f i l cs r).is.length (kG u f i l cs r).is (kG u f i l cs r).calls (kG u f i l cs r).roots
 | 0,i,l,cs,r,hf,hv,h=>by
  have:=iU hu h.nd hv;have:=h.le;omega
 | f+1,i,l,cs,r,hf,hv,h=>by
  simp only[kG];split
  ·rename_i hn;have hle:l.length≤i:=by simpa using hn
   have hi:i=l.length:=by have:=h.le;omega
   subst hi;exact h
  ·rename_i x hx;exact Ap hu f (i+1) _ _ _ yA (nS hu (hv x (List.mem_of_getElem? hx)) (aC u x) l r (fun _ h=>h) h.nd hv).2 (h.step hx)
theorem F4 {u:Un}(hu:jP u):CI u (av u).is.length (av u).is (av u).calls (av u).roots:=by
 refine Ap hu 100 0 [⟨u.main,[]⟩] [] [0] rfl (fun x hx=>?_) ⟨rfl,by simp,by simp,by simp,(fun j x hj=>by omega),(fun j x hj=>by omega),fun k y hk hy=>?_,fun n=>by simp⟩
 ·rw[List.mem_singleton.1 hx];have hp:=hu.np.1;obtain⟨q,hq⟩:∃ q,u.ps[0]? = some q:=⟨_,List.getElem?_eq_getElem yA⟩;exact⟨⟨q,by rw[hu.main];exact hq,by rw[(hu.p0 q hq).2];rfl⟩,fun l hl=>by cases hl⟩
 ·obtain⟨k',rfl⟩:∃ k',k=k' + 1:=⟨k-1,by omega⟩;simp at hy
theorem IC {L x e:Nat}(hx:x<2 ^ (L+1))(h:x.testBit e=true):e≤L:=by
 by_cases h2:e≤L
 ·exact h2
 ·have h3:x<2 ^ e:=Nat.lt_of_lt_of_le hx (Nat.pow_le_pow_right yA yA);rw[Nat.testBit_lt_two_pow h3] at h;cases h
def Es (r:List Nat)(d e:Nat):Bool:=(r.getD d 0).testBit e
def Ep (t:List (List Nat))(p d e:Nat):Bool:=Es (t.getD p []) d e
structure WfR (L:Nat)(r:List Nat):Prop where
 len:r.length=L+1
 lt:∀ s∈r,s<2 ^ (L+1)
theorem Gd {L:Nat}{r:List Nat}(h:WfR L r){d e:Nat}(hb:Es r d e=true):d≤L∧e≤L:=by
 unfold Es at hb;rw[List.getD_eq_getElem?_getD] at hb
 cases hx:r[d]? with
 | none=>rw[hx] at hb;simp at hb
 | some s=>
  rw[hx] at hb;have h1:=(List.getElem?_eq_some_iff.1 hx).1;have h2:=h.len;exact⟨by omega,IC (h.lt s (List.mem_of_getElem? hx)) hb⟩
def apF:List Nat→Nat→Nat→Nat
 | [],_,_=>0
 | s::r,x,d=>(if x.testBit d=true then s else 0) ||| apF r x (d+1)
def apR (r:List Nat)(x:Nat):Nat:=apF r x 0
def coR (a b:List Nat):List Nat:=a.map (apR b)
def unR (a b:List Nat):List Nat:=List.zipWith (· ||| ·) a b
def inR (a b:List Nat):Bool:=(List.zipWith (fun x y=>decide (x ||| y=y)) a b).all id
def shF (L:Nat)(c:Int):List Nat:=(List.range (L+1)).map fun d:Nat=>if 0≤(d:Int)+c∧(d:Int)+c≤L then 2 ^ ((d:Int)+c).toNat else 0
def dO (x:Is)(m:Nat):In→Int
 | .lock un p=>if l9 x p=m then (if un=true then -1 else 1) else 0
 | _=>0
def qp (z:In)(pc:Nat):List Nat:=match z with
 | .ret=>[]
 | .jump g=>[g]
 | .branch g _=>if g=pc+1 then [g] else [min g (pc+1),max g (pc+1)]
 | _=>[pc+1]
def km:In→Bool
 | .call g _ _ _=>!g
 | _=>false
def uK:In→Bool
 | .ret=>true
 | _=>false
def sH (c:Cl)(i pc:Nat):Nat:=((c.calls.getD i []).getD pc (-1)).toNat
section
variable (u:Un)(c:Cl)(m L:Nat)
inductive Ri (S:Nat→Nat→Nat→Prop)(i:Nat):Nat→Nat→Nat→Prop
 | base {d:Nat} (h:d≤L):Ri S i 0 d d
 | step {pc d e e' q:Nat} {x:Is} {z:In} (h:Ri S i pc d e) (hx:c.is[i]? = some x) (hz:(aC u x)[pc]? = some z) (hc:km z=false) (he:(e':Int)=e+dO x m z) (hl:e'≤L) (hq:q∈qp z pc):Ri S i q d e'
 | call {pc d e e':Nat} {x:Is} {z:In} (h:Ri S i pc d e) (hx:c.is[i]? = some x) (hz:(aC u x)[pc]? = some z) (hc:km z=true) (hs:S (sH c i pc) e e') (hl:e'≤L):Ri S i (pc+1) d e'
def ExP (S:Nat→Nat→Nat→Prop)(i d e:Nat):Prop:=∃ (pc:Nat) (x:Is),c.is[i]? = some x∧(aC u x)[pc]? = some .ret∧Ri u c m L S i pc d e
end
section
variable {u:Un}{c:Cl}{m L:Nat}
theorem Ri.mono {S S':Nat→Nat→Nat→Prop}(hS:∀ i d e,S i d e→S' i d e){i pc d e:Nat}(h:Ri u c m L S i pc d e):Ri u c m L S' i pc d e:=by
 induction h with
 | base h=>exact .base h
 | step _ hx hz hc he hl hq ih=>exact .step ih hx hz hc he hl hq
 | call _ hx hz hc hs hl ih=>exact .call ih hx hz hc (hS _ _ _ hs) hl
theorem ExP.mono {S S':Nat→Nat→Nat→Prop}(hS:∀ i d e,S i d e→S' i d e){i d e:Nat}:ExP u c m L S i d e→ExP u c m L S' i d e:=fun⟨pc,x,h1,h2,h3⟩=>⟨pc,x,h1,h2,h3.mono hS⟩
end
structure IE (L n:Nat)(t:List (List Nat)):Prop where
 len:t.length=n
 row:∀ r∈t,WfR L r
theorem BK {t:List (List Nat)}{p:Nat}{r:List Nat}(h:t[p]? = some r)(d e:Nat):Ep t p d e=Es r d e:=by
 simp[Ep,List.getD_eq_getElem?_getD,h]
theorem BL {t:List (List Nat)}{p:Nat}(h:t.length≤p)(d e:Nat):Ep t p d e=false:=by
 simp[Ep,List.getD_eq_getElem?_getD,List.getElem?_eq_none h,Es]
theorem IE.get {L n:Nat}{t:List (List Nat)}(h:IE L n t){p:Nat}(hp:p<n):∃ r,t[p]? = some r∧WfR L r:=by
 have:=h.len;refine⟨_,List.getElem?_eq_getElem yA,h.row _ (List.getElem_mem _)⟩
theorem IE.lt {L n:Nat}{t:List (List Nat)}(h:IE L n t){p d e:Nat}(hb:Ep t p d e=true):p<n∧d≤L∧e≤L:=by
 by_cases hp:p<n
 ·obtain⟨r,hr,hw⟩:=h.get hp;rw[BK hr] at hb;exact⟨hp,Gd hw hb⟩
 ·rw[BL (by have:=h.len;omega)] at hb;cases hb
theorem IE.set {L n:Nat}{t:List (List Nat)}(h:IE L n t){p:Nat}{r:List Nat}(hr:WfR L r):IE L n (t.set p r):=⟨by rw[List.length_set];exact h.len,fun x hx=>by
 rcases List.mem_or_eq_of_mem_set hx with hx | rfl
 ·exact h.row x hx
 ·exact hr⟩
structure It where
 pc:Int
 o0:Int
def kY (x:It):List CV:=[I x.pc,I x.o0]
structure Ru where
 inst:Int
 dU:Bool
 items:List It
def eU (l:List It):CV:=.au (l.flatMap kY) l.length
def cZ (r:Ru):List CV:=[I r.inst,.bool r.dU,eU r.items]
structure Ce where
 lock:Int
 inst:Int
 pc:Int
 depth:Int
 rules:List Ru
def ct (l:List Ru):CV:=.au (l.flatMap cZ) l.length
def qz (x:Ce):List CV:=[I x.lock,I x.inst,I x.pc,I x.depth,ct x.rules]
def oD (x:Ce):CV:=.agg (qz x)
theorem iq (x:It):(kY x).length=2:=rfl
theorem cj (x:Ru):(cZ x).length=3:=rfl
structure Et where
 lo:Int
 hi:Int
 gm:Int
 deriving DecidableEq
def dD (e:Et):List CV:=[I e.lo,I e.hi,I e.gm]
theorem fW (x:Et):(dD x).length=3:=rfl
def jJ (l:List Et):CV:=.au (l.flatMap dD) l.length
def Et.ok (e:Et):Bool:=decide (-8≤e.lo) && decide (e.lo≤0) && decide (0≤e.hi) && decide (e.hi≤8) && decide (e.lo≤e.gm) && decide (e.gm≤e.hi)
def sO:Et:=⟨-9,9,0⟩
def Bf (n:Int):Et:=if n < -1∨1<n then sO else ⟨min n 0,max n 0,n⟩
def iM (a b:Et):Et:=if a.ok=true∧b.ok=true then
  (if (⟨min a.lo (a.gm+b.lo),max a.hi (a.gm+b.hi),a.gm+b.gm⟩:Et).ok=true then ⟨min a.lo (a.gm+b.lo),max a.hi (a.gm+b.hi),a.gm+b.gm⟩ else sO) else sO
def nk (e:Et)(fr XL:Int):Bool:=e.ok && decide (0≤fr) && decide (fr≤8) && decide (XL≤8) && decide (0≤fr+e.lo) && decide (fr+e.hi≤XL)
theorem pf (e:Et):e.ok=true↔-8≤e.lo∧e.lo≤0∧0≤e.hi∧e.hi≤8∧e.lo≤e.gm∧e.gm≤e.hi:=by
 simp only[Et.ok,Bool.and_eq_true,decide_eq_true_eq,and_assoc]
def fS (u:Un)(x:Is)(pc:Int):Option In:=if pc<0 then none else (aC u x)[pc.toNat]?
def dZ (c:Cl)(l:List Ru)(k i:Nat)(z:In)(pc:Nat)(rl:Int)(lr:Bool):Bool:=
 if km z=true then (if rl<0∨(k:Int)≤rl then false else match l[rl.toNat]? with
  | some q=>decide (q.inst=(c.calls.getD i []).getD pc (-1)) && (!q.dU || lr)
  | none=>false) else decide (rl=-1)
def lE (u:Un)(c:Cl)(l:List Ru)(k i:Nat)(dU:Bool)(x:Is):List It→List Nat→Bool
 | [],_=>true
 | it::t,ws=>match fS u x it.pc with
  | none=>false
  | some z=>decide (it.pc.toNat∈ws) && (uK z == (t.isEmpty && !dU)) && dZ c l k i z it.pc.toNat it.o0 (t.isEmpty && dU) && lE u c l k i dU x t (qp z it.pc.toNat)
def cO (u:Un)(c:Cl)(l:List Ru)(k:Nat)(r:Ru):Bool:=if r.inst<0 then false else match c.is[r.inst.toNat]? with
 | none=>false
 | some x=>(r.dU || !r.items.isEmpty) && lE u c l k r.inst.toNat r.dU x r.items [0]
def sA (u:Un)(x:Is)(m:Nat)(L1:List Et)(it:It):Et:=if it.o0=-1 then Bf (match fS u x it.pc with
  | some z=>dO x m z
  | none=>0) else L1.getD it.o0.toNat sO
def qd (u:Un)(x:Is)(m:Nat)(L1:List Et)(l:List It)(e:Et):Et:=l.foldl (fun e it=>iM e (sA u x m L1 it)) e
def Du (c:Cl)(i:Int):Is:=c.is.getD i.toNat ⟨0,[]⟩
def Bv (u:Un)(c:Cl)(m:Nat)(L1:List Et)(r:Ru):Et:=qd u (Du c r.inst) m L1 r.items ⟨0,0,0⟩
def fX (u:Un)(c:Cl)(l:List Ru)(m:Nat):List Ru→List Et→List Et×Nat×Int
 | [],out=>(out,out.length,0)
 | r::t,out=>if cO u c l out.length r=true then fX u c l m t (out++[Bv u c m out r]) else ([],out.length,12)
def kD (u:Un)(c:Cl)(l:List Ru)(inst pc:Int):Nat→Nat→Bool
 | 0,_=>false
 | f+1,k=>match l[k]? with
  | none=>false
  | some r=>match r.items.getLast? with
   | none=>r.dU && decide (r.inst=inst) && decide (pc=0)
   | some x=>if 0≤x.o0∧(l[x.o0.toNat]?).any (·.dU)=true then kD u c l inst pc f x.o0.toNat
    else r.dU && decide (r.inst=inst) && (match fS u (Du c r.inst) x.pc with
     | some z=>decide (0≤pc) && decide (pc.toNat∈qp z x.pc.toNat)
     | none=>false)
end Go.aT
namespace Go.Proofs.YtlkmbdfhdknlgaaGreatDoor
open Go.Can
def ak:List (Nat×TI):=[
 (3,⟨.int .i64,1,8,[.int .i64 0]⟩),
 (4,⟨.bool,1,1,[.bool false]⟩),
 (5,⟨.int .u8,1,1,[.int .u8 0]⟩),
 (9,⟨.str,1,16,[.str ⟨#[]⟩]⟩),
 (22,⟨.sl 3,1,24,[.ag]⟩),
 (23,⟨.sl 105,1,24,[.ag]⟩),
 (24,⟨.sl 89,1,24,[.ag]⟩),
 (25,⟨.sl 109,1,24,[.ag]⟩),
 (27,⟨.a6 [(0,23),(1,24),(2,25)],3,72,[.ag,.ag,.ag]⟩),
 (28,⟨.sl 123,1,24,[.ag]⟩),
 (30,⟨.a6 [(0,22),(1,24),(2,28),(3,3)],4,80,[.ag,.ag,.ag,.int .i64 0]⟩),
 (31,⟨.sl 75,1,24,[.ag]⟩),
 (32,⟨.sl 22,1,24,[.ag]⟩),
 (34,⟨.a6 [(0,31),(1,32),(2,22)],3,72,[.ag,.ag,.ag]⟩),
 (37,⟨.sl 55,1,24,[.ag]⟩),
 (39,⟨.a6 [(0,3),(1,3),(2,3),(3,3),(4,37)],5,56,[.int .i64 0,.int .i64 0,.int .i64 0,.int .i64 0,.ag]⟩),
 (42,⟨.sl 47,1,24,[.ag]⟩),
 (43,⟨.int .i64,1,8,[.int .i64 0]⟩),
 (47,⟨.a6 [(0,3),(1,3),(2,3)],3,24,[.int .i64 0,.int .i64 0,.int .i64 0]⟩),
 (53,⟨.sl 77,1,24,[.ag]⟩),
 (55,⟨.a6 [(0,3),(1,4),(2,53)],3,40,[.int .i64 0,.bool false,.ag]⟩),
 (66,⟨.ptr 69,1,8,[.bg]⟩),
 (69,⟨.a6 [(0,22),(1,3)],2,32,[.ag,.int .i64 0]⟩),
 (75,⟨.a6 [(0,3),(1,22)],2,32,[.int .i64 0,.ag]⟩),
 (77,⟨.a6 [(0,3),(1,3)],2,16,[.int .i64 0,.int .i64 0]⟩),
 (85,⟨.a6 [(0,3),(1,3)],2,16,[.int .i64 0,.int .i64 0]⟩),
 (89,⟨.a6 [(0,9),(1,4),(2,3)],3,32,[.str ⟨#[]⟩,.bool false,.int .i64 0]⟩),
 (94,⟨.sl 5,1,24,[.ag]⟩),
 (102,⟨.a6 [(0,66),(1,27),(4,3),(5,4)],6,96,[.bg,.ag,.ag,.ag,.int .i64 0,.bool false]⟩),
 (103,⟨.sl 9,1,24,[.ag]⟩),
 (105,⟨.a6 [(0,9),(1,3)],2,24,[.str ⟨#[]⟩,.int .i64 0]⟩),
 (106,⟨.sl 111,1,24,[.ag]⟩),
 (107,⟨.sl 170,1,24,[.ag]⟩),
 (109,⟨.a6 [(0,9),(1,106),(2,107)],3,64,[.str ⟨#[]⟩,.ag,.ag]⟩),
 (111,⟨.a6 [(0,9),(1,4)],2,24,[.str ⟨#[]⟩,.bool false]⟩),
 (114,⟨.sl 118,1,24,[.ag]⟩),
 (118,⟨.a6 [(0,9),(1,3),(2,3)],3,32,[.str ⟨#[]⟩,.int .i64 0,.int .i64 0]⟩),
 (121,⟨.sl 136,1,24,[.ag]⟩),
 (123,⟨.a6 [(0,9),(1,3),(2,3),(3,3),(4,121)],5,64,[.str ⟨#[]⟩,.int .i64 0,.int .i64 0,.int .i64 0,.ag]⟩),
 (129,⟨.sl 131,1,24,[.ag]⟩),
 (131,⟨.a6 [(0,3),(1,3),(2,9),(3,129)],4,56,[.int .i64 0,.int .i64 0,.str ⟨#[]⟩,.ag]⟩),
 (133,⟨.a6 [(0,4),(1,3),(2,129)],3,40,[.bool false,.int .i64 0,.ag]⟩),
 (134,⟨.sl 133,1,24,[.ag]⟩),
 (136,⟨.a6 [(0,3),(1,3),(2,4),(3,131),(7,133),(10,129),(11,134)],12,168,[.int .i64 0,.int .i64 0,.bool false,.int .i64 0,.int .i64 0,.str ⟨#[]⟩,.ag,.bool false,.int .i64 0,.ag,.ag,.ag]⟩),
 (142,⟨.a6 [(0,30),(4,34),(7,37)],8,176,[.ag,.ag,.ag,.int .i64 0,.ag,.ag,.ag,.ag]⟩),
 (145,⟨.sl 159,1,24,[.ag]⟩),
 (150,⟨.a6 [(0,145),(1,3),(2,3),(3,43),(4,3),(5,3)],6,64,[.ag,.int .i64 0,.int .i64 0,.int .i64 0,.int .i64 0,.int .i64 0]⟩),
 (159,⟨.a6 [(0,3),(1,9),(2,3),(3,3)],4,40,[.int .i64 0,.str ⟨#[]⟩,.int .i64 0,.int .i64 0]⟩),
 (167,⟨.a6 [(0,9),(1,129)],2,40,[.str ⟨#[]⟩,.ag]⟩),
 (168,⟨.sl 195,1,24,[.ag]⟩),
 (170,⟨.a6 [(0,3),(1,9),(2,131),(6,167),(8,168),(9,107),(10,107)],11,192,[.int .i64 0,.str ⟨#[]⟩,.int .i64 0,.int .i64 0,.str ⟨#[]⟩,.ag,.str ⟨#[]⟩,.ag,.ag,.ag,.ag]⟩),
 (178,⟨.a6 [(0,27),(3,114),(4,3),(5,3),(6,3),(7,43),(8,121),(9,22)],10,176,[.ag,.ag,.ag,.ag,.int .i64 0,.int .i64 0,.int .i64 0,.int .i64 0,.ag,.ag]⟩),
 (195,⟨.a6 [(0,4),(1,167),(3,131)],7,104,[.bool false,.str ⟨#[]⟩,.ag,.int .i64 0,.int .i64 0,.str ⟨#[]⟩,.ag]⟩),
 (205,⟨.arr 9 4,9,9,[.bool false,.bool false,.bool false,.bool false,.bool false,.bool false,.bool false,.bool false,.bool false]⟩),
 (207,⟨.arr 3 3,3,24,[.int .i64 0,.int .i64 0,.int .i64 0]⟩),
 (209,⟨.a6 [],0,0,[]⟩),
 (211,⟨.a6 [(0,3)],1,8,[.int .i64 0]⟩),
 (212,⟨.a6 [(0,3)],1,8,[.int .i64 0]⟩),
 (213,⟨.a6 [],0,0,[]⟩),
 (221,⟨.int .u64,1,8,[.int .u64 0]⟩)]
theorem af:ay Tryz.prog ak:=
 ay.cons (bV.mk' lz lz rfl) <|
 ay.cons (bV.mk' lz lz rfl) <|
 ay.cons (bV.mk' lz lz rfl) <|
 ay.cons (bV.mk' lz lz rfl) <|
 ay.cons (bV.mk' lz lz rfl) <|
 ay.cons (bV.mk' lz lz rfl) <|
 ay.cons (bV.mk' lz lz rfl) <|
 ay.cons (bV.mk' lz lz rfl) <|
 ay.cons (bV.mk' lz lz rfl) <|
 ay.cons (bV.mk' lz lz rfl) <|
 ay.cons (bV.mk' lz lz rfl) <|
 ay.cons (bV.mk' lz lz rfl) <|
 ay.cons (bV.mk' lz lz rfl) <|
 ay.cons (bV.mk' lz lz rfl) <|
 ay.cons (bV.mk' lz lz rfl) <|
 ay.cons (bV.mk' lz lz rfl) <|
 ay.cons (bV.mk' lz lz rfl) <|
 ay.cons (bV.mk' lz lz rfl) <|
 ay.cons (bV.mk' lz lz rfl) <|
 ay.cons (bV.mk' lz lz rfl) <|
 ay.cons (bV.mk' lz lz rfl) <|
 ay.cons (bV.mk' lz lz rfl) <|
 ay.cons (bV.mk' lz lz rfl) <|
 ay.cons (bV.mk' lz lz rfl) <|
 ay.cons (bV.mk' lz lz rfl) <|
 ay.cons (bV.mk' lz lz rfl) <|
 ay.cons (bV.mk' lz lz rfl) <|
 ay.cons (bV.mk' lz lz rfl) <|
 ay.cons (bV.mk' lz lz rfl) <|
 ay.cons (bV.mk' lz lz rfl) <|
 ay.cons (bV.mk' lz lz rfl) <|
 ay.cons (bV.mk' lz lz rfl) <|
 ay.cons (bV.mk' lz lz rfl) <|
 ay.cons (bV.mk' lz lz rfl) <|
 ay.cons (bV.mk' lz lz rfl) <|
 ay.cons (bV.mk' lz lz rfl) <|
 ay.cons (bV.mk' lz lz rfl) <|
 ay.cons (bV.mk' lz lz rfl) <|
 ay.cons (bV.mk' lz lz rfl) <|
 ay.cons (bV.mk' lz lz rfl) <|
 ay.cons (bV.mk' lz lz rfl) <|
 ay.cons (bV.mk' lz lz rfl) <|
 ay.cons (bV.mk' lz lz rfl) <|
 ay.cons (bV.mk' lz lz rfl) <|
 ay.cons (bV.mk' lz lz rfl) <|
 ay.cons (bV.mk' lz lz rfl) <|
 ay.cons (bV.mk' lz lz rfl) <|
 ay.cons (bV.mk' lz lz rfl) <|
 ay.cons (bV.mk' lz lz rfl) <|
 ay.cons (bV.mk' lz lz rfl) <|
 ay.cons (bV.mk' lz lz rfl) <|
 ay.cons (bV.mk' lz lz rfl) <|
 ay.cons (bV.mk' lz lz rfl) <|
 ay.cons (bV.mk' lz lz rfl) <|
 ay.cons (bV.mk' lz lz rfl) <|
 ay.cons (bV.mk' lz lz rfl) <|
 ay.cons (bV.mk' lz lz rfl) <|
 ay.cons (bV.mk' lz lz rfl) <|
 ay.cons (bV.mk' lz lz rfl) <|
 ay.cons (bV.mk' lz lz rfl) <| ay.nil
@[simp] theorem tab3:assoc ak 3=some ⟨.int .i64,1,8,[.int .i64 0]⟩:=rfl
@[simp] theorem tab4:assoc ak 4=some ⟨.bool,1,1,[.bool false]⟩:=rfl
@[simp] theorem tab5:assoc ak 5=some ⟨.int .u8,1,1,[.int .u8 0]⟩:=rfl
@[simp] theorem tab9:assoc ak 9=some ⟨.str,1,16,[.str ⟨#[]⟩]⟩:=rfl
@[simp] theorem tab22:assoc ak 22=some ⟨.sl 3,1,24,[.ag]⟩:=rfl
@[simp] theorem tab23:assoc ak 23=some ⟨.sl 105,1,24,[.ag]⟩:=rfl
@[simp] theorem tab24:assoc ak 24=some ⟨.sl 89,1,24,[.ag]⟩:=rfl
@[simp] theorem tab25:assoc ak 25=some ⟨.sl 109,1,24,[.ag]⟩:=rfl
@[simp] theorem tab27:assoc ak 27=some ⟨.a6 [(0,23),(1,24),(2,25)],3,72,[.ag,.ag,.ag]⟩:=rfl
@[simp] theorem tab28:assoc ak 28=some ⟨.sl 123,1,24,[.ag]⟩:=rfl
@[simp] theorem tab30:assoc ak 30=some ⟨.a6 [(0,22),(1,24),(2,28),(3,3)],4,80,[.ag,.ag,.ag,.int .i64 0]⟩:=rfl
@[simp] theorem tab31:assoc ak 31=some ⟨.sl 75,1,24,[.ag]⟩:=rfl
@[simp] theorem tab32:assoc ak 32=some ⟨.sl 22,1,24,[.ag]⟩:=rfl
@[simp] theorem tab34:assoc ak 34=some ⟨.a6 [(0,31),(1,32),(2,22)],3,72,[.ag,.ag,.ag]⟩:=rfl
@[simp] theorem tab37:assoc ak 37=some ⟨.sl 55,1,24,[.ag]⟩:=rfl
@[simp] theorem tab39:assoc ak 39=some ⟨.a6 [(0,3),(1,3),(2,3),(3,3),(4,37)],5,56,[.int .i64 0,.int .i64 0,.int .i64 0,.int .i64 0,.ag]⟩:=rfl
@[simp] theorem tab42:assoc ak 42=some ⟨.sl 47,1,24,[.ag]⟩:=rfl
@[simp] theorem tab43:assoc ak 43=some ⟨.int .i64,1,8,[.int .i64 0]⟩:=rfl
@[simp] theorem tab47:assoc ak 47=some ⟨.a6 [(0,3),(1,3),(2,3)],3,24,[.int .i64 0,.int .i64 0,.int .i64 0]⟩:=rfl
@[simp] theorem tab53:assoc ak 53=some ⟨.sl 77,1,24,[.ag]⟩:=rfl
@[simp] theorem tab55:assoc ak 55=some ⟨.a6 [(0,3),(1,4),(2,53)],3,40,[.int .i64 0,.bool false,.ag]⟩:=rfl
@[simp] theorem tab66:assoc ak 66=some ⟨.ptr 69,1,8,[.bg]⟩:=rfl
@[simp] theorem tab69:assoc ak 69=some ⟨.a6 [(0,22),(1,3)],2,32,[.ag,.int .i64 0]⟩:=rfl
@[simp] theorem tab75:assoc ak 75=some ⟨.a6 [(0,3),(1,22)],2,32,[.int .i64 0,.ag]⟩:=rfl
@[simp] theorem tab77:assoc ak 77=some ⟨.a6 [(0,3),(1,3)],2,16,[.int .i64 0,.int .i64 0]⟩:=rfl
@[simp] theorem tab85:assoc ak 85=some ⟨.a6 [(0,3),(1,3)],2,16,[.int .i64 0,.int .i64 0]⟩:=rfl
@[simp] theorem tab89:assoc ak 89=some ⟨.a6 [(0,9),(1,4),(2,3)],3,32,[.str ⟨#[]⟩,.bool false,.int .i64 0]⟩:=rfl
@[simp] theorem tab94:assoc ak 94=some ⟨.sl 5,1,24,[.ag]⟩:=rfl
@[simp] theorem tab102:assoc ak 102=some ⟨.a6 [(0,66),(1,27),(4,3),(5,4)],6,96,[.bg,.ag,.ag,.ag,.int .i64 0,.bool false]⟩:=rfl
@[simp] theorem tab103:assoc ak 103=some ⟨.sl 9,1,24,[.ag]⟩:=rfl
@[simp] theorem tab105:assoc ak 105=some ⟨.a6 [(0,9),(1,3)],2,24,[.str ⟨#[]⟩,.int .i64 0]⟩:=rfl
@[simp] theorem tab106:assoc ak 106=some ⟨.sl 111,1,24,[.ag]⟩:=rfl
@[simp] theorem tab107:assoc ak 107=some ⟨.sl 170,1,24,[.ag]⟩:=rfl
@[simp] theorem tab109:assoc ak 109=some ⟨.a6 [(0,9),(1,106),(2,107)],3,64,[.str ⟨#[]⟩,.ag,.ag]⟩:=rfl
@[simp] theorem tab111:assoc ak 111=some ⟨.a6 [(0,9),(1,4)],2,24,[.str ⟨#[]⟩,.bool false]⟩:=rfl
@[simp] theorem tab114:assoc ak 114=some ⟨.sl 118,1,24,[.ag]⟩:=rfl
@[simp] theorem tab118:assoc ak 118=some ⟨.a6 [(0,9),(1,3),(2,3)],3,32,[.str ⟨#[]⟩,.int .i64 0,.int .i64 0]⟩:=rfl
@[simp] theorem tab121:assoc ak 121=some ⟨.sl 136,1,24,[.ag]⟩:=rfl
@[simp] theorem tab123:assoc ak 123=some ⟨.a6 [(0,9),(1,3),(2,3),(3,3),(4,121)],5,64,[.str ⟨#[]⟩,.int .i64 0,.int .i64 0,.int .i64 0,.ag]⟩:=rfl
@[simp] theorem tab129:assoc ak 129=some ⟨.sl 131,1,24,[.ag]⟩:=rfl
@[simp] theorem tab131:assoc ak 131=some ⟨.a6 [(0,3),(1,3),(2,9),(3,129)],4,56,[.int .i64 0,.int .i64 0,.str ⟨#[]⟩,.ag]⟩:=rfl
@[simp] theorem tab133:assoc ak 133=some ⟨.a6 [(0,4),(1,3),(2,129)],3,40,[.bool false,.int .i64 0,.ag]⟩:=rfl
@[simp] theorem tab134:assoc ak 134=some ⟨.sl 133,1,24,[.ag]⟩:=rfl
@[simp] theorem tab136:assoc ak 136=some ⟨.a6 [(0,3),(1,3),(2,4),(3,131),(7,133),(10,129),(11,134)],12,168,[.int .i64 0,.int .i64 0,.bool false,.int .i64 0,.int .i64 0,.str ⟨#[]⟩,.ag,.bool false,.int .i64 0,.ag,.ag,.ag]⟩:=rfl
@[simp] theorem tab142:assoc ak 142=some ⟨.a6 [(0,30),(4,34),(7,37)],8,176,[.ag,.ag,.ag,.int .i64 0,.ag,.ag,.ag,.ag]⟩:=rfl
@[simp] theorem tab145:assoc ak 145=some ⟨.sl 159,1,24,[.ag]⟩:=rfl
@[simp] theorem tab150:assoc ak 150=some ⟨.a6 [(0,145),(1,3),(2,3),(3,43),(4,3),(5,3)],6,64,[.ag,.int .i64 0,.int .i64 0,.int .i64 0,.int .i64 0,.int .i64 0]⟩:=rfl
@[simp] theorem tab159:assoc ak 159=some ⟨.a6 [(0,3),(1,9),(2,3),(3,3)],4,40,[.int .i64 0,.str ⟨#[]⟩,.int .i64 0,.int .i64 0]⟩:=rfl
@[simp] theorem tab167:assoc ak 167=some ⟨.a6 [(0,9),(1,129)],2,40,[.str ⟨#[]⟩,.ag]⟩:=rfl
@[simp] theorem tab168:assoc ak 168=some ⟨.sl 195,1,24,[.ag]⟩:=rfl
@[simp] theorem tab170:assoc ak 170=some ⟨.a6 [(0,3),(1,9),(2,131),(6,167),(8,168),(9,107),(10,107)],11,192,[.int .i64 0,.str ⟨#[]⟩,.int .i64 0,.int .i64 0,.str ⟨#[]⟩,.ag,.str ⟨#[]⟩,.ag,.ag,.ag,.ag]⟩:=rfl
@[simp] theorem tab178:assoc ak 178=some ⟨.a6 [(0,27),(3,114),(4,3),(5,3),(6,3),(7,43),(8,121),(9,22)],10,176,[.ag,.ag,.ag,.ag,.int .i64 0,.int .i64 0,.int .i64 0,.int .i64 0,.ag,.ag]⟩:=rfl
@[simp] theorem tab195:assoc ak 195=some ⟨.a6 [(0,4),(1,167),(3,131)],7,104,[.bool false,.str ⟨#[]⟩,.ag,.int .i64 0,.int .i64 0,.str ⟨#[]⟩,.ag]⟩:=rfl
@[simp] theorem tab205:assoc ak 205=some ⟨.arr 9 4,9,9,[.bool false,.bool false,.bool false,.bool false,.bool false,.bool false,.bool false,.bool false,.bool false]⟩:=rfl
@[simp] theorem tab207:assoc ak 207=some ⟨.arr 3 3,3,24,[.int .i64 0,.int .i64 0,.int .i64 0]⟩:=rfl
@[simp] theorem tab209:assoc ak 209=some ⟨.a6 [],0,0,[]⟩:=rfl
@[simp] theorem tab211:assoc ak 211=some ⟨.a6 [(0,3)],1,8,[.int .i64 0]⟩:=rfl
@[simp] theorem tab212:assoc ak 212=some ⟨.a6 [(0,3)],1,8,[.int .i64 0]⟩:=rfl
@[simp] theorem tab213:assoc ak 213=some ⟨.a6 [],0,0,[]⟩:=rfl
@[simp] theorem tab221:assoc ak 221=some ⟨.int .u64,1,8,[.int .u64 0]⟩:=rfl
theorem follows:Tryz.prog.follows .mixedOrders=true:=by kernel_rfl
theorem cm (n:Int)(h : -9223372036854775808≤n)(h':n≤9223372036854775807):IntKind.i64.wrap n=n:=IntWalk.i64_in n ⟨h,h'⟩
section
variable {C:Cx}{s:St}{Q:Exit→St→Prop}{x y:Code}{id:Nat}{l:List Oper}{ops:Array Oper}{K:St→Prop}
theorem ah (h:vE ak C.nt l.toArray (ye Tryz.prog C l.toArray (eC (fun s'=>T Tryz.prog C y s' Q) Q .normal)) l s):T Tryz.prog C (.seq (.region id l.toArray false) y) s Q:=T.seq (T.go' af h)
theorem aL (h:vE ak C.nt l.toArray (ye Tryz.prog C l.toArray (eC (fun s'=>T Tryz.prog C x s' (eC (fun s'=>T Tryz.prog C y s' Q) Q)) (eC (fun s'=>T Tryz.prog C y s' Q) Q) .normal)) l s):T Tryz.prog C (.seq (.seq (.region id l.toArray false) x) y) s Q:=T.seq (T.seq (T.go' af h))
theorem dk {o:Oper}{c:Call}{g:FuncId}{cs:List CV}{r:CV}(ht:trees cs=true)(hp:ae Tryz.prog g cs r)(h:vE ak C.nt ops (ye Tryz.prog C ops K) l (s.put o.dst r))(hd:a9 C.nt o.dst=true:=by simp[hC])(hg:o.guard=none:=by rfl)(ho:o.op=.call c:=by rfl)(Kj:bl s c=some (g,cs):=by rfl):TL Tryz.prog C ops (o::l) s K:=TL.call hd hg ho (bm.of Kj ht hp) (TL.go' af h)
end
section
variable {C:Cx}{s:St}{Q:Exit→St→Prop}{x y:Code}{c:Operand}{id:Nat}{l:List Oper}
theorem dg (h:Q .normal s)(hc:ev s c=some (.bool false):=by rfl):T Tryz.prog C (.cond c x .skip) s Q:=T.cond (b:=false) hc (T.skip h)
theorem gF (h:Q .normal s)(hc:ev s c=some (.bool true):=by rfl):T Tryz.prog C (.cond c .skip y) s Q:=T.cond (b:=true) hc (T.skip h)
theorem aU (h:T Tryz.prog C (if false then x else y) s Q)(hc:ev s c=some (.bool false):=by rfl):T Tryz.prog C (.cond c x y) s Q:=T.cond (b:=false) hc h
theorem cgX (h:T Tryz.prog C (if false then x else y) s Q)(hc:ev s c=some (.bool false):=by first | rfl | (simp[ev,assoc];done)):T Tryz.prog C (.cond c x y) s Q:=T.cond (b:=false) hc h
theorem cz (h:T Tryz.prog C (if true then x else y) s Q)(hc:ev s c=some (.bool true):=by rfl):T Tryz.prog C (.cond c x y) s Q:=T.cond (b:=true) hc h
theorem a8 (h:vE ak C.nt l.toArray (ye Tryz.prog C l.toArray (Q .normal)) l s):T Tryz.prog C (.region id l.toArray false) s Q:=T.go' af h
theorem fw {i:Nat}(h:T Tryz.prog C x s (nA i (eC (fun s'=>T Tryz.prog C y s' Q) Q))):T Tryz.prog C (.seq (.block i x) y) s Q:=T.seq (T.block h)
end
end Go.Proofs.YtlkmbdfhdknlgaaGreatDoor
