/- Unit. -/
import Derived.Test.YtlkmbdfhdknlgaaGreatZ35
import Derived.DeepKeys3
namespace Go.Proofs.YtlkmbdfhdknlgaaGreat
open Go.Can Go.aJ List
theorem Cy (l:List Int):fV (mj (DL l)):=by
 have h:=Od l;refine h.unit (λ f hf=>?_) λ f hf=>?_
 ·have h1:=EL (mem_map_of_mem (f:=λ f:Fu=>bV f.body) hf);have h2:=h.wt;omega
 ·obtain⟨k,hk,e⟩:=h.pn f hf;have h5:=congrArg length e;simp only[length_map,length_reverse,length_take,nP,length_cons,length_nil] at h5;omega
theorem LZ (l:List Int)(hl:l.length<=9223372036854775807):ae Tryz.prog 7 [ints l] (.cB [y9 (DL l),cg (mj (DL l)),gC (az (mj (DL l)))]):=by
 have hp:=Ev l hl;have Zn:=Ke (DL l) (Od l);have RY:=y4 (mj (DL l)) (Cy l);generalize mj (DL l)=u at Zn RY;generalize DL l=p at hp Zn;generalize az u=c at RY;have R6:=bj u;obtain⟨t1,t2,t3⟩:=iy p;have tp:trees (fo p)=true:=by simp only[fo,trees,t1,t2,t3];rfl
 have tc:trees (eC c)=true:=by simp only[eC,trees,tree,aM];rfl
 have Sa:tree (.cB [y9 p,cg u,gC c])=true:=by simp only[tree,trees,y9,cg,gC,tp,R6,tc];rfl
 refine ae.aE ah Tryz.func7 rfl Ix (by simp[Tryz.ntmps7]) Sa λ C hC RR=>?_;rw[Tryz.ntmps7] at hC;have ZL:trees [ints l]=true:=by simp only[trees,da,Bool.and_self]
 have Y7:trees [y9 p]=true:=by simp only[trees,tree,y9,tp,Bool.and_self]
 have Y6:trees [cg u]=true:=by simp only[trees,tree,cg,R6,Bool.and_self]
 simp only[y9,fo,cg,cR,gC,eC] at hp Zn RY Y7 Y6 |-;apply aq;simp[hC];apply aq;simp[hC];refine cX ZL hp ?_;simp[hC];apply aq;simp[hC];refine cX Y7 Zn ?_;simp[hC];apply aq;simp[hC];refine cX Y6 RY ?_;simp[hC];apply T.seq;refine T.rx ah follows [0,1,2,3,4,5] [(1,3),(2,3),(2,4)] Ix ?_;simp[hC];apply T.ret;apply aa.here;simp[Tryz.results7]
end Go.Proofs.YtlkmbdfhdknlgaaGreat
namespace Go.aJ
open Go.Can List
def Am (l:List Is)(x:Is)(c:List In):List Int:=c.map λ i=>match j4 x i with
 | none=>-1
 | some y=>(ez l y:Int)
theorem xx {l:List Is}{y:Is}(h:y∈l)(t:List Is):ez (l++t) y=ez l y:=by
 unfold ez;rw[findIdx_append,if_pos];exact findIdx_lt_length_of_exists ⟨y,h,by simp⟩
theorem AQ {l:List Is}{y:Is}(h:y∈l):l[ez l y]? = some y:=by
 have hl:=vO h;have h2:=findIdx_getElem (xs:=l) (p:=λ y'=>decide (y'=y)) (w:=hl);rw[getElem?_eq_getElem hl];exact congrArg some (of_decide_eq_true h2)
theorem B1 (x:Is)(t:List Is):∀ (c:List In) (l:List Is),(∀ i∈c,∀ y,j4 x i=some y->y∈l)->Am (l++t) x c=Am l x c
 | [],_,_=>rfl
 | i::c,l,h=>by
  have ih:=B1 x t c l λ j hj=>h j (mem_cons_of_mem _ hj);unfold Am at ih |-;rw[map_cons,map_cons,ih];congr 1
  cases hc:j4 x i with
  | none=>rfl
  | some y=>
   simp only;rw[xx (h i mem_cons_self y hc)]
theorem qC (l:List Nat)(n x:Nat):x∈gF l n↔x∈l\/x=n:=by
 unfold gF;split
 ·rename_i h;exact⟨.inl,λ h2=>h2.elim id λ e=>e ▸ h⟩
 ·rw[mem_append,mem_cons];have:=take_append_drop (cJ l n) l;constructor
  ·rintro (h | h | h)
   ·exact .inl (mem_of_mem_take h)
   ·exact .inr h
   ·exact .inl (mem_of_mem_drop h)
  ·rintro (h | h)
   ·rw[<- this,mem_append] at h;exact h.elim .inl λ h=>.inr (.inr h)
   ·exact .inr (.inl h)
structure SI (x:Is)(c:List In)(l:List Is)(r:List Nat)(L:List Is)(row:List Int)(R:List Nat):Prop where
 pre:∃ t,L=l++t
 row:row=Am L x c
 mem:∀ i∈c,∀ y,j4 x i=some y->y∈L
 nd:l.Nodup->L.Nodup
 new:∀ k y,l.length<=k->L[k]? = some y->∃ i∈c,j4 x i=some y
 root:∀ n,n∈R↔n∈r\/∃ i∈c,uk i=true/\∃ y,j4 x i=some y/\ez L y=n
theorem D6 (x:Is):∀ (c:List In) (l:List Is) (r:List Nat),SI x c l r (iu x c l r).1 (iu x c l r).2.1 (iu x c l r).2.2
 | [],l,r=>by
  refine⟨⟨[],by simp[iu]⟩,rfl,(λ i hi=>by cases hi),id,λ k y h1 h2=>?_,λ n=>by simp[iu]⟩;simp only[iu] at h2;rw[getElem?_eq_none h1] at h2;cases h2
 | i::c,l,r=>by
  cases hc:j4 x i with
  | none=>
   have ih:=D6 x c l r;simp only[iu,hc];refine⟨ih.pre,?_,?_,ih.nd,?_,?_⟩
   ·rw[ih.row];simp only[Am,map_cons,hc]
   ·intro j hj y hy;rcases mem_cons.1 hj with rfl | hj
    ·rw[hc] at hy;cases hy
    ·exact ih.mem j hj y hy
   ·intro k y h1 h2;obtain⟨j,hj,hy⟩:=ih.new k y h1 h2;exact⟨j,mem_cons_of_mem _ hj,hy⟩
   ·intro n;rw[ih.root];constructor
    ·rintro (h | ⟨j,hj,h⟩)
     ·exact .inl h
     ·exact .inr ⟨j,mem_cons_of_mem _ hj,h⟩
    ·rintro (h | ⟨j,hj,hg,y,hy,h⟩)
     ·exact .inl h
     ·rcases mem_cons.1 hj with rfl | hj
      ·rw[hc] at hy;cases hy
      ·exact .inr ⟨j,hj,hg,y,hy,h⟩
  | some z=>
   have ih:=D6 x c (fx l z) (if uk i=true then gF r (ez (fx l z) z) else r);simp only[iu,hc];generalize iu x c (fx l z) (if uk i=true then gF r (ez (fx l z) z) else r)=S at ih |-;obtain⟨t,ht⟩:=ih.pre;obtain⟨t',ht'⟩:=DE l z;have hz:z∈fx l z:=DF l z;have hzi:ez S.1 z=ez (fx l z) z:=by rw[ht];exact xx hz t
   refine⟨⟨t'++t,by rw[ht,ht',append_assoc]⟩,?_,?_,λ h=>ih.nd (nW h),?_,?_⟩
   ·rw[ih.row];simp only[Am,map_cons,hc,hzi]
   ·intro j hj y hy;rcases mem_cons.1 hj with rfl | hj
    ·rw[hc] at hy;cases hy;rw[ht];exact mem_append_left _ hz
    ·exact ih.mem j hj y hy
   ·intro k y h1 h2;by_cases hk:(fx l z).length<=k
    ·obtain⟨j,hj,hy⟩:=ih.new k y hk h2;exact⟨j,mem_cons_of_mem _ hj,hy⟩
    ·rw[ht,getElem?_append_left yA] at h2;refine⟨i,mem_cons_self,?_⟩;unfold fx at h2 hk;split at h2
     ·rw[getElem?_eq_none h1] at h2;cases h2
     ·rw[getElem?_append_right h1] at h2;have:k-l.length=0:=by
       have:=(List.getElem?_eq_some_iff.1 h2).1;simp only[length_cons,length_nil] at this;omega
      rw[this] at h2;simp only[getElem?_cons_zero,Option.some.injEq] at h2;rw[hc,h2]
   ·intro n;rw[ih.root];constructor
    ·rintro (h | ⟨j,hj,h⟩)
     ·by_cases hg:uk i=true
      ·rw[if_pos hg,qC] at h;rcases h with h | h
       ·exact .inl h
       ·exact .inr ⟨i,mem_cons_self,hg,z,hc,by rw[hzi,h]⟩
      ·rw[if_neg hg] at h;exact .inl h
     ·exact .inr ⟨j,mem_cons_of_mem _ hj,h⟩
    ·rintro (h | ⟨j,hj,hg,y,hy,h⟩)
     ·refine .inl ?_;split
      ·rw[qC];exact .inl h
      ·exact h
     ·rcases mem_cons.1 hj with rfl | hj
      ·refine .inl ?_;rw[if_pos hg,qC];rw[hc] at hy;cases hy;exact .inr (by rw[<- h,hzi])
      ·exact .inr ⟨j,hj,hg,y,hy,h⟩
structure CI (u:Un)(i:Nat)(l:List Is)(cs:List (List Int))(r:List Nat):Prop where
 len:cs.length=i
 le:i<=l.length
 pos:0<l.length
 nd:l.Nodup
 mem:∀ j x,j<i->l[j]? = some x->∀ c∈ay u x,∀ y,j4 x c=some y->y∈l
 row:∀ j x,j<i->l[j]? = some x->cs[j]? = some (Am l x (ay u x))
 up:∀ k y,0<k->l[k]? = some y->∃ j x,j<i/\j<k/\l[j]? = some x/\∃ c∈ay u x,j4 x c=some y
 root:∀ n,n∈r↔n=0\/∃ j x,j<i/\l[j]? = some x/\∃ c∈ay u x,uk c=true/\∃ y,j4 x c=some y/\ez l y=n
theorem CI.step {u:Un}{i:Nat}{l:List Is}{cs:List (List Int)}{r:List Nat}(h:CI u i l cs r){x:Is}(hx:l[i]? = some x) :
  CI u (i+1) (iu x (ay u x) l r).1 (cs++[(iu x (ay u x) l r).2.1]) (iu x (ay u x) l r).2.2:=by
 have s:=D6 x (ay u x) l r;generalize iu x (ay u x) l r=S at s |-;obtain⟨t,ht⟩:=s.pre;have Og:=(List.getElem?_eq_some_iff.1 hx).1;have TJ:∀ j,j<l.length->S.1[j]? = l[j]?:=λ j hj=>by rw[ht,getElem?_append_left hj]
 have hle:l.length<=S.1.length:=by rw[ht];simp
 have YC:S.1[i]? = some x:=by rw[TJ i Og,hx]
 have hlen:=h.len;have Tr:∀ j y,j<i->l[j]? = some y->∀ c∈ay u y,∀ z,j4 y c=some z->ez S.1 z=ez l z:=λ j y hj hy c hc z hz=>by
  rw[ht];exact xx (h.mem j y hj hy c hc z hz) t
 refine⟨by simp[hlen],by omega,by have:=h.pos;omega,s.nd h.nd,?_,?_,?_,?_⟩
 ·intro j y hj hy c hc z hz;by_cases e:j=i
  ·subst e;rw[YC] at hy;cases hy;exact s.mem c hc z hz
  ·rw[TJ j yA] at hy;rw[ht];exact mem_append_left _ (h.mem j y yA hy c hc z hz)
 ·intro j y hj hy;by_cases e:j=i
  ·subst e;rw[YC] at hy;cases hy;rw[getElem?_append_right yA,hlen,Nat.sub_self,s.row];rfl
  ·rw[TJ j yA] at hy;rw[getElem?_append_left yA,h.row j y yA hy,ht,B1];exact λ c hc z hz=>h.mem j y yA hy c hc z hz
 ·intro k y hk hy;by_cases R8:k<l.length
  ·rw[TJ k R8] at hy;obtain⟨j,z,h1,h2,h3,h4⟩:=h.up k y hk hy;exact⟨j,z,by omega,h2,by rw[TJ j yA];exact h3,h4⟩
  ·obtain⟨c,hc,hy2⟩:=s.new k y yA hy;exact⟨i,x,by omega,by omega,YC,c,hc,hy2⟩
 ·intro n;rw[s.root,h.root];constructor
  ·rintro ((h1 | ⟨j,y,h1,h2,c,h3,h4,z,h5,h6⟩) | ⟨c,hc,hg,y,hy,h1⟩)
   ·exact .inl h1
   ·exact .inr ⟨j,y,by omega,by rw[TJ j yA];exact h2,c,h3,h4,z,h5,by rw[Tr j y h1 h2 c h3 z h5];exact h6⟩
   ·exact .inr ⟨i,x,by omega,YC,c,hc,hg,y,hy,h1⟩
  ·rintro (h1 | ⟨j,y,h1,h2,c,h3,h4,z,h5,h6⟩)
   ·exact .inl (.inl h1)
   ·by_cases e:j=i
    ·subst e;rw[YC] at h2;cases h2;exact .inr ⟨c,h3,h4,z,h5,h6⟩
    ·rw[TJ j yA] at h2;exact .inl (.inr ⟨j,y,by omega,h2,c,h3,h4,z,h5,by rw[<- Tr j y yA h2 c h3 z h5];exact h6⟩)
theorem rI {u:Un}(hu:fV u){x:Is}(hx:sX u x):∀ (c:List In) (l:List Is) (r:List Nat),(∀ i∈c,i∈ay u x)->l.Nodup->(∀ y∈l,sX u y)->(iu x c l r).1.Nodup/\∀ y∈(iu x c l r).1,sX u y
 | [],_,_,_,h1,h2=>⟨h1,h2⟩
 | i::c,l,r,hc,h1,h2=>by
  simp only[iu];split
  ·exact rI hu hx c l r (λ j hj=>hc j (mem_cons_of_mem _ hj)) h1 h2
  ·rename_i y hy;exact rI hu hx c _ _ (λ j hj=>hc j (mem_cons_of_mem _ hj)) (nW h1) (Fl h2 (Fc hu hx (hc i mem_cons_self) hy))
theorem GI {u:Un}(hu:fV u):∀ (f i:Nat) (l:List Is) (cs:List (List Int)) (r:List Nat),i+f=100->(∀ y∈l,sX u y)->CI u i l cs r ->
  CI u (kQ u f i l cs r).is.length (kQ u f i l cs r).is (kQ u f i l cs r).calls (kQ u f i l cs r).roots
 | 0,i,l,cs,r,hf,hv,h=>by
  have:=jy hu h.nd hv;have:=h.le;omega
 | f+1,i,l,cs,r,hf,hv,h=>by
  simp only[kQ];split
  ·rename_i hn;have hle:l.length<=i:=by simpa using hn
   have hi:i=l.length:=by have:=h.le;omega
   subst hi;exact h
  ·rename_i x hx;exact GI hu f (i+1) _ _ _ yA (rI hu (hv x (mem_of_getElem? hx)) (ay u x) l r (λ _ h=>h) h.nd hv).2 (h.step hx)
theorem sF {u:Un}(hu:fV u):CI u (az u).is.length (az u).is (az u).calls (az u).roots:=by
 refine GI hu 100 0 [⟨u.main,[]⟩] [] [0] rfl (λ x hx=>?_) ⟨rfl,by simp,by simp,by simp,(λ j x hj=>by omega),(λ j x hj=>by omega),λ k y hk hy=>?_,λ n=>by simp⟩
 ·rw[mem_singleton.1 hx];have hp:=hu.np.1;obtain⟨q,hq⟩:∃ q,u.ps[0]? = some q:=⟨_,getElem?_eq_getElem yA⟩;exact⟨⟨q,by rw[hu.main];exact hq,by rw[(hu.p0 q hq).2];rfl⟩,λ l hl=>by cases hl⟩
 ·obtain⟨k',rfl⟩:∃ k',k=k' + 1:=⟨k-1,by omega⟩;simp at hy
def wr (n:Int):Int:=IntKind.i64.wrap n
def vh (b:Bool):Int:=if b=true then 1 else 0
def Ht (a b:Int):Int:=if b=-1 then wr (0-a) else wr (a.tdiv b)
def unZ (k:Nat)(a:Int):Int:=if k=0 then wr (0-a) else vh (a == 0)
def sL (k:Nat)(a b:Int):Int×Nat:=
 if k=0 then (wr (a*b),0)
 else if k=1 then (if b=0 then (0,1) else (Ht a b,0))
 else if k=2 then (if b=0 then (0,1) else (wr (a-wr (Ht a b*b)),0))
 else if k=3 then (wr (a+b),0)
 else if k=4 then (wr (a-b),0)
 else if k=5 then (vh (decide (a<b)),0)
 else if k=6 then (vh (decide (a<=b)),0)
 else if k=7 then (vh (decide (a > b)),0)
 else if k=8 then (vh (decide (a≥b)),0)
 else if k=9 then (vh (a == b),0)
 else if k=10 then (vh (a != b),0)
 else (vh (b != 0),0)
def bN (gs ls:List Int):Ex->Int×Nat
 | .num n=>(n,0)
 | .loc i=>(ls.getD i 0,0)
 | .jk i=>(gs.getD i 0,0)
 | .un k e=>if (bN gs ls e).2=0 then (unZ k (bN gs ls e).1,0) else (0,(bN gs ls e).2)
 | .bin k a b=>if (bN gs ls a).2=0 then
   (if k=11/\(bN gs ls a).1=0 then (0,0) else if k=12/\(bN gs ls a).1≠0 then (1,0)
    else if (bN gs ls b).2=0 then sL k (bN gs ls a).1 (bN gs ls b).1 else (0,(bN gs ls b).2))
   else (0,(bN gs ls a).2)
 | .zero=>(0,0)
 | .nm _=>(0,0)
def gY (ms:List Mx)(gs ls:List Int)(p:Pl):Int×Nat:=match p.at_ with
 | none=>(0,0)
 | some e=>if (bN gs ls e).2=0 then
   (match ms[p.index]? with
    | some m=>if (bN gs ls e).1<0\/(m.size:Int)<=(bN gs ls e).1 then (0,2) else ((bN gs ls e).1,0)
    | none=>(0,0))
   else (0,(bN gs ls e).2)
def cC:List Mx->Nat->List Nat
 | [],_=>[]
 | m::r,i=>replicate (max m.size 1) i++cC r (i+1)
def bR (ms:List Mx):List Nat:=cC ms 0
def pf:List Nat->Nat->Nat->Int
 | [],_,_=>-1
 | a::r,m,i=>if a=m then i else pf r m (i+1)
def Dy (ms:List Mx)(m:Nat):Int:=pf (bR ms) m 0
def kD (ms:List Mx)(e:Int):Int:=if e<0 then -1 else match (bR ms)[e.toNat]? with
 | some m=>m
 | none=>-1
structure Ho where
 o:Nat
 d:Nat
def dL (h:Ho):List CV:=[I h.o,I h.d]
structure Fr where
 proc:Nat
 pc:Nat
 aV:List Int
 eA:List Nat
def dY (f:Fr):List CV:=[I f.proc,I f.pc,ints f.aV,aB f.eA]
structure Sy where
 gs:List Int
 tb:List Ho
 ts:List (List Fr)
 fault:Nat
def en (l:List Fr):List CV:=[.ax (l.flatMap dY) l.length]
def kX (s:Sy):List CV:=[ints s.gs,.ax (s.tb.flatMap dL) s.tb.length,.ax (s.ts.flatMap en) s.ts.length,I s.fault]
def cT (s:Sy):CV:=.agg (kX s)
theorem de (h:Ho):(dL h).length=2:=rfl
theorem ef (f:Fr):(dY f).length=4:=rfl
theorem na (l:List Fr):(en l).length=1:=rfl
theorem cj (h:Ho):trees (dL h)=true:=rfl
theorem cZ (f:Fr):trees (dY f)=true:=rfl
theorem bX (l:List Fr):trees (en l)=true:=rfl
def xC (ms:List Mx)(tb:List Ho)(e th:Nat):Bool:=match (bR ms)[e]?,tb[e]? with
 | some m,some h=>decide (h.o=0) || (decide (h.o=th+1) && (match ms[m]? with
  | some x=>x.re
  | none=>false))
 | _,_=>false
def fH (ms:List Mx)(tb:List Ho)(e th:Nat):List Ho×Bool:=
 if xC ms tb e th=true then (tb.set e ⟨th+1,(match tb[e]? with
  | some h=>h.d
  | none=>0)+1⟩,true) else (tb,false)
def dm (ms:List Mx)(tb:List Ho)(e th:Nat):List Ho×Bool:=match (bR ms)[e]?,tb[e]? with
 | some _,some h=>if h.o=th+1 then (tb.set e (if h.d=1 then ⟨0,0⟩ else ⟨th+1,h.d-1⟩),true) else (tb,false)
 | _,_=>(tb,false)
def fh (m th:Nat):List Nat->List Ho->Nat
 | o::os,h::hs=>(if o=m/\h.o=th+1 then h.d else 0)+fh m th os hs
 | _,_=>0
def ch (ms:List Mx)(tb:List Ho)(m th:Nat):Nat:=fh m th (bR ms) tb
def eW (s:Sy)(t:Int):Option Fr:=if t<0\/s.fault≠0 then none else match s.ts[t.toNat]? with
 | some l=>l.getLast?
 | none=>none
def jJ (u:Un)(s:Sy)(t:Int):Option In:=match eW s t with
 | some f=>match u.ps[f.proc]? with
  | some q=>q.code[f.pc]?
  | none=>none
 | none=>none
theorem mB (m:Mx):(cH m).length=3:=rfl
def Fo (ms:List Mx):Prop:=ms.length<=1000/\∀ m∈ms,m.size<=1000
theorem oO:∀ (l:List Mx) (s:Nat),(∀ m∈l,m.size<=1000)->(cC l s).length<=1000*l.length
 | [],_,_=>by simp[cC]
 | a::r,s,h=>by
  have h1:=oO r (s+1) λ m hm=>h m (mem_cons_of_mem _ hm);have h2:=h a mem_cons_self;rw[cC,length_append,length_replicate,length_cons];omega
end Go.aJ
namespace Go.Proofs.YtlkmbdfhdknlgaaGreat
open Go.Can Go.aJ List
theorem Kz (y:Ho):∀ (tb:List Ho) (e:Nat),e<tb.length->take (e*2) (tb.flatMap dL)++I y.o::I y.d::drop (e*2+2) (tb.flatMap dL)=(tb.set e y).flatMap dL
 | [],_,h=>by simp at h
 | a::r,0,_=>by simp[dL]
 | a::r,e+1,h=>by
  have ih:=Kz y r e TK;rw[set_cons_succ,flatMap_cons,flatMap_cons,<- ih];have e1:(e+1)*2=e*2+2:=by omega
  rw[e1];simp[dL]
theorem Gn (d:Nat):∀ (tb:List Ho) (e:Nat) (h:Ho),tb[e]? = some h->take (e*2+1) (tb.flatMap dL)++I d::drop (e*2+2) (tb.flatMap dL)=(tb.set e ⟨h.o,d⟩).flatMap dL
 | [],_,_,h=>by simp at h
 | a::r,0,h,hh=>by
  simp only[getElem?_cons_zero,Option.some.injEq] at hh;subst hh;simp[dL]
 | a::r,e+1,h,hh=>by
  have ih:=Gn d r e h (by simpa using hh);rw[set_cons_succ,flatMap_cons,flatMap_cons,<- ih];have e1:(e+1)*2=e*2+2:=by omega
  rw[e1];simp[dL]
theorem Gm (o:Nat):∀ (tb:List Ho) (e:Nat) (h:Ho),tb[e]? = some h->take (e*2) (tb.flatMap dL)++I o::drop (e*2+1) (tb.flatMap dL)=(tb.set e ⟨o,h.d⟩).flatMap dL
 | [],_,_,h=>by simp at h
 | a::r,0,h,hh=>by
  simp only[getElem?_cons_zero,Option.some.injEq] at hh;subst hh;simp[dL]
 | a::r,e+1,h,hh=>by
  have ih:=Gm o r e h (by simpa using hh);rw[set_cons_succ,flatMap_cons,flatMap_cons,<- ih];have e1:(e+1)*2=e*2+2:=by omega
  rw[e1];simp[dL]
end Go.Proofs.YtlkmbdfhdknlgaaGreat
namespace Go.Can
open Go.RowKit List
def LI (P:Program)(av:List (Nat×TI))(f:FuncId)(args:List CV)(H:List (Nat×Ob))(n:Nat)(ks:List Nat)(R:CV->St->Prop):Prop:=
 ∃ fn c, P.funcs[f]? = some fn /\ fn.body = some c /\ (fn.name == "runtime.NumGoroutine") = false /\ args.length <= fn.ntmps /\
  ∀ C:Cx,C.nt=fn.ntmps->C.n0=n->(∀ k∈ks,∀ B b,C.σ0 k=some B->B.kf=some b->C.own b\/C.w0.heap.size<=b)->T P C c ⟨(enter args).env,H,n⟩ (KX C av fn R)
def wI:Value->Bool
 | .int .i64 n=>CT n
 | _=>false
theorem BF {v:Value}(h:wI v=true):∃ n,v=.int .i64 n/\(Lit.int .i64 n).wf=true:=by
 unfold wI at h;split at h
 ·rename_i n;refine⟨n,rfl,?_⟩;simp only[CT,Bool.and_eq_true,decide_eq_true_eq] at h;simp[Lit.wf,IntKind.min,IntKind.max,IntKind.signed,IntKind.bits];omega
 ·cases h
theorem mapM_some {α β:Type}{f:α->Option β}:∀ (l:List α),(l.mapM f).isSome=l.all λ x=>(f x).isSome
 | []=>by simp
 | x::r=>by
  rw[mapM_cons]
  cases h:f x with
  | none=>simp[h]
  | some y=>
   have:=mapM_some (f:=f) r
   cases h2:r.mapM f with
   | none=>simp[h,h2] at this |-;simpa using this
   | some z=>simp[h,h2] at this |-;simpa using this
theorem sd {P:Program}:∀ (d:Nat) (t:TypeId) (cs ds:List Value),cs.length=ds.length->(cs.all wI=true)->(ds.all wI=true)->(P.keyLits d t ds).isSome=true->(P.keyLits d t cs).isSome=true
 | 0,_,_,_,_,_,_,h=>by simp[Program.keyLits] at h
 | d+1,t,cs,ds,hl,hc,hd,h=>by
  have sub:∀ u n m,(P.keyLits d u ((ds.drop n).take m)).isSome=true->(P.keyLits d u ((cs.drop n).take m)).isSome=true:=λ u n m hs=>by
   refine sd d u _ _ (by simp[hl]) ?_ ?_ hs
   ·exact all_eq_true.2 λ x hx=>all_eq_true.1 hc x (mem_of_mem_drop (mem_of_mem_take hx))
   ·exact all_eq_true.2 λ x hx=>all_eq_true.1 hd x (mem_of_mem_drop (mem_of_mem_take hx))
  unfold Program.keyLits at h |-
  cases hu:P.underlying t with
  | none=>rw[hu] at h;simp at h
  | some u=>
   rw[hu] at h
   cases u with
   | array n e=>
    simp only[hl] at h |-;split at h
    ·rename_i he;rw[if_pos he];rw[Option.isSome_map,mapM_some] at h |-;exact all_eq_true.2 λ i hi=>sub _ _ _ (all_eq_true.1 h i hi)
    ·cases h
   | struct fs=>
    simp only[hl] at h |-;split at h
    ·rename_i he;rw[if_pos he];rw[Option.isSome_map,mapM_some] at h |-;exact all_eq_true.2 λ i hi=>sub _ _ _ (all_eq_true.1 h i hi)
    ·cases h
   | int q=>
    match ds,cs,hl,hc,hd,h with
    | [x],[y],_,hc,hd,h=>
     simp only[all_cons,all_nil,Bool.and_true] at hc hd;obtain⟨n,rfl,w1⟩:=BF hd;obtain⟨m,rfl,w2⟩:=BF hc;simp only at h |-;split at h
     ·rename_i he;obtain⟨rfl,_⟩:=he;rw[if_pos ⟨rfl,w2⟩];rfl
     ·cases h
    | [],_,_,_,_,h=>simp at h
    | _::_::_,_,_,_,_,h=>simp at h
   | bool=>
    cases ds with
    | nil=>simp at h
    | cons x r=>
     simp only[all_cons,Bool.and_eq_true] at hd;obtain⟨n,rfl,_⟩:=BF hd.1;simp at h
   | string=>
    cases ds with
    | nil=>simp at h
    | cons x r=>
     simp only[all_cons,Bool.and_eq_true] at hd;obtain⟨n,rfl,_⟩:=BF hd.1;simp at h
   | _=>simp at h
def qx (n:Nat):Value->Bool
 | .agg cs=>decide (cs.size=n) && cs.toList.all wI
 | _=>false
theorem At {n:Nat}{v:Value}(h:qx n v=true):∃ cs,v=.agg cs/\cs.size=n/\cs.toList.all wI=true:=by
 unfold qx at h;split at h
 ·simp only[Bool.and_eq_true,decide_eq_true_eq] at h;exact⟨_,rfl,h⟩
 ·cases h
def zF (P:Program)(m n:Nat)(t:TypeId):Bool:=P.keyTypeAt m t && P.tiled m t && (match P.underlying t with | some (.array _ _) | some (.struct _)=>true | _=>false) && P.keyType t && (P.cellsOf t == n) && (P.keyLits (P.types.size+1) t (replicate n (.int .i64 0))).isSome
theorem Df {P:Program}{m n:Nat}{t:TypeId}(h:zF P m n t=true){v:Value}(hv:qx n v=true):∃ l,keyOf P t v=some l:=by
 simp only[zF,Bool.and_eq_true,beq_iff_eq] at h;obtain⟨⟨⟨⟨⟨h1,h2⟩,h3⟩,h4⟩,h5⟩,h6⟩:=h;obtain⟨cs,rfl,hn,hw⟩:=At hv;have hk:=sd (P:=P) (P.types.size+1) t cs.toList (replicate n (.int .i64 0)) (by simp[hn]) hw (by simp[all_replicate,wI,CT]) h6;obtain⟨L,hL⟩:=Option.isSome_iff_exists.1 hk;have hf:(Value.agg cs).formed P t=true:=by
  unfold Value.formed;split at h3<;>rename_i e<;>simp only[e,hn,h5,beq_self_eq_true] at h3 |-;cases h3
 have hif:(if P.keyType t && (Value.agg cs).formed P t then (P.keyLits (P.types.size+1) t (Value.agg cs).cells.toList).map λ ls=>Lit.string (keyBytes ls) else none)=some (.string (keyBytes L)):=by
  rw[if_pos (by rw[h4,hf];rfl),show (Value.agg cs).cells=cs from rfl,hL];rfl
 refine⟨_,Eq.trans ?_ hif⟩;unfold keyOf;split
 ·rfl
 ·rfl
 ·exfalso;split at h3
  ·simp_all
  ·simp_all
  ·cases h3
theorem Js {n:Nat}{v:Value}(h:qx n v=true):GJ v=true:=by
 obtain⟨cs,rfl,_,hw⟩:=At h;simp only[GJ];refine all_eq_true.2 λ x hx=>?_;obtain⟨k,rfl,_⟩:=BF (all_eq_true.1 hw x hx);rfl
theorem C9 {P:Program}{m n:Nat}{t:TypeId}(hm:m+1<=10000)(h:zF P m n t=true)(hg:P.eqGuardType P.depth t=false):EqT P t (qx n):=by
 have h':=h;simp only[zF,Bool.and_eq_true,beq_iff_eq] at h';refine⟨λ w x y hx hy=>?_,hg,λ x hx=>(At hx).imp λ _ h=>h.1⟩;obtain⟨lx,ex⟩:=Df h hx;obtain⟨ly,ey⟩:=Df h hy;obtain⟨r,hr,hi⟩:=run_equal_deep w (by omega:m<=10000) h'.1.1.1.1.1 h'.1.1.1.2 ex ey;have hq:(Op.equalIn 10000 t x y).run P w=.ok r w:=hr;rw[hq];congr 1;have UN:r=true↔x=y:=by
  rw[hi];refine⟨λ e=>?_,λ e=>?_⟩
  ·subst e;exact keyOf_inj_deep h'.1.1.1.1.2 h'.1.1.1.2 ex ey
  ·subst e;rw[ex] at ey;exact Option.some.inj ey
 have hv:Bv x y=true↔x=y:=⟨sY,λ e=>by subst e;exact qY (Js hx)⟩;cases r<;>cases hh:Bv x y<;>simp_all
end Go.Can
namespace Go.aJ
open Go.Can
def jx (p:Int)(ls:List Int):List CV:=gP [I p,I ls.length,I 0,I 0,I 0,I 0,I 0,I 0] 2 (ls.map λ n:Int=>I n)
end Go.aJ
namespace Go.Proofs.YtlkmbdfhdknlgaaGreat
open Go.Can Go.aJ List
theorem wa:∀ (k:Nat) (l:List CV),trees l=true->trees (l.drop k)=true
 | 0,l,h=>by simpa using h
 | _+1,[],_=>by simp
 | k+1,c::l,h=>by
  simp only[trees,Bool.and_eq_true] at h;rw[drop_succ_cons];exact wa k l h.2
theorem CL (p:Int)(ls:List Int)(hl:ls.length<=6):ae Tryz.prog 132 [.agg [I p,ints ls]] (.cB [.agg (jx p ls),.bool true]):=by
 have Yd:tree (ints ls)=true:=by simp[ints,tree]
 have tkc:trees (jx p ls)=true:=by
  have:trees (ls.map λ n:Int=>I n)=true:=aO ls;have hd:∀ k,trees (drop k [I p,I ls.length,I 0,I 0,I 0,I 0,I 0,I 0])=true:=λ k=>wa k _ rfl;simp only[jx,gP,bg,this,hd];rfl
 have Sa:tree (.cB [.agg (jx p ls),.bool true])=true:=by simp only[tree,trees,tkc];rfl
 have R8:(jx p ls).length=8:=by simp[jx,gP];omega
 have YA:(jx p ls).take 8=jx p ls:=take_of_length_le yA;have dl:∀ k,((drop k [CV.int .i64 p,CV.int .i64 ls.length,CV.int .i64 0,CV.int .i64 0,CV.int .i64 0,CV.int .i64 0,CV.int .i64 0,CV.int .i64 0]).all (aU 3))=true:=λ k=>all_eq_true.2 λ x hx=>by
  have:=mem_of_mem_drop hx;simp only[mem_cons,not_mem_nil,or_false] at this;rcases this with rfl | rfl | rfl | rfl | rfl | rfl | rfl | rfl<;>rfl
 refine ae.aE ah Tryz.func132 rfl Ix (by simp[Tryz.ntmps132]) Sa λ C hC RR=>?_;rw[Tryz.ntmps132] at hC;simp only[ints];apply aq;simp[hC];apply aq;simp[hC];have h6:¬ (6:Int)<ls.length:=by omega
 apply aW;simp[hC,h6];refine T.cond (b:=false) Ta (T.skip ?_);simp;have hmn:min ls.length 6=ls.length:=by omega
 have R3:(ls.map λ n:Int=>I n).take ls.length=ls.map λ n:Int=>I n:=take_of_length_le xr;have V5:(jx p ls).all one=true:=by
  simp[jx,gP,one];exact λ x hx=>by
   have:x∈[I p,I ls.length,I 0,I 0,I 0,I 0,I 0,I 0]:=mem_of_mem_drop hx;simp only[mem_cons,not_mem_nil,or_false] at this;rcases this with rfl | rfl | rfl | rfl | rfl | rfl | rfl | rfl<;>rfl
 refine T.cut (λ s=>s=⟨[(4,.aw 2 0),(2,.aw 1 0)],[(1,⟨221,0,[I 0,I 0,I 0,I 0,I 0,I 0,I 0,I 0]⟩),(2,⟨221,0,jx p ls⟩)],3⟩) ?_ ?_
 ·refine T.explore ah follows [0,2] Ix Ix xr (TH.go' ?_);simp[hC];refine TX.two (i:=1) (j:=3) Ix rfl rfl (TL.go' ah ?_) (TL.go' ah ?_)
  ·simp[hC];refine TX.one (i:=3) Ix rfl (TL.go' ah ?_);simp[hC];refine TX.one (i:=4) Ix rfl (TL.go' ah ?_);simp[hC,hmn,R3];refine TX.end Ix ?_;refine aa.trim [4,2] [1,2] 3 (by simp[-all_eq_true];exact⟨all_eq_true.2 λ _ _=>rfl,dl _⟩) yA ?_;simp[jx]
  ·simp[hC];refine TX.one (i:=1) Ix rfl (TL.go' ah ?_);simp[hC];refine TX.one (i:=4) Ix rfl (TL.go' ah ?_);simp[hC,hmn,R3];refine TX.end Ix ?_;refine aa.trim [4,2] [1,2] 3 (by simp[-all_eq_true];exact⟨all_eq_true.2 λ _ _=>rfl,dl _⟩) yA ?_;simp[jx]
 ·rintro s rfl;have hxx:(I p::I ls.length::I 0::I 0::I 0::I 0::I 0::[I 0]).length=8:=rfl;apply aq;simp[hC,R8,YA,drop_of_length_le];apply T.ret;apply aa.here;simp[Tryz.results132,R8,YA]
theorem HP (p:Int)(ls:List Int)(hl:6<ls.length):ae Tryz.prog 132 [.agg [I p,ints ls]] (.cB [.agg [I 0,I 0,I 0,I 0,I 0,I 0,I 0,I 0],.bool false]):=by
 have Yd:tree (ints ls)=true:=by simp[ints,tree]
 refine ae.aE ah Tryz.func132 rfl Ix (by simp[Tryz.ntmps132]) rfl λ C hC RR=>?_;rw[Tryz.ntmps132] at hC;simp only[ints];apply aq;simp[hC];apply aq;simp[hC];have h6:(6:Int)<ls.length:=by omega
 apply aW;simp[hC,h6];refine T.cond (b:=true) Ta ?_;simp;apply aq;simp[hC];apply T.ret;apply aa.here;simp[Tryz.results132]
end Go.Proofs.YtlkmbdfhdknlgaaGreat
namespace Go.aJ
open Go.Can
theorem Kf {cs:List CV}(h:cs.length=11):∃ c1 c2 c3 c4 c5 c6 c7 c8 c9 c10 c11,cs=[c1,c2,c3,c4,c5,c6,c7,c8,c9,c10,c11]:=by
 match cs,h with
 | [a,b,c,d,e,f,g,h,i,j,k],_=>exact⟨a,b,c,d,e,f,g,h,i,j,k,rfl⟩
end Go.aJ
namespace Go.Proofs.YtlkmbdfhdknlgaaGreat
open Go.Can Go.aJ List
theorem KQ (e:Ex):(bf e).all one=true:=by cases e<;>rfl
theorem MG (o:Option Ex):one (oc o)=true:=by rw[oQ];rfl
theorem JD (q:Pl):(gW q).all one=true:=by simp only[gW,all_cons,all_nil,MG];rfl
theorem xw (x:In):(cW x).all one=true:=by
 cases x<;>simp only[cW,cons_append,nil_append,append_assoc,all_append,all_cons,all_nil,KQ,JD,one,Bool.and_self,Bool.and_true,Bool.true_and]<;>rfl
theorem JX (is:Is)(q:Pl)(h:q.param=true->q.index<is.bp.length):ae Tryz.prog 34 [.agg (dV is),.agg (gW q)] (I (iV is q)):=by
 refine ae.aE ah Tryz.func34 rfl Ix (by simp[Tryz.ntmps34]) rfl λ C hC RR=>?_;rw[Tryz.ntmps34] at hC;simp only[dV,gW,aB,oQ];apply aq;simp[hC]
 cases hq:q.param with
 | true=>
  have RS:=h hq;obtain⟨n,hn⟩:∃ n,is.bp[q.index]? = some n:=⟨_,getElem?_eq_getElem RS⟩;have Qd:=gX hn;have Wj:iV is q=n:=by simp[iV,hq,getD_eq_getElem?_getD,hn]
  apply aW;simp[hC,RS];refine dy ?_;simp;apply aq;simp[hC,RS,Qd];apply T.ret;apply aa.here;simp[Tryz.results34,Wj]
 | false=>
  have Wj:iV is q=q.index:=by simp[iV,hq]
  apply aW;simp[hC];refine fX ?_;simp;apply aq;simp[hC];apply T.ret;apply aa.here;simp[Tryz.results34,Wj]
theorem L4 {ts:List (List Fr)}{i:Nat}{l:List Fr}(h:ts[i]? = some l):(ts.flatMap en).drop i=en l++(ts.drop (i+1)).flatMap en:=by
 have:=aI (f:=en) (n:=1) na h
 simpa using this
def mD:Option In->CV
 | some i=>.cB [.agg (cW i),.bool true]
 | none=>.cB [.agg [I 0,I 0,.bool false,I 0,I 0,.str eS,.ax [] 0,.bool false,I 0,.ax [] 0,.ax [] 0,.ax [] 0],.bool false]
def FrsV (u:Un)(s:Sy):Prop:=∀ l∈s.ts,∀ f∈l,∃ q,u.ps[f.proc]? = some q/\f.pc<q.code.length
theorem wx {s:Sy}{t:Int}{f:Fr}(h:eW s t=some f):∃ l∈s.ts,f∈l:=by
 unfold eW at h;split at h
 ·cases h
 ·split at h
  ·rename_i l hl;exact⟨l,mem_of_getElem? hl,mem_of_getLast? h⟩
  ·cases h
def bT (u:Un)(s:Sy)(t:Int)(p:Pl):Int×Nat:=match eW s t with
 | none=>(0,0)
 | some f=>if p.param=true then (((f.eA.getD p.index 0:Nat):Int),0) else
   if (gY u.ms s.gs f.aV p).2=0 then (wr (Dy u.ms p.index+(gY u.ms s.gs f.aV p).1),0) else (0,(gY u.ms s.gs f.aV p).2)
theorem fS (l:List (List Fr)):l.flatMap en=l.map λ x=>.ax (x.flatMap dY) x.length:=by
 induction l with
 | nil=>rfl
 | cons a r ih=>rw[flatMap_cons,ih];rfl
def OG (s:Sy)(t:Nat)(l0:List Fr)(f:Fr)(g:Nat)(e:Ex):Sy:=
 if (bN s.gs f.aV e).2=0 then { s with ts:=s.ts.set t (l0++[{ f with pc:=if (bN s.gs f.aV e).1=0 then g else f.pc+1 }]) } else { s with fault:=(bN s.gs f.aV e).2 }
def oS (u:Un):Sy:=⟨u.gs,replicate (bR u.ms).length ⟨0,0⟩,[[⟨u.main,0,replicate (match u.ps[u.main]? with
 | some q=>q.locals
 | none=>0) 0,[]⟩]],0⟩
theorem HY (n:Nat):aY [I 0,I 0] n=(replicate n (⟨0,0⟩:Ho)).flatMap dL:=by
 induction n with
 | zero=>rfl
 | succ n ih=>rw[aY,ih,replicate_succ,flatMap_cons];rfl
theorem ja (n:Nat):trees (replicate n (I 0))=true:=by
 induction n with
 | zero=>rfl
 | succ n ih=>rw[replicate_succ,trees,ih];rfl
def db (gs ls:List Int):List Ex->List Int×Nat
 | []=>([],0)
 | e::r=>if (bN gs ls e).2=0 then ((bN gs ls e).1::(db gs ls r).1,(db gs ls r).2) else ([],(bN gs ls e).2)
def dp (u:Un)(s:Sy)(t:Int):List Pl->List Nat×Nat
 | []=>([],0)
 | p::r=>if (bT u s t p).2=0 then ((bT u s t p).1.toNat::(dp u s t r).1,(dp u s t r).2) else ([],(bT u s t p).2)
def mV (u:Un)(s:Sy)(t:Int)(f:Fr)(tg n:Nat)(es:List Ex)(ps:List Pl):Fr×Nat:=
 if (db s.gs f.aV es).2=0 then
  (if (dp u s t ps).2=0 then (⟨tg,0,(db s.gs f.aV es).1++replicate (n-es.length) 0,(dp u s t ps).1⟩,0)
   else (⟨tg,0,(db s.gs f.aV es).1,(dp u s t ps).1⟩,(dp u s t ps).2))
 else (⟨tg,0,(db s.gs f.aV es).1,[]⟩,(db s.gs f.aV es).2)
theorem nO (i m:Nat)(h:i≠m)(L:List Nat):∀ (n j:Nat),pf (replicate n i++L) m j=pf L m (j+n)
 | 0,j=>by simp
 | n+1,j=>by
  rw[replicate_succ,cons_append,pf,if_neg h,nO i m h L n (j+1)];congr 1;omega
theorem zR (m:Nat):∀ (ms:List Mx) (i j:Nat) (x:Mx),i<=m->ms[m-i]? = some x->∃ k:Nat,pf (cC ms i) m j=k/\k+max x.size 1<=j+(cC ms i).length
 | [],i,j,x,_,h=>by simp at h
 | y::r,i,j,x,hi,h=>by
  rw[cC];by_cases he:i=m
  ·subst he;simp at h;subst h;refine⟨j,?_,by simp⟩;obtain⟨n,hn⟩:∃ n,max y.size 1=n+1:=⟨max y.size 1-1,by omega⟩;rw[hn,replicate_succ,cons_append,pf,if_pos rfl]
  ·rw[nO i m he];have h2:r[m-(i+1)]? = some x:=by
    have:m-i=(m-(i+1))+1:=by omega
    rw[this,getElem?_cons_succ] at h;exact h
   obtain⟨k,h3,h4⟩:=zR m r (i+1) (j+max y.size 1) x yA h2;exact⟨k,h3,by simp;omega⟩
theorem jW (u:Un)(s:Sy)(t:Int)(p:Pl)(hm:Fo u.ms)(f:Fr)(ht:eW s t=some f)(hv:vW u.ms s.gs.length f.aV.length f.eA.length p):∃ n:Nat,(bT u s t p).1=n:=by
 unfold bT;rw[ht];by_cases hp:p.param=true
 ·exact⟨f.eA.getD p.index 0,by simp only[if_pos hp]⟩
 simp only[if_neg hp];split
 ·rename_i hf;rcases hv with h | ⟨_,m,SS,h⟩
  ·exact (hp h.1).elim
  obtain⟨k,hk,R8⟩:=zR p.index u.ms 0 0 m yA (by simpa using SS);have Zl:=oO u.ms 0 hm.2;have hm1:=hm.1;obtain⟨j,hj,Sv⟩:∃ j:Nat,(gY u.ms s.gs f.aV p).1=j/\j<=max m.size 1:=by
   unfold gY at hf |-;rcases h with ⟨h,_⟩ | ⟨e,h,_⟩
   ·rw[h];exact⟨0,rfl,by omega⟩
   ·rw[h] at hf |-;simp only[SS] at hf |-;split
    ·rename_i h1;rw[if_pos h1] at hf;split
     ·exact⟨0,rfl,by omega⟩
     ·rename_i h2;exact⟨(bN s.gs f.aV e).1.toNat,by simp only;omega,by omega⟩
    ·exact⟨0,rfl,by omega⟩
  refine⟨k+j,?_⟩;rw[show Dy u.ms p.index=(k:Int) from hk,hj,wr,cF _ yA yA];omega
 ·exact⟨0,rfl⟩
def Of (u:Un)(s:Sy)(t:Nat)(l0:List Fr)(f:Fr)(p:Pl):Sy×Bool:=
 if (bT u s t p).2=0 then
  (if (fH u.ms s.tb (bT u s t p).1.toNat t).2=true then ({ s with tb:=(fH u.ms s.tb (bT u s t p).1.toNat t).1,ts:=s.ts.set t (l0++[{ f with pc:=f.pc+1 }]) },true) else (s,false))
 else ({ s with fault:=(bT u s t p).2 },true)
def N1 (u:Un)(s:Sy)(t:Nat)(l0:List Fr)(f:Fr)(p:Pl):Sy×Bool:=
 if (bT u s t p).2=0 then
  (if (dm u.ms s.tb (bT u s t p).1.toNat t).2=true then ({ s with tb:=(dm u.ms s.tb (bT u s t p).1.toNat t).1,ts:=s.ts.set t (l0++[{ f with pc:=f.pc+1 }]) },true) else ({ s with fault:=3 },true))
 else ({ s with fault:=(bT u s t p).2 },true)
def OF (u:Un)(s:Sy)(t:Nat)(l0:List Fr)(f:Fr)(tg n:Nat)(es:List Ex)(ps:List Pl):Sy:=
 if (mV u s t f tg n es ps).2=0 then { s with ts:=s.ts.set t (l0++[{ f with pc:=f.pc+1 },(mV u s t f tg n es ps).1]) } else { s with fault:=(mV u s t f tg n es ps).2 }
end Go.Proofs.YtlkmbdfhdknlgaaGreat
