/- Unit. -/
import Derived.Test.YtlkmbdfhdknlgaaGreatV36
namespace Go.Proofs.YtlkmbdfhdknlgaaGreat
open Go.Can Go.aV List
theorem AH (l:List Int):jx (lQ (BX l)):=by
 have h:=Lb l;refine h.unit (λ f hf=>?_) λ f hf=>?_
 ·have h1:=CT (mem_map_of_mem (f:=λ f:Fu=>bZ f.body) hf);have h2:=h.wt;omega
 ·obtain⟨k,hk,e⟩:=h.pn f hf;have h5:=congrArg length e;simp only[length_map,length_reverse,length_take,nP,length_cons,length_nil] at h5;omega
theorem Ji (l:List Int)(hl:l.length<=9223372036854775807):af Tryz.prog 7 [ints l] (.bY [xB (BX l),cb (lQ (BX l)),oZ (cc (lQ (BX l)))]):=by
 have hp:=CE l hl;have Ul:=HD (BX l) (Lb l);have O2:=xw (lQ (BX l)) (AH l);generalize lQ (BX l)=u at Ul O2;generalize BX l=p at hp Ul;generalize cc u=c at O2;have PR:=bt u;obtain⟨t1,t2,t3⟩:=hU p;have tp:trees (eU p)=true:=by simp only[eU,trees,t1,t2,t3];rfl
 have tc:trees (oY c)=true:=by simp only[oY,trees,tree,bT];rfl
 have O1:tree (.bY [xB p,cb u,oZ c])=true:=by simp only[tree,trees,xB,cb,oZ,tp,PR,tc];rfl
 refine af.aC ag Tryz.func7 rfl GK (by simp[Tryz.ntmps7]) O1 λ C hC OR=>?_;rw[Tryz.ntmps7] at hC;have WN:trees [ints l]=true:=by simp only[trees,bD,Bool.and_self]
 have Wg:trees [xB p]=true:=by simp only[trees,tree,xB,tp,Bool.and_self]
 have Wf:trees [cb u]=true:=by simp only[trees,tree,cb,PR,Bool.and_self]
 simp only[xB,eU,cb,eD,oZ,oY] at hp Ul O2 Wg Wf |-;apply aq;simp[hC];apply aq;simp[hC];refine ct WN hp ?_;simp[hC];apply aq;simp[hC];refine ct Wg Ul ?_;simp[hC];apply aq;simp[hC];refine ct Wf O2 ?_;simp[hC];apply T.seq;refine T.rx ag follows [0,1,2,3,4,5] [(1,3),(2,3),(2,4)] GK ?_;simp[hC];apply T.ret;apply aa.here;simp[Tryz.results7]
end Go.Proofs.YtlkmbdfhdknlgaaGreat
namespace Go.aV
open Go.Can List
def yO (l:List Is)(x:Is)(c:List In):List Int:=c.map λ i=>match jZ x i with
 | none=>-1
 | some y=>(fc l y:Int)
theorem vK {l:List Is}{y:Is}(h:y∈l)(t:List Is):fc (l++t) y=fc l y:=by
 unfold fc;rw[findIdx_append,if_pos];exact findIdx_lt_length_of_exists ⟨y,h,by simp⟩
theorem Kl {l:List Is}{y:Is}(h:y∈l):l[fc l y]? = some y:=by
 have hl:=uE h;have h2:=findIdx_getElem (xs:=l) (p:=λ y'=>decide (y'=y)) (w:=hl);rw[getElem?_eq_getElem hl];exact congrArg some (of_decide_eq_true h2)
theorem Ad (x:Is)(t:List Is):∀ (c:List In) (l:List Is),(∀ i∈c,∀ y,jZ x i=some y->y∈l)->yO (l++t) x c=yO l x c
 | [],_,_=>rfl
 | i::c,l,h=>by
  have ih:=Ad x t c l λ j hj=>h j (mem_cons_of_mem _ hj);unfold yO at ih |-;rw[map_cons,map_cons,ih];congr 1
  cases hc:jZ x i with
  | none=>rfl
  | some y=>
   simp only;rw[vK (h i mem_cons_self y hc)]
theorem pX (l:List Nat)(n x:Nat):x∈g9 l n↔x∈l\/x=n:=by
 unfold g9;split
 ·rename_i h;exact⟨.inl,λ h2=>h2.elim id λ e=>e ▸ h⟩
 ·rw[mem_append,mem_cons];have:=take_append_drop (cW l n) l;constructor
  ·rintro (h | h | h)
   ·exact .inl (mem_of_mem_take h)
   ·exact .inr h
   ·exact .inl (mem_of_mem_drop h)
  ·rintro (h | h)
   ·rw[<- this,mem_append] at h;exact h.elim .inl λ h=>.inr (.inr h)
   ·exact .inr (.inl h)
structure SI (x:Is)(c:List In)(l:List Is)(r:List Nat)(L:List Is)(row:List Int)(R:List Nat):Prop where
 pre:∃ t,L=l++t
 row:row=yO L x c
 mem:∀ i∈c,∀ y,jZ x i=some y->y∈L
 nd:l.Nodup->L.Nodup
 new:∀ k y,l.length<=k->L[k]? = some y->∃ i∈c,jZ x i=some y
 root:∀ n,n∈R↔n∈r\/∃ i∈c,sq i=true/\∃ y,jZ x i=some y/\fc L y=n
theorem Ck (x:Is):∀ (c:List In) (l:List Is) (r:List Nat),SI x c l r (g6 x c l r).1 (g6 x c l r).2.1 (g6 x c l r).2.2
 | [],l,r=>by
  refine⟨⟨[],by simp[g6]⟩,rfl,(λ i hi=>by cases hi),id,λ k y h1 h2=>?_,λ n=>by simp[g6]⟩;simp only[g6] at h2;rw[getElem?_eq_none h1] at h2;cases h2
 | i::c,l,r=>by
  cases hc:jZ x i with
  | none=>
   have ih:=Ck x c l r;simp only[g6,hc];refine⟨ih.pre,?_,?_,ih.nd,?_,?_⟩
   ·rw[ih.row];simp only[yO,map_cons,hc]
   ·intro j hj y hy;rcases mem_cons.1 hj with rfl | hj
    ·rw[hc] at hy;cases hy
    ·exact ih.mem j hj y hy
   ·intro k y h1 h2;obtain⟨j,hj,hy⟩:=ih.new k y h1 h2;exact⟨j,mem_cons_of_mem _ hj,hy⟩
   ·intro n;rw[ih.root];constructor
    ·rintro (h | ⟨j,hj,h⟩)
     ·exact .inl h
     ·exact .inr ⟨j,mem_cons_of_mem _ hj,h⟩
    ·rintro (h | ⟨j,hj,hg,y,hy,h⟩)
     ·exact .inl h
     ·rcases mem_cons.1 hj with rfl | hj
      ·rw[hc] at hy;cases hy
      ·exact .inr ⟨j,hj,hg,y,hy,h⟩
  | some z=>
   have ih:=Ck x c (fh l z) (if sq i=true then g9 r (fc (fh l z) z) else r);simp only[g6,hc];generalize g6 x c (fh l z) (if sq i=true then g9 r (fc (fh l z) z) else r)=S at ih |-;obtain⟨t,ht⟩:=ih.pre;obtain⟨t',ht'⟩:=BQ l z;have hz:z∈fh l z:=BR l z;have XP:fc S.1 z=fc (fh l z) z:=by rw[ht];exact vK hz t
   refine⟨⟨t'++t,by rw[ht,ht',append_assoc]⟩,?_,?_,λ h=>ih.nd (nh h),?_,?_⟩
   ·rw[ih.row];simp only[yO,map_cons,hc,XP]
   ·intro j hj y hy;rcases mem_cons.1 hj with rfl | hj
    ·rw[hc] at hy;cases hy;rw[ht];exact mem_append_left _ hz
    ·exact ih.mem j hj y hy
   ·intro k y h1 h2;by_cases hk:(fh l z).length<=k
    ·obtain⟨j,hj,hy⟩:=ih.new k y hk h2;exact⟨j,mem_cons_of_mem _ hj,hy⟩
    ·rw[ht,getElem?_append_left yA] at h2;refine⟨i,mem_cons_self,?_⟩;unfold fh at h2 hk;split at h2
     ·rw[getElem?_eq_none h1] at h2;cases h2
     ·rw[getElem?_append_right h1] at h2;have:k-l.length=0:=by
       have:=(List.getElem?_eq_some_iff.1 h2).1;simp only[length_cons,length_nil] at this;omega
      rw[this] at h2;simp only[getElem?_cons_zero,Option.some.injEq] at h2;rw[hc,h2]
   ·intro n;rw[ih.root];constructor
    ·rintro (h | ⟨j,hj,h⟩)
     ·by_cases hg:sq i=true
      ·rw[if_pos hg,pX] at h;rcases h with h | h
       ·exact .inl h
       ·exact .inr ⟨i,mem_cons_self,hg,z,hc,by rw[XP,h]⟩
      ·rw[if_neg hg] at h;exact .inl h
     ·exact .inr ⟨j,mem_cons_of_mem _ hj,h⟩
    ·rintro (h | ⟨j,hj,hg,y,hy,h⟩)
     ·refine .inl ?_;split
      ·rw[pX];exact .inl h
      ·exact h
     ·rcases mem_cons.1 hj with rfl | hj
      ·refine .inl ?_;rw[if_pos hg,pX];rw[hc] at hy;cases hy;exact .inr (by rw[<- h,XP])
      ·exact .inr ⟨j,hj,hg,y,hy,h⟩
structure CI (u:Un)(i:Nat)(l:List Is)(cs:List (List Int))(r:List Nat):Prop where
 len:cs.length=i
 le:i<=l.length
 pos:0<l.length
 nd:l.Nodup
 mem:∀ j x,j<i->l[j]? = some x->∀ c∈bN u x,∀ y,jZ x c=some y->y∈l
 row:∀ j x,j<i->l[j]? = some x->cs[j]? = some (yO l x (bN u x))
 up:∀ k y,0<k->l[k]? = some y->∃ j x,j<i/\j<k/\l[j]? = some x/\∃ c∈bN u x,jZ x c=some y
 root:∀ n,n∈r↔n=0\/∃ j x,j<i/\l[j]? = some x/\∃ c∈bN u x,sq c=true/\∃ y,jZ x c=some y/\fc l y=n
theorem CI.step {u:Un}{i:Nat}{l:List Is}{cs:List (List Int)}{r:List Nat}(h:CI u i l cs r){x:Is}(hx:l[i]? = some x) :
  CI u (i+1) (g6 x (bN u x) l r).1 (cs++[(g6 x (bN u x) l r).2.1]) (g6 x (bN u x) l r).2.2:=by
 have s:=Ck x (bN u x) l r;generalize g6 x (bN u x) l r=S at s |-;obtain⟨t,ht⟩:=s.pre;have OP:=(List.getElem?_eq_some_iff.1 hx).1;have Th:∀ j,j<l.length->S.1[j]? = l[j]?:=λ j hj=>by rw[ht,getElem?_append_left hj]
 have hle:l.length<=S.1.length:=by rw[ht];simp
 have YS:S.1[i]? = some x:=by rw[Th i OP,hx]
 have hlen:=h.len;have QA:∀ j y,j<i->l[j]? = some y->∀ c∈bN u y,∀ z,jZ y c=some z->fc S.1 z=fc l z:=λ j y hj hy c hc z hz=>by
  rw[ht];exact vK (h.mem j y hj hy c hc z hz) t
 refine⟨by simp[hlen],by omega,by have:=h.pos;omega,s.nd h.nd,?_,?_,?_,?_⟩
 ·intro j y hj hy c hc z hz;by_cases e:j=i
  ·subst e;rw[YS] at hy;cases hy;exact s.mem c hc z hz
  ·rw[Th j yA] at hy;rw[ht];exact mem_append_left _ (h.mem j y yA hy c hc z hz)
 ·intro j y hj hy;by_cases e:j=i
  ·subst e;rw[YS] at hy;cases hy;rw[getElem?_append_right yA,hlen,Nat.sub_self,s.row];rfl
  ·rw[Th j yA] at hy;rw[getElem?_append_left yA,h.row j y yA hy,ht,Ad];exact λ c hc z hz=>h.mem j y yA hy c hc z hz
 ·intro k y hk hy;by_cases Pa:k<l.length
  ·rw[Th k Pa] at hy;obtain⟨j,z,h1,h2,h3,h4⟩:=h.up k y hk hy;exact⟨j,z,by omega,h2,by rw[Th j yA];exact h3,h4⟩
  ·obtain⟨c,hc,hy2⟩:=s.new k y yA hy;exact⟨i,x,by omega,by omega,YS,c,hc,hy2⟩
 ·intro n;rw[s.root,h.root];constructor
  ·rintro ((h1 | ⟨j,y,h1,h2,c,h3,h4,z,h5,h6⟩) | ⟨c,hc,hg,y,hy,h1⟩)
   ·exact .inl h1
   ·exact .inr ⟨j,y,by omega,by rw[Th j yA];exact h2,c,h3,h4,z,h5,by rw[QA j y h1 h2 c h3 z h5];exact h6⟩
   ·exact .inr ⟨i,x,by omega,YS,c,hc,hg,y,hy,h1⟩
  ·rintro (h1 | ⟨j,y,h1,h2,c,h3,h4,z,h5,h6⟩)
   ·exact .inl (.inl h1)
   ·by_cases e:j=i
    ·subst e;rw[YS] at h2;cases h2;exact .inr ⟨c,h3,h4,z,h5,h6⟩
    ·rw[Th j yA] at h2;exact .inl (.inr ⟨j,y,by omega,h2,c,h3,h4,z,h5,by rw[<- QA j y yA h2 c h3 z h5];exact h6⟩)
theorem uT {u:Un}(hu:jx u){x:Is}(hx:B5 u x):∀ (c:List In) (l:List Is) (r:List Nat),(∀ i∈c,i∈bN u x)->l.Nodup->(∀ y∈l,B5 u y)->(g6 x c l r).1.Nodup/\∀ y∈(g6 x c l r).1,B5 u y
 | [],_,_,_,h1,h2=>⟨h1,h2⟩
 | i::c,l,r,hc,h1,h2=>by
  simp only[g6];split
  ·exact uT hu hx c l r (λ j hj=>hc j (mem_cons_of_mem _ hj)) h1 h2
  ·rename_i y hy;exact uT hu hx c _ _ (λ j hj=>hc j (mem_cons_of_mem _ hj)) (nh h1) (Dl h2 (Df hu hx (hc i mem_cons_self) hy))
theorem Ej {u:Un}(hu:jx u):∀ (f i:Nat) (l:List Is) (cs:List (List Int)) (r:List Nat),i+f=100->(∀ y∈l,B5 u y)->CI u i l cs r ->
  CI u (mT u f i l cs r).is.length (mT u f i l cs r).is (mT u f i l cs r).calls (mT u f i l cs r).roots
 | 0,i,l,cs,r,hf,hv,h=>by
  have:=kq hu h.nd hv;have:=h.le;omega
 | f+1,i,l,cs,r,hf,hv,h=>by
  simp only[mT];split
  ·rename_i hn;have hle:l.length<=i:=by simpa using hn
   have hi:i=l.length:=by have:=h.le;omega
   subst hi;exact h
  ·rename_i x hx;exact Ej hu f (i+1) _ _ _ yA (uT hu (hv x (mem_of_getElem? hx)) (bN u x) l r (λ _ h=>h) h.nd hv).2 (h.step hx)
theorem uI {u:Un}(hu:jx u):CI u (cc u).is.length (cc u).is (cc u).calls (cc u).roots:=by
 refine Ej hu 100 0 [⟨u.main,[]⟩] [] [0] rfl (λ x hx=>?_) ⟨rfl,by simp,by simp,by simp,(λ j x hj=>by omega),(λ j x hj=>by omega),λ k y hk hy=>?_,λ n=>by simp⟩
 ·rw[mem_singleton.1 hx];have hp:=hu.np.1;obtain⟨q,hq⟩:∃ q,u.ps[0]? = some q:=⟨_,getElem?_eq_getElem yA⟩;exact⟨⟨q,by rw[hu.main];exact hq,by rw[(hu.p0 q hq).2];rfl⟩,λ l hl=>by cases hl⟩
 ·obtain⟨k',rfl⟩:∃ k',k=k' + 1:=⟨k-1,by omega⟩;simp at hy
def wr (n:Int):Int:=IntKind.i64.wrap n
def pP (b:Bool):Int:=if b=true then 1 else 0
def yV (a b:Int):Int:=if b=-1 then wr (0-a) else wr (a.tdiv b)
def K1 (k:Nat)(a:Int):Int:=if k=0 then wr (0-a) else pP (a == 0)
def lN (k:Nat)(a b:Int):Int×Nat:=
 if k=0 then (wr (a*b),0)
 else if k=1 then (if b=0 then (0,1) else (yV a b,0))
 else if k=2 then (if b=0 then (0,1) else (wr (a-wr (yV a b*b)),0))
 else if k=3 then (wr (a+b),0)
 else if k=4 then (wr (a-b),0)
 else if k=5 then (pP (decide (a<b)),0)
 else if k=6 then (pP (decide (a<=b)),0)
 else if k=7 then (pP (decide (a > b)),0)
 else if k=8 then (pP (decide (a≥b)),0)
 else if k=9 then (pP (a == b),0)
 else if k=10 then (pP (a != b),0)
 else (pP (b != 0),0)
def aW (gs ls:List Int):Ex->Int×Nat
 | .num n=>(n,0)
 | .loc i=>(ls.getD i 0,0)
 | .iK i=>(gs.getD i 0,0)
 | .un k e=>if (aW gs ls e).2=0 then (K1 k (aW gs ls e).1,0) else (0,(aW gs ls e).2)
 | .bin k a b=>if (aW gs ls a).2=0 then
   (if k=11/\(aW gs ls a).1=0 then (0,0) else if k=12/\(aW gs ls a).1≠0 then (1,0)
    else if (aW gs ls b).2=0 then lN k (aW gs ls a).1 (aW gs ls b).1 else (0,(aW gs ls b).2))
   else (0,(aW gs ls a).2)
 | .zero=>(0,0)
 | .nm _=>(0,0)
def ej (ms:List Mx)(gs ls:List Int)(p:Pl):Int×Nat:=match p.at_ with
 | none=>(0,0)
 | some e=>if (aW gs ls e).2=0 then
   (match ms[p.index]? with
    | some m=>if (aW gs ls e).1<0\/(m.size:Int)<=(aW gs ls e).1 then (0,2) else ((aW gs ls e).1,0)
    | none=>(0,0))
   else (0,(aW gs ls e).2)
def bx:List Mx->Nat->List Nat
 | [],_=>[]
 | m::r,i=>replicate (max m.size 1) i++bx r (i+1)
def a6 (ms:List Mx):List Nat:=bx ms 0
def kB:List Nat->Nat->Nat->Int
 | [],_,_=>-1
 | a::r,m,i=>if a=m then i else kB r m (i+1)
def tv (ms:List Mx)(m:Nat):Int:=kB (a6 ms) m 0
def e9 (ms:List Mx)(e:Int):Int:=if e<0 then -1 else match (a6 ms)[e.toNat]? with
 | some m=>m
 | none=>-1
structure Ho where
 o:Nat
 d:Nat
def cg (h:Ho):List CV:=[I h.o,I h.d]
structure Fr where
 proc:Nat
 pc:Nat
 ay:List Int
 b9:List Nat
def cZ (f:Fr):List CV:=[I f.proc,I f.pc,ints f.ay,aN f.b9]
structure Sy where
 gs:List Int
 tb:List Ho
 ts:List (List Fr)
 fault:Nat
def cd (l:List Fr):List CV:=[.au (l.flatMap cZ) l.length]
def dK (s:Sy):List CV:=[ints s.gs,.au (s.tb.flatMap cg) s.tb.length,.au (s.ts.flatMap cd) s.ts.length,I s.fault]
def bp (s:Sy):CV:=.agg (dK s)
theorem cm (h:Ho):(cg h).length=2:=rfl
theorem cL (f:Fr):(cZ f).length=4:=rfl
theorem jH (l:List Fr):(cd l).length=1:=rfl
theorem ba (h:Ho):trees (cg h)=true:=rfl
theorem bX (f:Fr):trees (cZ f)=true:=rfl
theorem aK (l:List Fr):trees (cd l)=true:=rfl
def pF (ms:List Mx)(tb:List Ho)(e th:Nat):Bool:=match (a6 ms)[e]?,tb[e]? with
 | some m,some h=>decide (h.o=0) || (decide (h.o=th+1) && (match ms[m]? with
  | some x=>x.re
  | none=>false))
 | _,_=>false
def er (ms:List Mx)(tb:List Ho)(e th:Nat):List Ho×Bool:=
 if pF ms tb e th=true then (tb.set e ⟨th+1,(match tb[e]? with
  | some h=>h.d
  | none=>0)+1⟩,true) else (tb,false)
def da (ms:List Mx)(tb:List Ho)(e th:Nat):List Ho×Bool:=match (a6 ms)[e]?,tb[e]? with
 | some _,some h=>if h.o=th+1 then (tb.set e (if h.d=1 then ⟨0,0⟩ else ⟨th+1,h.d-1⟩),true) else (tb,false)
 | _,_=>(tb,false)
def fH (m th:Nat):List Nat->List Ho->Nat
 | o::os,h::hs=>(if o=m/\h.o=th+1 then h.d else 0)+fH m th os hs
 | _,_=>0
def gv (ms:List Mx)(tb:List Ho)(m th:Nat):Nat:=fH m th (a6 ms) tb
def cN (s:Sy)(t:Int):Option Fr:=if t<0\/s.fault≠0 then none else match s.ts[t.toNat]? with
 | some l=>l.getLast?
 | none=>none
def M7:List CV:=[I 0,I 0,.au [] 0,.au [] 0]
def uc:Option Fr->CV
 | some f=>.bY [.agg (cZ f),.bool true]
 | none=>.bY [.agg M7,.bool false]
def dR (u:Un)(s:Sy)(t:Int):Option In:=match cN s t with
 | some f=>match u.ps[f.proc]? with
  | some q=>q.code[f.pc]?
  | none=>none
 | none=>none
end Go.aV
namespace Go.Proofs.YtlkmbdfhdknlgaaGreat
open Go.Can Go.aV List Tryz
theorem qn (b:Bool):af prog 150 [.bool b] (I (pP b)):=by
 refine af.aC ag Tryz.func150 rfl GK (by simp[Tryz.ntmps150]) rfl λ C hC OR=>?_;rw[Tryz.ntmps150] at hC;apply aq;simp[hC]
 cases b with
 | true=>
  apply aT;simp[hC];refine cX ?_;simp;apply aq;simp[hC];apply T.ret;apply aa.here;simp[Tryz.results150,pP]
 | false=>
  apply aT;simp[hC];refine eQ ?_;simp;apply aq;simp[hC];apply T.ret;apply aa.here;simp[Tryz.results150,pP]
theorem Ah (a b:Int)(hb:b≠0):af prog 151 [I a,I b] (I (yV a b)):=by
 refine af.aC ag Tryz.func151 rfl GK (by simp[Tryz.ntmps151]) rfl λ C hC OR=>?_;rw[Tryz.ntmps151] at hC;apply aq;simp[hC];by_cases h:b=-1
 ·subst h;apply aT;simp[hC];refine cX ?_;simp;apply aq;simp[hC];apply T.ret;apply aa.here;simp[Tryz.results151,yV,wr]
 ·have h1:(b == -1)=false:=by simp[h]
  apply aT;simp[hC,h1];refine eQ ?_;simp;apply aq;simp[hC,hb];apply T.ret;apply aa.here;simp[Tryz.results151,yV,h,wr]
theorem Lo {l:List Int}{i:Nat}{n:Int}(h:l[i]? = some n):(l.map bj).drop i=bj n::(l.drop (i+1)).map bj:=by
 obtain⟨h1,h2⟩:=List.getElem?_eq_some_iff.1 h;rw[<- map_drop,drop_eq_getElem_cons h1,h2,map_cons]
set_option maxHeartbeats 4000000 in
set_option maxRecDepth 100000 in
theorem mL (gs ls:List Int):∀ (e:Ex),px gs.length ls.length e->af prog 111 [.agg (a8 e),ints gs,ints ls] (.bY [I (aW gs ls e).1,I (aW gs ls e).2])
 | .zero,h=>h.elim
 | .nm _,h=>h.elim
 | .num n,_=>by
  refine af.aC ag Tryz.func111 rfl GK (by simp[Tryz.ntmps111]) rfl λ C hC OR=>?_;rw[Tryz.ntmps111] at hC;simp only[a8,ints];apply aq;simp[hC];apply aT;simp[hC];apply T.block;apply aq;simp[hC];refine cX ?_;simp;apply aq;simp[hC];apply T.ret;apply aa.here;simp[Tryz.results111,aW]
 | .loc i,h=>by
  have h:i<ls.length:=h;obtain⟨v,hv⟩:∃ v,ls[i]? = some v:=⟨_,getElem?_eq_getElem h⟩;have hd:=Lo hv;refine af.aC ag Tryz.func111 rfl GK (by simp[Tryz.ntmps111]) rfl λ C hC OR=>?_;rw[Tryz.ntmps111] at hC;simp only[a8,ints];apply aq;simp[hC];apply aT;simp[hC];apply T.block;apply aq;simp[hC];refine bh ?_;simp;apply aq;simp[hC];refine cX ?_;simp;apply aq;simp[hC,h,hd];apply T.ret;apply aa.here;simp[Tryz.results111,aW,getD_eq_getElem?_getD,hv]
 | .iK i,h=>by
  have h:i<gs.length:=h;obtain⟨v,hv⟩:∃ v,gs[i]? = some v:=⟨_,getElem?_eq_getElem h⟩;have hd:=Lo hv;refine af.aC ag Tryz.func111 rfl GK (by simp[Tryz.ntmps111]) rfl λ C hC OR=>?_;rw[Tryz.ntmps111] at hC;simp only[a8,ints];apply aq;simp[hC];apply aT;simp[hC];apply T.block;apply aq;simp[hC];refine bh ?_;simp;apply aq;simp[hC];refine bh ?_;simp;apply aq;simp[hC];refine cX ?_;simp;apply aq;simp[hC,h,hd];apply T.ret;apply aa.here;simp[Tryz.results111,aW,getD_eq_getElem?_getD,hv]
 | .un k e,h=>by
  have Qi:=mL gs ls e h.2;have hk:=h.1;have hA:aW gs ls (.un k e)=if (aW gs ls e).2=0 then (K1 k (aW gs ls e).1,0) else (0,(aW gs ls e).2):=rfl
  rw[hA];generalize aW gs ls e=A at Qi;obtain⟨va,fa⟩:=A;simp only[a8];rw[bV e] at Qi |-;generalize e.op=e1 at Qi |-;generalize e.n=e2 at Qi |-;generalize e.name=e3 at Qi |-;generalize e.args.flatMap a8=e4 at Qi |-;generalize e.args.length=e5 at Qi |-;simp only[ints] at Qi |-;have OQ:trees [.agg [I e1,I e2,.str e3,.au e4 e5],.au (gs.map bj) gs.length,.au (ls.map bj) ls.length]=true:=by simp only[trees,tree,Bool.and_self]
  have O1:=qn (va == 0);refine af.aC ag Tryz.func111 rfl GK (by simp[Tryz.ntmps111]) rfl λ C hC OR=>?_;rw[Tryz.ntmps111] at hC;obtain rfl | rfl:k=0\/k=1:=by omega
  all_goals
   repeat first
    | apply T.seq
    | (apply aG;simp[hC])
    | (refine T.cond (b:=false) ?_ ?_;rfl;simp)
    | (refine T.cond (b:=true) ?_ ?_;rfl;simp)
    | (apply T.skip;simp)
    | apply T.block
   refine ct OQ Qi ?_;simp[hC];by_cases hf:fa=0
   ·subst hf
    repeat first
     | apply T.seq
     | (apply aG;simp[hC])
     | (refine T.cond (b:=false) ?_ ?_;rfl;simp)
     | (refine T.cond (b:=true) ?_ ?_;rfl;simp)
     | (apply T.skip;simp)
     | apply T.block
    first
     | (apply T.ret;apply aa.here;simp[Tryz.results111,K1,wr])
     | (refine ct rfl O1 ?_;simp[hC];apply T.ret;apply aa.here;simp[Tryz.results111,K1])
   ·have O9:((fa:Int) != 0)=true:=by rw[bne_iff_ne];omega
    repeat first
     | apply T.seq
     | (apply aG;simp[hC,O9])
     | (refine T.cond (b:=false) ?_ ?_;(first | rfl | (simp[ev,assoc];done));simp)
     | (refine T.cond (b:=true) ?_ ?_;(first | rfl | (simp[ev,assoc,O9];done));simp)
     | (apply T.skip;simp)
     | apply T.block
    apply T.ret;apply aa.here;simp[Tryz.results111,hf]
 | .bin k a b,h=>by
  have Qi:=mL gs ls a h.2.1;have R0:=mL gs ls b h.2.2;have hk:=h.1;have hA:aW gs ls (.bin k a b)=if (aW gs ls a).2=0 then
   (if k=11/\(aW gs ls a).1=0 then (0,0) else if k=12/\(aW gs ls a).1≠0 then (1,0)
    else if (aW gs ls b).2=0 then lN k (aW gs ls a).1 (aW gs ls b).1 else (0,(aW gs ls b).2))
   else (0,(aW gs ls a).2):=rfl
  rw[hA];generalize aW gs ls a=A at Qi;generalize aW gs ls b=B at R0;obtain⟨va,fa⟩:=A;obtain⟨vb,fb⟩:=B;simp only[a8];rw[bV a] at Qi |-;rw[bV b] at R0 |-;generalize a.op=a1 at Qi |-;generalize a.n=a2 at Qi |-;generalize a.name=a3 at Qi |-;generalize a.args.flatMap a8=a4 at Qi |-;generalize a.args.length=a5 at Qi |-;generalize b.op=b1 at R0 |-;generalize b.n=b2 at R0 |-;generalize b.name=b3 at R0 |-;generalize b.args.flatMap a8=b4 at R0 |-;generalize b.args.length=b5 at R0 |-;simp only[ints] at Qi R0 |-;have OQ:trees [.agg [I a1,I a2,.str a3,.au a4 a5],.au (gs.map bj) gs.length,.au (ls.map bj) ls.length]=true:=by simp only[trees,tree,Bool.and_self]
  have Uw:trees [.agg [I b1,I b2,.str b3,.au b4 b5],.au (gs.map bj) gs.length,.au (ls.map bj) ls.length]=true:=by simp only[trees,tree,Bool.and_self]
  refine af.aC ag Tryz.func111 rfl GK (by simp[Tryz.ntmps111]) rfl λ C hC OR=>?_;rw[Tryz.ntmps111] at hC;rcases (show (k=0\/k=3\/k=4)\/(k=5\/k=6\/k=7\/k=8\/k=9\/k=10)\/(k=1\/k=2)\/k=11\/k=12 by omega) with RU | RU | RU | rfl | rfl
  ·rcases RU with rfl | rfl | rfl
   all_goals
    repeat first
     | apply T.seq
     | (apply aG;simp[hC])
     | (refine T.cond (b:=false) ?_ ?_;rfl;simp)
     | (refine T.cond (b:=true) ?_ ?_;rfl;simp)
     | (apply T.skip;simp)
     | apply T.block
    refine ct OQ Qi ?_;simp[hC];refine T.le (Le.trim [9,8,3,1,2] [0] 1 xr yA) ?_;simp;by_cases hf:fa=0
    rotate_left
    ·have O9:((fa:Int) != 0)=true:=by rw[bne_iff_ne];omega
     repeat first
      | apply T.seq
      | (apply aG;simp[hC,O9])
      | (refine T.cond (b:=false) ?_ ?_;(first | rfl | (simp[ev,assoc];done));simp)
      | (refine T.cond (b:=true) ?_ ?_;(first | rfl | (simp[ev,assoc,O9];done));simp)
      | (apply T.skip;simp)
      | apply T.block
     apply T.ret;apply aa.here;simp[Tryz.results111,hf]
    subst hf
    repeat first
     | apply T.seq
     | (apply aG;simp[hC])
     | (refine T.cond (b:=false) ?_ ?_;rfl;simp)
     | (refine T.cond (b:=true) ?_ ?_;rfl;simp)
     | (apply T.skip;simp)
     | apply T.block
    refine ct Uw R0 ?_;simp[hC];refine T.le (Le.trim [10,9,8,3] [0] 1 xr yA) ?_;simp;by_cases hg:fb=0
    rotate_left
    ·have QN:((fb:Int) != 0)=true:=by rw[bne_iff_ne];omega
     repeat first
      | apply T.seq
      | (apply aG;simp[hC,QN])
      | (refine T.cond (b:=false) ?_ ?_;(first | rfl | (simp[ev,assoc];done));simp)
      | (refine T.cond (b:=true) ?_ ?_;(first | rfl | (simp[ev,assoc,QN];done));simp)
      | (apply T.skip;simp)
      | apply T.block
     apply T.ret;apply aa.here;simp[Tryz.results111,hg]
    subst hg
    repeat first
     | apply T.seq
     | (apply aG;simp[hC])
     | (refine T.cond (b:=false) ?_ ?_;rfl;simp)
     | (refine T.cond (b:=true) ?_ ?_;rfl;simp)
     | (apply T.skip;simp)
     | apply T.block
    apply T.ret;apply aa.here;simp[Tryz.results111,lN,wr]
  ·rcases RU with rfl | rfl | rfl | rfl | rfl | rfl
   all_goals
    repeat first
     | apply T.seq
     | (apply aG;simp[hC])
     | (refine T.cond (b:=false) ?_ ?_;rfl;simp)
     | (refine T.cond (b:=true) ?_ ?_;rfl;simp)
     | (apply T.skip;simp)
     | apply T.block
    refine ct OQ Qi ?_;simp[hC];refine T.le (Le.trim [9,8,3,1,2] [0] 1 xr yA) ?_;simp;by_cases hf:fa=0
    rotate_left
    ·have O9:((fa:Int) != 0)=true:=by rw[bne_iff_ne];omega
     repeat first
      | apply T.seq
      | (apply aG;simp[hC,O9])
      | (refine T.cond (b:=false) ?_ ?_;(first | rfl | (simp[ev,assoc];done));simp)
      | (refine T.cond (b:=true) ?_ ?_;(first | rfl | (simp[ev,assoc,O9];done));simp)
      | (apply T.skip;simp)
      | apply T.block
     apply T.ret;apply aa.here;simp[Tryz.results111,hf]
    subst hf
    repeat first
     | apply T.seq
     | (apply aG;simp[hC])
     | (refine T.cond (b:=false) ?_ ?_;rfl;simp)
     | (refine T.cond (b:=true) ?_ ?_;rfl;simp)
     | (apply T.skip;simp)
     | apply T.block
    refine ct Uw R0 ?_;simp[hC];refine T.le (Le.trim [10,9,8,3] [0] 1 xr yA) ?_;simp;by_cases hg:fb=0
    rotate_left
    ·have QN:((fb:Int) != 0)=true:=by rw[bne_iff_ne];omega
     repeat first
      | apply T.seq
      | (apply aG;simp[hC,QN])
      | (refine T.cond (b:=false) ?_ ?_;(first | rfl | (simp[ev,assoc];done));simp)
      | (refine T.cond (b:=true) ?_ ?_;(first | rfl | (simp[ev,assoc,QN];done));simp)
      | (apply T.skip;simp)
      | apply T.block
     apply T.ret;apply aa.here;simp[Tryz.results111,hg]
    subst hg
    repeat first
     | apply T.seq
     | (apply aG;simp[hC])
     | (refine T.cond (b:=false) ?_ ?_;rfl;simp)
     | (refine T.cond (b:=true) ?_ ?_;rfl;simp)
     | (apply T.skip;simp)
     | apply T.block
    refine ct rfl (qn _) ?_;simp[hC];apply T.ret;apply aa.here;simp[Tryz.results111,lN]
  ·rcases RU with rfl | rfl
   all_goals
    repeat first
     | apply T.seq
     | (apply aG;simp[hC])
     | (refine T.cond (b:=false) ?_ ?_;rfl;simp)
     | (refine T.cond (b:=true) ?_ ?_;rfl;simp)
     | (apply T.skip;simp)
     | apply T.block
    refine ct OQ Qi ?_;simp[hC];refine T.le (Le.trim [9,8,3,1,2] [0] 1 xr yA) ?_;simp;by_cases hf:fa=0
    rotate_left
    ·have O9:((fa:Int) != 0)=true:=by rw[bne_iff_ne];omega
     repeat first
      | apply T.seq
      | (apply aG;simp[hC,O9])
      | (refine T.cond (b:=false) ?_ ?_;(first | rfl | (simp[ev,assoc];done));simp)
      | (refine T.cond (b:=true) ?_ ?_;(first | rfl | (simp[ev,assoc,O9];done));simp)
      | (apply T.skip;simp)
      | apply T.block
     apply T.ret;apply aa.here;simp[Tryz.results111,hf]
    subst hf
    repeat first
     | apply T.seq
     | (apply aG;simp[hC])
     | (refine T.cond (b:=false) ?_ ?_;rfl;simp)
     | (refine T.cond (b:=true) ?_ ?_;rfl;simp)
     | (apply T.skip;simp)
     | apply T.block
    refine ct Uw R0 ?_;simp[hC];refine T.le (Le.trim [10,9,8,3] [0] 1 xr yA) ?_;simp;by_cases hg:fb=0
    rotate_left
    ·have QN:((fb:Int) != 0)=true:=by rw[bne_iff_ne];omega
     repeat first
      | apply T.seq
      | (apply aG;simp[hC,QN])
      | (refine T.cond (b:=false) ?_ ?_;(first | rfl | (simp[ev,assoc];done));simp)
      | (refine T.cond (b:=true) ?_ ?_;(first | rfl | (simp[ev,assoc,QN];done));simp)
      | (apply T.skip;simp)
      | apply T.block
     apply T.ret;apply aa.here;simp[Tryz.results111,hg]
    subst hg
    repeat first
     | apply T.seq
     | (apply aG;simp[hC])
     | (refine T.cond (b:=false) ?_ ?_;rfl;simp)
     | (refine T.cond (b:=true) ?_ ?_;rfl;simp)
     | (apply T.skip;simp)
     | apply T.block
    by_cases hb:vb=0
    ·subst hb;refine T.cond (b:=true) PC ?_;simp
     repeat first
      | apply T.seq
      | (apply aG;simp[hC])
      | (refine T.cond (b:=false) ?_ ?_;rfl;simp)
      | (refine T.cond (b:=true) ?_ ?_;rfl;simp)
      | (apply T.skip;simp)
      | apply T.block
     apply T.ret;apply aa.here;simp[Tryz.results111,lN]
    refine T.cond (b:=false) (by simp[ev,assoc,hb]) (T.skip ?_);simp
    repeat first
     | apply T.seq
     | (apply aG;simp[hC])
     | (refine T.cond (b:=false) ?_ ?_;(first | rfl | (simp[ev,assoc];done));simp)
     | (refine T.cond (b:=true) ?_ ?_;(first | rfl | (simp[ev,assoc,hb];done));simp)
     | (apply T.skip;simp)
     | apply T.block
    refine ct rfl (Ah _ _ hb) ?_;simp[hC];apply T.ret;apply aa.here;simp[Tryz.results111,lN,hb,wr]
  ·repeat first
    | apply T.seq
    | (apply aG;simp[hC])
    | (refine T.cond (b:=false) ?_ ?_;rfl;simp)
    | (refine T.cond (b:=true) ?_ ?_;rfl;simp)
    | (apply T.skip;simp)
    | apply T.block
   refine ct OQ Qi ?_;simp[hC];refine T.le (Le.trim [9,8,3,1,2] [0] 1 xr yA) ?_;simp;by_cases hf:fa=0
   rotate_left
   ·have O9:((fa:Int) != 0)=true:=by rw[bne_iff_ne];omega
    repeat first
     | apply T.seq
     | (apply aG;simp[hC,O9])
     | (refine T.cond (b:=false) ?_ ?_;(first | rfl | (simp[ev,assoc];done));simp)
     | (refine T.cond (b:=true) ?_ ?_;(first | rfl | (simp[ev,assoc,O9];done));simp)
     | (apply T.skip;simp)
     | apply T.block
    apply T.ret;apply aa.here;simp[Tryz.results111,hf]
   subst hf;by_cases hv:va=0
   ·subst hv
    repeat first
     | apply T.seq
     | (apply aG;simp[hC])
     | (refine T.cond (b:=false) ?_ ?_;rfl;simp)
     | (refine T.cond (b:=true) ?_ ?_;rfl;simp)
     | (apply T.skip;simp)
     | apply T.block
    apply T.ret;apply aa.here;simp[Tryz.results111]
   have Sd:(va == 0)=false:=by simp[hv]
   have Vg:(va != 0)=true:=by simp[hv]
   repeat first
    | apply T.seq
    | (apply aG;simp[hC,hv,Sd])
    | (refine T.cond (b:=false) ?_ ?_;(first | rfl | (simp[ev,assoc,hv,Sd,Vg];done));simp)
    | (refine T.cond (b:=true) ?_ ?_;(first | rfl | (simp[ev,assoc,hv,Sd,Vg];done));simp)
    | (apply T.skip;simp)
    | apply T.block
   refine ct Uw R0 ?_;simp[hC];refine T.le (Le.trim [10,9,8,3] [0] 1 xr yA) ?_;simp;by_cases hg:fb=0
   rotate_left
   ·have QN:((fb:Int) != 0)=true:=by rw[bne_iff_ne];omega
    repeat first
     | apply T.seq
     | (apply aG;simp[hC,QN])
     | (refine T.cond (b:=false) ?_ ?_;(first | rfl | (simp[ev,assoc];done));simp)
     | (refine T.cond (b:=true) ?_ ?_;(first | rfl | (simp[ev,assoc,QN];done));simp)
     | (apply T.skip;simp)
     | apply T.block
    apply T.ret;apply aa.here;simp[Tryz.results111,hg]
   subst hg
   repeat first
    | apply T.seq
    | (apply aG;simp[hC])
    | (refine T.cond (b:=false) ?_ ?_;rfl;simp)
    | (refine T.cond (b:=true) ?_ ?_;rfl;simp)
    | (apply T.skip;simp)
    | apply T.block
   refine ct rfl (qn _) ?_;simp[hC];apply T.ret;apply aa.here;simp[Tryz.results111,lN]
  ·repeat first
    | apply T.seq
    | (apply aG;simp[hC])
    | (refine T.cond (b:=false) ?_ ?_;rfl;simp)
    | (refine T.cond (b:=true) ?_ ?_;rfl;simp)
    | (apply T.skip;simp)
    | apply T.block
   refine ct OQ Qi ?_;simp[hC];refine T.le (Le.trim [9,8,3,1,2] [0] 1 xr yA) ?_;simp;by_cases hf:fa=0
   rotate_left
   ·have O9:((fa:Int) != 0)=true:=by rw[bne_iff_ne];omega
    repeat first
     | apply T.seq
     | (apply aG;simp[hC,O9])
     | (refine T.cond (b:=false) ?_ ?_;(first | rfl | (simp[ev,assoc];done));simp)
     | (refine T.cond (b:=true) ?_ ?_;(first | rfl | (simp[ev,assoc,O9];done));simp)
     | (apply T.skip;simp)
     | apply T.block
    apply T.ret;apply aa.here;simp[Tryz.results111,hf]
   subst hf;by_cases hv:va=0
   rotate_left
   ·have Sd:(va == 0)=false:=by simp[hv]
    have Vg:(va != 0)=true:=by simp[hv]
    repeat first
     | apply T.seq
     | (apply aG;simp[hC,hv,Vg])
     | (refine T.cond (b:=false) ?_ ?_;(first | rfl | (simp[ev,assoc];done));simp)
     | (refine T.cond (b:=true) ?_ ?_;(first | rfl | (simp[ev,assoc,hv,Sd,Vg];done));simp)
     | (apply T.skip;simp)
     | apply T.block
    apply T.ret;apply aa.here;simp[Tryz.results111]
   subst hv
   repeat first
    | apply T.seq
    | (apply aG;simp[hC])
    | (refine T.cond (b:=false) ?_ ?_;rfl;simp)
    | (refine T.cond (b:=true) ?_ ?_;rfl;simp)
    | (apply T.skip;simp)
    | apply T.block
   refine ct Uw R0 ?_;simp[hC];refine T.le (Le.trim [10,9,8,3] [0] 1 xr yA) ?_;simp;by_cases hg:fb=0
   rotate_left
   ·have QN:((fb:Int) != 0)=true:=by rw[bne_iff_ne];omega
    repeat first
     | apply T.seq
     | (apply aG;simp[hC,QN])
     | (refine T.cond (b:=false) ?_ ?_;(first | rfl | (simp[ev,assoc];done));simp)
     | (refine T.cond (b:=true) ?_ ?_;(first | rfl | (simp[ev,assoc,QN];done));simp)
     | (apply T.skip;simp)
     | apply T.block
    apply T.ret;apply aa.here;simp[Tryz.results111,hg]
   subst hg
   repeat first
    | apply T.seq
    | (apply aG;simp[hC])
    | (refine T.cond (b:=false) ?_ ?_;rfl;simp)
    | (refine T.cond (b:=true) ?_ ?_;rfl;simp)
    | (apply T.skip;simp)
    | apply T.block
   refine ct rfl (qn _) ?_;simp[hC];apply T.ret;apply aa.here;simp[Tryz.results111,lN]
end Go.Proofs.YtlkmbdfhdknlgaaGreat
namespace Go.aV
open Go.Can List
theorem ir (m:Mx):(cI m).length=3:=rfl
theorem sW (m:Mx):∀ (l:List Mx) (s:Nat),bx (l++[m]) s=bx l s++replicate (max m.size 1) (s+l.length)
 | [],s=>by simp[bx]
 | a::r,s=>by
  rw[cons_append,bx,bx,sW m r (s+1),append_assoc,length_cons];congr 3;omega
def ua (ms:List Mx):Prop:=ms.length<=1000/\∀ m∈ms,m.size<=1000
theorem gP:∀ (l:List Mx) (s:Nat),(∀ m∈l,m.size<=1000)->(bx l s).length<=1000*l.length
 | [],_,_=>by simp[bx]
 | a::r,s,h=>by
  have h1:=gP r (s+1) λ m hm=>h m (mem_cons_of_mem _ hm);have h2:=h a mem_cons_self;rw[bx,length_append,length_replicate,length_cons];omega
end Go.aV
namespace Go.Proofs.YtlkmbdfhdknlgaaGreat
open Go.Can Go.aV List Tryz
def J65 (ms:List Mx)(m:Nat)(s:St):Prop:=∃ i:Nat,m=ms.length-i/\i<=ms.length/\
 s=⟨[(4,I i),(3,.bg 0 0 (bx (ms.take i) 0).length),(0,.au (ms.flatMap cI) ms.length)],[(0,iq (bx (ms.take i) 0))],1⟩
def J65b (ms:List Mx)(i:Nat)(n:Nat)(o:List Nat)(m:Nat)(s:St):Prop:=∃ k:Nat,m=n-k/\k<=n/\
 s=⟨[(5,I k),(4,I i),(3,.bg 0 0 (o++replicate k i).length),(0,.au (ms.flatMap cI) ms.length)],[(0,iq (o++replicate k i))],1⟩
theorem sb (ms:List Mx)(hm:ua ms):af prog 118 [.au (ms.flatMap cI) ms.length] (aN (a6 ms)):=by
 have tms:=dm ms;refine af.aC ag Tryz.func118 rfl GK (by simp[Tryz.ntmps118]) (bT _) λ C hC OR=>?_;rw[Tryz.ntmps118] at hC;apply aq;simp[hC];apply aq;simp[hC];apply aT;simp[hC];apply T.block;refine T.aQ (J65 ms) (n:=ms.length) ?_ ?_
 ·refine aa.le (Le.own 3 3 1 rfl) ?_;simp[St.own];refine aa.trim [4,3,0] [0] 1 RY yA ⟨0,by omega,by omega,?_⟩;simp[bx,iq]
 ·rintro n s ⟨i,rfl,hi,rfl⟩;have Sf:=gP (ms.take i) 0 λ m h=>hm.2 m (mem_of_mem_take h);have SY:=hm.1;have O5:(ms.take i).length<=1000:=by simp;omega
  by_cases OP:i<ms.length
  ·obtain⟨m,SW⟩:∃ m,ms[i]? = some m:=⟨_,getElem?_eq_getElem OP⟩;have Qm:=hm.2 m (mem_of_getElem? SW);have hdi:=cq (f:=cI) (n:=3) ir SW 2 yA;have wi:=cw ((i:Int)+1) yA yA;have Pk:bx (ms.take (i+1)) 0=bx (ms.take i) 0++replicate (max m.size 1) i:=by
    rw[take_add_one,SW,Option.toList_some,sW];congr 2;simp;omega
   generalize bx (ms.take i) 0=o at Sf Pk;apply aT;simp[hC,OP];refine iI ?_;simp;apply eZ;apply aq;simp[hC];apply T.block;refine T.aQ (J65b ms i (max m.size 1) o) (n:=max m.size 1) ?_ ?_
   ·refine aa.trim [5,4,3,0] [0] 1 (by simp[-all_eq_true,-all_flatMap,iq,aj (aM o)]) yA ⟨0,by omega,by omega,?_⟩;simp[iq]
   ·rintro n s ⟨k,rfl,hk,rfl⟩;have tO:=aM (o++replicate k i);have hOl:(o++replicate k i).length<=1001000:=by simp;omega
    have QP:o++replicate (k+1) i=o++replicate k i++[i]:=by rw[replicate_succ',append_assoc]
    by_cases Pa:k<max m.size 1
    ·have wk:=cw ((k:Int)+1) yA yA;have Up:(k:Int)<if m.size=0 then 1 else (m.size:Int):=by split<;>omega
     have bd:(o.length+k+1)*8<=140737488355328:=by omega
     have tO1:trees ((o++replicate k i++[i]).map λ n:Nat=>I n)=true:=aM _;apply aT;simp[hC,OP,hdi,cI];refine T.cond (b:=true) (by simp[ev,assoc,Up]) (T.skip ?_);simp;apply eZ;simp only[iq];apply aG;simp[hC,bd,aS];apply aG;simp[hC,wk];refine⟨max m.size 1-(k+1),by omega,?_⟩;have tO2:trees (o.map (λ n:Nat=>I n)++(replicate k (I i)++[I i]))=true:=by
      have:=tO1;simp only[map_append,map_replicate,map_cons,map_nil,append_assoc] at this;exact this
     have rO2:=λ ρ=>ae ρ _ tO2;refine aa.le (Le.norm [5,4,3,0] [(2,0)] 0 1 Px Pw (by simp[cO,nu,lF,tree,assoc,-all_eq_true,-all_flatMap,aw tO2]) yA) ?_;simp[cz,bf,cQ,dW,assoc,rO2];refine aa.here ⟨k+1,rfl,by omega,?_⟩;rw[QP];simp[iq,Nat.add_assoc]
    ·have TO:k=max m.size 1:=by omega
     have Up:¬ (k:Int)<if m.size=0 then 1 else (m.size:Int):=by split<;>omega
     rw[<- TO] at Pk;generalize o++replicate k i=L at Pk tO hOl |-;apply aT;simp[hC,OP,hdi,cI];refine T.cond (b:=false) (by simp[ev,assoc,Up]) ?_;simp;apply T.exit;simp;apply aG;simp[hC,wi];refine⟨ms.length-(i+1),by omega,aa.trim [4,3,0] [0] 1 (by simp[-all_eq_true,-all_flatMap,-all_map,iq,aj tO]) yA ⟨i+1,rfl,by omega,?_⟩⟩;rw[Pk];simp
  ·have OV:i=ms.length:=by omega
   subst OV;rw[take_length];have tO:=aM (bx ms 0);have tkO:take (bx ms 0).length ((bx ms 0).map λ n:Nat=>I n)=(bx ms 0).map λ n:Nat=>I n:=take_of_length_le xr;apply aT;simp[hC];refine bh ?_;simp;apply T.exit;simp;apply aq;simp[hC];apply T.ret;refine aa.le (Le.trim [2] [0] 1 (by simp[-all_eq_true,-all_flatMap,iq,aj tO]) yA) ?_;simp;simp only[iq];refine aa.le (Le.cF (o:=0) rfl tO) ?_;simp[tkO];apply aa.here;simp[aN,a6]
def J138 (o:List Nat)(m:Nat)(n:Nat)(s:St):Prop:=∃ i:Nat,n=o.length-i/\i<=o.length/\kB o m 0=kB (o.drop i) m i/\
 s=⟨[(6,I i),(5,aN o),(1,I m)],[],0⟩
theorem KP (ms:List Mx)(hm:ua ms)(m:Nat):af prog 153 [.au (ms.flatMap cI) ms.length,I m] (I (tv ms m)):=by
 have tms:=dm ms;have TK:=sb ms hm;have Sf:=gP ms 0 hm.2;have Q3:=hm.1;have OQ:trees [.au (ms.flatMap cI) ms.length]=true:=by simp only[trees,tree,Bool.and_self]
 unfold tv;generalize hO:a6 ms=o at TK;have hol2:o.length<=1000000:=by rw[<- hO,a6];omega
 refine af.aC ag Tryz.func153 rfl GK (by simp[Tryz.ntmps153]) rfl λ C hC OR=>?_;rw[Tryz.ntmps153] at hC;apply aq;simp[hC];apply aq;simp[hC];refine ct OQ TK ?_;simp[hC];apply aT;simp[hC];apply T.block;refine T.aQ (J138 o m) (n:=o.length) ?_ ?_
 ·refine aa.trim [6,5,1] [] 0 (by simp[bq 0 _ (bT o)]) yA ⟨0,by omega,by omega,rfl,?_⟩;simp
 ·rintro n s ⟨i,rfl,hi,hb,rfl⟩;simp only[aN];by_cases OP:i<o.length
  ·obtain⟨a,ha⟩:∃ a,o[i]? = some a:=⟨_,getElem?_eq_getElem OP⟩;have SG:=kj ha;have wi:=cw ((i:Int)+1) yA yA;rw[drop_eq_getElem_cons OP,(List.getElem?_eq_some_iff.1 ha).2,kB] at hb;apply aT;simp[hC,OP];refine iI ?_;simp;apply eZ;apply aq;simp[hC,OP,SG];by_cases Tc:a=m
   ·rw[if_pos Tc] at hb;subst Tc;refine T.cond (b:=true) PC ?_;simp;apply aq;simp[hC];apply T.ret;apply aa.here;simp[Tryz.results153,hb]
   ·rw[if_neg Tc] at hb;refine T.cond (b:=false) (by simp[ev,assoc,Tc]) (T.skip ?_);simp;apply aG;simp[hC,wi];refine⟨o.length-(i+1),by omega,aa.trim [6,5,1] [] 0 xr yA ⟨i+1,rfl,by omega,hb,?_⟩⟩;simp[aN]
  ·have OV:i=o.length:=by omega
   subst OV;rw[drop_length,kB] at hb;apply aT;simp[hC];refine bh ?_;simp;apply T.exit;simp;apply aq;simp[hC];apply T.ret;apply aa.here;simp[Tryz.results153,hb]
theorem vu (ms:List Mx)(hm:ua ms)(e:Int):af prog 119 [.au (ms.flatMap cI) ms.length,I e] (I (e9 ms e)):=by
 have TK:=sb ms hm;have OQ:trees [.au (ms.flatMap cI) ms.length]=true:=by simp only[trees,tree,Bool.and_self]
 unfold e9;generalize a6 ms=o at TK;refine af.aC ag Tryz.func119 rfl GK (by simp[Tryz.ntmps119]) rfl λ C hC OR=>?_;rw[Tryz.ntmps119] at hC;apply aq;simp[hC];apply aq;simp[hC];refine ct OQ TK ?_;simp[hC,aN];by_cases h0:e<0
 ·apply aT;simp[hC,h0];refine T.cond (b:=true) PC ?_;simp;apply aq;simp[hC];apply T.ret;apply aa.here;simp[Tryz.results119]
 ·obtain⟨k,rfl⟩:∃ k:Nat,e=k:=⟨e.toNat,by omega⟩;by_cases hk:k<o.length
  ·obtain⟨a,ha⟩:∃ a,o[k]? = some a:=⟨_,getElem?_eq_getElem hk⟩;have SG:=kj ha;have QE:¬ (o.length<=k):=by omega
   have O8:o[k]=a:=(List.getElem?_eq_some_iff.1 ha).2;apply aT;simp[hC,h0,QE];refine T.cond (b:=false) PC (T.skip ?_);simp;apply aq;simp[hC,hk,SG];apply T.ret;apply aa.here;simp[Tryz.results119,O8]
  ·have QE:o.length<=k:=by omega
   apply aT;simp[hC,h0,QE];refine T.cond (b:=true) PC ?_;simp;apply aq;simp[hC];apply T.ret;apply aa.here;simp[Tryz.results119]
end Go.Proofs.YtlkmbdfhdknlgaaGreat
