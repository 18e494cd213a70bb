/- Lemmas. -/
import Derived.Test.YtlkmbdfhdknlgaaGreatW23
import Derived.DeepKeys3
set_option maxHeartbeats 4000000
namespace Go.Proofs.YtlkmbdfhdknlgaaGreat
open Go.Can Go.aK List
theorem CK (l:List Int):gg (mN (D0 l)):=by
 have h:=OW l;refine h.unit (λ f hf=>?_) λ f hf=>?_
 .have h1:=E7 (mem_map_of_mem (f:=λ f:Fu=>bY f.body) hf);have h2:=h.wt;omega
 .obtain⟨k,hk,e⟩:=h.pn f hf;have h5:=congrArg length e;simp only[length_map,length_reverse,length_take,nP,length_cons,length_nil] at h5;omega
theorem MC (l:List Int)(hl:l.length<=9223372036854775807):ae Tryz.prog 7 [ints l] (.cF [zt (D0 l),cf (mN (D0 l)),ib (aw (mN (D0 l)))]):=by
 have hp:=EM l hl;have Z0:=KL (D0 l) (OW l);have SA:=zn (mN (D0 l)) (CK l);generalize mN (D0 l)=u at Z0 SA;generalize D0 l=p at hp Z0;generalize aw u=c at SA;have SH:=bm u;obtain⟨t1,t2,t3⟩:=iS p;have tp:trees (fp p)=true:=by simp only[fp,trees,t1,t2,t3];rfl
 have tc:trees (gE c)=true:=by simp only[gE,trees,tree,aE];rfl
 have SJ:tree (.cF [zt p,cf u,ib c])=true:=by simp only[tree,trees,zt,cf,ib,tp,SH,tc];rfl
 refine ae.aD af Tryz.func7 rfl Bw (by simp[Tryz.ntmps7]) SJ λ C hC M0=>?_;rw[Tryz.ntmps7] at hC;have ta1:trees [ints l]=true:=by simp only[trees,de,Bool.and_self]
 have ZM:trees [zt p]=true:=by simp only[trees,tree,zt,tp,Bool.and_self]
 have ZL:trees [cf u]=true:=by simp only[trees,tree,cf,SH,Bool.and_self]
 simp only[zt,fp,cf,dk,ib,gE] at hp Z0 SA ZM ZL |-;apply aq;simp[hC];apply aq;simp[hC];refine cS ta1 hp ?_;simp[hC];apply aq;simp[hC];refine cS ZM Z0 ?_;simp[hC];apply aq;simp[hC];refine cS ZL SA ?_;simp[hC];apply T.seq;refine T.rx af follows [0,1,2,3,4,5] [(1,3),(2,3),(2,4)] Bw ?_;simp[hC];apply T.ret;apply aa.here;simp[Tryz.results7]
end Go.Proofs.YtlkmbdfhdknlgaaGreat
namespace Go.aK
open Go.Can List
def Ay (l:List Is)(x:Is)(c:List In):List Int:=c.map λ i=>match kK x i with
 | none=>-1
 | some y=>(eC l y:Int)
theorem xR {l:List Is}{y:Is}(h:y∈l)(t:List Is):eC (l++t) y=eC l y:=by
 unfold eC;rw[findIdx_append,if_pos];exact findIdx_lt_length_of_exists ⟨y,h,by simp⟩
theorem Ba {l:List Is}{y:Is}(h:y∈l):l[eC l y]? = some y:=by
 have hl:=wx h;have h2:=findIdx_getElem (xs:=l) (p:=λ y'=>decide (y'=y)) (w:=hl);rw[getElem?_eq_getElem hl];exact congrArg some (of_decide_eq_true h2)
theorem Cc (x:Is)(t:List Is):∀ (c:List In) (l:List Is),(∀ i∈c,∀ y,kK x i=some y->y∈l)->Ay (l++t) x c=Ay l x c
 | [],_,_=>rfl
 | i::c,l,h=>by
  have ih:=Cc x t c l λ j hj=>h j (mem_cons_of_mem _ hj);unfold Ay at ih |-;rw[map_cons,map_cons,ih];congr 1
  cases hc:kK x i with
  | none=>rfl
  | some y=>
   simp only;rw[xR (h i mem_cons_self y hc)]
theorem qY (l:List Nat)(n x:Nat):x∈iR l n↔x∈l\/x=n:=by
 unfold iR;split
 .rename_i h;exact⟨.inl,λ h2=>h2.elim id λ e=>e ▸ h⟩
 .rw[mem_append,mem_cons];have:=take_append_drop (cR l n) l;constructor
  .rintro (h | h | h)
   .exact .inl (mem_of_mem_take h)
   .exact .inr h
   .exact .inl (mem_of_mem_drop h)
  .rintro (h | h)
   .rw[<- this,mem_append] at h;exact h.elim .inl λ h=>.inr (.inr h)
   .exact .inr (.inl h)
structure SI (x:Is)(c:List In)(l:List Is)(r:List Nat)(L:List Is)(row:List Int)(R:List Nat):Prop where
 pre:∃ t,L=l++t
 row:row=Ay L x c
 mem:∀ i∈c,∀ y,kK x i=some y->y∈L
 nd:l.Nodup->L.Nodup
 new:∀ k y,l.length<=k->L[k]? = some y->∃ i∈c,kK x i=some y
 root:∀ n,n∈R↔n∈r\/∃ i∈c,uJ i=true/\∃ y,kK x i=some y/\eC L y=n
theorem Et (x:Is):∀ (c:List In) (l:List Is) (r:List Nat),SI x c l r (iM x c l r).1 (iM x c l r).2.1 (iM x c l r).2.2
 | [],l,r=>by
  refine⟨⟨[],by simp[iM]⟩,rfl,(λ i hi=>by cases hi),id,λ k y h1 h2=>?_,λ n=>by simp[iM]⟩;simp only[iM] at h2;rw[getElem?_eq_none h1] at h2;cases h2
 | i::c,l,r=>by
  cases hc:kK x i with
  | none=>
   have ih:=Et x c l r;simp only[iM,hc];refine⟨ih.pre,?_,?_,ih.nd,?_,?_⟩
   .rw[ih.row];simp only[Ay,map_cons,hc]
   .intro j hj y hy;rcases mem_cons.1 hj with rfl | hj
    .rw[hc] at hy;cases hy
    .exact ih.mem j hj y hy
   .intro k y h1 h2;obtain⟨j,hj,hy⟩:=ih.new k y h1 h2;exact⟨j,mem_cons_of_mem _ hj,hy⟩
   .intro n;rw[ih.root];constructor
    .rintro (h | ⟨j,hj,h⟩)
     .exact .inl h
     .exact .inr ⟨j,mem_cons_of_mem _ hj,h⟩
    .rintro (h | ⟨j,hj,hg,y,hy,h⟩)
     .exact .inl h
     .rcases mem_cons.1 hj with rfl | hj
      .rw[hc] at hy;cases hy
      .exact .inr ⟨j,hj,hg,y,hy,h⟩
  | some z=>
   have ih:=Et x c (fy l z) (if uJ i=true then iR r (eC (fy l z) z) else r);simp only[iM,hc];generalize iM x c (fy l z) (if uJ i=true then iR r (eC (fy l z) z) else r)=S at ih |-;obtain⟨t,ht⟩:=ih.pre;obtain⟨t',ht'⟩:=DS l z;have hz:z∈fy l z:=DT l z;have hzi:eC S.1 z=eC (fy l z) z:=by rw[ht];exact xR hz t
   refine⟨⟨t'++t,by rw[ht,ht',append_assoc]⟩,?_,?_,λ h=>ih.nd (oA h),?_,?_⟩
   .rw[ih.row];simp only[Ay,map_cons,hc,hzi]
   .intro j hj y hy;rcases mem_cons.1 hj with rfl | hj
    .rw[hc] at hy;cases hy;rw[ht];exact mem_append_left _ hz
    .exact ih.mem j hj y hy
   .intro k y h1 h2;by_cases hk:(fy l z).length<=k
    .obtain⟨j,hj,hy⟩:=ih.new k y hk h2;exact⟨j,mem_cons_of_mem _ hj,hy⟩
    .rw[ht,getElem?_append_left yA] at h2;refine⟨i,mem_cons_self,?_⟩;unfold fy at h2 hk;split at h2
     .rw[getElem?_eq_none h1] at h2;cases h2
     .rw[getElem?_append_right h1] at h2;have:k-l.length=0:=by
       have:=(List.getElem?_eq_some_iff.1 h2).1;simp only[length_cons,length_nil] at this;omega
      rw[this] at h2;simp only[getElem?_cons_zero,Option.some.injEq] at h2;rw[hc,h2]
   .intro n;rw[ih.root];constructor
    .rintro (h | ⟨j,hj,h⟩)
     .by_cases hg:uJ i=true
      .rw[if_pos hg,qY] at h;rcases h with h | h
       .exact .inl h
       .exact .inr ⟨i,mem_cons_self,hg,z,hc,by rw[hzi,h]⟩
      .rw[if_neg hg] at h;exact .inl h
     .exact .inr ⟨j,mem_cons_of_mem _ hj,h⟩
    .rintro (h | ⟨j,hj,hg,y,hy,h⟩)
     .refine .inl ?_;split
      .rw[qY];exact .inl h
      .exact h
     .rcases mem_cons.1 hj with rfl | hj
      .refine .inl ?_;rw[if_pos hg,qY];rw[hc] at hy;cases hy;exact .inr (by rw[<- h,hzi])
      .exact .inr ⟨j,hj,hg,y,hy,h⟩
structure CI (u:Un)(i:Nat)(l:List Is)(cs:List (List Int))(r:List Nat):Prop where
 len:cs.length=i
 le:i<=l.length
 pos:0<l.length
 nd:l.Nodup
 mem:∀ j x,j<i->l[j]? = some x->∀ c∈ay u x,∀ y,kK x c=some y->y∈l
 row:∀ j x,j<i->l[j]? = some x->cs[j]? = some (Ay l x (ay u x))
 up:∀ k y,0<k->l[k]? = some y->∃ j x,j<i/\j<k/\l[j]? = some x/\∃ c∈ay u x,kK x c=some y
 root:∀ n,n∈r↔n=0\/∃ j x,j<i/\l[j]? = some x/\∃ c∈ay u x,uJ c=true/\∃ y,kK x c=some y/\eC l y=n
theorem CI.step {u:Un}{i:Nat}{l:List Is}{cs:List (List Int)}{r:List Nat}(h:CI u i l cs r){x:Is}(hx:l[i]? = some x) :
  CI u (i+1) (iM x (ay u x) l r).1 (cs++[(iM x (ay u x) l r).2.1]) (iM x (ay u x) l r).2.2:=by
 have s:=Et x (ay u x) l r;generalize iM x (ay u x) l r=S at s |-;obtain⟨t,ht⟩:=s.pre;have Jz:=(List.getElem?_eq_some_iff.1 hx).1;have Uc:∀ j,j<l.length->S.1[j]? = l[j]?:=λ j hj=>by rw[ht,getElem?_append_left hj]
 have hle:l.length<=S.1.length:=by rw[ht];simp
 have hsx:S.1[i]? = some x:=by rw[Uc i Jz,hx]
 have hlen:=h.len;have Ub:∀ j y,j<i->l[j]? = some y->∀ c∈ay u y,∀ z,kK y c=some z->eC S.1 z=eC l z:=λ j y hj hy c hc z hz=>by
  rw[ht];exact xR (h.mem j y hj hy c hc z hz) t
 refine⟨by simp[hlen],by omega,by have:=h.pos;omega,s.nd h.nd,?_,?_,?_,?_⟩
 .intro j y hj hy c hc z hz;by_cases e:j=i
  .subst e;rw[hsx] at hy;cases hy;exact s.mem c hc z hz
  .rw[Uc j yA] at hy;rw[ht];exact mem_append_left _ (h.mem j y yA hy c hc z hz)
 .intro j y hj hy;by_cases e:j=i
  .subst e;rw[hsx] at hy;cases hy;rw[getElem?_append_right yA,hlen,Nat.sub_self,s.row];rfl
  .rw[Uc j yA] at hy;rw[getElem?_append_left yA,h.row j y yA hy,ht,Cc];exact λ c hc z hz=>h.mem j y yA hy c hc z hz
 .intro k y hk hy;by_cases SO:k<l.length
  .rw[Uc k SO] at hy;obtain⟨j,z,h1,h2,h3,h4⟩:=h.up k y hk hy;exact⟨j,z,by omega,h2,by rw[Uc j yA];exact h3,h4⟩
  .obtain⟨c,hc,hy2⟩:=s.new k y yA hy;exact⟨i,x,by omega,by omega,hsx,c,hc,hy2⟩
 .intro n;rw[s.root,h.root];constructor
  .rintro ((h1 | ⟨j,y,h1,h2,c,h3,h4,z,h5,h6⟩) | ⟨c,hc,hg,y,hy,h1⟩)
   .exact .inl h1
   .exact .inr ⟨j,y,by omega,by rw[Uc j yA];exact h2,c,h3,h4,z,h5,by rw[Ub j y h1 h2 c h3 z h5];exact h6⟩
   .exact .inr ⟨i,x,by omega,hsx,c,hc,hg,y,hy,h1⟩
  .rintro (h1 | ⟨j,y,h1,h2,c,h3,h4,z,h5,h6⟩)
   .exact .inl (.inl h1)
   .by_cases e:j=i
    .subst e;rw[hsx] at h2;cases h2;exact .inr ⟨c,h3,h4,z,h5,h6⟩
    .rw[Uc j yA] at h2;exact .inl (.inr ⟨j,y,by omega,h2,c,h3,h4,z,h5,by rw[<- Ub j y yA h2 c h3 z h5];exact h6⟩)
theorem sw {u:Un}(hu:gg u){x:Is}(hx:ub u x):∀ (c:List In) (l:List Is) (r:List Nat),(∀ i∈c,i∈ay u x)->l.Nodup->(∀ y∈l,ub u y)->(iM x c l r).1.Nodup/\∀ y∈(iM x c l r).1,ub u y
 | [],_,_,_,h1,h2=>⟨h1,h2⟩
 | i::c,l,r,hc,h1,h2=>by
  simp only[iM];split
  .exact sw hu hx c l r (λ j hj=>hc j (mem_cons_of_mem _ hj)) h1 h2
  .rename_i y hy;exact sw hu hx c _ _ (λ j hj=>hc j (mem_cons_of_mem _ hj)) (oA h1) (FH h2 (Fy hu hx (hc i mem_cons_self) hy))
theorem G5 {u:Un}(hu:gg u):∀ (f i:Nat) (l:List Is) (cs:List (List Int)) (r:List Nat),i+f=100->(∀ y∈l,ub u y)->CI u i l cs r ->
  CI u (lz u f i l cs r).is.length (lz u f i l cs r).is (lz u f i l cs r).calls (lz u f i l cs r).roots
 | 0,i,l,cs,r,hf,hv,h=>by
  have:=jU hu h.nd hv;have:=h.le;omega
 | f+1,i,l,cs,r,hf,hv,h=>by
  simp only[lz];split
  .rename_i hn;have hle:l.length<=i:=by simpa using hn
   have hi:i=l.length:=by have:=h.le;omega
   subst hi;exact h
  .rename_i x hx;exact G5 hu f (i+1) _ _ _ yA (sw hu (hv x (mem_of_getElem? hx)) (ay u x) l r (λ _ h=>h) h.nd hv).2 (h.step hx)
theorem qh {u:Un}(hu:gg u):CI u (aw u).is.length (aw u).is (aw u).calls (aw u).roots:=by
 refine G5 hu 100 0 [⟨u.main,[]⟩] [] [0] rfl (λ x hx=>?_) ⟨rfl,by simp,by simp,by simp,(λ j x hj=>by omega),(λ j x hj=>by omega),λ k y hk hy=>?_,λ n=>by simp⟩
 .rw[mem_singleton.1 hx];have hp:=hu.np.1;obtain⟨q,hq⟩:∃ q,u.ps[0]? = some q:=⟨_,getElem?_eq_getElem yA⟩;exact⟨⟨q,by rw[hu.main];exact hq,by rw[(hu.p0 q hq).2];rfl⟩,λ l hl=>by cases hl⟩
 .obtain⟨k',rfl⟩:∃ k',k=k' + 1:=⟨k-1,by omega⟩;simp at hy
def wr (n:Int):Int:=IntKind.i64.wrap n
def vG (b:Bool):Int:=if b=true then 1 else 0
def HP (a b:Int):Int:=if b=-1 then wr (0-a) else wr (a.tdiv b)
def unZ (k:Nat)(a:Int):Int:=if k=0 then wr (0-a) else vG (a == 0)
def tw (k:Nat)(a b:Int):Int×Nat:=
 if k=0 then (wr (a*b),0)
 else if k=1 then (if b=0 then (0,1) else (HP a b,0))
 else if k=2 then (if b=0 then (0,1) else (wr (a-wr (HP a b*b)),0))
 else if k=3 then (wr (a+b),0)
 else if k=4 then (wr (a-b),0)
 else if k=5 then (vG (decide (a<b)),0)
 else if k=6 then (vG (decide (a<=b)),0)
 else if k=7 then (vG (decide (a > b)),0)
 else if k=8 then (vG (decide (a≥b)),0)
 else if k=9 then (vG (a == b),0)
 else if k=10 then (vG (a != b),0)
 else (vG (b != 0),0)
def bO (gs ls:List Int):Ex->Int×Nat
 | .num n=>(n,0)
 | .loc i=>(ls.getD i 0,0)
 | .jE i=>(gs.getD i 0,0)
 | .un k e=>if (bO gs ls e).2=0 then (unZ k (bO gs ls e).1,0) else (0,(bO gs ls e).2)
 | .bin k a b=>if (bO gs ls a).2=0 then
   (if k=11/\(bO gs ls a).1=0 then (0,0) else if k=12/\(bO gs ls a).1≠0 then (1,0)
    else if (bO gs ls b).2=0 then tw k (bO gs ls a).1 (bO gs ls b).1 else (0,(bO gs ls b).2))
   else (0,(bO gs ls a).2)
 | .zero=>(0,0)
 | .nm _=>(0,0)
def ir (ms:List Mx)(gs ls:List Int)(p:Pl):Int×Nat:=match p.at_ with
 | none=>(0,0)
 | some e=>if (bO gs ls e).2=0 then
   (match ms[p.index]? with
    | some m=>if (bO gs ls e).1<0\/(m.size:Int)<=(bO gs ls e).1 then (0,2) else ((bO gs ls e).1,0)
    | none=>(0,0))
   else (0,(bO gs ls e).2)
def cG:List Mx->Nat->List Nat
 | [],_=>[]
 | m::r,i=>replicate (max m.size 1) i++cG r (i+1)
def bT (ms:List Mx):List Nat:=cG ms 0
def pH:List Nat->Nat->Nat->Int
 | [],_,_=>-1
 | a::r,m,i=>if a=m then i else pH r m (i+1)
def DJ (ms:List Mx)(m:Nat):Int:=pH (bT ms) m 0
def lj (ms:List Mx)(e:Int):Int:=if e<0 then -1 else match (bT ms)[e.toNat]? with
 | some m=>m
 | none=>-1
structure Ho where
 o:Nat
 d:Nat
def dN (h:Ho):List CV:=[I h.o,I h.d]
structure Fr where
 proc:Nat
 pc:Nat
 aV:List Int
 eD:List Nat
def ed (f:Fr):List CV:=[I f.proc,I f.pc,ints f.aV,aA f.eD]
structure Sy where
 gs:List Int
 tb:List Ho
 ts:List (List Fr)
 fault:Nat
def ez (l:List Fr):List CV:=[.az (l.flatMap ed) l.length]
def lJ (s:Sy):List CV:=[ints s.gs,.az (s.tb.flatMap dN) s.tb.length,.az (s.ts.flatMap ez) s.ts.length,I s.fault]
def cU (s:Sy):CV:=.agg (lJ s)
theorem dh (h:Ho):(dN h).length=2:=rfl
theorem en (f:Fr):(ed f).length=4:=rfl
theorem nJ (l:List Fr):(ez l).length=1:=rfl
theorem cm (h:Ho):trees (dN h)=true:=rfl
theorem dc (f:Fr):trees (ed f)=true:=rfl
theorem b9 (l:List Fr):trees (ez l)=true:=rfl
def xW (ms:List Mx)(tb:List Ho)(e th:Nat):Bool:=match (bT ms)[e]?,tb[e]? with
 | some m,some h=>decide (h.o=0) || (decide (h.o=th+1) && (match ms[m]? with
  | some x=>x.re
  | none=>false))
 | _,_=>false
def fM (ms:List Mx)(tb:List Ho)(e th:Nat):List Ho×Bool:=
 if xW ms tb e th=true then (tb.set e ⟨th+1,(match tb[e]? with
  | some h=>h.d
  | none=>0)+1⟩,true) else (tb,false)
def dt (ms:List Mx)(tb:List Ho)(e th:Nat):List Ho×Bool:=match (bT ms)[e]?,tb[e]? with
 | some _,some h=>if h.o=th+1 then (tb.set e (if h.d=1 then ⟨0,0⟩ else ⟨th+1,h.d-1⟩),true) else (tb,false)
 | _,_=>(tb,false)
def fe (m th:Nat):List Nat->List Ho->Nat
 | o::os,h::hs=>(if o=m/\h.o=th+1 then h.d else 0)+fe m th os hs
 | _,_=>0
def ck (ms:List Mx)(tb:List Ho)(m th:Nat):Nat:=fe m th (bT ms) tb
def eX (s:Sy)(t:Int):Option Fr:=if t<0\/s.fault≠0 then none else match s.ts[t.toNat]? with
 | some l=>l.getLast?
 | none=>none
def j8 (u:Un)(s:Sy)(t:Int):Option In:=match eX s t with
 | some f=>match u.ps[f.proc]? with
  | some q=>q.code[f.pc]?
  | none=>none
 | none=>none
end Go.aK
namespace Go.Proofs.YtlkmbdfhdknlgaaGreat
open Go.Can Go.aK List Tryz
theorem uB (b:Bool):ae prog 197 [.bool b] (I (vG b)):=by
 refine ae.aD af Tryz.func197 rfl Bw (by simp[Tryz.ntmps197]) rfl λ C hC M0=>?_;rw[Tryz.ntmps197] at hC;cases b
 all_goals
  repeat first
   | apply T.seq
   | (apply aM;simp[hC])
   | (refine bg ?_;simp)
   | (refine du ?_;simp)
   | (apply T.skip;simp)
   | apply T.block
  apply T.ret;apply aa.here;simp[Tryz.results197,vG]
theorem NV {l:List Int}{i:Nat}{n:Int}(h:l[i]? = some n):(l.map dg).drop i=dg n::(l.drop (i+1)).map dg:=by
 obtain⟨h1,h2⟩:=List.getElem?_eq_some_iff.1 h;rw[<- map_drop,drop_eq_getElem_cons h1,h2,map_cons]
theorem vm {l:List Int}{i:Nat}{v:Int}(hv:l[i]? = some v):ae prog 196 [ints l,I i] (I v):=by
 have h:=(List.getElem?_eq_some_iff.1 hv).1;have hd:=NV hv;have h0:¬ ((i:Int)<0):=by omega
 have h1:¬ (l.length<=i):=by omega
 refine ae.aD af Tryz.func196 rfl Bw (by simp[Tryz.ntmps196]) rfl λ C hC M0=>?_;rw[Tryz.ntmps196] at hC;simp only[ints]
 repeat first
  | apply T.seq
  | (apply aM;simp[hC,h0,h1,h,hd])
  | (refine T.cond (b:=false) ?_ ?_;(first | rfl | (simp[ev,assoc,h0,h1,h,hd];done));simp)
  | (refine T.cond (b:=true) ?_ ?_;(first | rfl | (simp[ev,assoc,h0,h1,h,hd];done));simp)
  | (apply T.skip;simp)
  | apply T.block
 apply T.ret;apply aa.here;simp[Tryz.results196]
theorem Ae (n:Int):wr n=(n+9223372036854775808) % 18446744073709551616-9223372036854775808:=by
 simp only[wr];rw[show IntKind.i64.wrap n=(n+9223372036854775808) % 18446744073709551616-9223372036854775808 from by simp[IntKind.wrap,IntKind.bits,IntKind.signed];omega]
theorem PL (a x y:Int)(h:x % 18446744073709551616=y % 18446744073709551616):wr (a-x)=wr (a-y):=by
 rw[Ae,Ae];omega
theorem OJ (n:Int):wr n % 18446744073709551616=n % 18446744073709551616:=by
 rw[Ae];omega
theorem AG (a b:Int):HP a b=wr (a.tdiv b):=by
 unfold HP;split
 .rename_i h;subst h;rw[Int.tdiv_neg,Int.tdiv_one,Int.zero_sub]
 .rfl
def oR (n:Int):Prop:=-9223372036854775808<=n/\n<=9223372036854775807
theorem EE (n:Int):oR (wr n):=by
 rw[oR,Ae];omega
theorem Qd {a:Int}(b:Int)(ha:oR a):IntKind.i64.wrap (a-wr (HP a b*b))=a.tmod b:=by
 have h1:IntKind.i64.wrap (a-wr (HP a b*b))=wr (a.tmod b):=by
  show wr _=_;rw[AG,PL a _ (a.tdiv b*b) (by rw[OJ,Int.mul_emod,OJ,<- Int.mul_emod])];congr 1;have:=Int.tmod_add_mul_tdiv a b;rw[Int.mul_comm];omega
 rw[h1];have h2:(a.tmod b).natAbs<=a.natAbs:=by
  rw[Int.natAbs_tmod];exact Nat.mod_le _ _
 exact cr _ (by unfold oR at ha;omega) (by
  unfold oR at ha;by_cases h:0<=a
  .omega
  .have:=Int.tmod_nonneg b (by omega:0<=-a);rw[Int.neg_tmod] at this;omega)
theorem HX (k:Nat)(hk:k<11)(a b:Int)(ha:oR a):ae prog 198 [I ((5+k:Nat):Int),I a,I b] (.cF [I (tw k a b).1,I (tw k a b).2]):=by
 have hB:=uB;refine ae.aD af Tryz.func198 rfl Bw (by simp[Tryz.ntmps198]) rfl λ C hC M0=>?_;rw[Tryz.ntmps198] at hC;rcases (show (k=0\/k=3\/k=4)\/(k=5\/k=6\/k=7\/k=8\/k=9\/k=10)\/k=1\/k=2 by omega) with h | h | rfl | rfl
 .rcases h with rfl | rfl | rfl
  all_goals
   repeat first
    | apply T.seq
    | (apply aM;simp[hC])
    | (refine bg ?_;simp)
    | (refine du ?_;simp)
    | (apply T.skip;simp)
    | apply T.block
   apply T.ret;apply aa.here;simp[Tryz.results198,tw,wr]
 .rcases h with rfl | rfl | rfl | rfl | rfl | rfl
  all_goals
   repeat first
    | apply T.seq
    | (apply aM;simp[hC])
    | (refine bg ?_;simp)
    | (refine du ?_;simp)
    | (apply T.skip;simp)
    | apply T.block
   refine cS rfl (hB _) ?_;simp[hC];apply T.ret;apply aa.here;simp[Tryz.results198,tw]
 .by_cases hb:b=0
  .subst hb
   repeat first
    | apply T.seq
    | (apply aM;simp[hC])
    | (refine bg ?_;simp)
    | (refine du ?_;simp)
    | (apply T.skip;simp)
    | apply T.block
   apply T.ret;apply aa.here;simp[Tryz.results198,tw]
  .repeat first
    | apply T.seq
    | (apply aM;simp[hC])
    | (refine T.cond (b:=false) ?_ ?_;(first | rfl | (simp[ev,assoc,hb];done));simp)
    | (refine T.cond (b:=true) ?_ ?_;(first | rfl | (simp[ev,assoc,hb];done));simp)
    | (apply T.skip;simp)
    | apply T.block
   refine T.cond (b:=false) (by simp[ev,assoc,hb]) (T.skip ?_);simp
   repeat first
    | apply T.seq
    | (apply aM;simp[hC,hb])
    | (refine T.cond (b:=false) ?_ ?_;(first | rfl | (simp[ev,assoc];done));simp)
    | (refine T.cond (b:=true) ?_ ?_;(first | rfl | (simp[ev,assoc,hb];done));simp)
    | (apply T.skip;simp)
    | apply T.block
   apply T.ret;apply aa.here;simp[Tryz.results198,tw,hb,AG,wr]
 .by_cases hb:b=0
  .subst hb
   repeat first
    | apply T.seq
    | (apply aM;simp[hC])
    | (refine bg ?_;simp)
    | (refine du ?_;simp)
    | (apply T.skip;simp)
    | apply T.block
   apply T.ret;apply aa.here;simp[Tryz.results198,tw]
  .have hr:=Qd b ha
   repeat first
    | apply T.seq
    | (apply aM;simp[hC])
    | (refine T.cond (b:=false) ?_ ?_;(first | rfl | (simp[ev,assoc,hb];done));simp)
    | (refine T.cond (b:=true) ?_ ?_;(first | rfl | (simp[ev,assoc,hb];done));simp)
    | (apply T.skip;simp)
    | apply T.block
   refine T.cond (b:=false) (by simp[ev,assoc,hb]) (T.skip ?_);simp
   repeat first
    | apply T.seq
    | (apply aM;simp[hC,hb])
    | (refine T.cond (b:=false) ?_ ?_;(first | rfl | (simp[ev,assoc,hb];done));simp)
    | (refine T.cond (b:=true) ?_ ?_;(first | rfl | (simp[ev,assoc,hb];done));simp)
    | (apply T.skip;simp)
    | apply T.block
   apply T.ret;apply aa.here;simp only[wr] at hr;simp[Tryz.results198,tw,hb,hr,wr]
def BD (gs ls:List Int):List CV:=[ints gs,ints ls]
theorem mO (gs ls:List Int):trees (BD gs ls)=true:=by simp only[BD,ints,trees,tree,Bool.and_self]
theorem pd (gs ls:List Int)(e:Ex)(a b:Int)(h1:e.args.length≠2->ae prog 171 [.agg (BD gs ls),.agg (bf e)] (.cF [I a,I b]))(h2:e.args.length=2->ae prog 172 [.agg (BD gs ls),.agg (bf e)] (.cF [I a,I b])):ae prog 136 [.agg (BD gs ls),.agg (bf e)] (.cF [I a,I b]):=by
 have tt:trees [.agg (BD gs ls),.agg (bf e)]=true:=by simp only[trees,tree,mO,aO,Bool.and_self]
 refine ae.aD af Tryz.func136 rfl Bw (by simp[Tryz.ntmps136]) rfl λ C hC M0=>?_;rw[Tryz.ntmps136] at hC;rw[bZ e] at h1 h2 tt |-;generalize e.args.flatMap bf=X at *;simp only[BD,ints] at h1 h2 tt |-;by_cases h:e.args.length=2
 .have hh:=h2 h;rw[h] at hh tt |-
  repeat first
   | apply T.seq
   | (apply aM;simp[hC])
   | (refine bg ?_;simp)
   | (refine du ?_;simp)
   | (apply T.skip;simp)
   | apply T.block
  refine cS tt hh ?_;simp[hC];apply T.ret;apply aa.here;simp[Tryz.results136]
 .have hh:=h1 h;have h3:((e.args.length:Int) == 2)=false:=by rw[beq_eq_false_iff_ne];omega
  repeat first
   | apply T.seq
   | (apply aM;simp[hC,h3])
   | (refine T.cond (b:=false) ?_ ?_;(first | rfl | (simp[ev,assoc,h3];done));simp)
   | (refine T.cond (b:=true) ?_ ?_;(first | rfl | (simp[ev,assoc,h3];done));simp)
   | (apply T.skip;simp)
   | apply T.block
  refine cS tt hh ?_;simp[hC];apply T.ret;apply aa.here;simp[Tryz.results136]
theorem F9 (b:Bool):oR (vG b):=by
 cases b<;>simp[vG,oR]
theorem uO {gs ls:List Int}(hg:∀ n∈gs,oR n)(hl:∀ n∈ls,oR n){e:Ex}(h:vF gs.length ls.length e):oR (bO gs ls e).1:=by
 have h0:oR 0:=by simp[oR]
 cases e with
 | num n=>
  have h:n<4611686018427387904:=h;simp only[bO,oR];omega
 | loc i=>
  simp only[bO,getD_eq_getElem?_getD,getElem?_eq_getElem (h:i<ls.length),Option.getD_some];exact hl _ (getElem_mem _)
 | jE i=>
  simp only[bO,getD_eq_getElem?_getD,getElem?_eq_getElem (h:i<gs.length),Option.getD_some];exact hg _ (getElem_mem _)
 | un k e=>
  simp only[bO,unZ];split
  .split
   .exact EE _
   .exact F9 _
  .exact h0
 | bin k a b=>
  have hb:∀ x y,oR (tw k x y).1:=λ x y=>by
   unfold tw
   repeat' split
   all_goals first | exact EE _ | exact F9 _ | exact h0 | (rw[AG];exact EE _)
  simp only[bO]
  repeat' split
  all_goals first | exact hb _ _ | exact h0 | simp[oR]
 | _=>exact h.elim
set_option maxRecDepth 100000 in
theorem sD (gs ls:List Int)(hg:∀ n∈gs,oR n)(hl:∀ n∈ls,oR n):∀ (e:Ex),vF gs.length ls.length e->ae prog 136 [.agg (BD gs ls),.agg (bf e)] (.cF [I (bO gs ls e).1,I (bO gs ls e).2])
 | .zero,h=>h.elim
 | .nm _,h=>h.elim
 | .num n,_=>pd _ _ _ _ _ (λ _=>by
  refine ae.aD af Tryz.func171 rfl Bw (by simp[Tryz.ntmps171]) rfl λ C hC M0=>?_;rw[Tryz.ntmps171] at hC;simp only[bf,BD,ints]
  repeat first
   | apply T.seq
   | (apply aM;simp[hC])
   | (refine bg ?_;simp)
   | (refine du ?_;simp)
   | (apply T.skip;simp)
   | apply T.block
  apply T.ret;apply aa.here;simp[Tryz.results171,bO]) λ h=>by cases h
 | .loc i,h=>pd _ _ _ _ _ (λ _=>by
  obtain⟨v,hv⟩:∃ v,ls[i]? = some v:=⟨_,getElem?_eq_getElem (h:i<ls.length)⟩;have he:=vm hv;have te:trees [ints ls,I i]=true:=by simp only[ints,trees,tree,Bool.and_self]
  refine ae.aD af Tryz.func171 rfl Bw (by simp[Tryz.ntmps171]) rfl λ C hC M0=>?_;rw[Tryz.ntmps171] at hC;simp only[bf,BD,ints] at he te |-
  repeat first
   | apply T.seq
   | (apply aM;simp[hC])
   | (refine bg ?_;simp)
   | (refine du ?_;simp)
   | (apply T.skip;simp)
   | apply T.block
  refine cS te he ?_;simp[hC];apply T.ret;apply aa.here;simp[Tryz.results171,bO,getD_eq_getElem?_getD,hv]) λ h=>by cases h
 | .jE i,h=>pd _ _ _ _ _ (λ _=>by
  obtain⟨v,hv⟩:∃ v,gs[i]? = some v:=⟨_,getElem?_eq_getElem (h:i<gs.length)⟩;have he:=vm hv;have te:trees [ints gs,I i]=true:=by simp only[ints,trees,tree,Bool.and_self]
  refine ae.aD af Tryz.func171 rfl Bw (by simp[Tryz.ntmps171]) rfl λ C hC M0=>?_;rw[Tryz.ntmps171] at hC;simp only[bf,BD,ints] at he te |-
  repeat first
   | apply T.seq
   | (apply aM;simp[hC])
   | (refine bg ?_;simp)
   | (refine du ?_;simp)
   | (apply T.skip;simp)
   | apply T.block
  refine cS te he ?_;simp[hC];apply T.ret;apply aa.here;simp[Tryz.results171,bO,getD_eq_getElem?_getD,hv]) λ h=>by cases h
 | .un k e,h=>by
  have Xh:=sD gs ls hg hl e h.2;have hk:=h.1;refine pd _ _ _ _ _ (λ _=>?_) λ h=>by cases h
  have hA:bO gs ls (.un k e)=if (bO gs ls e).2=0 then (unZ k (bO gs ls e).1,0) else (0,(bO gs ls e).2):=rfl
  rw[hA];generalize bO gs ls e=A at Xh;obtain⟨va,fa⟩:=A;have tt:trees [.agg (BD gs ls),.agg (bf e)]=true:=by simp only[trees,tree,mO,aO,Bool.and_self]
  simp only[bf];rw[bZ e] at Xh tt |-;generalize e.op=e1 at Xh tt |-;generalize e.n=e2 at Xh tt |-;generalize e.name=e3 at Xh tt |-;generalize e.args.flatMap bf=e4 at Xh tt |-;generalize e.args.length=e5 at Xh tt |-;simp only[BD,ints] at Xh tt |-;have SJ:=uB (va == 0);refine ae.aD af Tryz.func171 rfl Bw (by simp[Tryz.ntmps171]) rfl λ C hC M0=>?_;rw[Tryz.ntmps171] at hC;obtain rfl | rfl:k=0\/k=1:=by omega
  all_goals
   repeat first
    | apply T.seq
    | (apply aM;simp[hC])
    | (refine bg ?_;simp)
    | (refine du ?_;simp)
    | (apply T.skip;simp)
    | apply T.block
   refine T.rx af follows [0,1,2,3,4,5,6,7,8,9,10] [] Bw ?_;simp[hC];refine RX.call rfl xr rfl rfl rfl tt Xh ?_;simp;by_cases hf:fa=0
   .subst hf
    repeat first
     | apply T.seq
     | (apply aM;simp[hC])
     | (refine bg ?_;simp)
     | (refine du ?_;simp)
     | (apply T.skip;simp)
     | apply T.block
    first
     | (apply T.ret;apply aa.here;simp[Tryz.results171,unZ,wr])
     | (refine cS rfl SJ ?_;simp[hC];apply T.ret;apply aa.here;simp[Tryz.results171,unZ])
   .have Tm:((fa:Int) != 0)=true:=by rw[bne_iff_ne];omega
    repeat first
     | apply T.seq
     | (apply aM;simp[hC,Tm])
     | (refine T.cond (b:=false) ?_ ?_;(first | rfl | (simp[ev,assoc];done));simp)
     | (refine T.cond (b:=true) ?_ ?_;(first | rfl | (simp[ev,assoc,Tm];done));simp)
     | (apply T.skip;simp)
     | apply T.block
    apply T.ret;apply aa.here;simp[Tryz.results171,hf]
 | .bin k a b,h=>by
  have Xh:=sD gs ls hg hl a h.2.1;have ihb:=sD gs ls hg hl b h.2.2;have hk:=h.1;have hra:=uO hg hl h.2.1;refine pd _ _ _ _ _ (λ h=>absurd rfl h) λ _=>?_;have hA:bO gs ls (.bin k a b)=if (bO gs ls a).2=0 then
   (if k=11/\(bO gs ls a).1=0 then (0,0) else if k=12/\(bO gs ls a).1≠0 then (1,0)
    else if (bO gs ls b).2=0 then tw k (bO gs ls a).1 (bO gs ls b).1 else (0,(bO gs ls b).2))
   else (0,(bO gs ls a).2):=rfl
  rw[hA];generalize bO gs ls a=A at Xh hra;generalize bO gs ls b=B at ihb;obtain⟨va,fa⟩:=A;obtain⟨vb,fb⟩:=B;have ta:trees [.agg (BD gs ls),.agg (bf a)]=true:=by simp only[trees,tree,mO,aO,Bool.and_self]
  have tb:trees [.agg (BD gs ls),.agg (bf b)]=true:=by simp only[trees,tree,mO,aO,Bool.and_self]
  simp only[bf];rw[bZ a] at Xh ta |-;rw[bZ b] at ihb tb |-;generalize a.op=a1 at *;generalize a.n=a2 at *;generalize a.name=a3 at *;generalize a.args.flatMap bf=a4 at *;generalize a.args.length=a5 at *;generalize b.op=b1 at *;generalize b.n=b2 at *;generalize b.name=b3 at *;generalize b.args.flatMap bf=b4 at *;generalize b.args.length=b5 at *;simp only[BD,ints] at Xh ihb ta tb |-;have SJ:=uB (vb != 0);refine ae.aD af Tryz.func172 rfl Bw (by simp[Tryz.ntmps172]) rfl λ C hC M0=>?_;rw[Tryz.ntmps172] at hC
  repeat first
   | apply T.seq
   | (apply aM;simp[hC])
   | (refine bg ?_;simp)
   | (refine du ?_;simp)
   | (apply T.skip;simp)
   | apply T.block
  refine T.rx af follows [0,1,2,3,4,5,6,7,8,9,10] [] Bw ?_;simp[hC];refine RX.call rfl xr rfl rfl rfl ta Xh ?_;simp;by_cases hf:fa=0
  rotate_left
  .have Tm:((fa:Int) != 0)=true:=by rw[bne_iff_ne];omega
   repeat first
    | apply T.seq
    | (apply aM;simp[hC,Tm])
    | (refine T.cond (b:=false) ?_ ?_;(first | rfl | (simp[ev,assoc];done));simp)
    | (refine T.cond (b:=true) ?_ ?_;(first | rfl | (simp[ev,assoc,Tm];done));simp)
    | (apply T.skip;simp)
    | apply T.block
   apply T.ret;apply aa.here;simp[Tryz.results172,hf]
  subst hf;by_cases h1:k=11/\va=0
  .obtain⟨rfl,rfl⟩:=h1
   repeat first
    | apply T.seq
    | (apply aM;simp[hC])
    | (refine bg ?_;simp)
    | (refine du ?_;simp)
    | (apply T.skip;simp)
    | apply T.block
   apply T.ret;apply aa.here;simp[Tryz.results172]
  by_cases h2:k=12/\va≠0
  .obtain⟨rfl,h2⟩:=h2;have h3:(va != 0)=true:=by simp[h2]
   repeat first
    | apply T.seq
    | (apply aM;simp[hC,h3])
    | (refine T.cond (b:=false) ?_ ?_;(first | rfl | (simp[ev,assoc];done));simp)
    | (refine T.cond (b:=true) ?_ ?_;(first | rfl | (simp[ev,assoc,h3];done));simp)
    | (apply T.skip;simp)
    | apply T.block
   apply T.ret;apply aa.here;simp[Tryz.results172,h2]
  by_cases h3:k<11
  .have g1:((5+(k:Int)) == 16)=false:=by rw[beq_eq_false_iff_ne];omega
   have g2:((5+(k:Int)) == 17)=false:=by rw[beq_eq_false_iff_ne];omega
   have YO:=HX k h3 va vb hra;have n1:k≠11:=by omega
   have n2:k≠12:=by omega
   repeat first
    | apply T.seq
    | (apply aM;simp[hC,g1,g2])
    | (refine T.cond (b:=false) ?_ ?_;(first | rfl | (simp[ev,assoc,g1,g2];done));simp)
    | (refine T.cond (b:=true) ?_ ?_;(first | rfl | (simp[ev,assoc,g1,g2];done));simp)
    | (apply T.skip;simp)
    | apply T.block
   refine T.rx af follows [0,1,2,3,4,5,6,7,8,9,10] [] Bw ?_;simp[hC];refine RX.call rfl xr rfl rfl rfl tb ihb ?_;simp;by_cases hg:fb=0
   rotate_left
   .have WE:((fb:Int) != 0)=true:=by rw[bne_iff_ne];omega
    repeat first
     | apply T.seq
     | (apply aM;simp[hC,WE])
     | (refine T.cond (b:=false) ?_ ?_;(first | rfl | (simp[ev,assoc];done));simp)
     | (refine T.cond (b:=true) ?_ ?_;(first | rfl | (simp[ev,assoc,WE];done));simp)
     | (apply T.skip;simp)
     | apply T.block
    apply T.ret;apply aa.here;simp[Tryz.results172,hg,n1,n2]
   subst hg
   repeat first
    | apply T.seq
    | (apply aM;simp[hC,g1,g2])
    | (refine T.cond (b:=false) ?_ ?_;(first | rfl | (simp[ev,assoc,g1,g2];done));simp)
    | (refine T.cond (b:=true) ?_ ?_;(first | rfl | (simp[ev,assoc,g1,g2];done));simp)
    | (apply T.skip;simp)
    | apply T.block
   refine cS rfl YO ?_;simp[hC];apply T.ret;apply aa.here;simp[Tryz.results172,n1,n2]
  .have h8:(k=11/\va≠0)\/(k=12/\va=0):=by omega
   rcases h8 with ⟨rfl,hva⟩ | ⟨rfl,hva⟩
   .repeat first
     | apply T.seq
     | (apply aM;simp[hC])
     | (refine bg ?_;simp)
     | (refine du ?_;simp)
     | (apply T.skip;simp)
     | apply T.block
    refine T.cond (b:=false) (by simp[ev,assoc,hva]) (T.skip ?_);simp
    repeat first
     | apply T.seq
     | (apply aM;simp[hC])
     | (refine bg ?_;simp)
     | (refine du ?_;simp)
     | (apply T.skip;simp)
     | apply T.block
    refine T.rx af follows [0,1,2,3,4,5,6,7,8,9,10] [] Bw ?_;simp[hC];refine RX.call rfl xr rfl rfl rfl tb ihb ?_;simp;by_cases hg:fb=0
    rotate_left
    .have WE:((fb:Int) != 0)=true:=by rw[bne_iff_ne];omega
     repeat first
      | apply T.seq
      | (apply aM;simp[hC,WE])
      | (refine T.cond (b:=false) ?_ ?_;(first | rfl | (simp[ev,assoc];done));simp)
      | (refine T.cond (b:=true) ?_ ?_;(first | rfl | (simp[ev,assoc,WE];done));simp)
      | (apply T.skip;simp)
      | apply T.block
     apply T.ret;apply aa.here;simp[Tryz.results172,hg,hva]
    subst hg
    repeat first
     | apply T.seq
     | (apply aM;simp[hC])
     | (refine bg ?_;simp)
     | (refine du ?_;simp)
     | (apply T.skip;simp)
     | apply T.block
    refine cS rfl SJ ?_;simp[hC];apply T.ret;apply aa.here;simp[Tryz.results172,tw,hva]
   .rw[hva]
    repeat first
     | apply T.seq
     | (apply aM;simp[hC])
     | (refine bg ?_;simp)
     | (refine du ?_;simp)
     | (apply T.skip;simp)
     | apply T.block
    refine T.rx af follows [0,1,2,3,4,5,6,7,8,9,10] [] Bw ?_;simp[hC];refine RX.call rfl xr rfl rfl rfl tb ihb ?_;simp;by_cases hg:fb=0
    rotate_left
    .have WE:((fb:Int) != 0)=true:=by rw[bne_iff_ne];omega
     repeat first
      | apply T.seq
      | (apply aM;simp[hC,WE])
      | (refine T.cond (b:=false) ?_ ?_;(first | rfl | (simp[ev,assoc];done));simp)
      | (refine T.cond (b:=true) ?_ ?_;(first | rfl | (simp[ev,assoc,WE];done));simp)
      | (apply T.skip;simp)
      | apply T.block
     apply T.ret;apply aa.here;simp[Tryz.results172,hg]
    subst hg
    repeat first
     | apply T.seq
     | (apply aM;simp[hC])
     | (refine bg ?_;simp)
     | (refine du ?_;simp)
     | (apply T.skip;simp)
     | apply T.block
    refine cS rfl SJ ?_;simp[hC];apply T.ret;apply aa.here;simp[Tryz.results172,tw]
theorem sF (gs ls:List Int)(hg:∀ n∈gs,oR n)(hl:∀ n∈ls,oR n)(e:Ex)(h:vF gs.length ls.length e):ae prog 95 [.agg (bf e),ints gs,ints ls] (.cF [I (bO gs ls e).1,I (bO gs ls e).2]):=by
 have he:=sD gs ls hg hl e h;have tt:trees [.agg (BD gs ls),.agg (bf e)]=true:=by simp only[trees,tree,mO,aO,Bool.and_self]
 refine ae.aD af Tryz.func95 rfl Bw (by simp[Tryz.ntmps95]) rfl λ C hC M0=>?_;rw[Tryz.ntmps95] at hC;rw[bZ e] at he tt |-;generalize e.args.flatMap bf=X at *;simp only[BD,ints] at he tt |-
 repeat first
  | apply T.seq
  | (apply aM;simp[hC])
  | (refine bg ?_;simp)
  | (refine du ?_;simp)
  | (apply T.skip;simp)
  | apply T.block
 refine cS tt he ?_;simp[hC];apply T.ret;apply aa.here;simp[Tryz.results95]
end Go.Proofs.YtlkmbdfhdknlgaaGreat
namespace Go.Can
open Go.RowKit List
variable {P:Program}{C:Cx}{s:St}{ops:Array Oper}{av:List (Nat×TI)}
theorem TL.Kq (ht:aF P av){o:Oper}{l:List Oper}{K:St->Prop}{t e:TypeId}{x y:Operand}{q:TypeId}{cs:List CV}{n:Nat}(WH:bj C.nt o.dst=true)(hg:ca ops s o=Option.some true)(ho:o.op=.binOp .eql t x y q)(hd:dO av t=Option.some (.sl e))(hx:ev s x=Option.some (.az cs n))(hy:ev s y=Option.some .aj)
  (h:∀ b,(b=true->n=0)->TL P C ops l (s.put o.dst (.bool b)) K):TL P C ops (o::l) s K:=by
 refine TL.exec WH hg (λ s'=>∃ b,(b=true->n=0)/\s'=s.put o.dst (.bool b)) ?_ (by rintro s' ⟨b,hb,rfl⟩;exact h b hb);rintro a w ⟨U,hr⟩;obtain⟨it,SW,hd⟩:=Option.map_eq_some_iff.1 hd;have hu:=dK (ht t it SW) hd;have hp:=bH hr hx;have hq:=bH hr hy;simp only[VR,cj] at hp hq;obtain⟨A,cap,e1,_,_,h4⟩:=hp;have he:(Op.equal t (.slice A n cap) (.slice none 0 0)).run P w=.ok A.isNone w:=o0 9999 hu A n cap;refine⟨_,w,_,?_,⟨A.isNone,λ hb=>?_,rfl⟩,ef WH hr (dU _)⟩
 .simp only[execOp,ho,e1,hq,Sem.run_bind,lQ (op:=.eql) (t:=t) (x:=x) (y:=y) (u:=.slice A n cap) (v:=.slice none 0 0) xr xr,Result.andThen_ok,(j5 he xr xr xr xr).1];rfl
 .rcases h4 with ⟨h4,_⟩ | ⟨ad,rfl,_⟩
  .exact h4
  .cases hb
theorem TL.Pb (ht:aF P av){o:Oper}{l:List Oper}{K:St->Prop}{cl:Call}{t t' e:TypeId}{x y:Operand}{p f m:Nat}{q:CV}{cs:List CV}{ie:TI}(WH:bj C.nt o.dst=true)(hg:ca ops s o=Option.some true)(ho:o.op=.call cl)(SA:cl.callee=.builtin .copy)(Sx:cl.args=#[x,y])(TS:cl.argTypes=#[t,t'])
  (hd:dO av t=Option.some (.sl e)) (Rz:assoc av e=Option.some ie) (hx:ev s x=Option.some (.a7 p f 0)) (hy:ev s y=Option.some q) (S8:cells? s q=Option.some (cs,m)) (h:TL P C ops l (s.put o.dst (.int .i64 0)) K):TL P C ops (o::l) s K:=by
 refine TL.exec WH hg (λ s'=>s'=s.put o.dst (.int .i64 0)) ?_ (by rintro s' rfl;exact h);rintro a w ⟨U,hr⟩;obtain⟨it,SW,hd⟩:=Option.map_eq_some_iff.1 hd;have hu:=dK (ht t it SW) hd;obtain⟨f',z,g1,g2,_⟩:=(ht e ie Rz).info;obtain⟨us,u1,u2,u3⟩:=cells?_ok hr (bH hr hy) S8;have hlen:(Builtin.lenOf (a.eval y)).run P w=.ok m w:=by
  rcases u3 with ⟨c,e,rfl,rfl⟩ | ⟨ad,c,e,UR⟩<;>simp[e,Builtin.lenOf]
 have W9:(Builtin.firstCells ie.size 0 (a.eval y)).run P w=.ok #[] w:=by
  rcases u3 with ⟨c,e,rfl,rfl⟩ | ⟨ad,c,e,UR⟩
  .simp[e,Builtin.firstCells]
  .rw[e];exact run_firstCells_some (P:=P) w ie.size 0 ad m c [] xr λ j x hx=>by simp at hx
 have hp:=bH hr hx;simp only[VR] at hp;obtain⟨B,hB,hp⟩:=hp;have hz:∃ A cap,a.eval x=.slice A 0 cap:=by
  split at hp
  .exact⟨_,_,hp.1⟩
  .obtain⟨cap,h,_⟩:=hp;exact⟨_,_,h⟩
 obtain⟨A,cap,hz⟩:=hz;refine⟨.int .i64 0,w,_,?_,rfl,ef WH hr (dY _ _)⟩;have UW:Nat.min m 0=0:=Nat.min_zero m;simp only[execOp,ho,resolve,SA,Sx,TS,Sem.run_bind,Sem.run_pure,Result.andThen_ok,invoke,builtin,Builtin.copy_,map_toArray,map_cons,map_nil];simp only[getElem?_toArray,getElem?_cons_zero,getElem?_cons_succ,Sem.run_bind,bB hu,hz,Result.andThen_ok,hlen,cT g1,g2,UW,W9,goInt];cases A<;>rfl
end Go.Can
namespace Go.Proofs.YtlkmbdfhdknlgaaGreat
open Go.Can Go.aK List Tryz
theorem z0 (l:List Int)(hl:l.length<=1000000):Body prog av 29 [ints l] [] 0 (iO (.a7 0 0 l.length) [(0,⟨3,1,l.map dg⟩)] 1):=by
 have b1:l.length*8<=140737488355328:=by omega
 have tL:trees (l.map dg)=true:=aP l;refine Body.iZ Tryz.func29 rfl Bw (by simp[Tryz.ntmps29]) λ C hC M0=>?_;rw[Tryz.ntmps29] at hC;simp only[ints];apply aq;simp[hC];refine T.seq (T.seq (T.region (TL.some af 1 ?_)));simp[hC];refine TL.Kq af Rg rfl rfl rfl (by simp[ev,assoc];exact⟨rfl,rfl⟩) rfl λ b hb=>TL.nil ?_
 cases b with
 | true=>
  have h0:l=[]:=length_eq_zero_iff.1 (hb rfl);subst h0;simp;refine du ?_;simp;apply aq;simp[hC];apply T.ret;simp only[fz];refine aa.le (Le.own 2 3 1 rfl) ?_;simp;exact aa.here ⟨_,rfl,rfl,rfl,rfl⟩
 | false=>
  refine gk ?_;simp;apply aq;simp[hC,b1];apply T.ret;have rL:=λ ρ=>ah ρ _ tL;refine aa.le (Le.norm [2] [(1,0)] 0 1 SZ SY (by simp[cB,mZ,lF,assoc,-all_eq_true,-all_flatMap,au tL]) yA) ?_;simp[cq,bb,cO,ec,assoc,rL];exact aa.here ⟨_,rfl,rfl,rfl,rfl⟩
theorem uT (l:List Ho)(hl:l.length<=1000000):Body prog av 89 [.az (l.flatMap dN) l.length] [] 0 (iO (.a7 0 0 l.length) [(0,⟨122,2,l.flatMap dN⟩)] 1):=by
 have b1:l.length*16<=140737488355328:=by omega
 have tL:trees (l.flatMap dN)=true:=ak cm l;have hf:=aG dh l;refine Body.iZ Tryz.func89 rfl Bw (by simp[Tryz.ntmps89]) λ C hC M0=>?_;rw[Tryz.ntmps89] at hC;apply aq;simp[hC];refine T.seq (T.seq (T.region (TL.some af 1 ?_)));simp[hC];refine TL.Kq af Rg rfl rfl rfl (by simp[ev,assoc];exact⟨rfl,rfl⟩) rfl λ b hb=>TL.nil ?_
 cases b with
 | true=>
  have h0:l=[]:=length_eq_zero_iff.1 (hb rfl);subst h0;simp;refine du ?_;simp;apply aq;simp[hC];apply T.ret;simp only[fz];refine aa.le (Le.own 2 122 2 rfl) ?_;simp;exact aa.here ⟨_,rfl,rfl,rfl,rfl⟩
 | false=>
  refine gk ?_;simp;apply aq;simp[hC,b1,hf,aY,-length_flatMap];apply T.ret;have rL:=λ ρ=>ah ρ _ tL;refine aa.le (Le.norm [2] [(1,0)] 0 1 SZ SY (by simp[cB,mZ,lF,assoc,-all_eq_true,-all_flatMap,au tL]) yA) ?_;simp[cq,bb,cO,ec,assoc,rL];exact aa.here ⟨_,rfl,rfl,rfl,rfl⟩
theorem HV (ms:List Mx)(gs ls:List Int)(hg:∀ n∈gs,oR n)(hl:∀ n∈ls,oR n)(L:Nat)(p:Pl)(hv:wM ms gs.length ls.length L p):ae prog 134 [.agg (iq p),.az (ms.flatMap cP) ms.length,ints gs,ints ls] (.cF [I (ir ms gs ls p).1,I (ir ms gs ls p).2]):=by
 obtain⟨par,ix,at_⟩:=p
 match at_,hv with
 | none,_=>
  refine ae.aD af Tryz.func134 rfl Bw (by simp[Tryz.ntmps134]) rfl λ C hC M0=>?_;rw[Tryz.ntmps134] at hC;simp only[iq,oL]
  repeat first
   | apply T.seq
   | (apply aM;simp[hC])
   | (refine bg ?_;simp)
   | (refine du ?_;simp)
   | (apply T.skip;simp)
   | apply T.block
  apply T.ret;apply aa.here;simp[Tryz.results134,ir]
 | some e,hv=>
  have hx:∃ m,ms[ix]? = some m/\vF gs.length ls.length e:=by
   rcases hv with ⟨_,_,h⟩ | ⟨_,m,hm,h⟩
   .cases h
   .rcases h with ⟨h,_⟩ | ⟨e',he,h⟩
    .cases h
    .cases he;exact⟨m,hm,h.2⟩
  obtain⟨m,hm,he⟩:=hx;have To:=sF gs ls hg hl e he;have TR:=cb (f:=cP) (n:=3) (λ _=>rfl) hm 2 yA;have P1:ix<ms.length:=(List.getElem?_eq_some_iff.1 hm).1;have tg:trees (gs.map dg)=true:=aP gs;have tl:trees (ls.map dg)=true:=aP ls;have MY:trees [.agg (bf e),ints gs,ints ls]=true:=by simp only[trees,tree,aO,ints,Bool.and_self]
  simp only[ir,hm];generalize hva:bO gs ls e=va at To;obtain⟨v,f⟩:=va;simp only at To |-;have h5:¬ ((ix:Int)<0):=by omega
  have h6:¬ (ms.length<=ix):=by omega
  have h7:¬ ((ms.length:Int)<=ix):=by omega
  refine ae.aD af Tryz.func134 rfl Bw (by simp[Tryz.ntmps134]) rfl λ C hC M0=>?_;rw[Tryz.ntmps134] at hC;simp only[iq,oL]
  repeat first
   | apply T.seq
   | (apply aM;simp[hC])
   | (refine bg ?_;simp)
   | (refine du ?_;simp)
   | (apply T.skip;simp)
   | apply T.block
  refine cS MY To ?_;simp[hC];by_cases hf:f=0
  .subst hf;by_cases h0:v<0
   .repeat first
     | apply T.seq
     | (apply aM;simp[hC,h0,h5,h7])
     | (refine T.cond (b:=false) ?_ ?_;(first | rfl | (simp[ev,assoc];done));simp)
     | (refine T.cond (b:=true) ?_ ?_;(first | rfl | (simp[ev,assoc,h0,h5,h6,h7];done));simp)
     | (apply T.skip;simp)
     | apply T.block
    apply T.ret;apply aa.here;simp[Tryz.results134]
   .by_cases h1:(m.size:Int)<=v
    .repeat first
      | apply T.seq
      | (apply aM;simp[hC,h0,h5,h7,P1,TR,cP,h1])
      | (refine T.cond (b:=false) ?_ ?_;(first | rfl | (simp[ev,assoc];done));simp)
      | (refine T.cond (b:=true) ?_ ?_;(first | rfl | (simp[ev,assoc,h0,h5,h6,h7,P1,TR,cP,h1];done));simp)
      | (apply T.skip;simp)
      | apply T.block
     apply T.ret;apply aa.here;simp[Tryz.results134]
    .repeat first
      | apply T.seq
      | (apply aM;simp[hC,h0,h5,h7,P1,TR,cP,h1])
      | (refine T.cond (b:=false) ?_ ?_;(first | rfl | (simp[ev,assoc,h0,h5,h6,h7,P1,TR,cP,h1];done));simp)
      | (refine T.cond (b:=true) ?_ ?_;(first | rfl | (simp[ev,assoc,h0,h5,h6,h7,P1,TR,cP,h1];done));simp)
      | (apply T.skip;simp)
      | apply T.block
     apply T.ret;apply aa.here;simp[Tryz.results134]
  .have Tm:((f:Int) != 0)=true:=by rw[bne_iff_ne];omega
   repeat first
    | apply T.seq
    | (apply aM;simp[hC,Tm])
    | (refine T.cond (b:=false) ?_ ?_;(first | rfl | (simp[ev,assoc];done));simp)
    | (refine T.cond (b:=true) ?_ ?_;(first | rfl | (simp[ev,assoc,Tm];done));simp)
    | (apply T.skip;simp)
    | apply T.block
   apply T.ret;apply aa.here;simp[Tryz.results134,hf]
end Go.Proofs.YtlkmbdfhdknlgaaGreat
namespace Go.aK
open Go.Can List
theorem mW (m:Mx):(cP m).length=3:=rfl
def FI (ms:List Mx):Prop:=ms.length<=1000/\∀ m∈ms,m.size<=1000
theorem pe:∀ (l:List Mx) (s:Nat),(∀ m∈l,m.size<=1000)->(cG l s).length<=1000*l.length
 | [],_,_=>by simp[cG]
 | a::r,s,h=>by
  have h1:=pe r (s+1) λ m hm=>h m (mem_cons_of_mem _ hm);have h2:=h a mem_cons_self;rw[cG,length_append,length_replicate,length_cons];omega
end Go.aK
namespace Go.Proofs.YtlkmbdfhdknlgaaGreat
open Go.Can Go.aK List
theorem K4 (y:Ho):∀ (tb:List Ho) (e:Nat),e<tb.length->take (e*2) (tb.flatMap dN)++I y.o::I y.d::drop (e*2+2) (tb.flatMap dN)=(tb.set e y).flatMap dN
 | [],_,h=>by simp at h
 | a::r,0,_=>by simp[dN]
 | a::r,e+1,h=>by
  have ih:=K4 y r e UA;rw[set_cons_succ,flatMap_cons,flatMap_cons,<- ih];have e1:(e+1)*2=e*2+2:=by omega
  rw[e1];simp[dN]
theorem GL (d:Nat):∀ (tb:List Ho) (e:Nat) (h:Ho),tb[e]? = some h->take (e*2+1) (tb.flatMap dN)++I d::drop (e*2+2) (tb.flatMap dN)=(tb.set e ⟨h.o,d⟩).flatMap dN
 | [],_,_,h=>by simp at h
 | a::r,0,h,hh=>by
  simp only[getElem?_cons_zero,Option.some.injEq] at hh;subst hh;simp[dN]
 | a::r,e+1,h,hh=>by
  have ih:=GL d r e h (by simpa using hh);rw[set_cons_succ,flatMap_cons,flatMap_cons,<- ih];have e1:(e+1)*2=e*2+2:=by omega
  rw[e1];simp[dN]
theorem GK (o:Nat):∀ (tb:List Ho) (e:Nat) (h:Ho),tb[e]? = some h->take (e*2) (tb.flatMap dN)++I o::drop (e*2+1) (tb.flatMap dN)=(tb.set e ⟨o,h.d⟩).flatMap dN
 | [],_,_,h=>by simp at h
 | a::r,0,h,hh=>by
  simp only[getElem?_cons_zero,Option.some.injEq] at hh;subst hh;simp[dN]
 | a::r,e+1,h,hh=>by
  have ih:=GK o r e h (by simpa using hh);rw[set_cons_succ,flatMap_cons,flatMap_cons,<- ih];have e1:(e+1)*2=e*2+2:=by omega
  rw[e1];simp[dN]
end Go.Proofs.YtlkmbdfhdknlgaaGreat
namespace Go.Can
open Go.RowKit List
def Mi (P:Program)(av:List (Nat×TI))(f:FuncId)(args:List CV)(H:List (Nat×Ob))(n:Nat)(ks:List Nat)(R:CV->St->Prop):Prop:=
 ∃ fn c, P.funcs[f]? = some fn /\ fn.body = some c /\ (fn.name == "runtime.NumGoroutine") = false /\ args.length <= fn.ntmps /\
  ∀ C:Cx,C.nt=fn.ntmps->C.n0=n->(∀ k∈ks,∀ B b,C.σ0 k=some B->B.kW=some b->C.own b\/C.w0.heap.size<=b)->T P C c ⟨(enter args).env,H,n⟩ (Lr C av fn R)
def wI:Value->Bool
 | .int .i64 n=>C5 n
 | _=>false
theorem BQ {v:Value}(h:wI v=true):∃ n,v=.int .i64 n/\(Lit.int .i64 n).wf=true:=by
 unfold wI at h;split at h
 .rename_i n;refine⟨n,rfl,?_⟩;simp only[C5,Bool.and_eq_true,decide_eq_true_eq] at h;simp[Lit.wf,IntKind.min,IntKind.max,IntKind.signed,IntKind.bits];omega
 .cases h
theorem mapM_some {α β:Type}{f:α->Option β}:∀ (l:List α),(l.mapM f).isSome=l.all λ x=>(f x).isSome
 | []=>by simp
 | x::r=>by
  rw[mapM_cons]
  cases h:f x with
  | none=>simp[h]
  | some y=>
   have:=mapM_some (f:=f) r
   cases h2:r.mapM f with
   | none=>simp[h,h2] at this |-;simpa using this
   | some z=>simp[h,h2] at this |-;simpa using this
theorem sK {P:Program}:∀ (d:Nat) (t:TypeId) (cs ds:List Value),cs.length=ds.length->(cs.all wI=true)->(ds.all wI=true)->(P.keyLits d t ds).isSome=true->(P.keyLits d t cs).isSome=true
 | 0,_,_,_,_,_,_,h=>by simp[Program.keyLits] at h
 | d+1,t,cs,ds,hl,hc,hd,h=>by
  have sub:∀ u n m,(P.keyLits d u ((ds.drop n).take m)).isSome=true->(P.keyLits d u ((cs.drop n).take m)).isSome=true:=λ u n m hs=>by
   refine sK d u _ _ (by simp[hl]) ?_ ?_ hs
   .exact all_eq_true.2 λ x hx=>all_eq_true.1 hc x (mem_of_mem_drop (mem_of_mem_take hx))
   .exact all_eq_true.2 λ x hx=>all_eq_true.1 hd x (mem_of_mem_drop (mem_of_mem_take hx))
  unfold Program.keyLits at h |-
  cases hu:P.underlying t with
  | none=>rw[hu] at h;simp at h
  | some u=>
   rw[hu] at h
   cases u with
   | array n e=>
    simp only[hl] at h |-;split at h
    .rename_i he;rw[if_pos he];rw[Option.isSome_map,mapM_some] at h |-;exact all_eq_true.2 λ i hi=>sub _ _ _ (all_eq_true.1 h i hi)
    .cases h
   | struct fs=>
    simp only[hl] at h |-;split at h
    .rename_i he;rw[if_pos he];rw[Option.isSome_map,mapM_some] at h |-;exact all_eq_true.2 λ i hi=>sub _ _ _ (all_eq_true.1 h i hi)
    .cases h
   | int q=>
    match ds,cs,hl,hc,hd,h with
    | [x],[y],_,hc,hd,h=>
     simp only[all_cons,all_nil,Bool.and_true] at hc hd;obtain⟨n,rfl,w1⟩:=BQ hd;obtain⟨m,rfl,w2⟩:=BQ hc;simp only at h |-;split at h
     .rename_i he;obtain⟨rfl,_⟩:=he;rw[if_pos ⟨rfl,w2⟩];rfl
     .cases h
    | [],_,_,_,_,h=>simp at h
    | _::_::_,_,_,_,_,h=>simp at h
   | bool=>
    cases ds with
    | nil=>simp at h
    | cons x r=>
     simp only[all_cons,Bool.and_eq_true] at hd;obtain⟨n,rfl,_⟩:=BQ hd.1;simp at h
   | string=>
    cases ds with
    | nil=>simp at h
    | cons x r=>
     simp only[all_cons,Bool.and_eq_true] at hd;obtain⟨n,rfl,_⟩:=BQ hd.1;simp at h
   | _=>simp at h
def qR (n:Nat):Value->Bool
 | .agg cs=>decide (cs.size=n) && cs.toList.all wI
 | _=>false
theorem AE {n:Nat}{v:Value}(h:qR n v=true):∃ cs,v=.agg cs/\cs.size=n/\cs.toList.all wI=true:=by
 unfold qR at h;split at h
 .simp only[Bool.and_eq_true,decide_eq_true_eq] at h;exact⟨_,rfl,h⟩
 .cases h
def zV (P:Program)(m n:Nat)(t:TypeId):Bool:=P.keyTypeAt m t && P.tiled m t && (match P.underlying t with | some (.array _ _) | some (.struct _)=>true | _=>false) && P.keyType t && (P.cellsOf t == n) && (P.keyLits (P.types.size+1) t (replicate n (.int .i64 0))).isSome
theorem Dq {P:Program}{m n:Nat}{t:TypeId}(h:zV P m n t=true){v:Value}(hv:qR n v=true):∃ l,keyOf P t v=some l:=by
 simp only[zV,Bool.and_eq_true,beq_iff_eq] at h;obtain⟨⟨⟨⟨⟨h1,h2⟩,h3⟩,h4⟩,h5⟩,h6⟩:=h;obtain⟨cs,rfl,hn,hw⟩:=AE hv;have hk:=sK (P:=P) (P.types.size+1) t cs.toList (replicate n (.int .i64 0)) (by simp[hn]) hw (by simp[all_replicate,wI,C5]) h6;obtain⟨L,hL⟩:=Option.isSome_iff_exists.1 hk;have hf:(Value.agg cs).formed P t=true:=by
  unfold Value.formed;split at h3<;>rename_i e<;>simp only[e,hn,h5,beq_self_eq_true] at h3 |-;cases h3
 have hif:(if P.keyType t && (Value.agg cs).formed P t then (P.keyLits (P.types.size+1) t (Value.agg cs).cells.toList).map λ ls=>Lit.string (keyBytes ls) else none)=some (.string (keyBytes L)):=by
  rw[if_pos (by rw[h4,hf];rfl),show (Value.agg cs).cells=cs from rfl,hL];rfl
 refine⟨_,Eq.trans ?_ hif⟩;unfold keyOf;split
 .rfl
 .rfl
 .exfalso;split at h3
  .simp_all
  .simp_all
  .cases h3
theorem JX {n:Nat}{v:Value}(h:qR n v=true):D6 v=true:=by
 obtain⟨cs,rfl,_,hw⟩:=AE h;simp only[D6];refine all_eq_true.2 λ x hx=>?_;obtain⟨k,rfl,_⟩:=BQ (all_eq_true.1 hw x hx);rfl
theorem Dk {P:Program}{m n:Nat}{t:TypeId}(hm:m+1<=10000)(h:zV P m n t=true)(hg:P.eqGuardType P.depth t=false):EqT P t (qR n):=by
 have h':=h;simp only[zV,Bool.and_eq_true,beq_iff_eq] at h';refine⟨λ w x y hx hy=>?_,hg,λ x hx=>(AE hx).imp λ _ h=>h.1⟩;obtain⟨lx,ex⟩:=Dq h hx;obtain⟨ly,ey⟩:=Dq h hy;obtain⟨r,hr,hi⟩:=run_equal_deep w (by omega:m<=10000) h'.1.1.1.1.1 h'.1.1.1.2 ex ey;have hq:(Op.equalIn 10000 t x y).run P w=.ok r w:=hr;rw[hq];congr 1;have U3:r=true↔x=y:=by
  rw[hi];refine⟨λ e=>?_,λ e=>?_⟩
  .subst e;exact keyOf_inj_deep h'.1.1.1.1.2 h'.1.1.1.2 ex ey
  .subst e;rw[ex] at ey;exact Option.some.inj ey
 have hv:BE x y=true↔x=y:=⟨ug,λ e=>by subst e;exact r9 (JX hx)⟩;cases r<;>cases hh:BE x y<;>simp_all
end Go.Can
namespace Go.aK
open Go.Can
def jT (p:Int)(ls:List Int):List CV:=gX [I p,I ls.length,I 0,I 0,I 0,I 0,I 0,I 0] 2 (ls.map λ n:Int=>I n)
end Go.aK
namespace Go.Proofs.YtlkmbdfhdknlgaaGreat
open Go.Can Go.aK List
theorem wS:∀ (k:Nat) (l:List CV),trees l=true->trees (l.drop k)=true
 | 0,l,h=>by simpa using h
 | _+1,[],_=>by simp
 | k+1,c::l,h=>by
  simp only[trees,Bool.and_eq_true] at h;rw[drop_succ_cons];exact wS k l h.2
theorem CX (p:Int)(ls:List Int)(hl:ls.length<=6):ae Tryz.prog 132 [.agg [I p,ints ls]] (.cF [.agg (jT p ls),.bool true]):=by
 have YU:tree (ints ls)=true:=by simp[ints,tree]
 have tkc:trees (jT p ls)=true:=by
  have:trees (ls.map λ n:Int=>I n)=true:=aP ls;have hd:∀ k,trees (drop k [I p,I ls.length,I 0,I 0,I 0,I 0,I 0,I 0])=true:=λ k=>wS k _ rfl;simp only[jT,gX,a9,this,hd];rfl
 have SJ:tree (.cF [.agg (jT p ls),.bool true])=true:=by simp only[tree,trees,tkc];rfl
 have SO:(jT p ls).length=8:=by simp[jT,gX];omega
 have Zj:(jT p ls).take 8=jT p ls:=take_of_length_le yA;have dl:∀ k,((drop k [CV.int .i64 p,CV.int .i64 ls.length,CV.int .i64 0,CV.int .i64 0,CV.int .i64 0,CV.int .i64 0,CV.int .i64 0,CV.int .i64 0]).all (aU 3))=true:=λ k=>all_eq_true.2 λ x hx=>by
  have:=mem_of_mem_drop hx;simp only[mem_cons,not_mem_nil,or_false] at this;rcases this with rfl | rfl | rfl | rfl | rfl | rfl | rfl | rfl<;>rfl
 refine ae.aD af Tryz.func132 rfl Bw (by simp[Tryz.ntmps132]) SJ λ C hC M0=>?_;rw[Tryz.ntmps132] at hC;simp only[ints];apply aq;simp[hC];apply aq;simp[hC];have h6:¬ (6:Int)<ls.length:=by omega
 apply aW;simp[hC,h6];refine T.cond (b:=false) Tt (T.skip ?_);simp;have hmn:min ls.length 6=ls.length:=by omega
 have SE:(ls.map λ n:Int=>I n).take ls.length=ls.map λ n:Int=>I n:=take_of_length_le xr;have U4:(jT p ls).all one=true:=by
  simp[jT,gX,one];exact λ x hx=>by
   have:x∈[I p,I ls.length,I 0,I 0,I 0,I 0,I 0,I 0]:=mem_of_mem_drop hx;simp only[mem_cons,not_mem_nil,or_false] at this;rcases this with rfl | rfl | rfl | rfl | rfl | rfl | rfl | rfl<;>rfl
 refine T.cut (λ s=>s=⟨[(4,.ax 2 0),(2,.ax 1 0)],[(1,⟨221,0,[I 0,I 0,I 0,I 0,I 0,I 0,I 0,I 0]⟩),(2,⟨221,0,jT p ls⟩)],3⟩) ?_ ?_
 .refine T.explore af follows [0,2] Bw Bw xr (TH.go' ?_);simp[hC];refine TX.two (i:=1) (j:=3) Bw rfl rfl (TL.go' af ?_) (TL.go' af ?_)
  .simp[hC];refine TX.one (i:=3) Bw rfl (TL.go' af ?_);simp[hC];refine TX.one (i:=4) Bw rfl (TL.go' af ?_);simp[hC,hmn,SE];refine TX.end Bw ?_;refine aa.trim [4,2] [1,2] 3 (by simp[-all_eq_true];exact⟨all_eq_true.2 λ _ _=>rfl,dl _⟩) yA ?_;simp[jT]
  .simp[hC];refine TX.one (i:=1) Bw rfl (TL.go' af ?_);simp[hC];refine TX.one (i:=4) Bw rfl (TL.go' af ?_);simp[hC,hmn,SE];refine TX.end Bw ?_;refine aa.trim [4,2] [1,2] 3 (by simp[-all_eq_true];exact⟨all_eq_true.2 λ _ _=>rfl,dl _⟩) yA ?_;simp[jT]
 .rintro s rfl;have hxx:(I p::I ls.length::I 0::I 0::I 0::I 0::I 0::[I 0]).length=8:=rfl;apply aq;simp[hC,SO,Zj,drop_of_length_le];apply T.ret;apply aa.here;simp[Tryz.results132,SO,Zj]
theorem Ij (p:Int)(ls:List Int)(hl:6<ls.length):ae Tryz.prog 132 [.agg [I p,ints ls]] (.cF [.agg [I 0,I 0,I 0,I 0,I 0,I 0,I 0,I 0],.bool false]):=by
 have YU:tree (ints ls)=true:=by simp[ints,tree]
 refine ae.aD af Tryz.func132 rfl Bw (by simp[Tryz.ntmps132]) rfl λ C hC M0=>?_;rw[Tryz.ntmps132] at hC;simp only[ints];apply aq;simp[hC];apply aq;simp[hC];have h6:(6:Int)<ls.length:=by omega
 apply aW;simp[hC,h6];refine T.cond (b:=true) Tt ?_;simp;apply aq;simp[hC];apply T.ret;apply aa.here;simp[Tryz.results132]
end Go.Proofs.YtlkmbdfhdknlgaaGreat
namespace Go.aK
open Go.Can
theorem CU {cs:List CV}(h:cs.length=11):∃ c1 c2 c3 c4 c5 c6 c7 c8 c9 c10 c11,cs=[c1,c2,c3,c4,c5,c6,c7,c8,c9,c10,c11]:=by
 match cs,h with
 | [a,b,c,d,e,f,g,h,i,j,k],_=>exact⟨a,b,c,d,e,f,g,h,i,j,k,rfl⟩
end Go.aK
namespace Go.Proofs.YtlkmbdfhdknlgaaGreat
open Go.Can Go.aK List
theorem Ll (e:Ex):(bf e).all one=true:=by cases e<;>rfl
theorem No (o:Option Ex):one (oL o)=true:=by rw[ph];rfl
theorem Ka (q:Pl):(iq q).all one=true:=by simp only[iq,all_cons,all_nil,No];rfl
theorem px (x:In):(cY x).all one=true:=by
 cases x<;>simp only[cY,cons_append,nil_append,append_assoc,all_append,all_cons,all_nil,Ll,Ka,one,Bool.and_self,Bool.and_true,Bool.true_and]<;>rfl
theorem CH (is:Is)(q:Pl)(h:q.param=true->q.index<is.bh.length):ae Tryz.prog 34 [.agg (dW is),.agg (iq q)] (I (jl is q)):=by
 refine ae.aD af Tryz.func34 rfl Bw (by simp[Tryz.ntmps34]) rfl λ C hC M0=>?_;rw[Tryz.ntmps34] at hC;simp only[dW,iq,aA,ph];apply aq;simp[hC]
 cases hq:q.param with
 | true=>
  have P1:=h hq;obtain⟨n,hn⟩:∃ n,is.bh[q.index]? = some n:=⟨_,getElem?_eq_getElem P1⟩;have OZ:=dV hn;have VQ:jl is q=n:=by simp[jl,hq,getD_eq_getElem?_getD,hn]
  apply aW;simp[hC,P1];refine du ?_;simp;apply aq;simp[hC,P1,OZ];apply T.ret;apply aa.here;simp[Tryz.results34,VQ]
 | false=>
  have VQ:jl is q=q.index:=by simp[jl,hq]
  apply aW;simp[hC];refine gk ?_;simp;apply aq;simp[hC];apply T.ret;apply aa.here;simp[Tryz.results34,VQ]
theorem MG {ts:List (List Fr)}{i:Nat}{l:List Fr}(h:ts[i]? = some l):(ts.flatMap ez).drop i=ez l++(ts.drop (i+1)).flatMap ez:=by
 have:=aL (f:=ez) (n:=1) nJ h
 simpa using this
def mY:Option In->CV
 | some i=>.cF [.agg (cY i),.bool true]
 | none=>.cF [.agg [I 0,I 0,.bool false,I 0,I 0,.str eS,.az [] 0,.bool false,I 0,.az [] 0,.az [] 0,.az [] 0],.bool false]
def FrsV (u:Un)(s:Sy):Prop:=∀ l∈s.ts,∀ f∈l,∃ q,u.ps[f.proc]? = some q/\f.pc<q.code.length
theorem wW {s:Sy}{t:Int}{f:Fr}(h:eX s t=some f):∃ l∈s.ts,f∈l:=by
 unfold eX at h;split at h
 .cases h
 .split at h
  .rename_i l hl;exact⟨l,mem_of_getElem? hl,mem_of_getLast? h⟩
  .cases h
def qv (u:Un):Sy:=⟨u.gs,replicate (bT u.ms).length ⟨0,0⟩,[[⟨u.main,0,replicate (match u.ps[u.main]? with
 | some q=>q.locals
 | none=>0) 0,[]⟩]],0⟩
theorem It (n:Nat):aY [I 0,I 0] n=(replicate n (⟨0,0⟩:Ho)).flatMap dN:=by
 induction n with
 | zero=>rfl
 | succ n ih=>rw[aY,ih,replicate_succ,flatMap_cons];rfl
theorem jt (n:Nat):trees (replicate n (I 0))=true:=by
 induction n with
 | zero=>rfl
 | succ n ih=>rw[replicate_succ,trees,ih];rfl
end Go.Proofs.YtlkmbdfhdknlgaaGreat
namespace Go.aK
open Go.Can List
def dq:List Mx->Nat
 | []=>0
 | m::r=>max m.size 1+dq r
def NF:List Mx->Nat->Nat->Int
 | [],_,_=>-1
 | m::r,e,i=>if e<max m.size 1 then i else NF r (e-max m.size 1) (i+1)
def qo (th:Nat):List Ho->Nat
 | []=>0
 | h::r=>(if h.o=th+1 then h.d else 0)+qo th r
theorem uP:∀ (ms:List Mx) (i:Nat),(cG ms i).length=dq ms
 | [],_=>rfl
 | m::r,i=>by simp[cG,dq,uP r (i+1)]
theorem qd:∀ (a b:List Mx),dq (a++b)=dq a+dq b
 | [],b=>by simp[dq]
 | m::r,b=>by
  rw[cons_append,dq,dq,qd r b];omega
def oI:Option Nat->Int
 | some m=>m
 | none=>-1
theorem Gv:∀ (ms:List Mx) (e i:Nat),NF ms e i=oI (cG ms i)[e]?
 | [],e,i=>by simp[NF,cG,oI]
 | m::r,e,i=>by
  rw[NF,cG];split
  .rename_i h;rw[getElem?_append_left Tv,getElem?_replicate,if_pos h];rfl
  .rename_i h;rw[getElem?_append_right Tv,length_replicate,Gv r]
theorem ND (ms:List Mx)(e:Nat):NF ms e 0=lj ms e:=by
 rw[Gv,lj,if_neg yA,bT,Int.toNat_natCast];cases (cG ms 0)[e]?<;>rfl
theorem ya (m th:Nat):∀ (a b:List Nat) (ta tb:List Ho),a.length=ta.length->fe m th (a++b) (ta++tb)=fe m th a ta+fe m th b tb
 | [],b,ta,tb,h=>by
  have:ta=[]:=length_eq_zero_iff.1 h.symm;subst this;simp[fe]
 | x::a,b,ta,tb,h=>by
  obtain⟨y,ta,rfl⟩:∃ y r,ta=y::r:=by
   cases ta with
   | nil=>simp at h
   | cons y r=>exact⟨y,r,rfl⟩
  simp only[cons_append,fe];rw[ya m th a b ta tb UA];omega
theorem pC (m th:Nat):∀ (a:List Nat) (ta:List Ho),(∀ x∈a,x≠m)->fe m th a ta=0
 | [],ta,_=>by cases ta<;>rfl
 | x::a,[],_=>rfl
 | x::a,h::ta,hx=>by
  rw[fe,if_neg (λ e=>hx x mem_cons_self e.1),pC m th a ta λ y hy=>hx y (mem_cons_of_mem _ hy)]
theorem x9 (m th:Nat):∀ (n:Nat) (ta:List Ho),ta.length=n->fe m th (replicate n m) ta=qo th ta
 | 0,ta,h=>by
  have:ta=[]:=length_eq_zero_iff.1 h;subst this;rfl
 | n+1,[],h=>by simp at h
 | n+1,x::ta,h=>by
  rw[replicate_succ,fe,qo,x9 m th n ta UA];simp
theorem xz:∀ (l:List Mx) (s:Nat),∀ m∈cG l s,s<=m
 | [],s,m,h=>by simp[cG] at h
 | x::r,s,m,h=>by
  rw[cG,mem_append] at h;rcases h with h | h
  .have:=eq_of_mem_replicate h;omega
  .have:=xz r (s+1) m h;omega
theorem x8 (m th:Nat):∀ (ms:List Mx) (i:Nat) (tb:List Ho) (x:Mx),tb.length=(cG ms i).length->i<=m->ms[m-i]? = some x ->
  fe m th (cG ms i) tb=qo th ((tb.drop (dq (ms.take (m-i)))).take (max x.size 1))
 | [],i,tb,x,_,_,h=>by simp at h
 | y::r,i,tb,x,hl,hi,h=>by
  rw[cG] at hl |-;rw[length_append,length_replicate] at hl;rw[<- take_append_drop (max y.size 1) tb,ya _ _ _ _ _ _ (by rw[length_replicate,length_take];omega),take_append_drop];by_cases he:i=m
  .subst he;simp at h;subst h;rw[x9 _ _ _ _ (by rw[length_take];omega),pC i th (cG r (i+1)) _ λ z hz=>by have:=xz r (i+1) z hz;omega];simp[dq]
  .have h2:m-i=(m-(i+1))+1:=by omega
   rw[h2,getElem?_cons_succ] at h;rw[pC m th _ _ (λ z hz=>by have:=eq_of_mem_replicate hz;omega),x8 m th r (i+1) _ x (by rw[length_drop];omega) yA h,h2,take_succ_cons,dq,drop_drop,Nat.zero_add]
theorem FO (th:Nat):∀ l:List Ho,(∀ h∈l,h.d<=1000000)->qo th l<=1000000*l.length
 | [],_=>by simp[qo]
 | h::r,hh=>by
  have h1:=hh h mem_cons_self;have h2:=FO th r λ x hx=>hh x (mem_cons_of_mem _ hx);rw[qo,length_cons];split<;>omega
end Go.aK
namespace Go.Can
open Go.RowKit
section
variable {P:Program}{C:Cx}{U:Nat->Option OB}{s:St}{a:Act}{w:World}{ops:Array Oper}{av:List (Nat×TI)}
theorem ux (h:aQ C U s a w){lo:Option Operand}{hi mx:Operand}{len cap l n m:Nat}(hh:dM s (some hi) 0=some n)(hl:dM s lo 0=some l)(hm:dM s (some mx) 0=some m)(h1:l<=n)(h2:n<=m)(h3:m<=cap) :
  (Instr.sliceBounds true len cap (lo.map a.eval) (some (a.eval hi)) (some (a.eval mx))).run P w=.ok (l,n,m) w:=by
 have e1:∀ (k:IntKind) (i:Int) (y:Nat) (code:BoundsCode),0<=i->i.toNat<=y->(Instr.sliceBound (.int k i) y code).run P w=.ok i.toNat w:=λ k i y code h0 h1=>by
  simp only[Instr.sliceBound,asIntOf,pure_bind];rw[if_pos ⟨h0,by omega⟩];rfl
 rcases nw h hh with ⟨h0,_⟩ | ⟨oh,kh,ih,h0,eh,h4,rfl⟩
 .cases h0
 rcases nw h hm with ⟨h5,_⟩ | ⟨om,km,im,h5,em,h6,rfl⟩
 .cases h5
 cases h0;cases h5;rcases nw h hl with ⟨rfl,rfl⟩ | ⟨ol,kl,il,rfl,el,h7,rfl⟩
 .simp[Instr.sliceBounds,eh,em,e1 _ _ _ _ h4 h2,e1 _ _ _ _ h6 h3]
 .simp[Instr.sliceBounds,eh,em,el,e1 _ _ _ _ h4 h2,e1 _ _ _ _ h6 h3,e1 _ _ _ _ h7 h1]
theorem zh (ht:aF P av){o:Oper}{t e:TypeId}{x:Operand}{lo:Option Operand}{hi mx:Operand}{cs:List CV}{len l n m:Nat}{ie:TI}(hd:bj C.nt o.dst=true)(ho:o.op=.slice t x lo (some hi) (some mx))(hx:ev s x=some (.az cs len))(h1:dO av t=some (.sl e))(h2:assoc av e=some ie)
  (hl:dM s lo 0=some l) (hh:dM s (some hi) 0=some n) (hm:dM s (some mx) 0=some m) (hb:l<=n/\n<=m/\m<=len):rO P C o s (s.put o.dst (.az ((cs.drop (l*ie.size)).take ((n-l)*ie.size)) (n-l))):=by
 rintro a w ⟨U,h⟩;obtain⟨it,SW,Td⟩:=Option.map_eq_some_iff.1 h1;obtain⟨f,z,e1,e2,_⟩:=(ht e ie h2).info;have hv:=bH h hx;simp only[VR,cj] at hv;obtain⟨A,cap,hA,k1,k2,k3⟩:=hv;refine⟨w,.inl ⟨.slice (if m=l then A else A.map (·.add (l*ie.size))) (n-l) (m-l),?_,ef hd h ?_⟩⟩
 .simp[execOp,ho,hA,Instr.sliceAt,Instr.slice,bB (dK (ht t it SW) Td),ux h hh hl hm hb.1 hb.2.1 (Nat.le_trans hb.2.2 k1),cT e1,e2]
 .simp only[VR,cj];refine⟨_,_,rfl,by omega,by omega,?_⟩;rcases k3 with ⟨k3,rfl⟩ | ⟨ad,rfl,hm⟩
  .exact .inl ⟨by omega,by simp⟩
  .by_cases VE:n=l
   .exact .inl ⟨by omega,by simp[VE]⟩
   .refine .inr ⟨ad.add (l*ie.size),?_,fH.take _ _ _ (fH.drop _ _ _ hm)⟩;rw[if_neg yA];rfl
theorem IJ (ht:aF P av){o:Oper}{x:Operand}{xt A:TypeId}{c:CV}{ie:TI}(hd:bj C.nt o.dst=true)(ho:o.op=.typeAssert x xt A true)(hx:ev s x=some (.iface A [c]))(h1:assoc av A=some ie)(h2:ie.d=.Qo->False):rO P C o s (s.put o.dst (.cF [c,.bool true])):=by
 rintro a w ⟨U,h⟩;have hv:=bH h hx;simp only[VR,aZ] at hv;obtain⟨vs,e,v,r,rfl,hv,rfl⟩:=hv;simp only[Sd] at e;obtain⟨u,hu,hud⟩:=(ht A ie h1).BF;have hn:∀ k,u≠.interface k:=λ k e=>h2 (by rw[<- hud,e];rfl);refine⟨w,.inl ⟨.tuple #[v,.bool true],?_,ef hd h ?_⟩⟩
 .have hr:(underlying A).run P w=.ok u w:=bB hu w;cases u<;>first | exact absurd rfl (hn _) | simp[execOp,ho,e,Instr.typeAssert,hr]
 .simp only[VR,aZ];exact⟨[v,.bool true],rfl,v,[.bool true],rfl,hv,.bool true,[],rfl,rfl,rfl⟩
theorem FE (ht:aF P av){o:Oper}{x:Operand}{xt A:TypeId}{c:CV}{ie:TI}{z:Value}(hd:bj C.nt o.dst=true)(ho:o.op=.typeAssert x xt A true)(hx:ev s x=some (.iface 0 []))(h1:assoc av A=some ie)(h2:ie.d=.Qo->False)(hzz:(P.info? A).bind (·.zero)=some z)(hc:sX z=some c):rO P C o s (s.put o.dst (.cF [c,.bool false])):=by
 rintro a w ⟨U,h⟩;have hv:=bH h hx;simp only[VR,aZ] at hv;obtain⟨vs,e,rfl⟩:=hv;simp only[Sd] at e;obtain⟨u,hu,hud⟩:=(ht A ie h1).BF;have hn:∀ k,u≠.interface k:=λ k e=>h2 (by rw[<- hud,e];rfl);obtain⟨f,hi,hz⟩:=Option.bind_eq_some_iff.1 hzz;have Z7:VR w (FB C U s.heap) U c z:=VR.cJ _ _ (od hc);refine⟨w,.inl ⟨.tuple #[z,.bool false],?_,ef hd h ?_⟩⟩
 .have hr:(underlying A).run P w=.ok u w:=bB hu w;cases u<;>first | exact absurd rfl (hn _) | simp[execOp,ho,e,Instr.typeAssert,hr,iV hi hz]
 .simp only[VR,aZ];exact⟨[z,.bool false],rfl,z,[.bool false],rfl,Z7,.bool false,[],rfl,rfl,rfl⟩
end
end Go.Can
namespace Go.Proofs.YtlkmbdfhdknlgaaGreat
open Go.Can Go.aK List Tryz
def aH (m:Mx):Nat:=if m.size=0/\m.re=false then 1 else 8
theorem sE (m:Mx):ae prog 49 [.agg (cP m)] (I (aH m)):=by
 obtain⟨nm,re,sz⟩:=m;refine ae.aD af Tryz.func49 rfl Bw (by simp[Tryz.ntmps49]) rfl λ C hC M0=>?_;rw[Tryz.ntmps49] at hC;simp only[cP];apply aq;simp[hC];by_cases hz:sz=0
 .subst hz
  cases re with
  | true=>
   apply aW;simp[hC];refine gk ?_;simp;apply aq;simp[hC];apply T.ret;apply aa.here;simp[Tryz.results49,aH]
  | false=>
   apply aW;simp[hC];refine du ?_;simp;apply aq;simp[hC];apply T.ret;apply aa.here;simp[Tryz.results49,aH]
 .apply aW;simp[hC,hz];refine gk ?_;simp;apply aq;simp[hC];apply T.ret;apply aa.here;simp[Tryz.results49,aH,hz]
theorem Au (m:Mx):ae prog 63 [.agg (cP m)] (I (max m.size 1:Nat)):=by
 obtain⟨nm,re,sz⟩:=m;refine ae.aD af Tryz.func63 rfl Bw (by simp[Tryz.ntmps63]) rfl λ C hC M0=>?_;rw[Tryz.ntmps63] at hC;simp only[cP];apply aq;simp[hC];apply aq;simp[hC];apply T.ret;apply aa.here;simp[Tryz.results63];split<;>omega
def J110 (ms:List Mx)(n:Nat)(s:St):Prop:=∃ i:Nat,n=ms.length-i/\i<=ms.length/\
 s=⟨[(8,I i),(7,I ms.length),(6,.az (ms.flatMap cP) ms.length),(3,I (dq (ms.take i)))],[],0⟩
theorem x6:∀ (ms:List Mx),(∀ m∈ms,m.size<=1000)->dq ms<=1000*ms.length
 | [],_=>by simp[dq]
 | m::r,h=>by
  have h1:=h m mem_cons_self;have h2:=x6 r λ x hx=>h x (mem_cons_of_mem _ hx);rw[dq,length_cons];omega
theorem vw (ms:List Mx)(hm:FI ms):ae prog 74 [.az (ms.flatMap cP) ms.length] (I (dq ms)):=by
 have Ua:=hm.1;refine ae.aD af Tryz.func74 rfl Bw (by simp[Tryz.ntmps74]) rfl λ C hC M0=>?_;rw[Tryz.ntmps74] at hC;apply aq;simp[hC];apply aq;simp[hC];apply aW;simp[hC];apply T.block;refine T.aI (J110 ms) (n:=ms.length) ?_ ?_
 .refine aa.trim [8,7,6,3] [] 0 xr yA ⟨0,by omega,by omega,?_⟩;simp[dq]
 .rintro n s ⟨i,rfl,hi,rfl⟩;by_cases Jz:i<ms.length
  .obtain⟨m,Wy⟩:∃ m,ms[i]? = some m:=⟨_,getElem?_eq_getElem Jz⟩;have TR:=aL (f:=cP) (n:=3) mW Wy;have SB:=Au m;have MY:trees [.agg (cP m)]=true:=rfl;have wi:=cr ((i:Int)+1) yA yA;have SE:ms.take (i+1)=ms.take i++[m]:=by rw[take_add_one,Wy];rfl
   have SK:=x6 (ms.take i) λ x hx=>hm.2 x (mem_of_mem_take hx);have UK:(ms.take i).length<=1000:=by simp;omega
   have Yx:=hm.2 m (mem_of_getElem? Wy);have wd:=cr ((dq (ms.take i):Int)+(max m.size 1:Nat)) yA yA;apply aq;simp[hC,Jz];refine T.seq (T.cond (b:=true) rfl (T.skip ?_));simp;apply eE;apply aq;simp[hC,Jz,TR,cP];apply aM;simp[hC];refine cS MY SB ?_;simp[hC,wd];apply aM;simp[hC,wi];refine⟨ms.length-(i+1),by omega,aa.trim [8,7,6,3] [] 0 xr yA ⟨i+1,rfl,by omega,?_⟩⟩;simp[SE,qd,dq]
  .have Rz:i=ms.length:=by omega
   subst Rz;apply aq;simp[hC];apply T.seq;refine T.cond (b:=false) rfl (T.exit ?_);simp;apply aq;simp[hC];apply T.ret;apply aa.here;simp[Tryz.results74]
theorem Cu (ms:List Mx)(hm:FI ms)(m:Nat)(x:Mx)(hx:ms[m]? = some x):ae prog 62 [.az (ms.flatMap cP) ms.length,I m] (I (dq (ms.take m))):=by
 have P1:=(List.getElem?_eq_some_iff.1 hx).1;have SK:=vw (ms.take m) ⟨by have:=hm.1;simp;omega,λ y hy=>hm.2 y (mem_of_mem_take hy)⟩;have MY:trees [.az ((ms.take m).flatMap cP) (ms.take m).length]=true:=by simp only[trees,tree,Bool.and_self]
 refine ae.aD af Tryz.func62 rfl Bw (by simp[Tryz.ntmps62]) rfl λ C hC M0=>?_;rw[Tryz.ntmps62] at hC;apply aq;simp[hC];have Um:¬ ((ms.length:Int)<=(m:Int)):=by omega
 apply aW;simp[hC];refine T.cond (b:=false) (by simp[ev,assoc,Um]) (T.skip ?_);simp;refine T.seq (T.region (TL.some af 3 ?_));simp[hC];have VT:take (m*3) (ms.flatMap cP)=(ms.take m).flatMap cP:=by
  rw[<- uM (f:=cP) (n:=3) mW]
 have VA:(ms.take m).length=m:=by simp;omega
 refine gW rfl (zh af (e:=98) (lo:=none) (cs:=ms.flatMap cP) (len:=ms.length) (l:=0) (n:=m) (m:=m) Rg rfl xr xr rfl rfl (by simp[dM,ev,assoc]) (by simp[dM,ev,assoc]) ⟨by omega,by omega,by omega⟩) (TL.go' af ?_);rw[VA] at MY SK;simp[VT];refine cS MY SK ?_;simp[hC];apply T.ret;apply aa.here;simp[Tryz.results62]
def J80n (ms:List Mx)(e:Nat)(n:Nat)(s:St):Prop:=∃ i e':Nat,n=ms.length-i/\i<=ms.length/\NF ms e 0=NF (ms.drop i) e' i/\e'<=e/\
 s=⟨[(11,I i),(10,I ms.length),(9,.az (ms.flatMap cP) ms.length),(1,I e')],[],0⟩
theorem vk (ms:List Mx)(hm:FI ms)(e:Nat)(he:e<=1000000):ae prog 78 [.az (ms.flatMap cP) ms.length,I e] (I (lj ms e)):=by
 have Ua:=hm.1;rw[<- ND];refine ae.aD af Tryz.func78 rfl Bw (by simp[Tryz.ntmps78]) rfl λ C hC M0=>?_;rw[Tryz.ntmps78] at hC;apply aq;simp[hC];apply aW;simp[hC];refine T.cond (b:=false) Tt (T.skip ?_);simp;apply aW;simp[hC];apply T.block;refine T.aI (J80n ms e) (n:=ms.length) ?_ ?_
 .refine aa.trim [11,10,9,1] [] 0 xr yA ⟨0,e,by omega,by omega,by simp,by omega,?_⟩;simp
 .rintro n s ⟨i,e',rfl,hi,VD,hee,rfl⟩;by_cases Jz:i<ms.length
  .obtain⟨m,Wy⟩:∃ m,ms[i]? = some m:=⟨_,getElem?_eq_getElem Jz⟩;have TR:=aL (f:=cP) (n:=3) mW Wy;have SB:=Au m;have MY:trees [.agg (cP m)]=true:=rfl;have wi:=cr ((i:Int)+1) yA yA;have OZ:ms.drop i=m::ms.drop (i+1):=by rw[drop_eq_getElem_cons Jz];simp[(List.getElem?_eq_some_iff.1 Wy).2]
   rw[OZ,NF] at VD;apply aq;simp[hC,Jz];refine T.seq (T.cond (b:=true) rfl (T.skip ?_));simp;apply eE;apply aq;simp[hC,Jz,TR,cP];apply aW;simp[hC];refine cS MY SB ?_;by_cases P1:e' < max m.size 1
   .rw[if_pos P1] at VD;have Um:(e':Int)<((max m.size 1:Nat):Int):=by omega
    simp[hC,Um];refine du ?_;simp;apply aq;simp[hC];apply T.ret;apply aa.here;simp[Tryz.results78,VD]
   .rw[if_neg P1] at VD;have Um:¬ (e':Int)<((max m.size 1:Nat):Int):=by omega
    have wd:=cr ((e':Int)-((max m.size 1:Nat):Int)) yA yA;have wd2:(e':Int)-((max m.size 1:Nat):Int)=((e' - max m.size 1:Nat):Int):=by omega
    simp[hC,Um];refine gk ?_;simp;apply aM;simp[hC];refine cS MY SB ?_;rw[wd2] at wd;simp only[hC];simp[wd,wd2];apply aM;simp[hC,wi];refine⟨ms.length-(i+1),by omega,aa.trim [11,10,9,1] [] 0 xr yA ⟨i+1,e' - max m.size 1,rfl,by omega,VD,by omega,?_⟩⟩;simp
  .have Rz:i=ms.length:=by omega
   subst Rz;simp[NF] at VD;apply aq;simp[hC];apply T.seq;refine T.cond (b:=false) rfl (T.exit ?_);simp;apply aq;simp[hC];apply T.ret;apply aa.here;simp[Tryz.results78,VD]
theorem y4 (th:Nat):∀ (W:List Ho) (i:Nat) (h:Ho),W[i]? = some h->qo th (W.take (i+1))=qo th (W.take i)+(if h.o=th+1 then h.d else 0)
 | [],i,h,e=>by simp at e
 | x::W,0,h,e=>by
  simp at e;subst e;simp[qo]
 | x::W,i+1,h,e=>by
  simp only[getElem?_cons_succ] at e;rw[take_succ_cons,qo,y4 th W i h e,take_succ_cons,qo];omega
def J46 (W:List Ho)(th n:Nat)(s:St):Prop:=∃ i:Nat,n=W.length-i/\i<=W.length/\
 s=⟨[(41,I i),(40,I W.length),(39,.az (W.flatMap dN) W.length),(10,I (qo th (W.take i))),(3,I th)],[],0⟩
theorem uD (ms:List Mx)(hm:FI ms)(tb:List Ho)(m th:Nat)(x:Mx)(hx:ms[m]? = some x)(hl:tb.length=(bT ms).length)(_ht:th<=1000000)(hd:∀ h∈tb,h.d<=1000000/\h.o<=1000000) :
  ae prog 25 [.az (ms.flatMap cP) ms.length,.az (tb.flatMap dN) tb.length,I m,I th] (I (ck ms tb m th)):=by
 have P1:=(List.getElem?_eq_some_iff.1 hx).1;have hba:=Cu ms hm m x hx;have SB:=Au x;have MY:trees [.az (ms.flatMap cP) ms.length,I m]=true:=by simp only[trees,tree,Bool.and_self]
 have Tk:trees [.agg (cP x)]=true:=rfl;have hw:=x8 m th ms 0 tb x hl yA (by simpa using hx);rw[Nat.sub_zero] at hw;have UD:=aL (f:=cP) (n:=3) mW hx;have SK:dq (ms.take m)+max x.size 1<=tb.length:=by
  have h1:ms.take (m+1)=ms.take m++[x]:=by rw[take_add_one,hx];rfl
  have h2:=qd (ms.take (m+1)) (ms.drop (m+1));rw[take_append_drop,h1,qd] at h2;simp only[dq] at h2;rw[hl,bT,uP];omega
 have ZY:=pe ms 0 hm.2;have Ua:=hm.1;have SM:tb.length<=1000000:=by rw[hl,bT];omega
 have UX:ck ms tb m th=qo th ((tb.drop (dq (ms.take m))).take (max x.size 1)):=hw;rw[UX];have Tg:take (max x.size 1*2) (drop (dq (ms.take m)*2) (tb.flatMap dN))=((tb.drop (dq (ms.take m))).take (max x.size 1)).flatMap dN:=by
  rw[uN dh,uM dh]
 have Wb:((tb.drop (dq (ms.take m))).take (max x.size 1)).length=max x.size 1:=by simp;omega
 have hWd:∀ h∈(tb.drop (dq (ms.take m))).take (max x.size 1),h.d<=1000000/\h.o<=1000000:=λ h hh=>hd h (mem_of_mem_drop (mem_of_mem_take hh));generalize (tb.drop (dq (ms.take m))).take (max x.size 1)=W at Tg Wb hWd |-;generalize dq (ms.take m)=b at hba SK Tg;have wb:=cr ((b:Int)+((max x.size 1:Nat):Int)) yA yA;refine ae.aD af Tryz.func25 rfl Bw (by simp[Tryz.ntmps25]) rfl λ C hC M0=>?_;rw[Tryz.ntmps25] at hC;apply aq;simp[hC];apply aq;simp[hC];refine cS MY hba ?_;simp[hC];apply aW;simp[hC];refine T.cond (b:=false) Tt (T.skip ?_);simp;apply aq;simp[hC];apply aq;simp[hC,P1,UD,cP];refine cS Tk SB ?_;generalize hM:max x.size 1=M at SB SK Tg Wb wb;have Yl:(b:Int)+(M:Int)=((b+M:Nat):Int):=by omega
 have hmn:¬ (tb.length:Int)<((b+M:Nat):Int):=by omega
 have TF:¬ ((b+M:Nat):Int)<(b:Int):=by omega
 rw[Yl] at wb;simp only[hC];simp[-Int.natCast_add,Yl,wb,hmn];refine T.seq (T.seq (T.region (TL.some af 6 ?_)));simp[-Int.natCast_add,hC,TF];refine gW rfl (zh af (e:=122) (cs:=tb.flatMap dN) (len:=tb.length) (l:=b) (n:=b+M) (m:=b+M) Rg rfl xr xr rfl (by simp[dM,ev,assoc]) (by simp[-Int.natCast_add,dM,ev,assoc]) (by simp[-Int.natCast_add,dM,ev,assoc]) ⟨by omega,by omega,by omega⟩) (TL.go' af ?_);rw[show b+M-b=M by omega];simp[-Int.natCast_add,hC,Tg];apply T.block;rw[<- Wb];have tW:trees (W.flatMap dN)=true:=ak cm _;refine T.aI (J46 W th) (n:=W.length) ?_ ?_
 .refine aa.trim [41,40,39,10,3] [] 0 xr yA ⟨0,by omega,by omega,?_⟩;simp[qo]
 .rintro n s ⟨i,rfl,hi,rfl⟩;by_cases Jz:i<W.length
  .obtain⟨h,hh⟩:∃ h,W[i]? = some h:=⟨_,getElem?_eq_getElem Jz⟩;have Sz:=y4 th W i h hh;have Ym:=FO th (W.take (i+1)) λ y hy=>(hWd y (mem_of_mem_take hy)).1;have hWt:(W.take (i+1)).length<=1000000:=by simp;omega
   generalize qo th (W.take i)=D at Sz;have WI:=aL (f:=dN) (n:=2) dh hh;have wi:=cr ((i:Int)+1) yA yA;have hho:=(hWd h (mem_of_getElem? hh)).2;have wo:=cr ((h.o:Int)-1) yA yA;apply aq;simp[hC,Jz];refine T.seq (T.cond (b:=true) rfl (T.skip ?_));simp;apply eE;apply aq;simp[hC,Jz,WI,dN];by_cases WO:h.o=th+1
   .rw[if_pos WO] at Sz;have W1:((h.o:Int)-1 == (th:Int))=true:=by rw[beq_iff_eq];omega
    have wd:=cr ((D:Int)+h.d) yA yA;apply aq;simp[hC,wo,W1];refine du ?_;simp;apply aM;simp[hC,wd];apply aM;simp[hC,wi];refine⟨W.length-(i+1),by omega,aa.trim [41,40,39,10,3] [] 0 xr yA ⟨i+1,rfl,by omega,?_⟩⟩;simp[Sz]
   .rw[if_neg WO] at Sz;have W1:((h.o:Int)-1 == (th:Int))=false:=by rw[beq_eq_false_iff_ne];omega
    apply aq;simp[hC,wo,W1];refine gk ?_;simp;apply aM;simp[hC,wi];refine⟨W.length-(i+1),by omega,aa.trim [41,40,39,10,3] [] 0 xr yA ⟨i+1,rfl,by omega,?_⟩⟩;simp[Sz]
  .have Rz:i=W.length:=by omega
   subst Rz;apply aq;simp[hC];apply T.seq;refine T.cond (b:=false) Tt ?_;simp;apply T.exit;simp;apply aq;simp[hC];apply T.ret;apply aa.here;simp[Tryz.results25]
end Go.Proofs.YtlkmbdfhdknlgaaGreat
