/- A run: its states and what -/
import Derived.Test.YtlkmbdfhdknlgaaGreatV40
namespace Go.Proofs.YtlkmbdfhdknlgaaGreat
open Go.Can Go.aV List
def I1 (s:Sy)(t:Nat)(l0:List Fr)(f:Fr)(k:Nat)(gl:Bool)(e:Ex):Sy:=
 if (aW s.gs f.ay e).2=0 then
  (if gl=true then { s with gs:=s.gs.set k (aW s.gs f.ay e).1,ts:=s.ts.set t (l0++[{ f with pc:=f.pc+1 }]) }
   else { s with ts:=s.ts.set t (l0++[{ f with pc:=f.pc+1,ay:=f.ay.set k (aW s.gs f.ay e).1 }]) })
 else { s with fault:=(aW s.gs f.ay e).2 }
def I5 (u:Un)(s:Sy)(t:Nat)(l0:List Fr)(f:Fr)(tg n:Nat)(es:List Ex)(ps:List Pl):Sy:=
 if (fw u s t f tg n es ps).2=0 then
  (if 32<=s.ts.length then { s with fault:=4 } else { s with ts:=s.ts.set t (l0++[{ f with pc:=f.pc+1 }])++[[(fw u s t f tg n es ps).1]] })
 else { s with fault:=(fw u s t f tg n es ps).2 }
def sj (u:Un)(tg:Nat):Nat:=match u.ps[tg]? with
 | some q=>q.locals
 | none=>0
def ib (u:Un)(s:Sy)(t:Nat)(l0:List Fr)(f:Fr):In->Sy×Bool
 | .set k gl e=>(I1 s t l0 f k gl e,true)
 | .call go tg es ps=>(if go=true then I5 u s t l0 f tg (sj u tg) es ps else Jc u s t l0 f tg (sj u tg) es ps,true)
 | .lock un p=>if un=true then EE u s t l0 f p else Fw u s t l0 f p
 | .branch g e=>(Jd s t l0 f g e,true)
 | .jump g=>({ s with ts:=s.ts.set t (l0++[{ f with pc:=g }]) },true)
 | .ret=>({ s with ts:=s.ts.set t l0 },true)
def fy (u:Un)(s:Sy)(t:Int):Sy×Bool:=match cN s t with
 | none=>(s,false)
 | some f=>match dR u s t with
  | none=>(s,false)
  | some i=>ib u s t.toNat ((s.ts.getD t.toNat []).dropLast) f i
def oc (ms:List Mx)(e:Nat):Nat:=(a6 ms).getD e 0
def mG (ms:List Mx)(f:Fr):Is:=⟨f.proc,f.b9.map (oc ms)⟩
structure IX (u:Un)(f:Fr):Prop where
 q:∃ q,u.ps[f.proc]? = some q/\f.pc<q.code.length/\f.ay.length=q.locals/\f.b9.length=q.bz
 el:∀ e∈f.b9,e<(a6 u.ms).length
 ic:mG u.ms f∈(cc u).is
structure nK (u:Un)(k:Nat)(s:Sy):Prop where
 gs:s.gs.length=u.gs.length
 tb:s.tb.length=(a6 u.ms).length
 hd:∀ h∈s.tb,h.d<=k/\(h.o≠0->0<h.d)
 ho:∀ h∈s.tb,h.o<=32
 ts:1<=s.ts.length/\s.ts.length<=32
 fl:∀ l∈s.ts,l.length<=k+1
 fr:∀ l∈s.ts,∀ f∈l,IX u f
theorem mj {u:Un}(h:jx u):ua u.ms:=⟨by have:=h.nm;omega,λ m hm=>by have:=(h.mz m hm).1;omega⟩
theorem vl:∀ (l:List Mx) (s:Nat),(∀ m∈l,m.size<=3)->(bx l s).length<=3*l.length
 | [],s,_=>by simp[bx]
 | m::r,s,h=>by
  have h1:=h m mem_cons_self;have h2:=vl r (s+1) λ x hx=>h x (mem_cons_of_mem _ hx);simp only[bx,length_append,length_replicate,length_cons];omega
theorem yv {u:Un}(h:jx u):(a6 u.ms).length<=12:=by
 have h1:=vl u.ms 0 λ m hm=>(h.mz m hm).1;have:=h.nm;rw[a6];omega
theorem vk:∀ (l:List Mx) (s:Nat),∀ m∈bx l s,m<s+l.length
 | [],s,m,h=>by simp[bx] at h
 | x::r,s,m,h=>by
  rw[bx,mem_append] at h;rcases h with h | h
  .have:=eq_of_mem_replicate h;rw[length_cons];omega
  .have:=vk r (s+1) m h;rw[length_cons];omega
theorem xF (ms:List Mx):∀ m∈a6 ms,m<ms.length:=λ m h=>by simpa using vk ms 0 m h
theorem yh (m:Nat):∀ (ms:List Mx) (i j:Nat) (x:Mx),i<=m->ms[m-i]? = some x->∃ k:Nat,kB (bx ms i) m j=((j+k:Nat):Int)/\∀ d,d<max x.size 1->(bx ms i)[k+d]? = some m
 | [],i,j,x,_,h=>by simp at h
 | y::r,i,j,x,hi,h=>by
  rw[bx];by_cases he:i=m
  .subst he;simp at h;subst h;refine⟨0,?_,λ d hd=>?_⟩
   .obtain⟨n,hn⟩:∃ n,max y.size 1=n+1:=⟨max y.size 1-1,by omega⟩;rw[hn,replicate_succ,cons_append,kB,if_pos rfl];simp
   .rw[getElem?_append_left PA,Nat.zero_add,getElem?_replicate,if_pos hd]
  .rw[mX i m he];have h2:r[m-(i+1)]? = some x:=by
    have:m-i=(m-(i+1))+1:=by omega
    rw[this,getElem?_cons_succ] at h;exact h
   obtain⟨k,h3,h4⟩:=yh m r (i+1) (j+max y.size 1) x yA h2;refine⟨max y.size 1+k,by rw[h3];congr 1;omega,λ d hd=>?_⟩;rw[getElem?_append_right PA];rw[length_replicate,show max y.size 1+k+d-max y.size 1=k+d by omega];exact h4 d hd
theorem mN {u:Un}(hu:jx u){s:Sy}{t:Int}{p:Pl}{f:Fr}(ht:cN s t=some f)(hf:IX u f)(hv:pN u.ms s.gs.length f.ay.length f.b9.length p){n:Nat}(he:aZ u s t p=((n:Int),0)) :
  n<(a6 u.ms).length/\oc u.ms n=lC (mG u.ms f) p:=by
 unfold aZ at he;rw[ht] at he;simp only at he;rcases hv with ⟨h1,h2,h3⟩ | ⟨h1,m,hm,h3⟩
 .rw[if_pos h1] at he;simp only[Prod.mk.injEq,and_true] at he;have hg:f.b9[p.index]? = some f.b9[p.index]:=getElem?_eq_getElem h2;have hn:f.b9[p.index]=n:=by
   have:f.b9.getD p.index 0=f.b9[p.index]:=by simp[getD_eq_getElem?_getD,hg]
   omega
  refine⟨by rw[<- hn];exact hf.el _ (getElem_mem h2),?_⟩;simp only[lC,h1,if_true,mG];rw[getD_eq_getElem?_getD,getElem?_map,hg,<- hn];rfl
 .rw[if_neg (by rw[h1];decide)] at he;split at he
  .rename_i h0;simp only[Prod.mk.injEq,and_true] at he;obtain⟨k,hk,ho⟩:=yh p.index u.ms 0 0 m yA (by simpa using hm);obtain⟨j,hj,QL⟩:∃ j:Nat,(ej u.ms s.gs f.ay p).1=j/\j<max m.size 1:=by
    unfold ej at h0 |-;rcases h3 with ⟨h,hz⟩ | ⟨e,h,hz,_⟩
    .rw[h];exact⟨0,rfl,by omega⟩
    .rw[h] at h0 |-;simp only[hm] at h0 |-;split
     .rename_i h5;rw[if_pos h5] at h0;split
      .rename_i h6;rw[if_pos h6] at h0;cases h0
      .rename_i h6;exact⟨(aW s.gs f.ay e).1.toNat,by simp only;omega,by omega⟩
     .rename_i h5;rw[if_neg h5] at h0;exact (h5 h0).elim
   have Sf:=yv hu;have OT:=(List.getElem?_eq_some_iff.1 (ho j QL)).1;rw[a6] at Sf;rw[show tv u.ms p.index=((0+k:Nat):Int) from hk,hj,wr,cw _ yA yA] at he;have hn:n=k+j:=by omega
   subst hn;refine⟨OT,?_⟩;simp only[lC,h1,Bool.false_eq_true,if_false,oc];rw[getD_eq_getElem?_getD,a6,ho j QL];rfl
  .rename_i h0;simp only[Prod.mk.injEq] at he;exact (h0 he.2).elim
theorem mK (gs ls:List Int):∀ es:List Ex,(cR gs ls es).2=0->(cR gs ls es).1.length=es.length
 | [],_=>rfl
 | e::r,h=>by
  unfold cR at h |-;split
  .rename_i h1;rw[if_pos h1] at h;simp[mK gs ls r h]
  .rename_i h1;rw[if_neg h1] at h;exact (h1 h).elim
theorem p9 {u:Un}(hu:jx u){s:Sy}{t:Int}{f:Fr}(ht:cN s t=some f)(hf:IX u f):∀ ps:List Pl,(∀ p∈ps,pN u.ms s.gs.length f.ay.length f.b9.length p)->(dc u s t ps).2=0 ->
  (∀ e∈(dc u s t ps).1,e<(a6 u.ms).length)/\(dc u s t ps).1.map (oc u.ms)=ps.map (lC (mG u.ms f))
 | [],_,_=>⟨(λ e he=>by cases he),rfl⟩
 | p::r,hv,h=>by
  unfold dc at h |-;split
  .rename_i h1;rw[if_pos h1] at h;obtain⟨n,hn⟩:=gh u s t p (mj hu) f ht (hv p mem_cons_self);obtain⟨k1,k2⟩:=mN hu ht hf (hv p mem_cons_self) (n:=n) (Prod.ext hn h1);obtain⟨k3,k4⟩:=p9 hu ht hf r (λ q hq=>hv q (mem_cons_of_mem _ hq)) h;have hz:(aZ u s t p).1.toNat=n:=by omega
   refine⟨λ e he=>?_,?_⟩
   .simp only[mem_cons] at he;rcases he with rfl | he
    .rw[hz];exact k1
    .exact k3 e he
   .simp only[map_cons,k4,hz,k2]
  .rename_i h1;rw[if_neg h1] at h;exact (h1 h).elim
theorem IX.pc {u:Un}{f:Fr}(h:IX u f){q:Pr}(hq:u.ps[f.proc]? = some q){g:Nat}(hg:g<q.code.length):IX u { f with pc:=g }:=by
 obtain⟨q',h1,_,h3,h4⟩:=h.q;rw[hq] at h1;cases h1;exact⟨⟨q,hq,hg,h3,h4⟩,h.el,h.ic⟩
theorem uB {u:Un}(hu:jx u){f:Fr}{q:Pr}(hq:u.ps[f.proc]? = some q){i:In}(hi:q.code[f.pc]? = some i)(hr:i≠.ret):f.pc+1<q.code.length:=by
 obtain⟨⟨c,hc⟩,_⟩:=hu.pc q (mem_of_getElem? hq);rw[hc] at hi |-;have h1:=(List.getElem?_eq_some_iff.1 hi).1;simp only[length_append,length_singleton] at h1 |-;by_cases h:f.pc=c.length
 .rw[h] at hi;simp at hi;exact (hr hi.symm).elim
 .omega
theorem oJ {s:Sy}{t:Int}{f:Fr}(h:cN s t=some f):∃ (n:Nat) (l0:List Fr),t=n/\s.ts[n]? = some (l0++[f])/\s.fault=0/\(s.ts.getD n []).dropLast=l0:=by
 unfold cN at h;split at h
 .cases h
 .rename_i h0;split at h
  .rename_i l hl;obtain⟨l0,rfl⟩:=getLast?_eq_some_iff.1 h;refine⟨t.toNat,l0,by omega,hl,?_,?_⟩
   .by_cases hz:s.fault=0
    .exact hz
    .exact (h0 (.inr hz)).elim
   .rw[getD_eq_getElem?_getD,hl];simp
  .cases h
section
variable {u:Un}(hu:jx u){k:Nat}{s:Sy}(hs:nK u k s){t:Nat}{l0:List Fr}{f:Fr}(hl:s.ts[t]? = some (l0++[f]))
include hs hl
theorem nK.set {gs:List Int}{tb:List Ho}{l:List Fr}{fa:Nat}(h1:gs.length=s.gs.length)(h2:tb.length=s.tb.length)(h3:∀ h∈tb,h.d<=k+1/\(h.o≠0->0<h.d))(h6:∀ h∈tb,h.o<=32)(h4:l.length<=k+2)(h5:∀ f∈l,IX u f):nK u (k+1) ⟨gs,tb,s.ts.set t l,fa⟩:=by
 have _:=hl;refine⟨by rw[h1,hs.gs],by rw[h2,hs.tb],h3,h6,by rw[length_set];exact hs.ts,λ l' h=>?_,λ l' h=>?_⟩
 .rcases mem_or_eq_of_mem_set h with h | rfl
  .have:=hs.fl l' h;omega
  .omega
 .rcases mem_or_eq_of_mem_set h with h | rfl
  .exact hs.fr l' h
  .exact h5
theorem nK.fX:(∀ g∈l0,IX u g)/\IX u f/\l0.length<=k/\(∀ h∈s.tb,h.d<=k+1/\(h.o≠0->0<h.d)):=by
 have hm:=mem_of_getElem? hl;have h1:=hs.fr _ hm;have h2:=hs.fl _ hm;refine⟨λ g hg=>h1 g (by simp[hg]),h1 f xr,by simp at h2;omega,λ h hh=>?_⟩;have:=hs.hd h hh;exact⟨by omega,this.2⟩
omit hl in
theorem nK.og {fa:Nat}:nK u (k+1) { s with fault:=fa }:=by
 refine⟨hs.gs,hs.tb,λ h hh=>?_,hs.ho,hs.ts,λ l hl=>?_,hs.fr⟩
 .have:=hs.hd h hh;exact⟨by omega,this.2⟩
 .have:=hs.fl l hl;omega
include hu
theorem Dw (ht:cN s t=some f){q:Pr}(hq:u.ps[f.proc]? = some q){i:In}(hi:q.code[f.pc]? = some i):nK u (k+1) (ib u s t l0 f i).1:=by
 obtain⟨o1,o2,o3,o4⟩:=hs.fX hl;obtain⟨q',QS,gJ,Tm,O7⟩:=o2.q;rw[hq] at QS;cases QS;have ht32:t<32:=Nat.lt_of_lt_of_le (List.getElem?_eq_some_iff.1 hl).1 hs.ts.2;have QW:=(hu.pc q (mem_of_getElem? hq)).2 i (mem_of_getElem? hi);rw[<- hs.gs,<- Tm,<- O7] at QW;have fin:∀ {gs:List Int} {tb:List Ho} {g:Nat} {vs:List Int},gs.length=s.gs.length->tb.length=s.tb.length->(∀ h∈tb,h.d<=k+1/\(h.o≠0->0<h.d))->(∀ h∈tb,h.o<=32)->g<q.code.length->vs.length=f.ay.length->nK u (k+1) ⟨gs,tb,s.ts.set t (l0++[⟨f.proc,g,vs,f.b9⟩]),s.fault⟩:=λ {gs tb g vs} h1 h2 h3 h6 h4 h5=>by
  refine hs.set hl h1 h2 h3 h6 PA λ g' V1=>?_;rcases mem_append.1 V1 with V1 | V1
  .exact o1 g' V1
  .rw[mem_singleton.1 V1];exact⟨⟨q,hq,h4,by rw[h5];exact Tm,O7⟩,o2.el,o2.ic⟩
 cases i with
 | set k' gl e=>
  have hn:=uB hu hq hi xr;simp only[ib,I1];split
  .split
   .exact fin xr rfl o4 hs.ho hn rfl
   .exact fin rfl rfl o4 hs.ho hn xr
  .exact hs.og
 | branch g e=>
  have hn:=uB hu hq hi xr;simp only[ib,Jd];split
  .refine fin rfl rfl o4 hs.ho ?_ rfl;split
   .have:=QW.1;omega
   .exact hn
  .exact hs.og
 | jump g=>
  have:g<=q.code.length-1:=QW;exact fin rfl rfl o4 hs.ho yA rfl
 | ret=>exact hs.set hl rfl rfl o4 hs.ho yA o1
 | lock un p=>
  have hn:=uB hu hq hi xr;simp only[ib];split
  .simp only[EE];split
   .split
    .refine fin rfl ?_ ?_ ?_ hn rfl
     .unfold da;split
      .split<;>simp
      .rfl
     .unfold da;split
      .rename_i h h1 h2;split
       .rename_i h3;have ho:=hs.hd h (mem_of_getElem? h2);intro x hx;rcases mem_or_eq_of_mem_set hx with hx | hx
        .exact o4 x hx
        .rw[hx];split
         .exact⟨by simp only;omega,λ h=>(h rfl).elim⟩
         .have:=ho.2 yA;exact⟨by simp only;omega,λ _=>by simp only;omega⟩
       .exact o4
      .exact o4
     .unfold da;split
      .split
       .intro x hx;rcases mem_or_eq_of_mem_set hx with hx | hx
        .exact hs.ho x hx
        .rw[hx];split<;>simp only<;>omega
       .exact hs.ho
      .exact hs.ho
    .exact hs.og
   .exact hs.og
  .simp only[Fw];split
   .split
    .refine fin rfl ?_ ?_ ?_ hn rfl
     .unfold er;split<;>simp
     .unfold er;split
      .intro x hx;rcases mem_or_eq_of_mem_set hx with hx | hx
       .exact o4 x hx
       .rw[hx];refine⟨?_,λ _=>by simp only;omega⟩;simp only;split
        .rename_i h h1;have:=(hs.hd h (mem_of_getElem? h1)).1;omega
        .omega
      .exact o4
     .unfold er;split
      .intro x hx;rcases mem_or_eq_of_mem_set hx with hx | hx
       .exact hs.ho x hx
       .rw[hx];simp only;omega
      .exact hs.ho
    .exact hs.og (fa:=s.fault)
   .exact hs.og
 | call go tg es ps=>
  have hn:=uB hu hq hi xr;obtain⟨c1,c2,c3⟩:=QW;rw[getElem?_map,Option.map_eq_some_iff] at c1;obtain⟨qq,Ru,c4⟩:=c1;simp only[Prod.mk.injEq] at c4;have XT:=hu.pr qq (mem_of_getElem? Ru);have ZN:=uI hu;have Tp:sj u tg=qq.locals:=by simp only[sj,Ru]
  have PW:(fw u s t f tg (sj u tg) es ps).2=0->IX u (fw u s t f tg (sj u tg) es ps).1:=λ h0=>by
   unfold fw at h0 |-;split
   .rename_i h1;rw[if_pos h1] at h0;split
    .rename_i h2;obtain⟨k1,k2⟩:=p9 hu ht o2 ps c3 h2;have k3:=mK s.gs f.ay es h1;have k4:=congrArg length k2;simp only[length_map] at k4;have hqc:=(hu.pc qq (mem_of_getElem? Ru)).1;refine⟨⟨qq,Ru,?_,?_,?_⟩,k1,?_⟩
     .obtain⟨c,hc⟩:=hqc;rw[hc];simp
     .simp only[length_append,length_replicate,k3,Tp];omega
     .simp only;omega
     .simp only[mG,k2];obtain⟨j,hj⟩:=mem_iff_getElem?.1 o2.ic;refine ZN.mem j _ (List.getElem?_eq_some_iff.1 hj).1 hj (.call go tg es ps) ?_ _ rfl;simp only[bN,mG,hq];exact mem_of_getElem? hi
    .rename_i h2;rw[if_neg h2] at h0;exact (h2 h0).elim
   .rename_i h1;rw[if_neg h1] at h0;exact (h1 h0).elim
  simp only[ib];split
  .simp only[I5];split
   .rename_i h0;split
    .exact hs.og
    .rename_i Vr;have hb:=fin (gs:=s.gs) (tb:=s.tb) (vs:=f.ay) rfl rfl o4 hs.ho hn rfl;refine⟨hb.gs,hb.tb,hb.hd,hb.ho,by simp only[length_append,length_set,length_singleton];omega,λ l h=>?_,λ l h=>?_⟩
     .rcases mem_append.1 h with h | h
      .exact hb.fl l h
      .rw[mem_singleton.1 h];simp
     .rcases mem_append.1 h with h | h
      .exact hb.fr l h
      .rw[mem_singleton.1 h];intro g hg;rw[mem_singleton.1 hg];exact PW h0
   .exact hs.og
  .simp only[Jc];split
   .rename_i h0;refine hs.set hl rfl rfl o4 hs.ho PA λ g hg=>?_;simp only[mem_append,mem_cons,not_mem_nil,or_false] at hg;rcases hg with hg | rfl | rfl
    .exact o1 g hg
    .exact o2.pc hq hn
    .exact PW h0
   .exact hs.og
end
theorem nK.frs {u:Un}{k:Nat}{s:Sy}(h:nK u k s):ur u s:=λ l hl f hf=>by
 obtain⟨q,h1,h2,_⟩:=(h.fr l hl f hf).q;exact⟨q,h1,h2⟩
theorem qz {u:Un}(hu:jx u){k:Nat}{s:Sy}(hs:nK u k s)(t:Int):nK u (k+1) (fy u s t).1:=by
 unfold fy;split
 .exact hs.og (fa:=s.fault)
 .rename_i f hf;split
  .exact hs.og (fa:=s.fault)
  .rename_i i hi;obtain⟨n,l0,rfl,hl,_,hd⟩:=oJ hf;obtain⟨q,hq,gJ,_,_⟩:=(hs.fX hl).2.1.q;simp only[dR,hf,hq] at hi;rw[Int.toNat_natCast,hd];exact Dw hu hs hl hf hq hi
theorem yf (u:Un):∀ (f i:Nat) (l:List Is) (cs:List (List Int)) (r:List Nat) (x:Is),l[0]? = some x->(mT u f i l cs r).is[0]? = some x
 | 0,_,_,_,_,_,h=>h
 | f+1,i,l,cs,r,x,h=>by
  simp only[mT];split
  .exact h
  .rename_i y hy;refine yf u f (i+1) _ _ _ x ?_;obtain⟨t,ht⟩:=qA y (bN u y) l r;rw[ht,getElem?_append_left (List.getElem?_eq_some_iff.1 h).1];exact h
theorem vt {u:Un}(hu:jx u):nK u 0 (iJ u):=by
 have hp:=hu.np.1;obtain⟨q,hq⟩:∃ q,u.ps[u.main]? = some q:=⟨_,getElem?_eq_getElem (by rw[hu.main];omega)⟩;refine⟨rfl,by simp[iJ],λ h hh=>?_,λ h hh=>?_,by simp[iJ],λ l hl=>?_,λ l hl f hf=>?_⟩
 .have:=eq_of_mem_replicate hh;rw[this];exact⟨Nat.zero_le _,λ h=>(h rfl).elim⟩
 .have:=eq_of_mem_replicate hh;rw[this];exact Nat.zero_le _
 .rw[mem_singleton.1 hl];simp
 .rw[mem_singleton.1 hl] at hf;rw[mem_singleton.1 hf];refine⟨⟨q,hq,?_,by simp[hq],?_⟩,(λ e he=>by cases he),?_⟩
  .obtain⟨⟨c,hc⟩,_⟩:=hu.pc q (mem_of_getElem? hq);rw[hc];simp
  .rw[hu.main] at hq;simp[(hu.p0 q hq).2]
  .exact mem_of_getElem? (yf u 100 0 [⟨u.main,[]⟩] [] [0] ⟨u.main,[]⟩ rfl)
def nZ (u:Un):List Int->Sy->Sy
 | [],s=>s
 | t::r,s=>nZ u r (if (fy u s t).2=true then (fy u s t).1 else s)
theorem nK.mono {u:Un}{k k':Nat}{s:Sy}(h:nK u k s)(hk:k<=k'):nK u k' s:=by
 refine⟨h.gs,h.tb,λ x hx=>?_,h.ho,h.ts,λ l hl=>?_,h.fr⟩
 .have:=h.hd x hx;exact⟨by omega,this.2⟩
 .have:=h.fl l hl;omega
theorem Cs {u:Un}(hu:jx u):∀ (l:List Int) {k:Nat} {s:Sy},nK u k s->nK u (k+l.length) (nZ u l s)
 | [],_,_,h=>h
 | t::r,k,s,h=>by
  have h1:nK u (k+1) (if (fy u s t).2=true then (fy u s t).1 else s):=by
   split
   .exact qz hu h t
   .exact h.mono yA
  have:=Cs hu r h1;simp only[nZ,length_cons];rw[show k+(r.length+1)=k+1+r.length by omega];exact this
end Go.Proofs.YtlkmbdfhdknlgaaGreat
namespace Go.aV
open Go.Can List
def dV:List Mx->Nat
 | []=>0
 | m::r=>max m.size 1+dV r
def J7:List Mx->Nat->Nat->Int
 | [],_,_=>-1
 | m::r,e,i=>if e<max m.size 1 then i else J7 r (e-max m.size 1) (i+1)
def pe (th:Nat):List Ho->Nat
 | []=>0
 | h::r=>(if h.o=th+1 then h.d else 0)+pe th r
theorem x7:∀ (ms:List Mx) (i:Nat),(bx ms i).length=dV ms
 | [],_=>rfl
 | m::r,i=>by simp[bx,dV,x7 r (i+1)]
theorem oU:∀ (a b:List Mx),dV (a++b)=dV a+dV b
 | [],b=>by simp[dV]
 | m::r,b=>by
  rw[cons_append,dV,dV,oU r b];omega
def oI:Option Nat->Int
 | some m=>m
 | none=>-1
theorem DT:∀ (ms:List Mx) (e i:Nat),J7 ms e i=oI (bx ms i)[e]?
 | [],e,i=>by simp[J7,bx,oI]
 | m::r,e,i=>by
  rw[J7,bx];split
  .rename_i h;rw[getElem?_append_left PA,getElem?_replicate,if_pos h];rfl
  .rename_i h;rw[getElem?_append_right PA,length_replicate,DT r]
theorem J5 (ms:List Mx)(e:Nat):J7 ms e 0=e9 ms e:=by
 rw[DT,e9,if_neg yA,a6,Int.toNat_natCast];cases (bx ms 0)[e]?<;>rfl
theorem vW (m th:Nat):∀ (a b:List Nat) (ta tb:List Ho),a.length=ta.length->fH m th (a++b) (ta++tb)=fH m th a ta+fH m th b tb
 | [],b,ta,tb,h=>by
  have:ta=[]:=length_eq_zero_iff.1 h.symm;subst this;simp[fH]
 | x::a,b,ta,tb,h=>by
  obtain⟨y,ta,rfl⟩:∃ y r,ta=y::r:=by
   cases ta with
   | nil=>simp at h
   | cons y r=>exact⟨y,r,rfl⟩
  simp only[cons_append,fH];rw[vW m th a b ta tb Sa];omega
theorem oA (m th:Nat):∀ (a:List Nat) (ta:List Ho),(∀ x∈a,x≠m)->fH m th a ta=0
 | [],ta,_=>by cases ta<;>rfl
 | x::a,[],_=>rfl
 | x::a,h::ta,hx=>by
  rw[fH,if_neg (λ e=>hx x mem_cons_self e.1),oA m th a ta λ y hy=>hx y (mem_cons_of_mem _ hy)]
theorem vV (m th:Nat):∀ (n:Nat) (ta:List Ho),ta.length=n->fH m th (replicate n m) ta=pe th ta
 | 0,ta,h=>by
  have:ta=[]:=length_eq_zero_iff.1 h;subst this;rfl
 | n+1,[],h=>by simp at h
 | n+1,x::ta,h=>by
  rw[replicate_succ,fH,pe,vV m th n ta Sa];simp
theorem vm:∀ (l:List Mx) (s:Nat),∀ m∈bx l s,s<=m
 | [],s,m,h=>by simp[bx] at h
 | x::r,s,m,h=>by
  rw[bx,mem_append] at h;rcases h with h | h
  .have:=eq_of_mem_replicate h;omega
  .have:=vm r (s+1) m h;omega
theorem vU (m th:Nat):∀ (ms:List Mx) (i:Nat) (tb:List Ho) (x:Mx),tb.length=(bx ms i).length->i<=m->ms[m-i]? = some x ->
  fH m th (bx ms i) tb=pe th ((tb.drop (dV (ms.take (m-i)))).take (max x.size 1))
 | [],i,tb,x,_,_,h=>by simp at h
 | y::r,i,tb,x,hl,hi,h=>by
  rw[bx] at hl |-;rw[length_append,length_replicate] at hl;rw[<- take_append_drop (max y.size 1) tb,vW _ _ _ _ _ _ (by rw[length_replicate,length_take];omega),take_append_drop];by_cases he:i=m
  .subst he;simp at h;subst h;rw[vV _ _ _ _ (by rw[length_take];omega),oA i th (bx r (i+1)) _ λ z hz=>by have:=vm r (i+1) z hz;omega];simp[dV]
  .have h2:m-i=(m-(i+1))+1:=by omega
   rw[h2,getElem?_cons_succ] at h;rw[oA m th _ _ (λ z hz=>by have:=eq_of_mem_replicate hz;omega),vU m th r (i+1) _ x (by rw[length_drop];omega) yA h,h2,take_succ_cons,dV,drop_drop,Nat.zero_add]
theorem Ds (th:Nat):∀ l:List Ho,(∀ h∈l,h.d<=1000000)->pe th l<=1000000*l.length
 | [],_=>by simp[pe]
 | h::r,hh=>by
  have h1:=hh h mem_cons_self;have h2:=Ds th r λ x hx=>hh x (mem_cons_of_mem _ hx);rw[pe,length_cons];split<;>omega
end Go.aV
namespace Go.Can
open Go.RowKit
section
variable {P:Program}{C:Cx}{σ:Nat->Option OB}{s:St}{a:Act}{w:World}{ops:Array Oper}{av:List (Nat×TI)}
theorem rX (h:aO C σ s a w){lo:Option Operand}{hi mx:Operand}{len cap l n m:Nat}(hh:dJ s (some hi) 0=some n)(hl:dJ s lo 0=some l)(hm:dJ s (some mx) 0=some m)(h1:l<=n)(h2:n<=m)(h3:m<=cap) :
  (Instr.sliceBounds true len cap (lo.map a.eval) (some (a.eval hi)) (some (a.eval mx))).run P w=.ok (l,n,m) w:=by
 have e1:∀ (k:IntKind) (i:Int) (y:Nat) (code:BoundsCode),0<=i->i.toNat<=y->(Instr.sliceBound (.int k i) y code).run P w=.ok i.toNat w:=λ k i y code h0 h1=>by
  simp only[Instr.sliceBound,asIntOf,pure_bind];rw[if_pos ⟨h0,by omega⟩];rfl
 rcases mg h hh with ⟨h0,_⟩ | ⟨oh,kh,ih,h0,eh,h4,rfl⟩
 .cases h0
 rcases mg h hm with ⟨h5,_⟩ | ⟨om,km,im,h5,em,h6,rfl⟩
 .cases h5
 cases h0;cases h5;rcases mg h hl with ⟨rfl,rfl⟩ | ⟨ol,kl,il,rfl,el,h7,rfl⟩
 .simp[Instr.sliceBounds,eh,em,e1 _ _ _ _ h4 h2,e1 _ _ _ _ h6 h3]
 .simp[Instr.sliceBounds,eh,em,el,e1 _ _ _ _ h4 h2,e1 _ _ _ _ h6 h3,e1 _ _ _ _ h7 h1]
theorem xk (ht:aD P av){o:Oper}{t e:TypeId}{x:Operand}{lo:Option Operand}{hi mx:Operand}{cs:List CV}{len l n m:Nat}{ie:TI}(hd:bl C.nt o.dst=true)(ho:o.op=.slice t x lo (some hi) (some mx))(hx:ev s x=some (.au cs len))(h1:dM av t=some (.sl e))(h2:assoc av e=some ie)
  (hl:dJ s lo 0=some l) (hh:dJ s (some hi) 0=some n) (hm:dJ s (some mx) 0=some m) (hb:l<=n/\n<=m/\m<=len):qh P C o s (s.put o.dst (.au ((cs.drop (l*ie.size)).take ((n-l)*ie.size)) (n-l))):=by
 rintro a w ⟨σ,h⟩;obtain⟨it,Ps,PG⟩:=Option.map_eq_some_iff.1 h1;obtain⟨f,z,e1,e2,_⟩:=(ht e ie h2).info;have hv:=bG h hx;simp only[VR,cr] at hv;obtain⟨A,cap,hA,k1,k2,k3⟩:=hv;refine⟨w,.inl ⟨.slice (if m=l then A else A.map (·.add (l*ie.size))) (n-l) (m-l),?_,dX hd h ?_⟩⟩
 .simp[execOp,ho,hA,Instr.sliceAt,Instr.slice,bH (dI (ht t it Ps) PG),rX h hh hl hm hb.1 hb.2.1 (Nat.le_trans hb.2.2 k1),db e1,e2]
 .simp only[VR,cr];refine⟨_,_,rfl,by omega,by omega,?_⟩;rcases k3 with ⟨k3,rfl⟩ | ⟨ad,rfl,hm⟩
  .exact .inl ⟨by omega,by simp⟩
  .by_cases Re:n=l
   .exact .inl ⟨by omega,by simp[Re]⟩
   .refine .inr ⟨ad.add (l*ie.size),?_,fx.take _ _ _ (fx.drop _ _ _ hm)⟩;rw[if_neg yA];rfl
theorem F0 (ht:aD P av){o:Oper}{x:Operand}{xt A:TypeId}{c:CV}{ie:TI}(hd:bl C.nt o.dst=true)(ho:o.op=.typeAssert x xt A true)(hx:ev s x=some (.iface A [c]))(h1:assoc av A=some ie)(h2:ie.d=.Mz->False):qh P C o s (s.put o.dst (.bY [c,.bool true])):=by
 rintro a w ⟨σ,h⟩;have hv:=bG h hx;simp only[VR,a7] at hv;obtain⟨vs,e,v,r,rfl,hv,rfl⟩:=hv;simp only[Oy] at e;obtain⟨u,hu,hud⟩:=(ht A ie h1).zJ;have hn:∀ k,u≠.interface k:=λ k e=>h2 (by rw[<- hud,e];rfl);refine⟨w,.inl ⟨.tuple #[v,.bool true],?_,dX hd h ?_⟩⟩
 .have hr:(underlying A).run P w=.ok u w:=bH hu w;cases u<;>first | exact absurd rfl (hn _) | simp[execOp,ho,e,Instr.typeAssert,hr]
 .simp only[VR,a7];exact⟨[v,.bool true],rfl,v,[.bool true],rfl,hv,.bool true,[],rfl,rfl,rfl⟩
theorem Dj (ht:aD P av){o:Oper}{x:Operand}{xt A:TypeId}{c:CV}{ie:TI}{z:Value}(hd:bl C.nt o.dst=true)(ho:o.op=.typeAssert x xt A true)(hx:ev s x=some (.iface 0 []))(h1:assoc av A=some ie)(h2:ie.d=.Mz->False)(hzz:(P.info? A).bind (·.zero)=some z)(hc:qX z=some c):qh P C o s (s.put o.dst (.bY [c,.bool false])):=by
 rintro a w ⟨σ,h⟩;have hv:=bG h hx;simp only[VR,a7] at hv;obtain⟨vs,e,rfl⟩:=hv;simp only[Oy] at e;obtain⟨u,hu,hud⟩:=(ht A ie h1).zJ;have hn:∀ k,u≠.interface k:=λ k e=>h2 (by rw[<- hud,e];rfl);obtain⟨f,hi,hz⟩:=Option.bind_eq_some_iff.1 hzz;have Up:VR w (FB C σ s.heap) σ c z:=VR.cS _ _ (mS hc);refine⟨w,.inl ⟨.tuple #[z,.bool false],?_,dX hd h ?_⟩⟩
 .have hr:(underlying A).run P w=.ok u w:=bH hu w;cases u<;>first | exact absurd rfl (hn _) | simp[execOp,ho,e,Instr.typeAssert,hr,ig hi hz]
 .simp only[VR,a7];exact⟨[z,.bool false],rfl,z,[.bool false],rfl,Up,.bool false,[],rfl,rfl,rfl⟩
end
end Go.Can
namespace Go.Proofs.YtlkmbdfhdknlgaaGreat
open Go.Can Go.aV List Tryz
def mW (m:Mx):Nat:=if m.size=0/\m.re=false then 1 else 8
theorem JK (m:Mx):af prog 49 [.agg (cI m)] (I (mW m)):=by
 obtain⟨nm,re,sz⟩:=m;refine af.aC ag Tryz.func49 rfl GK (by simp[Tryz.ntmps49]) rfl λ C hC OR=>?_;rw[Tryz.ntmps49] at hC;simp only[cI];apply aq;simp[hC];by_cases hz:sz=0
 .subst hz
  cases re with
  | true=>
   apply aT;simp[hC];refine eQ ?_;simp;apply aq;simp[hC];apply T.ret;apply aa.here;simp[Tryz.results49,mW]
  | false=>
   apply aT;simp[hC];refine cX ?_;simp;apply aq;simp[hC];apply T.ret;apply aa.here;simp[Tryz.results49,mW]
 .apply aT;simp[hC,hz];refine eQ ?_;simp;apply aq;simp[hC];apply T.ret;apply aa.here;simp[Tryz.results49,mW,hz]
theorem yK (m:Mx):af prog 63 [.agg (cI m)] (I (max m.size 1:Nat)):=by
 obtain⟨nm,re,sz⟩:=m;refine af.aC ag Tryz.func63 rfl GK (by simp[Tryz.ntmps63]) rfl λ C hC OR=>?_;rw[Tryz.ntmps63] at hC;simp only[cI];apply aq;simp[hC];apply aq;simp[hC];apply T.ret;apply aa.here;simp[Tryz.results63];split<;>omega
def J110 (ms:List Mx)(n:Nat)(s:St):Prop:=∃ i:Nat,n=ms.length-i/\i<=ms.length/\
 s=⟨[(8,I i),(7,I ms.length),(6,.au (ms.flatMap cI) ms.length),(3,I (dV (ms.take i)))],[],0⟩
theorem Bq:∀ (ms:List Mx),(∀ m∈ms,m.size<=1000)->dV ms<=1000*ms.length
 | [],_=>by simp[dV]
 | m::r,h=>by
  have h1:=h m mem_cons_self;have h2:=Bq r λ x hx=>h x (mem_cons_of_mem _ hx);rw[dV,length_cons];omega
theorem Br (ms:List Mx)(hm:ua ms):af prog 74 [.au (ms.flatMap cI) ms.length] (I (dV ms)):=by
 have Q3:=hm.1;refine af.aC ag Tryz.func74 rfl GK (by simp[Tryz.ntmps74]) rfl λ C hC OR=>?_;rw[Tryz.ntmps74] at hC;apply aq;simp[hC];apply aq;simp[hC];apply aT;simp[hC];apply T.block;refine T.aQ (J110 ms) (n:=ms.length) ?_ ?_
 .refine aa.trim [8,7,6,3] [] 0 xr yA ⟨0,by omega,by omega,?_⟩;simp[dV]
 .rintro n s ⟨i,rfl,hi,rfl⟩;by_cases OP:i<ms.length
  .obtain⟨m,SW⟩:∃ m,ms[i]? = some m:=⟨_,getElem?_eq_getElem OP⟩;have P9:=aH (f:=cI) (n:=3) ir SW;have O0:=yK m;have OQ:trees [.agg (cI m)]=true:=rfl;have wi:=cw ((i:Int)+1) yA yA;have Pb:ms.take (i+1)=ms.take i++[m]:=by rw[take_add_one,SW];rfl
   have O7:=Bq (ms.take i) λ x hx=>hm.2 x (mem_of_mem_take hx);have P0:(ms.take i).length<=1000:=by simp;omega
   have Tc:=hm.2 m (mem_of_getElem? SW);have wd:=cw ((dV (ms.take i):Int)+(max m.size 1:Nat)) yA yA;apply aq;simp[hC,OP];refine T.seq (T.cond (b:=true) rfl (T.skip ?_));simp;apply eZ;apply aq;simp[hC,OP,P9,cI];apply aG;simp[hC];refine ct OQ O0 ?_;simp[hC,wd];apply aG;simp[hC,wi];refine⟨ms.length-(i+1),by omega,aa.trim [8,7,6,3] [] 0 xr yA ⟨i+1,rfl,by omega,?_⟩⟩;simp[Pb,oU,dV]
  .have OV:i=ms.length:=by omega
   subst OV;apply aq;simp[hC];apply T.seq;refine T.cond (b:=false) rfl (T.exit ?_);simp;apply aq;simp[hC];apply T.ret;apply aa.here;simp[Tryz.results74]
theorem Au (ms:List Mx)(hm:ua ms)(m:Nat)(x:Mx)(hx:ms[m]? = some x):af prog 62 [.au (ms.flatMap cI) ms.length,I m] (I (dV (ms.take m))):=by
 have OT:=(List.getElem?_eq_some_iff.1 hx).1;have O7:=Br (ms.take m) ⟨by have:=hm.1;simp;omega,λ y hy=>hm.2 y (mem_of_mem_take hy)⟩;have OQ:trees [.au ((ms.take m).flatMap cI) (ms.take m).length]=true:=by simp only[trees,tree,Bool.and_self]
 refine af.aC ag Tryz.func62 rfl GK (by simp[Tryz.ntmps62]) rfl λ C hC OR=>?_;rw[Tryz.ntmps62] at hC;apply aq;simp[hC];have QK:¬ ((ms.length:Int)<=(m:Int)):=by omega
 apply aT;simp[hC];refine T.cond (b:=false) (by simp[ev,assoc,QK]) (T.skip ?_);simp;refine T.seq (T.region (TL.some ag 3 ?_));simp[hC];have VW:take (m*3) (ms.flatMap cI)=(ms.take m).flatMap cI:=by
  rw[<- su (f:=cI) (n:=3) ir]
 have RT:(ms.take m).length=m:=by simp;omega
 refine l9 rfl (xk ag (e:=98) (lo:=none) (cs:=ms.flatMap cI) (len:=ms.length) (l:=0) (n:=m) (m:=m) OU rfl xr xr rfl rfl (by simp[dJ,ev,assoc]) (by simp[dJ,ev,assoc]) ⟨by omega,by omega,by omega⟩) (TL.go' ag ?_);rw[RT] at OQ O7;simp[VW];refine ct OQ O7 ?_;simp[hC];apply T.ret;apply aa.here;simp[Tryz.results62]
def J80n (ms:List Mx)(e:Nat)(n:Nat)(s:St):Prop:=∃ i e':Nat,n=ms.length-i/\i<=ms.length/\J7 ms e 0=J7 (ms.drop i) e' i/\e'<=e/\
 s=⟨[(11,I i),(10,I ms.length),(9,.au (ms.flatMap cI) ms.length),(1,I e')],[],0⟩
theorem sT (ms:List Mx)(hm:ua ms)(e:Nat)(he:e<=1000000):af prog 78 [.au (ms.flatMap cI) ms.length,I e] (I (e9 ms e)):=by
 have Q3:=hm.1;rw[<- J5];refine af.aC ag Tryz.func78 rfl GK (by simp[Tryz.ntmps78]) rfl λ C hC OR=>?_;rw[Tryz.ntmps78] at hC;apply aq;simp[hC];apply aT;simp[hC];refine T.cond (b:=false) PC (T.skip ?_);simp;apply aT;simp[hC];apply T.block;refine T.aQ (J80n ms e) (n:=ms.length) ?_ ?_
 .refine aa.trim [11,10,9,1] [] 0 xr yA ⟨0,e,by omega,by omega,by simp,by omega,?_⟩;simp
 .rintro n s ⟨i,e',rfl,hi,R6,X6,rfl⟩;by_cases OP:i<ms.length
  .obtain⟨m,SW⟩:∃ m,ms[i]? = some m:=⟨_,getElem?_eq_getElem OP⟩;have P9:=aH (f:=cI) (n:=3) ir SW;have O0:=yK m;have OQ:trees [.agg (cI m)]=true:=rfl;have wi:=cw ((i:Int)+1) yA yA;have OS:ms.drop i=m::ms.drop (i+1):=by rw[drop_eq_getElem_cons OP];simp[(List.getElem?_eq_some_iff.1 SW).2]
   rw[OS,J7] at R6;apply aq;simp[hC,OP];refine T.seq (T.cond (b:=true) rfl (T.skip ?_));simp;apply eZ;apply aq;simp[hC,OP,P9,cI];apply aT;simp[hC];refine ct OQ O0 ?_;by_cases OT:e' < max m.size 1
   .rw[if_pos OT] at R6;have QK:(e':Int)<((max m.size 1:Nat):Int):=by omega
    simp[hC,QK];refine cX ?_;simp;apply aq;simp[hC];apply T.ret;apply aa.here;simp[Tryz.results78,R6]
   .rw[if_neg OT] at R6;have QK:¬ (e':Int)<((max m.size 1:Nat):Int):=by omega
    have wd:=cw ((e':Int)-((max m.size 1:Nat):Int)) yA yA;have wd2:(e':Int)-((max m.size 1:Nat):Int)=((e' - max m.size 1:Nat):Int):=by omega
    simp[hC,QK];refine eQ ?_;simp;apply aG;simp[hC];refine ct OQ O0 ?_;rw[wd2] at wd;simp only[hC];simp[wd,wd2];apply aG;simp[hC,wi];refine⟨ms.length-(i+1),by omega,aa.trim [11,10,9,1] [] 0 xr yA ⟨i+1,e' - max m.size 1,rfl,by omega,R6,by omega,?_⟩⟩;simp
  .have OV:i=ms.length:=by omega
   subst OV;simp[J7] at R6;apply aq;simp[hC];apply T.seq;refine T.cond (b:=false) rfl (T.exit ?_);simp;apply aq;simp[hC];apply T.ret;apply aa.here;simp[Tryz.results78,R6]
theorem wY (th:Nat):∀ (W:List Ho) (i:Nat) (h:Ho),W[i]? = some h->pe th (W.take (i+1))=pe th (W.take i)+(if h.o=th+1 then h.d else 0)
 | [],i,h,e=>by simp at e
 | x::W,0,h,e=>by
  simp at e;subst e;simp[pe]
 | x::W,i+1,h,e=>by
  simp only[getElem?_cons_succ] at e;rw[take_succ_cons,pe,wY th W i h e,take_succ_cons,pe];omega
def J46 (W:List Ho)(th n:Nat)(s:St):Prop:=∃ i:Nat,n=W.length-i/\i<=W.length/\
 s=⟨[(41,I i),(40,I W.length),(39,.au (W.flatMap cg) W.length),(10,I (pe th (W.take i))),(3,I th)],[],0⟩
theorem xD (ms:List Mx)(hm:ua ms)(tb:List Ho)(m th:Nat)(x:Mx)(hx:ms[m]? = some x)(hl:tb.length=(a6 ms).length)(_ht:th<=1000000)(hd:∀ h∈tb,h.d<=1000000/\h.o<=1000000) :
  af prog 25 [.au (ms.flatMap cI) ms.length,.au (tb.flatMap cg) tb.length,I m,I th] (I (gv ms tb m th)):=by
 have OT:=(List.getElem?_eq_some_iff.1 hx).1;have Yc:=Au ms hm m x hx;have O0:=yK x;have OQ:trees [.au (ms.flatMap cI) ms.length,I m]=true:=by simp only[trees,tree,Bool.and_self]
 have Ph:trees [.agg (cI x)]=true:=rfl;have hw:=vU m th ms 0 tb x hl yA (by simpa using hx);rw[Nat.sub_zero] at hw;have R9:=aH (f:=cI) (n:=3) ir hx;have O7:dV (ms.take m)+max x.size 1<=tb.length:=by
  have h1:ms.take (m+1)=ms.take m++[x]:=by rw[take_add_one,hx];rfl
  have h2:=oU (ms.take (m+1)) (ms.drop (m+1));rw[take_append_drop,h1,oU] at h2;simp only[dV] at h2;rw[hl,a6,x7];omega
 have Sf:=gP ms 0 hm.2;have Q3:=hm.1;have O5:tb.length<=1000000:=by rw[hl,a6];omega
 have Q4:gv ms tb m th=pe th ((tb.drop (dV (ms.take m))).take (max x.size 1)):=hw;rw[Q4];have PS:take (max x.size 1*2) (drop (dV (ms.take m)*2) (tb.flatMap cg))=((tb.drop (dV (ms.take m))).take (max x.size 1)).flatMap cg:=by
  rw[sv cm,su cm]
 have Rl:((tb.drop (dV (ms.take m))).take (max x.size 1)).length=max x.size 1:=by simp;omega
 have hWd:∀ h∈(tb.drop (dV (ms.take m))).take (max x.size 1),h.d<=1000000/\h.o<=1000000:=λ h hh=>hd h (mem_of_mem_drop (mem_of_mem_take hh));generalize (tb.drop (dV (ms.take m))).take (max x.size 1)=W at PS Rl hWd |-;generalize dV (ms.take m)=b at Yc O7 PS;have wb:=cw ((b:Int)+((max x.size 1:Nat):Int)) yA yA;refine af.aC ag Tryz.func25 rfl GK (by simp[Tryz.ntmps25]) rfl λ C hC OR=>?_;rw[Tryz.ntmps25] at hC;apply aq;simp[hC];apply aq;simp[hC];refine ct OQ Yc ?_;simp[hC];apply aT;simp[hC];refine T.cond (b:=false) PC (T.skip ?_);simp;apply aq;simp[hC];apply aq;simp[hC,OT,R9,cI];refine ct Ph O0 ?_;generalize hM:max x.size 1=M at O0 O7 PS Rl wb;have UF:(b:Int)+(M:Int)=((b+M:Nat):Int):=by omega
 have hmn:¬ (tb.length:Int)<((b+M:Nat):Int):=by omega
 have UL:¬ ((b+M:Nat):Int)<(b:Int):=by omega
 rw[UF] at wb;simp only[hC];simp[-Int.natCast_add,UF,wb,hmn];refine T.seq (T.seq (T.region (TL.some ag 6 ?_)));simp[-Int.natCast_add,hC,UL];refine l9 rfl (xk ag (e:=122) (cs:=tb.flatMap cg) (len:=tb.length) (l:=b) (n:=b+M) (m:=b+M) OU rfl xr xr rfl (by simp[dJ,ev,assoc]) (by simp[-Int.natCast_add,dJ,ev,assoc]) (by simp[-Int.natCast_add,dJ,ev,assoc]) ⟨by omega,by omega,by omega⟩) (TL.go' ag ?_);rw[show b+M-b=M by omega];simp[-Int.natCast_add,hC,PS];apply T.block;rw[<- Rl];have tW:trees (W.flatMap cg)=true:=ah ba _;refine T.aQ (J46 W th) (n:=W.length) ?_ ?_
 .refine aa.trim [41,40,39,10,3] [] 0 xr yA ⟨0,by omega,by omega,?_⟩;simp[pe]
 .rintro n s ⟨i,rfl,hi,rfl⟩;by_cases OP:i<W.length
  .obtain⟨h,hh⟩:∃ h,W[i]? = some h:=⟨_,getElem?_eq_getElem OP⟩;have Pk:=wY th W i h hh;have VK:=Ds th (W.take (i+1)) λ y hy=>(hWd y (mem_of_mem_take hy)).1;have hWt:(W.take (i+1)).length<=1000000:=by simp;omega
   generalize pe th (W.take i)=D at Pk;have Rh:=aH (f:=cg) (n:=2) cm hh;have wi:=cw ((i:Int)+1) yA yA;have Zy:=(hWd h (mem_of_getElem? hh)).2;have wo:=cw ((h.o:Int)-1) yA yA;apply aq;simp[hC,OP];refine T.seq (T.cond (b:=true) rfl (T.skip ?_));simp;apply eZ;apply aq;simp[hC,OP,Rh,cg];by_cases R3:h.o=th+1
   .rw[if_pos R3] at Pk;have Rx:((h.o:Int)-1 == (th:Int))=true:=by rw[beq_iff_eq];omega
    have wd:=cw ((D:Int)+h.d) yA yA;apply aq;simp[hC,wo,Rx];refine cX ?_;simp;apply aG;simp[hC,wd];apply aG;simp[hC,wi];refine⟨W.length-(i+1),by omega,aa.trim [41,40,39,10,3] [] 0 xr yA ⟨i+1,rfl,by omega,?_⟩⟩;simp[Pk]
   .rw[if_neg R3] at Pk;have Rx:((h.o:Int)-1 == (th:Int))=false:=by rw[beq_eq_false_iff_ne];omega
    apply aq;simp[hC,wo,Rx];refine eQ ?_;simp;apply aG;simp[hC,wi];refine⟨W.length-(i+1),by omega,aa.trim [41,40,39,10,3] [] 0 xr yA ⟨i+1,rfl,by omega,?_⟩⟩;simp[Pk]
  .have OV:i=W.length:=by omega
   subst OV;apply aq;simp[hC];apply T.seq;refine T.cond (b:=false) PC ?_;simp;apply T.exit;simp;apply aq;simp[hC];apply T.ret;apply aa.here;simp[Tryz.results25]
end Go.Proofs.YtlkmbdfhdknlgaaGreat
