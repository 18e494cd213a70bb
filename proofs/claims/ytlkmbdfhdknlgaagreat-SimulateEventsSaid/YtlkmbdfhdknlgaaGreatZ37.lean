/- A run: its states and what -/
import Derived.Test.YtlkmbdfhdknlgaaGreatZ36
namespace Go.Proofs.YtlkmbdfhdknlgaaGreat
open Go.Can Go.aJ List
def N4 (s:Sy)(t:Nat)(l0:List Fr)(f:Fr)(k:Nat)(gl:Bool)(e:Ex):Sy:=
 if (bN s.gs f.aV e).2=0 then
  (if gl=true then { s with gs:=s.gs.set k (bN s.gs f.aV e).1,ts:=s.ts.set t (l0++[{ f with pc:=f.pc+1 }]) }
   else { s with ts:=s.ts.set t (l0++[{ f with pc:=f.pc+1,aV:=f.aV.set k (bN s.gs f.aV e).1 }]) })
 else { s with fault:=(bN s.gs f.aV e).2 }
def Oq (u:Un)(s:Sy)(t:Nat)(l0:List Fr)(f:Fr)(tg n:Nat)(es:List Ex)(ps:List Pl):Sy:=
 if (mV u s t f tg n es ps).2=0 then
  (if 32<=s.ts.length then { s with fault:=4 } else { s with ts:=s.ts.set t (l0++[{ f with pc:=f.pc+1 }])++[[(mV u s t f tg n es ps).1]] })
 else { s with fault:=(mV u s t f tg n es ps).2 }
def uj (u:Un)(tg:Nat):Nat:=match u.ps[tg]? with
 | some q=>q.locals
 | none=>0
def fk (u:Un)(s:Sy)(t:Nat)(l0:List Fr)(f:Fr):In->Sy×Bool
 | .set k gl e=>(N4 s t l0 f k gl e,true)
 | .call go tg es ps=>(if go=true then Oq u s t l0 f tg (uj u tg) es ps else OF u s t l0 f tg (uj u tg) es ps,true)
 | .lock un p=>if un=true then N1 u s t l0 f p else Of u s t l0 f p
 | .branch g e=>(OG s t l0 f g e,true)
 | .jump g=>({ s with ts:=s.ts.set t (l0++[{ f with pc:=g }]) },true)
 | .ret=>({ s with ts:=s.ts.set t l0 },true)
def fT (u:Un)(s:Sy)(t:Int):Sy×Bool:=match eW s t with
 | none=>(s,false)
 | some f=>match jJ u s t with
  | none=>(s,false)
  | some i=>fk u s t.toNat ((s.ts.getD t.toNat []).dropLast) f i
def kB (ms:List Mx)(e:Nat):Nat:=(bR ms).getD e 0
def gg (ms:List Mx)(f:Fr):Is:=⟨f.proc,f.eA.map (kB ms)⟩
structure LD (u:Un)(f:Fr):Prop where
 q:∃ q,u.ps[f.proc]? = some q/\f.pc<q.code.length/\f.aV.length=q.locals/\f.eA.length=q.bp
 el:∀ e∈f.eA,e<(bR u.ms).length
 ic:gg u.ms f∈(az u).is
structure ov (u:Un)(k:Nat)(s:Sy):Prop where
 gs:s.gs.length=u.gs.length
 tb:s.tb.length=(bR u.ms).length
 hd:∀ h∈s.tb,h.d<=k/\(h.o≠0->0<h.d)
 ho:∀ h∈s.tb,h.o<=32
 ts:1<=s.ts.length/\s.ts.length<=32
 fl:∀ l∈s.ts,l.length<=k+1
 fr:∀ l∈s.ts,∀ f∈l,LD u f
theorem mY {u:Un}(h:fV u):Fo u.ms:=⟨by have:=h.nm;omega,λ m hm=>by have:=(h.mz m hm).1;omega⟩
theorem wX:∀ (l:List Mx) (s:Nat),(∀ m∈l,m.size<=3)->(cC l s).length<=3*l.length
 | [],s,_=>by simp[cC]
 | m::r,s,h=>by
  have h1:=h m mem_cons_self;have h2:=wX r (s+1) λ x hx=>h x (mem_cons_of_mem _ hx);simp only[cC,length_append,length_replicate,length_cons];omega
theorem z0 {u:Un}(h:fV u):(bR u.ms).length<=12:=by
 have h1:=wX u.ms 0 λ m hm=>(h.mz m hm).1;have:=h.nm;rw[bR];omega
theorem wW:∀ (l:List Mx) (s:Nat),∀ m∈cC l s,m<s+l.length
 | [],s,m,h=>by simp[cC] at h
 | x::r,s,m,h=>by
  rw[cC,mem_append] at h;rcases h with h | h
  ·have:=eq_of_mem_replicate h;rw[length_cons];omega
  ·have:=wW r (s+1) m h;rw[length_cons];omega
theorem HC (ms:List Mx):∀ m∈bR ms,m<ms.length:=λ m h=>by simpa using wW ms 0 m h
theorem zQ (m:Nat):∀ (ms:List Mx) (i j:Nat) (x:Mx),i<=m->ms[m-i]? = some x->∃ k:Nat,pf (cC ms i) m j=((j+k:Nat):Int)/\∀ d,d<max x.size 1->(cC ms i)[k+d]? = some m
 | [],i,j,x,_,h=>by simp at h
 | y::r,i,j,x,hi,h=>by
  rw[cC];by_cases he:i=m
  ·subst he;simp at h;subst h;refine⟨0,?_,λ d hd=>?_⟩
   ·obtain⟨n,hn⟩:∃ n,max y.size 1=n+1:=⟨max y.size 1-1,by omega⟩;rw[hn,replicate_succ,cons_append,pf,if_pos rfl];simp
   ·rw[getElem?_append_left SO,Nat.zero_add,getElem?_replicate,if_pos hd]
  ·rw[nO i m he];have h2:r[m-(i+1)]? = some x:=by
    have:m-i=(m-(i+1))+1:=by omega
    rw[this,getElem?_cons_succ] at h;exact h
   obtain⟨k,h3,h4⟩:=zQ m r (i+1) (j+max y.size 1) x yA h2;refine⟨max y.size 1+k,by rw[h3];congr 1;omega,λ d hd=>?_⟩;rw[getElem?_append_right SO];rw[length_replicate,show max y.size 1+k+d-max y.size 1=k+d by omega];exact h4 d hd
theorem jV {u:Un}(hu:fV u){s:Sy}{t:Int}{p:Pl}{f:Fr}(ht:eW s t=some f)(hf:LD u f)(hv:vW u.ms s.gs.length f.aV.length f.eA.length p){n:Nat}(he:bT u s t p=((n:Int),0)) :
  n<(bR u.ms).length/\kB u.ms n=iV (gg u.ms f) p:=by
 unfold bT at he;rw[ht] at he;simp only at he;rcases hv with ⟨h1,h2,h3⟩ | ⟨h1,m,hm,h3⟩
 ·rw[if_pos h1] at he;simp only[Prod.mk.injEq,and_true] at he;have hg:f.eA[p.index]? = some f.eA[p.index]:=getElem?_eq_getElem h2;have hn:f.eA[p.index]=n:=by
   have:f.eA.getD p.index 0=f.eA[p.index]:=by simp[getD_eq_getElem?_getD,hg]
   omega
  refine⟨by rw[<- hn];exact hf.el _ (getElem_mem h2),?_⟩;simp only[iV,h1,if_true,gg];rw[getD_eq_getElem?_getD,getElem?_map,hg,<- hn];rfl
 ·rw[if_neg (by rw[h1];decide)] at he;split at he
  ·rename_i h0;simp only[Prod.mk.injEq,and_true] at he;obtain⟨k,hk,ho⟩:=zQ p.index u.ms 0 0 m yA (by simpa using hm);obtain⟨j,hj,Sv⟩:∃ j:Nat,(gY u.ms s.gs f.aV p).1=j/\j<max m.size 1:=by
    unfold gY at h0 |-;rcases h3 with ⟨h,hz⟩ | ⟨e,h,hz,_⟩
    ·rw[h];exact⟨0,rfl,by omega⟩
    ·rw[h] at h0 |-;simp only[hm] at h0 |-;split
     ·rename_i h5;rw[if_pos h5] at h0;split
      ·rename_i h6;rw[if_pos h6] at h0;cases h0
      ·rename_i h6;exact⟨(bN s.gs f.aV e).1.toNat,by simp only;omega,by omega⟩
     ·rename_i h5;rw[if_neg h5] at h0;exact (h5 h0).elim
   have Zl:=z0 hu;have RS:=(List.getElem?_eq_some_iff.1 (ho j Sv)).1;rw[bR] at Zl;rw[show Dy u.ms p.index=((0+k:Nat):Int) from hk,hj,wr,cF _ yA yA] at he;have hn:n=k+j:=by omega
   subst hn;refine⟨RS,?_⟩;simp only[iV,h1,Bool.false_eq_true,if_false,kB];rw[getD_eq_getElem?_getD,bR,ho j Sv];rfl
  ·rename_i h0;simp only[Prod.mk.injEq] at he;exact (h0 he.2).elim
theorem nB (gs ls:List Int):∀ es:List Ex,(db gs ls es).2=0->(db gs ls es).1.length=es.length
 | [],_=>rfl
 | e::r,h=>by
  unfold db at h |-;split
  ·rename_i h1;rw[if_pos h1] at h;simp[nB gs ls r h]
  ·rename_i h1;rw[if_neg h1] at h;exact (h1 h).elim
theorem nC {u:Un}(hu:fV u){s:Sy}{t:Int}{f:Fr}(ht:eW s t=some f)(hf:LD u f):∀ ps:List Pl,(∀ p∈ps,vW u.ms s.gs.length f.aV.length f.eA.length p)->(dp u s t ps).2=0 ->
  (∀ e∈(dp u s t ps).1,e<(bR u.ms).length)/\(dp u s t ps).1.map (kB u.ms)=ps.map (iV (gg u.ms f))
 | [],_,_=>⟨(λ e he=>by cases he),rfl⟩
 | p::r,hv,h=>by
  unfold dp at h |-;split
  ·rename_i h1;rw[if_pos h1] at h;obtain⟨n,hn⟩:=jW u s t p (mY hu) f ht (hv p mem_cons_self);obtain⟨k1,k2⟩:=jV hu ht hf (hv p mem_cons_self) (n:=n) (Prod.ext hn h1);obtain⟨k3,k4⟩:=nC hu ht hf r (λ q hq=>hv q (mem_cons_of_mem _ hq)) h;have hz:(bT u s t p).1.toNat=n:=by omega
   refine⟨λ e he=>?_,?_⟩
   ·simp only[mem_cons] at he;rcases he with rfl | he
    ·rw[hz];exact k1
    ·exact k3 e he
   ·simp only[map_cons,k4,hz,k2]
  ·rename_i h1;rw[if_neg h1] at h;exact (h1 h).elim
theorem LD.pc {u:Un}{f:Fr}(h:LD u f){q:Pr}(hq:u.ps[f.proc]? = some q){g:Nat}(hg:g<q.code.length):LD u { f with pc:=g }:=by
 obtain⟨q',h1,_,h3,h4⟩:=h.q;rw[hq] at h1;cases h1;exact⟨⟨q,hq,hg,h3,h4⟩,h.el,h.ic⟩
theorem vK {u:Un}(hu:fV u){f:Fr}{q:Pr}(hq:u.ps[f.proc]? = some q){i:In}(hi:q.code[f.pc]? = some i)(hr:i≠.ret):f.pc+1<q.code.length:=by
 obtain⟨⟨c,hc⟩,_⟩:=hu.pc q (mem_of_getElem? hq);rw[hc] at hi |-;have h1:=(List.getElem?_eq_some_iff.1 hi).1;simp only[length_append,length_singleton] at h1 |-;by_cases h:f.pc=c.length
 ·rw[h] at hi;simp at hi;exact (hr hi.symm).elim
 ·omega
theorem ld {s:Sy}{t:Int}{f:Fr}(h:eW s t=some f):∃ (n:Nat) (l0:List Fr),t=n/\s.ts[n]? = some (l0++[f])/\s.fault=0/\(s.ts.getD n []).dropLast=l0:=by
 unfold eW at h;split at h
 ·cases h
 ·rename_i h0;split at h
  ·rename_i l hl;obtain⟨l0,rfl⟩:=getLast?_eq_some_iff.1 h;refine⟨t.toNat,l0,by omega,hl,?_,?_⟩
   ·by_cases hz:s.fault=0
    ·exact hz
    ·exact (h0 (.inr hz)).elim
   ·rw[getD_eq_getElem?_getD,hl];simp
  ·cases h
section
variable {u:Un}(hu:fV u){k:Nat}{s:Sy}(hs:ov u k s){t:Nat}{l0:List Fr}{f:Fr}(hl:s.ts[t]? = some (l0++[f]))
include hs hl
theorem ov.set {gs:List Int}{tb:List Ho}{l:List Fr}{fa:Nat}(h1:gs.length=s.gs.length)(h2:tb.length=s.tb.length)(h3:∀ h∈tb,h.d<=k+1/\(h.o≠0->0<h.d))(h6:∀ h∈tb,h.o<=32)(h4:l.length<=k+2)(h5:∀ f∈l,LD u f):ov u (k+1) ⟨gs,tb,s.ts.set t l,fa⟩:=by
 have _:=hl;refine⟨by rw[h1,hs.gs],by rw[h2,hs.tb],h3,h6,by rw[length_set];exact hs.ts,λ l' h=>?_,λ l' h=>?_⟩
 ·rcases mem_or_eq_of_mem_set h with h | rfl
  ·have:=hs.fl l' h;omega
  ·omega
 ·rcases mem_or_eq_of_mem_set h with h | rfl
  ·exact hs.fr l' h
  ·exact h5
theorem ov.gA:(∀ g∈l0,LD u g)/\LD u f/\l0.length<=k/\(∀ h∈s.tb,h.d<=k+1/\(h.o≠0->0<h.d)):=by
 have hm:=mem_of_getElem? hl;have h1:=hs.fr _ hm;have h2:=hs.fl _ hm;refine⟨λ g hg=>h1 g (by simp[hg]),h1 f xr,by simp at h2;omega,λ h hh=>?_⟩;have:=hs.hd h hh;exact⟨by omega,this.2⟩
omit hl in
theorem ov.oU {fa:Nat}:ov u (k+1) { s with fault:=fa }:=by
 refine⟨hs.gs,hs.tb,λ h hh=>?_,hs.ho,hs.ts,λ l hl=>?_,hs.fr⟩
 ·have:=hs.hd h hh;exact⟨by omega,this.2⟩
 ·have:=hs.fl l hl;omega
include hu
theorem FG (ht:eW s t=some f){q:Pr}(hq:u.ps[f.proc]? = some q){i:In}(hi:q.code[f.pc]? = some i):ov u (k+1) (fk u s t l0 f i).1:=by
 obtain⟨o1,o2,o3,o4⟩:=hs.gA hl;obtain⟨q',T6,gZ,Wd,R7⟩:=o2.q;rw[hq] at T6;cases T6;have ht32:t<32:=Nat.lt_of_lt_of_le (List.getElem?_eq_some_iff.1 hl).1 hs.ts.2;have TV:=(hu.pc q (mem_of_getElem? hq)).2 i (mem_of_getElem? hi);rw[<- hs.gs,<- Wd,<- R7] at TV;have fin:∀ {gs:List Int} {tb:List Ho} {g:Nat} {vs:List Int},gs.length=s.gs.length->tb.length=s.tb.length->(∀ h∈tb,h.d<=k+1/\(h.o≠0->0<h.d))->(∀ h∈tb,h.o<=32)->g<q.code.length->vs.length=f.aV.length->ov u (k+1) ⟨gs,tb,s.ts.set t (l0++[⟨f.proc,g,vs,f.eA⟩]),s.fault⟩:=λ {gs tb g vs} h1 h2 h3 h6 h4 h5=>by
  refine hs.set hl h1 h2 h3 h6 SO λ g' YR=>?_;rcases mem_append.1 YR with YR | YR
  ·exact o1 g' YR
  ·rw[mem_singleton.1 YR];exact⟨⟨q,hq,h4,by rw[h5];exact Wd,R7⟩,o2.el,o2.ic⟩
 cases i with
 | set k' gl e=>
  have hn:=vK hu hq hi xr;simp only[fk,N4];split
  ·split
   ·exact fin xr rfl o4 hs.ho hn rfl
   ·exact fin rfl rfl o4 hs.ho hn xr
  ·exact hs.oU
 | branch g e=>
  have hn:=vK hu hq hi xr;simp only[fk,OG];split
  ·refine fin rfl rfl o4 hs.ho ?_ rfl;split
   ·have:=TV.1;omega
   ·exact hn
  ·exact hs.oU
 | jump g=>
  have:g<=q.code.length-1:=TV;exact fin rfl rfl o4 hs.ho yA rfl
 | ret=>exact hs.set hl rfl rfl o4 hs.ho yA o1
 | lock un p=>
  have hn:=vK hu hq hi xr;simp only[fk];split
  ·simp only[N1];split
   ·split
    ·refine fin rfl ?_ ?_ ?_ hn rfl
     ·unfold dm;split
      ·split<;>simp
      ·rfl
     ·unfold dm;split
      ·rename_i h h1 h2;split
       ·rename_i h3;have ho:=hs.hd h (mem_of_getElem? h2);intro x hx;rcases mem_or_eq_of_mem_set hx with hx | hx
        ·exact o4 x hx
        ·rw[hx];split
         ·exact⟨by simp only;omega,λ h=>(h rfl).elim⟩
         ·have:=ho.2 yA;exact⟨by simp only;omega,λ _=>by simp only;omega⟩
       ·exact o4
      ·exact o4
     ·unfold dm;split
      ·split
       ·intro x hx;rcases mem_or_eq_of_mem_set hx with hx | hx
        ·exact hs.ho x hx
        ·rw[hx];split<;>simp only<;>omega
       ·exact hs.ho
      ·exact hs.ho
    ·exact hs.oU
   ·exact hs.oU
  ·simp only[Of];split
   ·split
    ·refine fin rfl ?_ ?_ ?_ hn rfl
     ·unfold fH;split<;>simp
     ·unfold fH;split
      ·intro x hx;rcases mem_or_eq_of_mem_set hx with hx | hx
       ·exact o4 x hx
       ·rw[hx];refine⟨?_,λ _=>by simp only;omega⟩;simp only;split
        ·rename_i h h1;have:=(hs.hd h (mem_of_getElem? h1)).1;omega
        ·omega
      ·exact o4
     ·unfold fH;split
      ·intro x hx;rcases mem_or_eq_of_mem_set hx with hx | hx
       ·exact hs.ho x hx
       ·rw[hx];simp only;omega
      ·exact hs.ho
    ·exact hs.oU (fa:=s.fault)
   ·exact hs.oU
 | call go tg es ps=>
  have hn:=vK hu hq hi xr;obtain⟨c1,c2,c3⟩:=TV;rw[getElem?_map,Option.map_eq_some_iff] at c1;obtain⟨qq,VL,c4⟩:=c1;simp only[Prod.mk.injEq] at c4;have hqv:=hu.pr qq (mem_of_getElem? VL);have hci:=sF hu;have YL:uj u tg=qq.locals:=by simp only[uj,VL]
  have Su:(mV u s t f tg (uj u tg) es ps).2=0->LD u (mV u s t f tg (uj u tg) es ps).1:=λ h0=>by
   unfold mV at h0 |-;split
   ·rename_i h1;rw[if_pos h1] at h0;split
    ·rename_i h2;obtain⟨k1,k2⟩:=nC hu ht o2 ps c3 h2;have k3:=nB s.gs f.aV es h1;have k4:=congrArg length k2;simp only[length_map] at k4;have hqc:=(hu.pc qq (mem_of_getElem? VL)).1;refine⟨⟨qq,VL,?_,?_,?_⟩,k1,?_⟩
     ·obtain⟨c,hc⟩:=hqc;rw[hc];simp
     ·simp only[length_append,length_replicate,k3,YL];omega
     ·simp only;omega
     ·simp only[gg,k2];obtain⟨j,hj⟩:=mem_iff_getElem?.1 o2.ic;refine hci.mem j _ (List.getElem?_eq_some_iff.1 hj).1 hj (.call go tg es ps) ?_ _ rfl;simp only[ay,gg,hq];exact mem_of_getElem? hi
    ·rename_i h2;rw[if_neg h2] at h0;exact (h2 h0).elim
   ·rename_i h1;rw[if_neg h1] at h0;exact (h1 h0).elim
  simp only[fk];split
  ·simp only[Oq];split
   ·rename_i h0;split
    ·exact hs.oU
    ·rename_i h32;have hb:=fin (gs:=s.gs) (tb:=s.tb) (vs:=f.aV) rfl rfl o4 hs.ho hn rfl;refine⟨hb.gs,hb.tb,hb.hd,hb.ho,by simp only[length_append,length_set,length_singleton];omega,λ l h=>?_,λ l h=>?_⟩
     ·rcases mem_append.1 h with h | h
      ·exact hb.fl l h
      ·rw[mem_singleton.1 h];simp
     ·rcases mem_append.1 h with h | h
      ·exact hb.fr l h
      ·rw[mem_singleton.1 h];intro g hg;rw[mem_singleton.1 hg];exact Su h0
   ·exact hs.oU
  ·simp only[OF];split
   ·rename_i h0;refine hs.set hl rfl rfl o4 hs.ho SO λ g hg=>?_;simp only[mem_append,mem_cons,not_mem_nil,or_false] at hg;rcases hg with hg | rfl | rfl
    ·exact o1 g hg
    ·exact o2.pc hq hn
    ·exact Su h0
   ·exact hs.oU
end
theorem ov.frs {u:Un}{k:Nat}{s:Sy}(h:ov u k s):FrsV u s:=λ l hl f hf=>by
 obtain⟨q,h1,h2,_⟩:=(h.fr l hl f hf).q;exact⟨q,h1,h2⟩
theorem Ae {u:Un}(hu:fV u){k:Nat}{s:Sy}(hs:ov u k s)(t:Int):ov u (k+1) (fT u s t).1:=by
 unfold fT;split
 ·exact hs.oU (fa:=s.fault)
 ·rename_i f hf;split
  ·exact hs.oU (fa:=s.fault)
  ·rename_i i hi;obtain⟨n,l0,rfl,hl,_,hd⟩:=ld hf;obtain⟨q,hq,gZ,_,_⟩:=(hs.gA hl).2.1.q;simp only[jJ,hf,hq] at hi;rw[Int.toNat_natCast,hd];exact FG hu hs hl hf hq hi
theorem uC (u:Un):∀ (f i:Nat) (l:List Is) (cs:List (List Int)) (r:List Nat) (x:Is),l[0]? = some x->(kQ u f i l cs r).is[0]? = some x
 | 0,_,_,_,_,_,h=>h
 | f+1,i,l,cs,r,x,h=>by
  simp only[kQ];split
  ·exact h
  ·rename_i y hy;refine uC u f (i+1) _ _ _ x ?_;obtain⟨t,ht⟩:=rH y (ay u y) l r;rw[ht,getElem?_append_left (List.getElem?_eq_some_iff.1 h).1];exact h
theorem EE {u:Un}(hu:fV u):ov u 0 (oS u):=by
 have hp:=hu.np.1;obtain⟨q,hq⟩:∃ q,u.ps[u.main]? = some q:=⟨_,getElem?_eq_getElem (by rw[hu.main];omega)⟩;refine⟨rfl,by simp[oS],λ h hh=>?_,λ h hh=>?_,by simp[oS],λ l hl=>?_,λ l hl f hf=>?_⟩
 ·have:=eq_of_mem_replicate hh;rw[this];exact⟨Nat.zero_le _,λ h=>(h rfl).elim⟩
 ·have:=eq_of_mem_replicate hh;rw[this];exact Nat.zero_le _
 ·rw[mem_singleton.1 hl];simp
 ·rw[mem_singleton.1 hl] at hf;rw[mem_singleton.1 hf];refine⟨⟨q,hq,?_,by simp[hq],?_⟩,(λ e he=>by cases he),?_⟩
  ·obtain⟨⟨c,hc⟩,_⟩:=hu.pc q (mem_of_getElem? hq);rw[hc];simp
  ·rw[hu.main] at hq;simp[(hu.p0 q hq).2]
  ·exact mem_of_getElem? (uC u 100 0 [⟨u.main,[]⟩] [] [0] ⟨u.main,[]⟩ rfl)
def Mm (u:Un):List Int->Sy->Sy
 | [],s=>s
 | t::r,s=>Mm u r (if (fT u s t).2=true then (fT u s t).1 else s)
theorem ov.mono {u:Un}{k k':Nat}{s:Sy}(h:ov u k s)(hk:k<=k'):ov u k' s:=by
 refine⟨h.gs,h.tb,λ x hx=>?_,h.ho,h.ts,λ l hl=>?_,h.fr⟩
 ·have:=h.hd x hx;exact⟨by omega,this.2⟩
 ·have:=h.fl l hl;omega
theorem Jj {u:Un}(hu:fV u):∀ (l:List Int) {k:Nat} {s:Sy},ov u k s->ov u (k+l.length) (Mm u l s)
 | [],_,_,h=>h
 | t::r,k,s,h=>by
  have h1:ov u (k+1) (if (fT u s t).2=true then (fT u s t).1 else s):=by
   split
   ·exact Ae hu h t
   ·exact h.mono yA
  have:=Jj hu r h1;simp only[Mm,length_cons];rw[show k+(r.length+1)=k+1+r.length by omega];exact this
end Go.Proofs.YtlkmbdfhdknlgaaGreat
namespace Go.aJ
open Go.Can List
def dj:List Mx->Nat
 | []=>0
 | m::r=>max m.size 1+dj r
def MW:List Mx->Nat->Nat->Int
 | [],_,_=>-1
 | m::r,e,i=>if e<max m.size 1 then i else MW r (e-max m.size 1) (i+1)
def p5 (th:Nat):List Ho->Nat
 | []=>0
 | h::r=>(if h.o=th+1 then h.d else 0)+p5 th r
theorem ux:∀ (ms:List Mx) (i:Nat),(cC ms i).length=dj ms
 | [],_=>rfl
 | m::r,i=>by simp[cC,dj,ux r (i+1)]
theorem pP:∀ (a b:List Mx),dj (a++b)=dj a+dj b
 | [],b=>by simp[dj]
 | m::r,b=>by
  rw[cons_append,dj,dj,pP r b];omega
def oI:Option Nat->Int
 | some m=>m
 | none=>-1
theorem F6:∀ (ms:List Mx) (e i:Nat),MW ms e i=oI (cC ms i)[e]?
 | [],e,i=>by simp[MW,cC,oI]
 | m::r,e,i=>by
  rw[MW,cC];split
  ·rename_i h;rw[getElem?_append_left SO,getElem?_replicate,if_pos h];rfl
  ·rename_i h;rw[getElem?_append_right SO,length_replicate,F6 r]
theorem MV (ms:List Mx)(e:Nat):MW ms e 0=kD ms e:=by
 rw[F6,kD,if_neg yA,bR,Int.toNat_natCast];cases (cC ms 0)[e]?<;>rfl
theorem xN (m th:Nat):∀ (a b:List Nat) (ta tb:List Ho),a.length=ta.length->fh m th (a++b) (ta++tb)=fh m th a ta+fh m th b tb
 | [],b,ta,tb,h=>by
  have:ta=[]:=length_eq_zero_iff.1 h.symm;subst this;simp[fh]
 | x::a,b,ta,tb,h=>by
  obtain⟨y,ta,rfl⟩:∃ y r,ta=y::r:=by
   cases ta with
   | nil=>simp at h
   | cons y r=>exact⟨y,r,rfl⟩
  simp only[cons_append,fh];rw[xN m th a b ta tb TK];omega
theorem o0 (m th:Nat):∀ (a:List Nat) (ta:List Ho),(∀ x∈a,x≠m)->fh m th a ta=0
 | [],ta,_=>by cases ta<;>rfl
 | x::a,[],_=>rfl
 | x::a,h::ta,hx=>by
  rw[fh,if_neg (λ e=>hx x mem_cons_self e.1),o0 m th a ta λ y hy=>hx y (mem_cons_of_mem _ hy)]
theorem xM (m th:Nat):∀ (n:Nat) (ta:List Ho),ta.length=n->fh m th (replicate n m) ta=p5 th ta
 | 0,ta,h=>by
  have:ta=[]:=length_eq_zero_iff.1 h;subst this;rfl
 | n+1,[],h=>by simp at h
 | n+1,x::ta,h=>by
  rw[replicate_succ,fh,p5,xM m th n ta TK];simp
theorem wY:∀ (l:List Mx) (s:Nat),∀ m∈cC l s,s<=m
 | [],s,m,h=>by simp[cC] at h
 | x::r,s,m,h=>by
  rw[cC,mem_append] at h;rcases h with h | h
  ·have:=eq_of_mem_replicate h;omega
  ·have:=wY r (s+1) m h;omega
theorem xL (m th:Nat):∀ (ms:List Mx) (i:Nat) (tb:List Ho) (x:Mx),tb.length=(cC ms i).length->i<=m->ms[m-i]? = some x ->
  fh m th (cC ms i) tb=p5 th ((tb.drop (dj (ms.take (m-i)))).take (max x.size 1))
 | [],i,tb,x,_,_,h=>by simp at h
 | y::r,i,tb,x,hl,hi,h=>by
  rw[cC] at hl |-;rw[length_append,length_replicate] at hl;rw[<- take_append_drop (max y.size 1) tb,xN _ _ _ _ _ _ (by rw[length_replicate,length_take];omega),take_append_drop];by_cases he:i=m
  ·subst he;simp at h;subst h;rw[xM _ _ _ _ (by rw[length_take];omega),o0 i th (cC r (i+1)) _ λ z hz=>by have:=wY r (i+1) z hz;omega];simp[dj]
  ·have h2:m-i=(m-(i+1))+1:=by omega
   rw[h2,getElem?_cons_succ] at h;rw[o0 m th _ _ (λ z hz=>by have:=eq_of_mem_replicate hz;omega),xL m th r (i+1) _ x (by rw[length_drop];omega) yA h,h2,take_succ_cons,dj,drop_drop,Nat.zero_add]
theorem Fw (th:Nat):∀ l:List Ho,(∀ h∈l,h.d<=1000000)->p5 th l<=1000000*l.length
 | [],_=>by simp[p5]
 | h::r,hh=>by
  have h1:=hh h mem_cons_self;have h2:=Fw th r λ x hx=>hh x (mem_cons_of_mem _ hx);rw[p5,length_cons];split<;>omega
end Go.aJ
namespace Go.Can
open Go.RowKit
section
variable {P:Program}{C:Cx}{σ:Nat->Option OB}{s:St}{a:Act}{w:World}{ops:Array Oper}{av:List (Nat×TI)}
theorem tK (h:aQ C σ s a w){lo:Option Operand}{hi mx:Operand}{len cap l n m:Nat}(hh:dK s (some hi) 0=some n)(hl:dK s lo 0=some l)(hm:dK s (some mx) 0=some m)(h1:l<=n)(h2:n<=m)(h3:m<=cap) :
  (Instr.sliceBounds true len cap (lo.map a.eval) (some (a.eval hi)) (some (a.eval mx))).run P w=.ok (l,n,m) w:=by
 have e1:∀ (k:IntKind) (i:Int) (y:Nat) (code:BoundsCode),0<=i->i.toNat<=y->(Instr.sliceBound (.int k i) y code).run P w=.ok i.toNat w:=λ k i y code h0 h1=>by
  simp only[Instr.sliceBound,asIntOf,pure_bind];rw[if_pos ⟨h0,by omega⟩];rfl
 rcases mT h hh with ⟨h0,_⟩ | ⟨oh,kh,ih,h0,eh,h4,rfl⟩
 ·cases h0
 rcases mT h hm with ⟨h5,_⟩ | ⟨om,km,im,h5,em,h6,rfl⟩
 ·cases h5
 cases h0;cases h5;rcases mT h hl with ⟨rfl,rfl⟩ | ⟨ol,kl,il,rfl,el,h7,rfl⟩
 ·simp[Instr.sliceBounds,eh,em,e1 _ _ _ _ h4 h2,e1 _ _ _ _ h6 h3]
 ·simp[Instr.sliceBounds,eh,em,el,e1 _ _ _ _ h4 h2,e1 _ _ _ _ h6 h3,e1 _ _ _ _ h7 h1]
theorem yT (ht:aD P av){o:Oper}{t e:TypeId}{x:Operand}{lo:Option Operand}{hi mx:Operand}{cs:List CV}{len l n m:Nat}{ie:TI}(hd:bm C.nt o.dst=true)(ho:o.op=.slice t x lo (some hi) (some mx))(hx:ev s x=some (.ax cs len))(h1:dM av t=some (.sl e))(h2:assoc av e=some ie)
  (hl:dK s lo 0=some l) (hh:dK s (some hi) 0=some n) (hm:dK s (some mx) 0=some m) (hb:l<=n/\n<=m/\m<=len):qU P C o s (s.put o.dst (.ax ((cs.drop (l*ie.size)).take ((n-l)*ie.size)) (n-l))):=by
 rintro a w ⟨σ,h⟩;obtain⟨it,Sk,Ss⟩:=Option.map_eq_some_iff.1 h1;obtain⟨f,z,e1,e2,_⟩:=(ht e ie h2).info;have hv:=bF h hx;simp only[VR,cr] at hv;obtain⟨A,cap,hA,k1,k2,k3⟩:=hv;refine⟨w,.inl ⟨.slice (if m=l then A else A.map (·.add (l*ie.size))) (n-l) (m-l),?_,ec hd h ?_⟩⟩
 ·simp[execOp,ho,hA,Instr.sliceAt,Instr.slice,bz (dI (ht t it Sk) Ss),tK h hh hl hm hb.1 hb.2.1 (Nat.le_trans hb.2.2 k1),cP e1,e2]
 ·simp only[VR,cr];refine⟨_,_,rfl,by omega,by omega,?_⟩;rcases k3 with ⟨k3,rfl⟩ | ⟨ad,rfl,hm⟩
  ·exact .inl ⟨by omega,by simp⟩
  ·by_cases UY:n=l
   ·exact .inl ⟨by omega,by simp[UY]⟩
   ·refine .inr ⟨ad.add (l*ie.size),?_,fF.take _ _ _ (fF.drop _ _ _ hm)⟩;rw[if_neg yA];rfl
theorem Ih (ht:aD P av){o:Oper}{x:Operand}{xt A:TypeId}{c:CV}{ie:TI}(hd:bm C.nt o.dst=true)(ho:o.op=.typeAssert x xt A true)(hx:ev s x=some (.iface A [c]))(h1:assoc av A=some ie)(h2:ie.d=.PH->False):qU P C o s (s.put o.dst (.cB [c,.bool true])):=by
 rintro a w ⟨σ,h⟩;have hv:=bF h hx;simp only[VR,a6] at hv;obtain⟨vs,e,v,r,rfl,hv,rfl⟩:=hv;simp only[Rz] at e;obtain⟨u,hu,hud⟩:=(ht A ie h1).Bw;have hn:∀ k,u≠.interface k:=λ k e=>h2 (by rw[<- hud,e];rfl);refine⟨w,.inl ⟨.tuple #[v,.bool true],?_,ec hd h ?_⟩⟩
 ·have hr:(underlying A).run P w=.ok u w:=bz hu w;cases u<;>first | exact absurd rfl (hn _) | simp[execOp,ho,e,Instr.typeAssert,hr]
 ·simp only[VR,a6];exact⟨[v,.bool true],rfl,v,[.bool true],rfl,hv,.bool true,[],rfl,rfl,rfl⟩
theorem Fj (ht:aD P av){o:Oper}{x:Operand}{xt A:TypeId}{c:CV}{ie:TI}{z:Value}(hd:bm C.nt o.dst=true)(ho:o.op=.typeAssert x xt A true)(hx:ev s x=some (.iface 0 []))(h1:assoc av A=some ie)(h2:ie.d=.PH->False)(hzz:(P.info? A).bind (·.zero)=some z)(hc:sC z=some c):qU P C o s (s.put o.dst (.cB [c,.bool false])):=by
 rintro a w ⟨σ,h⟩;have hv:=bF h hx;simp only[VR,a6] at hv;obtain⟨vs,e,rfl⟩:=hv;simp only[Rz] at e;obtain⟨u,hu,hud⟩:=(ht A ie h1).Bw;have hn:∀ k,u≠.interface k:=λ k e=>h2 (by rw[<- hud,e];rfl);obtain⟨f,hi,hz⟩:=Option.bind_eq_some_iff.1 hzz;have Zv:VR w (FB C σ s.heap) σ c z:=VR.cK _ _ (nK hc);refine⟨w,.inl ⟨.tuple #[z,.bool false],?_,ec hd h ?_⟩⟩
 ·have hr:(underlying A).run P w=.ok u w:=bz hu w;cases u<;>first | exact absurd rfl (hn _) | simp[execOp,ho,e,Instr.typeAssert,hr,iA hi hz]
 ·simp only[VR,a6];exact⟨[z,.bool false],rfl,z,[.bool false],rfl,Zv,.bool false,[],rfl,rfl,rfl⟩
end
end Go.Can
namespace Go.Proofs.YtlkmbdfhdknlgaaGreat
open Go.Can Go.aJ List Tryz
def aF (m:Mx):Nat:=if m.size=0/\m.re=false then 1 else 8
theorem MA (m:Mx):ae prog 49 [.agg (cH m)] (I (aF m)):=by
 obtain⟨nm,re,sz⟩:=m;refine ae.aE ah Tryz.func49 rfl Ix (by simp[Tryz.ntmps49]) rfl λ C hC RR=>?_;rw[Tryz.ntmps49] at hC;simp only[cH];apply aq;simp[hC];by_cases hz:sz=0
 ·subst hz
  cases re with
  | true=>
   apply aW;simp[hC];refine fX ?_;simp;apply aq;simp[hC];apply T.ret;apply aa.here;simp[Tryz.results49,aF]
  | false=>
   apply aW;simp[hC];refine dy ?_;simp;apply aq;simp[hC];apply T.ret;apply aa.here;simp[Tryz.results49,aF]
 ·apply aW;simp[hC,hz];refine fX ?_;simp;apply aq;simp[hC];apply T.ret;apply aa.here;simp[Tryz.results49,aF,hz]
theorem vI (m:Mx):ae prog 56 [.agg (cH m)] (I (aF m)):=by
 obtain⟨nm,re,sz⟩:=m;refine ae.aE ah Tryz.func56 rfl Ix (by simp[Tryz.ntmps56]) rfl λ C hC RR=>?_;rw[Tryz.ntmps56] at hC;simp only[cH];apply aq;simp[hC];by_cases hz:sz=0
 ·subst hz
  cases re with
  | true=>
   apply aW;simp[hC];refine fX ?_;simp;apply aq;simp[hC];apply T.ret;apply aa.here;simp[Tryz.results56,aF]
  | false=>
   apply aW;simp[hC];refine dy ?_;simp;apply aq;simp[hC];apply T.ret;apply aa.here;simp[Tryz.results56,aF]
 ·apply aW;simp[hC,hz];refine fX ?_;simp;apply aq;simp[hC];apply T.ret;apply aa.here;simp[Tryz.results56,aF,hz]
theorem Ai (m:Mx):ae prog 63 [.agg (cH m)] (I (max m.size 1:Nat)):=by
 obtain⟨nm,re,sz⟩:=m;refine ae.aE ah Tryz.func63 rfl Ix (by simp[Tryz.ntmps63]) rfl λ C hC RR=>?_;rw[Tryz.ntmps63] at hC;simp only[cH];apply aq;simp[hC];apply aq;simp[hC];apply T.ret;apply aa.here;simp[Tryz.results63];split<;>omega
def J110 (ms:List Mx)(n:Nat)(s:St):Prop:=∃ i:Nat,n=ms.length-i/\i<=ms.length/\
 s=⟨[(8,I i),(7,I ms.length),(6,.ax (ms.flatMap cH) ms.length),(3,I (dj (ms.take i)))],[],0⟩
theorem xJ:∀ (ms:List Mx),(∀ m∈ms,m.size<=1000)->dj ms<=1000*ms.length
 | [],_=>by simp[dj]
 | m::r,h=>by
  have h1:=h m mem_cons_self;have h2:=xJ r λ x hx=>h x (mem_cons_of_mem _ hx);rw[dj,length_cons];omega
theorem u0 (ms:List Mx)(hm:Fo ms):ae prog 74 [.ax (ms.flatMap cH) ms.length] (I (dj ms)):=by
 have Tb:=hm.1;refine ae.aE ah Tryz.func74 rfl Ix (by simp[Tryz.ntmps74]) rfl λ C hC RR=>?_;rw[Tryz.ntmps74] at hC;apply aq;simp[hC];apply aq;simp[hC];apply aW;simp[hC];apply T.block;refine T.aH (J110 ms) (n:=ms.length) ?_ ?_
 ·refine aa.trim [8,7,6,3] [] 0 xr yA ⟨0,by omega,by omega,?_⟩;simp[dj]
 ·rintro n s ⟨i,rfl,hi,rfl⟩;by_cases Og:i<ms.length
  ·obtain⟨m,Xe⟩:∃ m,ms[i]? = some m:=⟨_,getElem?_eq_getElem Og⟩;have S9:=aI (f:=cH) (n:=3) mB Xe;have R0:=Ai m;have RQ:trees [.agg (cH m)]=true:=rfl;have wi:=cF ((i:Int)+1) yA yA;have R3:ms.take (i+1)=ms.take i++[m]:=by rw[take_add_one,Xe];rfl
   have R7:=xJ (ms.take i) λ x hx=>hm.2 x (mem_of_mem_take hx);have T9:(ms.take i).length<=1000:=by simp;omega
   have XQ:=hm.2 m (mem_of_getElem? Xe);have wd:=cF ((dj (ms.take i):Int)+(max m.size 1:Nat)) yA yA;apply aq;simp[hC,Og];refine T.seq (T.cond (b:=true) rfl (T.skip ?_));simp;apply eN;apply aq;simp[hC,Og,S9,cH];apply aN;simp[hC];refine cX RQ R0 ?_;simp[hC,wd];apply aN;simp[hC,wi];refine⟨ms.length-(i+1),by omega,aa.trim [8,7,6,3] [] 0 xr yA ⟨i+1,rfl,by omega,?_⟩⟩;simp[R3,pP,dj]
  ·have RU:i=ms.length:=by omega
   subst RU;apply aq;simp[hC];apply T.seq;refine T.cond (b:=false) rfl (T.exit ?_);simp;apply aq;simp[hC];apply T.ret;apply aa.here;simp[Tryz.results74]
theorem Cj (ms:List Mx)(hm:Fo ms)(m:Nat)(x:Mx)(hx:ms[m]? = some x):ae prog 62 [.ax (ms.flatMap cH) ms.length,I m] (I (dj (ms.take m))):=by
 have RS:=(List.getElem?_eq_some_iff.1 hx).1;have R7:=u0 (ms.take m) ⟨by have:=hm.1;simp;omega,λ y hy=>hm.2 y (mem_of_mem_take hy)⟩;have RQ:trees [.ax ((ms.take m).flatMap cH) (ms.take m).length]=true:=by simp only[trees,tree,Bool.and_self]
 refine ae.aE ah Tryz.func62 rfl Ix (by simp[Tryz.ntmps62]) rfl λ C hC RR=>?_;rw[Tryz.ntmps62] at hC;apply aq;simp[hC];have T7:¬ ((ms.length:Int)<=(m:Int)):=by omega
 apply aW;simp[hC];refine T.cond (b:=false) (by simp[ev,assoc,T7]) (T.skip ?_);simp;refine T.seq (T.region (TL.some ah 3 ?_));simp[hC];have YM:take (m*3) (ms.flatMap cH)=(ms.take m).flatMap cH:=by
  rw[<- ur (f:=cH) (n:=3) mB]
 have UR:(ms.take m).length=m:=by simp;omega
 refine mK rfl (yT ah (e:=98) (lo:=none) (cs:=ms.flatMap cH) (len:=ms.length) (l:=0) (n:=m) (m:=m) RT rfl xr xr rfl rfl (by simp[dK,ev,assoc]) (by simp[dK,ev,assoc]) ⟨by omega,by omega,by omega⟩) (TL.go' ah ?_);rw[UR] at RQ R7;simp[YM];refine cX RQ R7 ?_;simp[hC];apply T.ret;apply aa.here;simp[Tryz.results62]
def J80n (ms:List Mx)(e:Nat)(n:Nat)(s:St):Prop:=∃ i e':Nat,n=ms.length-i/\i<=ms.length/\MW ms e 0=MW (ms.drop i) e' i/\e'<=e/\
 s=⟨[(11,I i),(10,I ms.length),(9,.ax (ms.flatMap cH) ms.length),(1,I e')],[],0⟩
theorem uU (ms:List Mx)(hm:Fo ms)(e:Nat)(he:e<=1000000):ae prog 78 [.ax (ms.flatMap cH) ms.length,I e] (I (kD ms e)):=by
 have Tb:=hm.1;rw[<- MV];refine ae.aE ah Tryz.func78 rfl Ix (by simp[Tryz.ntmps78]) rfl λ C hC RR=>?_;rw[Tryz.ntmps78] at hC;apply aq;simp[hC];apply aW;simp[hC];refine T.cond (b:=false) Ta (T.skip ?_);simp;apply aW;simp[hC];apply T.block;refine T.aH (J80n ms e) (n:=ms.length) ?_ ?_
 ·refine aa.trim [11,10,9,1] [] 0 xr yA ⟨0,e,by omega,by omega,by simp,by omega,?_⟩;simp
 ·rintro n s ⟨i,e',rfl,hi,UX,hee,rfl⟩;by_cases Og:i<ms.length
  ·obtain⟨m,Xe⟩:∃ m,ms[i]? = some m:=⟨_,getElem?_eq_getElem Og⟩;have S9:=aI (f:=cH) (n:=3) mB Xe;have R0:=Ai m;have RQ:trees [.agg (cH m)]=true:=rfl;have wi:=cF ((i:Int)+1) yA yA;have Qd:ms.drop i=m::ms.drop (i+1):=by rw[drop_eq_getElem_cons Og];simp[(List.getElem?_eq_some_iff.1 Xe).2]
   rw[Qd,MW] at UX;apply aq;simp[hC,Og];refine T.seq (T.cond (b:=true) rfl (T.skip ?_));simp;apply eN;apply aq;simp[hC,Og,S9,cH];apply aW;simp[hC];refine cX RQ R0 ?_;by_cases RS:e' < max m.size 1
   ·rw[if_pos RS] at UX;have T7:(e':Int)<((max m.size 1:Nat):Int):=by omega
    simp[hC,T7];refine dy ?_;simp;apply aq;simp[hC];apply T.ret;apply aa.here;simp[Tryz.results78,UX]
   ·rw[if_neg RS] at UX;have T7:¬ (e':Int)<((max m.size 1:Nat):Int):=by omega
    have wd:=cF ((e':Int)-((max m.size 1:Nat):Int)) yA yA;have wd2:(e':Int)-((max m.size 1:Nat):Int)=((e' - max m.size 1:Nat):Int):=by omega
    simp[hC,T7];refine fX ?_;simp;apply aN;simp[hC];refine cX RQ R0 ?_;rw[wd2] at wd;simp only[hC];simp[wd,wd2];apply aN;simp[hC,wi];refine⟨ms.length-(i+1),by omega,aa.trim [11,10,9,1] [] 0 xr yA ⟨i+1,e' - max m.size 1,rfl,by omega,UX,by omega,?_⟩⟩;simp
  ·have RU:i=ms.length:=by omega
   subst RU;simp[MW] at UX;apply aq;simp[hC];apply T.seq;refine T.cond (b:=false) rfl (T.exit ?_);simp;apply aq;simp[hC];apply T.ret;apply aa.here;simp[Tryz.results78,UX]
theorem yH (th:Nat):∀ (W:List Ho) (i:Nat) (h:Ho),W[i]? = some h->p5 th (W.take (i+1))=p5 th (W.take i)+(if h.o=th+1 then h.d else 0)
 | [],i,h,e=>by simp at e
 | x::W,0,h,e=>by
  simp at e;subst e;simp[p5]
 | x::W,i+1,h,e=>by
  simp only[getElem?_cons_succ] at e;rw[take_succ_cons,p5,yH th W i h e,take_succ_cons,p5];omega
def J46 (W:List Ho)(th n:Nat)(s:St):Prop:=∃ i:Nat,n=W.length-i/\i<=W.length/\
 s=⟨[(41,I i),(40,I W.length),(39,.ax (W.flatMap dL) W.length),(10,I (p5 th (W.take i))),(3,I th)],[],0⟩
theorem zb (ms:List Mx)(hm:Fo ms)(tb:List Ho)(m th:Nat)(x:Mx)(hx:ms[m]? = some x)(hl:tb.length=(bR ms).length)(_ht:th<=1000000)(hd:∀ h∈tb,h.d<=1000000/\h.o<=1000000) :
  ae prog 25 [.ax (ms.flatMap cH) ms.length,.ax (tb.flatMap dL) tb.length,I m,I th] (I (ch ms tb m th)):=by
 have RS:=(List.getElem?_eq_some_iff.1 hx).1;have hba:=Cj ms hm m x hx;have R0:=Ai x;have RQ:trees [.ax (ms.flatMap cH) ms.length,I m]=true:=by simp only[trees,tree,Bool.and_self]
 have SD:trees [.agg (cH x)]=true:=rfl;have hw:=xL m th ms 0 tb x hl yA (by simpa using hx);rw[Nat.sub_zero] at hw;have T1:=aI (f:=cH) (n:=3) mB hx;have R7:dj (ms.take m)+max x.size 1<=tb.length:=by
  have h1:ms.take (m+1)=ms.take m++[x]:=by rw[take_add_one,hx];rfl
  have h2:=pP (ms.take (m+1)) (ms.drop (m+1));rw[take_append_drop,h1,pP] at h2;simp only[dj] at h2;rw[hl,bR,ux];omega
 have Zl:=oO ms 0 hm.2;have Tb:=hm.1;have Si:tb.length<=1000000:=by rw[hl,bR];omega
 have Uk:ch ms tb m th=p5 th ((tb.drop (dj (ms.take m))).take (max x.size 1)):=hw;rw[Uk];have SK:take (max x.size 1*2) (drop (dj (ms.take m)*2) (tb.flatMap dL))=((tb.drop (dj (ms.take m))).take (max x.size 1)).flatMap dL:=by
  rw[uu de,ur de]
 have Vv:((tb.drop (dj (ms.take m))).take (max x.size 1)).length=max x.size 1:=by simp;omega
 have hWd:∀ h∈(tb.drop (dj (ms.take m))).take (max x.size 1),h.d<=1000000/\h.o<=1000000:=λ h hh=>hd h (mem_of_mem_drop (mem_of_mem_take hh));generalize (tb.drop (dj (ms.take m))).take (max x.size 1)=W at SK Vv hWd |-;generalize dj (ms.take m)=b at hba R7 SK;have wb:=cF ((b:Int)+((max x.size 1:Nat):Int)) yA yA;refine ae.aE ah Tryz.func25 rfl Ix (by simp[Tryz.ntmps25]) rfl λ C hC RR=>?_;rw[Tryz.ntmps25] at hC;apply aq;simp[hC];apply aq;simp[hC];refine cX RQ hba ?_;simp[hC];apply aW;simp[hC];refine T.cond (b:=false) Ta (T.skip ?_);simp;apply aq;simp[hC];apply aq;simp[hC,RS,T1,cH];refine cX SD R0 ?_;generalize hM:max x.size 1=M at R0 R7 SK Vv wb;have XD:(b:Int)+(M:Int)=((b+M:Nat):Int):=by omega
 have hmn:¬ (tb.length:Int)<((b+M:Nat):Int):=by omega
 have SS:¬ ((b+M:Nat):Int)<(b:Int):=by omega
 rw[XD] at wb;simp only[hC];simp[-Int.natCast_add,XD,wb,hmn];refine T.seq (T.seq (T.region (TL.some ah 6 ?_)));simp[-Int.natCast_add,hC,SS];refine mK rfl (yT ah (e:=122) (cs:=tb.flatMap dL) (len:=tb.length) (l:=b) (n:=b+M) (m:=b+M) RT rfl xr xr rfl (by simp[dK,ev,assoc]) (by simp[-Int.natCast_add,dK,ev,assoc]) (by simp[-Int.natCast_add,dK,ev,assoc]) ⟨by omega,by omega,by omega⟩) (TL.go' ah ?_);rw[show b+M-b=M by omega];simp[-Int.natCast_add,hC,SK];apply T.block;rw[<- Vv];have tW:trees (W.flatMap dL)=true:=ak cj _;refine T.aH (J46 W th) (n:=W.length) ?_ ?_
 ·refine aa.trim [41,40,39,10,3] [] 0 xr yA ⟨0,by omega,by omega,?_⟩;simp[p5]
 ·rintro n s ⟨i,rfl,hi,rfl⟩;by_cases Og:i<W.length
  ·obtain⟨h,hh⟩:∃ h,W[i]? = some h:=⟨_,getElem?_eq_getElem Og⟩;have RW:=yH th W i h hh;have VH:=Fw th (W.take (i+1)) λ y hy=>(hWd y (mem_of_mem_take hy)).1;have hWt:(W.take (i+1)).length<=1000000:=by simp;omega
   generalize p5 th (W.take i)=D at RW;have VY:=aI (f:=dL) (n:=2) de hh;have wi:=cF ((i:Int)+1) yA yA;have hho:=(hWd h (mem_of_getElem? hh)).2;have wo:=cF ((h.o:Int)-1) yA yA;apply aq;simp[hC,Og];refine T.seq (T.cond (b:=true) rfl (T.skip ?_));simp;apply eN;apply aq;simp[hC,Og,VY,dL];by_cases Xc:h.o=th+1
   ·rw[if_pos Xc] at RW;have We:((h.o:Int)-1 == (th:Int))=true:=by rw[beq_iff_eq];omega
    have wd:=cF ((D:Int)+h.d) yA yA;apply aq;simp[hC,wo,We];refine dy ?_;simp;apply aN;simp[hC,wd];apply aN;simp[hC,wi];refine⟨W.length-(i+1),by omega,aa.trim [41,40,39,10,3] [] 0 xr yA ⟨i+1,rfl,by omega,?_⟩⟩;simp[RW]
   ·rw[if_neg Xc] at RW;have We:((h.o:Int)-1 == (th:Int))=false:=by rw[beq_eq_false_iff_ne];omega
    apply aq;simp[hC,wo,We];refine fX ?_;simp;apply aN;simp[hC,wi];refine⟨W.length-(i+1),by omega,aa.trim [41,40,39,10,3] [] 0 xr yA ⟨i+1,rfl,by omega,?_⟩⟩;simp[RW]
  ·have RU:i=W.length:=by omega
   subst RU;apply aq;simp[hC];apply T.seq;refine T.cond (b:=false) Ta ?_;simp;apply T.exit;simp;apply aq;simp[hC];apply T.ret;apply aa.here;simp[Tryz.results25]
end Go.Proofs.YtlkmbdfhdknlgaaGreat
