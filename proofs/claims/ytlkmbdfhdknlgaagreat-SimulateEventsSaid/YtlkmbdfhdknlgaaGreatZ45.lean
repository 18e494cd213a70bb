/- A step of a thread is a st -/
import Derived.Test.YtlkmbdfhdknlgaaGreatZ40
namespace Go.Proofs.YtlkmbdfhdknlgaaGreat
open Go.Can Go.aJ List
def EG (u:Un)(m L d:Nat)(st:List (Nat×Nat)):List (Nat×List (Nat×Nat)):=match st.getLast? with
 | none=>[]
 | some p=>match (az u).is[p.1]? with
  | none=>[]
  | some x=>match (ay u x)[p.2]? with
   | none=>[]
   | some z=>if vn z=true then [(d,st.dropLast)] else if eI z=true then [(d,st.dropLast++[(p.1,p.2+1),(er (az u) p.1 p.2,0)])]
    else if 0<=(d:Int)+eT x m z/\(d:Int)+eT x m z<=L then (gG z p.2).map λ q=>(((d:Int)+eT x m z).toNat,st.dropLast++[(p.1,q)]) else []
theorem qM (m th:Nat):∀ (os:List Nat) (tb:List Ho) (e mm:Nat) (x y:Ho),os[e]? = some mm->tb[e]? = some x ->
  fh m th os (tb.set e y)+(if mm=m/\x.o=th+1 then x.d else 0)=fh m th os tb+(if mm=m/\y.o=th+1 then y.d else 0)
 | [],_,e,mm,x,y,h,_=>by simp at h
 | o::os,[],e,mm,x,y,_,h=>by simp at h
 | o::os,h::tb,0,mm,x,y,h1,h2=>by
  simp only[getElem?_cons_zero,Option.some.injEq] at h1 h2;subst h1 h2;simp only[set_cons_zero,fh];omega
 | o::os,h::tb,e+1,mm,x,y,h1,h2=>by
  have:=qM m th os tb e mm x y (by simpa using h1) yC;simp only[set_cons_succ,fh];omega
theorem EJ {ms:List Mx}{tb:List Ho}{e th m:Nat}(hz:∀ h∈tb,h.o=0->h.d=0)(h:(fH ms tb e th).2=true):ch ms (fH ms tb e th).1 m th=ch ms tb m th+if kB ms e=m then 1 else 0:=by
 unfold fH at h |-;split
 ·rename_i hf;unfold xC at hf;split at hf
  ·rename_i mm x hm hx;rw[hx];have hs:=qM m th (bR ms) tb e mm x ⟨th+1,x.d+1⟩ hm hx;have V5:kB ms e=mm:=by rw[kB,getD_eq_getElem?_getD,hm];rfl
   have h0:=hz x (mem_of_getElem? hx);simp only[ch] at hs |-;rw[V5];have Zk:x.o=0\/x.o=th+1:=by
    simp only[Bool.or_eq_true,Bool.and_eq_true,decide_eq_true_eq] at hf;rcases hf with hf | hf
    ·exact .inl hf
    ·exact .inr hf.1
   by_cases SS:mm=m
   ·simp only[SS,true_and,if_true] at hs |-;rcases Zk with h1 | h1
    ·rw[if_neg yA,h0 h1] at hs;rw[h0 h1];omega
    ·rw[if_pos h1] at hs;omega
   ·simp only[SS,false_and,if_false] at hs |-;omega
  ·cases hf
 ·rename_i hf;rw[if_neg hf] at h;cases h
theorem z4 {ms:List Mx}{tb:List Ho}{e th m:Nat}(hz:∀ h∈tb,h.o≠0->0<h.d)(h:(dm ms tb e th).2=true):ch ms (dm ms tb e th).1 m th+(if kB ms e=m then 1 else 0)=ch ms tb m th:=by
 unfold dm at h |-;split
 ·rename_i mm x hm hx;rw[hm,hx] at h;simp only at h;split
  ·rename_i ho;have hs:=qM m th (bR ms) tb e mm x (if x.d=1 then ⟨0,0⟩ else ⟨th+1,x.d-1⟩) hm hx;have V5:kB ms e=mm:=by rw[kB,getD_eq_getElem?_getD,hm];rfl
   have h0:=hz x (mem_of_getElem? hx) yA;simp only[ch] at hs |-;rw[V5];by_cases SS:mm=m
   ·simp only[SS,true_and,if_true,ho] at hs |-;by_cases h1:x.d=1
    ·simp only[h1,if_true] at hs |-;rw[if_neg yA] at hs;omega
    ·simp only[h1,if_false,if_true] at hs |-;omega
   ·simp only[SS,false_and,if_false] at hs |-;omega
  ·rename_i ho;rw[if_neg ho] at h;cases h
 ·rename_i hn;split at h
  ·rename_i a b ha hb;exact (hn a b ha hb).elim
  ·cases h
theorem EU {u:Un}(hu:fV u){k:Nat}{s:Sy}(hs:ov u k s)(ho:RO s){t m:Nat}{x:Mx}(hx:u.ms[m]? = some x){s':Sy}(RW:fT u s t=(s',true))(SL:s'.fault=0)(he:(sw u s t).1=0\/(sw u s t).2≠m)(hd:ch u.ms s.tb m t<=aF x) :
  ∃ a b,fz u s t m=some a/\fz u s' t m=some b/\ch u.ms s'.tb m t<=aF x/\b∈EG u m (aF x) a.1 a.2:=by
 have hst':=RW;unfold fT at RW;split at RW
 ·cases RW
 rename_i f hf;split at RW
 ·cases RW
 rename_i i hi;obtain⟨n,l0,hnt,hl,hsf,Uk⟩:=ld hf;have hnt2:t=n:=by omega
 subst hnt2;rw[Int.toNat_natCast,Uk] at RW;obtain⟨o1,o2,o3,o4⟩:=hs.gA hl;obtain⟨q,hq,gZ,Wd,R7⟩:=o2.q;have hii:=hi;simp only[jJ,hf,hq] at hi;have Si:=(List.getElem?_eq_some_iff.1 hl).1;have TJ:=AQ o2.ic;have RZ:(ay u (gg u.ms f))[f.pc]? = some i:=by simp only[ay,gg,hq];exact hi
 have UU:fz u s t m=some (ch u.ms s.tb m t,(l0++[f]).map (pJ u)):=by
  simp only[fz,Int.toNat_natCast,hl,hx];rw[if_neg yA,Nat.min_eq_left hd]
 have XI:∀ {l':List Fr} {s2:Sy},s2.ts[t]? = some l'->fz u s2 t m=some (min (ch u.ms s2.tb m t) (aF x),l'.map (pJ u)):=λ h=>by
  simp only[fz,Int.toNat_natCast,h,hx];rw[if_neg yA]
 have Sc:∀ l':List Fr,(s.ts.set t l')[t]? = some l':=λ l'=>getElem?_set_self Si;have hmd:∀ d,EG u m (aF x) d ((l0++[f]).map (pJ u))=(if vn i=true then [(d,l0.map (pJ u))] else if eI i=true then [(d,l0.map (pJ u)++[(ez (az u).is (gg u.ms f),f.pc+1),(er (az u) (ez (az u).is (gg u.ms f)) f.pc,0)])]
    else if 0<=(d:Int)+eT (gg u.ms f) m i/\(d:Int)+eT (gg u.ms f) m i<=aF x then (gG i f.pc).map λ q=>(((d:Int)+eT (gg u.ms f) m i).toNat,l0.map (pJ u)++[(ez (az u).is (gg u.ms f),q)]) else []):=λ d=>by
  simp only[EG,map_append,map_cons,map_nil,getLast?_append,getLast?_singleton,Option.some_or,pJ,TJ,RZ,dropLast_concat]
 suffices hh:∃ b,fz u s' t m=some b/\ch u.ms s'.tb m t<=aF x/\b∈EG u m (aF x) (ch u.ms s.tb m t) ((l0++[f]).map (pJ u)) by
  obtain⟨b,hb⟩:=hh;exact⟨_,b,UU,hb⟩
 -- a step that changes no table and goes on within the frame
 have go1:∀ {s2:Sy} {g:Nat} {vs:List Int},s2.tb=s.tb->s2.ts[t]? = some (l0++[⟨f.proc,g,vs,f.eA⟩])->vn i=false->eI i=false->eT (gg u.ms f) m i=0->g∈gG i f.pc ->
   ∃ b,fz u s2 t m=some b/\ch u.ms s2.tb m t<=aF x/\b∈EG u m (aF x) (ch u.ms s.tb m t) ((l0++[f]).map (pJ u)):=λ {s2 g vs} r0 r5 r1 r2 r3 r4=>by
  refine⟨_,XI r5,by rw[r0];exact hd,?_⟩;rw[hmd,r1,r2,r3,if_neg R1,if_neg R1,if_pos yA];simp only[mem_map];refine⟨g,r4,?_⟩;rw[r0,Nat.min_eq_left hd];simp[pJ,gg]
 have TV:=(hu.pc q (mem_of_getElem? hq)).2 i (mem_of_getElem? hi);rw[<- hs.gs,<- Wd,<- R7] at TV
 cases i with
 | set k' gl e=>
  have Te:f.pc+1∈gG (.set k' gl e) f.pc:=by simp[gG]
  simp only[fk,N4,Prod.mk.injEq,and_true] at RW;split at RW
  ·split at RW
   ·subst RW;exact go1 rfl (Sc _) rfl rfl rfl Te
   ·subst RW;exact go1 rfl (Sc _) rfl rfl rfl Te
  ·rename_i h;subst RW;exact (h SL).elim
 | branch g e=>
  simp only[fk,OG,Prod.mk.injEq,and_true] at RW;split at RW
  ·subst RW;refine go1 rfl (Sc _) rfl rfl rfl ?_;simp only[gG];split<;>split<;>simp<;>omega
  ·rename_i h;subst RW;exact (h SL).elim
 | jump g=>
  simp only[fk,Prod.mk.injEq,and_true] at RW;subst RW;exact go1 rfl (Sc _) rfl rfl rfl (by simp[gG])
 | ret=>
  simp only[fk,Prod.mk.injEq,and_true] at RW;subst RW;refine⟨_,XI (Sc _),hd,?_⟩;rw[hmd,if_pos (show vn In.ret=true from rfl)];simp[Nat.min_eq_left hd]
 | lock un p=>
  have T0:vW u.ms s.gs.length f.aV.length f.eA.length p:=TV;obtain⟨n,hn⟩:=jW u s t p (mY hu) f hf T0;have hmd2:=hmd (ch u.ms s.tb m t);rw[if_neg (by simp[vn]),if_neg (by simp[eI])] at hmd2;rw[hmd2];have SN:iV (gg u.ms f) p=m->xH un (ch u.ms s.tb m t) (aF x)=0:=λ SS=>by
   by_cases hk:xH un (ch u.ms s.tb m t) (aF x)=0
   ·exact hk
   ·simp only[sw,hf,hii,SS,hx,Int.toNat_natCast,if_neg hk] at he;rcases he with he | he
    ·exact he
    ·exact (he rfl).elim
  cases un with
  | true=>
   simp only[fk,if_true,N1] at RW;split at RW
   ·rename_i h0;obtain⟨_,Sd⟩:=jV hu hf o2 T0 (n:=n) (Prod.ext hn h0);have hz:(bT u s t p).1.toNat=n:=by omega
    rw[hz] at RW;split at RW
    ·rename_i hul;simp only[Prod.mk.injEq,and_true] at RW;subst RW;have UL:=z4 (m:=m) (λ h hh=>(hs.hd h hh).2) hul;rw[Sd] at UL;have hc:eT (gg u.ms f) m (.lock true p)=if iV (gg u.ms f) p=m then -1 else 0:=by simp[eT]
     have hle:ch u.ms (dm u.ms s.tb n t).1 m t<=aF x:=by
      split at UL<;>omega
     refine⟨_,XI (Sc _),hle,?_⟩;rw[hc];simp only;by_cases SS:iV (gg u.ms f) p=m
     ·rw[if_pos SS] at UL |-;rw[if_pos yA];simp only[mem_map];refine⟨f.pc+1,by simp[gG],?_⟩;rw[Nat.min_eq_left yA];simp only[Prod.mk.injEq];exact⟨by omega,by simp[pJ,gg]⟩
     ·rw[if_neg SS] at UL |-;rw[if_pos yA];simp only[mem_map];refine⟨f.pc+1,by simp[gG],?_⟩;rw[Nat.min_eq_left yA];simp only[Prod.mk.injEq];exact⟨by omega,by simp[pJ,gg]⟩
    ·simp only[Prod.mk.injEq,and_true] at RW;subst RW;cases SL
   ·rename_i h;simp only[Prod.mk.injEq,and_true] at RW;subst RW;exact (h SL).elim
  | false=>
   simp only[fk,Bool.false_eq_true,if_false,Of] at RW;split at RW
   ·rename_i h0;obtain⟨_,Sd⟩:=jV hu hf o2 T0 (n:=n) (Prod.ext hn h0);have hz:(bT u s t p).1.toNat=n:=by omega
    rw[hz] at RW;split at RW
    ·rename_i Tg;simp only[Prod.mk.injEq,and_true] at RW;subst RW;have UL:=EJ (m:=m) (λ h hh=>(ho h hh).2) Tg;rw[Sd] at UL;have hc:eT (gg u.ms f) m (.lock false p)=if iV (gg u.ms f) p=m then 1 else 0:=by simp[eT]
     have RS:iV (gg u.ms f) p=m->ch u.ms s.tb m t<aF x:=λ SS=>by
      have h5:=SN SS;simp only[xH,Bool.false_eq_true,if_false] at h5;split at h5
      ·split at h5<;>cases h5
      ·omega
     have hle:ch u.ms (fH u.ms s.tb n t).1 m t<=aF x:=by
      by_cases SS:iV (gg u.ms f) p=m
      ·have:=RS SS;rw[if_pos SS] at UL;omega
      ·rw[if_neg SS] at UL;omega
     refine⟨_,XI (Sc _),hle,?_⟩;rw[hc];simp only;by_cases SS:iV (gg u.ms f) p=m
     ·have RS:=RS SS;rw[if_pos SS] at UL |-;rw[if_pos yA];simp only[mem_map];refine⟨f.pc+1,by simp[gG],?_⟩;rw[Nat.min_eq_left yA];simp only[Prod.mk.injEq];exact⟨by omega,by simp[pJ,gg]⟩
     ·rw[if_neg SS] at UL |-;rw[if_pos yA];simp only[mem_map];refine⟨f.pc+1,by simp[gG],?_⟩;rw[Nat.min_eq_left yA];simp only[Prod.mk.injEq];exact⟨by omega,by simp[pJ,gg]⟩
    ·cases RW
   ·rename_i h;simp only[Prod.mk.injEq,and_true] at RW;subst RW;exact (h SL).elim
 | call go tg es ps=>
  obtain⟨c1,c2,c3⟩:=TV
  cases go with
  | true=>
   simp only[fk,if_true,Oq,Prod.mk.injEq,and_true] at RW;split at RW
   ·split at RW
    ·subst RW;cases SL
    ·subst RW;refine go1 rfl ?_ rfl rfl rfl (g:=f.pc+1) (vs:=f.aV) (by simp[gG]);simp only;rw[getElem?_append_left (by rw[length_set];exact Si)];exact Sc _
   ·rename_i h;subst RW;exact (h SL).elim
  | false=>
   simp only[fk,Bool.false_eq_true,if_false,OF,Prod.mk.injEq,and_true] at RW;split at RW
   ·rename_i h0;subst RW;refine⟨_,XI (Sc _),hd,?_⟩;rw[hmd,if_neg (by simp[vn]),if_pos (show eI (In.call false tg es ps)=true from rfl),mem_singleton];have Su:gg u.ms (mV u s t f tg (uj u tg) es ps).1=⟨tg,ps.map (iV (gg u.ms f))⟩/\(mV u s t f tg (uj u tg) es ps).1.pc=0:=by
     unfold mV at h0 |-;split
     ·rename_i h1;rw[if_pos h1] at h0;split
      ·rename_i h2;obtain⟨k1,k2⟩:=nC hu hf o2 ps c3 h2;exact⟨by simp only[gg,k2],rfl⟩
      ·rename_i h2;rw[if_neg h2] at h0;exact (h2 h0).elim
     ·rename_i h1;rw[if_neg h1] at h0;exact (h1 h0).elim
    obtain⟨hk,_⟩:=Ki hu TJ RZ (y:=⟨tg,ps.map (iV (gg u.ms f))⟩) rfl;have hkn:er (az u) (ez (az u).is (gg u.ms f)) f.pc=ez (az u).is ⟨tg,ps.map (iV (gg u.ms f))⟩:=by rw[er,hk];rfl
    rw[hkn,Nat.min_eq_left hd];simp only[map_append,map_cons,map_nil,pJ,Su.1,Su.2];simp[gg]
   ·rename_i h;subst RW;exact (h SL).elim
end Go.Proofs.YtlkmbdfhdknlgaaGreat
namespace Go.aJ
open Go.Can
section
variable (u:Un)(c:Cl)(m L:Nat)
inductive NX:List (Nat×Nat)->Nat->Nat->Prop
 | root {r:Nat} (h:r∈c.roots):NX [] r 0
 | call {l:List (Nat×Nat)} {i e pc e' k:Nat} {x:Is} {z:In} (h:NX l i e) (hr:Rr u c m L i pc e e') (hx:c.is[i]? = some x) (hz:(ay u x)[pc]? = some z) (hc:eI z=true) (hk:k=er c i pc):NX ((i,pc+1)::l) k e'
def Bt (l:List (Nat×Nat))(d:Nat):Prop:=match l with
 | []=>d<=L
 | p::r=>∃ e,NX u c m L r p.1 e/\Rr u c m L p.1 p.2 e d
end
section
variable {u:Un}{c:Cl}{m L:Nat}
theorem NX.Iy {l:List (Nat×Nat)}{i e:Nat}(h:NX u c m L l i e):qu u c m L i e:=by
 induction h with
 | root h=>exact .root h
 | call h hr hx hz hc hk ih=>rw[hk];exact .call ih hr hx hz hc
theorem Bt.be {p:Nat×Nat}{r:List (Nat×Nat)}{d:Nat}(h:Bt u c m L (p::r) d):Be u c m L p.1 p.2 d:=by
 obtain⟨e,h1,h2⟩:=h;exact⟨e,h1.Iy,h2⟩
theorem Bt.le {l:List (Nat×Nat)}{d:Nat}(h:Bt u c m L l d):d<=L:=by
 cases l with
 | nil=>exact h
 | cons p r=>
  obtain⟨e,_,h2⟩:=h;exact (h2.ri.le).2
end
end Go.aJ
namespace Go.Proofs.YtlkmbdfhdknlgaaGreat
open Go.Can Go.aJ List Tryz
theorem J9 {u:Un}{m L d:Nat}{st:List (Nat×Nat)}(h:Bt u (az u) m L st.reverse d){b:Nat×List (Nat×Nat)}(hb:b∈EG u m L d st):Bt u (az u) m L b.2.reverse b.1:=by
 unfold EG at hb;split at hb
 ·cases hb
 ·rename_i p hp;obtain⟨l0,rfl⟩:=getLast?_eq_some_iff.1 hp;simp only[reverse_append,reverse_cons,reverse_nil,nil_append,cons_append] at h;obtain⟨e,h1,h2⟩:=h;split at hb
  ·cases hb
  ·rename_i x hx;split at hb
   ·cases hb
   ·rename_i z hz;simp only[dropLast_concat] at hb;split at hb
    ·rename_i hr;rw[mem_singleton.1 hb];simp only;have hzr:z=.ret:=by
      cases z<;>first | rfl | cases hr
     subst hzr
     cases hl:l0.reverse with
     | nil=>exact (h2.ri.le).2
     | cons q r=>
      rw[hl] at h1
      cases h1 with
      | call g1 g2 g3 g4 g5 g6=>
       rw[g6] at h2 hx;exact⟨_,g1,Rr.call g2 g3 g4 g5 h2 hx hz (h2.ri.le).2⟩
    ·split at hb
     ·rename_i hr hc;rw[mem_singleton.1 hb];simp only[reverse_append,reverse_cons,reverse_nil,nil_append,cons_append];exact⟨d,NX.call h1 h2 hx hz hc rfl,Rr.base (h2.ri.le).2⟩
     ·split at hb
      ·rename_i hr hc WK;simp only[mem_map] at hb;obtain⟨q,hq,rfl⟩:=hb;simp only[reverse_append,reverse_cons,reverse_nil,nil_append,cons_append];exact⟨e,h1,Rr.step h2 hx hz (by simpa using hc) yA yA hq⟩
      ·cases hb
def NW (u:Un)(m L:Nat)(s:Sy):Prop:=∀ (t:Nat) (l:List Fr),s.ts[t]? = some l->ch u.ms s.tb m t<=L/\Bt u (az u) m L (l.map (pJ u)).reverse (ch u.ms s.tb m t)
theorem Ba {u:Un}{m:Nat}{x:Mx}{s:Sy}{t:Nat}{l:List Fr}(hx:u.ms[m]? = some x)(hl:s.ts[t]? = some l):fz u s t m=some (min (ch u.ms s.tb m t) (aF x),l.map (pJ u)):=by
 simp only[fz,Int.toNat_natCast,hl,hx];rw[if_neg yA]
theorem H3 {u:Un}(hu:fV u){k:Nat}{s:Sy}(hs:ov u k s)(ho:RO s){t:Nat}{m:Nat}{x:Mx}(hx:u.ms[m]? = some x)(hc:NW u m (aF x) s){s':Sy}(RW:fT u s t=(s',true))(SL:s'.fault=0)(he:(sw u s t).1=0\/(sw u s t).2≠m):NW u m (aF x) s':=by
 intro i l hl;have hO:=FF hu hs t;rw[RW,Int.toNat_natCast] at hO;simp only at hO;by_cases Sk:i=t
 ·subst Sk;obtain⟨l1,Ts⟩:∃ l1,s.ts[i]? = some l1:=by
   by_cases h:i<s.ts.length
   ·exact⟨_,getElem?_eq_getElem h⟩
   ·obtain⟨h1,h2,_⟩:=hO.new i l yA hl;omega
  obtain⟨h1,h2⟩:=hc i l1 Ts;obtain⟨a,b,ha,hb,hle,hm⟩:=EU hu hs ho hx RW SL he h1;rw[Ba hx Ts,Nat.min_eq_left h1] at ha;rw[Ba hx hl,Nat.min_eq_left hle] at hb;cases ha;cases hb;exact⟨hle,J9 h2 hm⟩
 ·by_cases h:i<s.ts.length
  ·rw[hO.ts i Sk h] at hl;have UL:ch u.ms s'.tb m i=ch u.ms s.tb m i:=nH m i _ _ _ hO.tbl.symm (hO.tb i Sk);rw[UL];exact hc i l hl
  ·obtain⟨rfl,Si,g,rfl,gZ,hic,hr⟩:=hO.new i l yA hl;have hz:ch u.ms s'.tb m s.ts.length=0:=by
    rw[ch,nH m s.ts.length _ s.tb s'.tb hO.tbl.symm (hO.tb _ yA),pa m s.ts.length _ s.tb λ x hx=>(ho x hx).1]
   rw[hz];refine⟨Nat.zero_le _,?_⟩;simp only[map_cons,map_nil,reverse_cons,reverse_nil,nil_append,Bt,pJ,gZ];exact⟨0,NX.root hr,Rr.base (Nat.zero_le _)⟩
theorem JV {u:Un}(hu:fV u)(m L:Nat):NW u m L (oS u):=by
 intro t l hl;have hz:ch u.ms (oS u).tb m t=0:=pa m t _ _ λ h hh=>by
  have:=eq_of_mem_replicate hh;rw[this];exact Nat.zero_le _
 rw[hz];refine⟨Nat.zero_le _,?_⟩;have Uu:t=0:=by
  have:=(List.getElem?_eq_some_iff.1 hl).1;simp[oS] at this;exact this
 subst Uu;simp only[oS,getElem?_cons_zero,Option.some.injEq] at hl;subst hl;have hroot:0∈(az u).roots:=((sF hu).root 0).2 (.inl rfl);have hh:=uC u 100 0 [⟨u.main,[]⟩] [] [0] ⟨u.main,[]⟩ rfl;have hidx:ez (az u).is ⟨u.main,[]⟩=0:=by
  cases RY:(az u).is with
  | nil=>
   rw[show (kQ u 100 0 [⟨u.main,[]⟩] [] [0]).is=(az u).is from rfl,RY] at hh;cases hh
  | cons y r=>
   rw[show (kQ u 100 0 [⟨u.main,[]⟩] [] [0]).is=(az u).is from rfl,RY] at hh;cases hh;simp[ez,findIdx_cons]
 simp only[map_cons,map_nil,reverse_cons,reverse_nil,nil_append,Bt,pJ,gg];rw[hidx];exact⟨0,NX.root hroot,Rr.base (Nat.zero_le _)⟩
theorem I7 (u:Un)(s:Sy)(t:Nat)(l0:List Fr)(f:Fr)(i:In):(fk u s t l0 f i).2=false->(fk u s t l0 f i).1=s:=by
 cases i<;>simp only[fk,N1,Of]
 case lock=>((repeat' split);all_goals (intro h;first | rfl | cases h))
 all_goals intro h;cases h
theorem I6 {u:Un}{s:Sy}{t:Int}:(fT u s t).2=false->(fT u s t).1=s:=by
 unfold fT;split
 ·intro _;rfl
 ·split
  ·intro _;rfl
  ·exact I7 _ _ _ _ _ _
structure CvI (u:Un)(m:Nat)(x:Mx)(k:Nat)(s:Sy):Prop where
 v:ov u k s
 o:RO s
 c:s.fault=0->NW u m (aF x) s
theorem Nt {u:Un}(hu:fV u)(m:Nat)(x:Mx):CvI u m x 0 (oS u):=⟨EE hu,PV u,λ _=>JV hu m _⟩
theorem K2 {u:Un}(hu:fV u){k:Nat}{s:Sy}{m:Nat}{x:Mx}(h:CvI u m x k s)(hx:u.ms[m]? = some x)(t:Int)(he:(sw u s t).1=0\/(sw u s t).2≠m):CvI u m x (k+1) (fT u s t).1:=by
 refine⟨Ae hu h.v t,(FF hu h.v t).ow h.o,λ hf=>?_⟩
 cases ho:(fT u s t).2 with
 | false=>rw[I6 ho] at hf |-;exact h.c hf
 | true=>
  have ht:∃ f,eW s t=some f:=by
   cases ht:eW s t with
   | none=>simp[fT,ht] at ho
   | some f=>exact⟨f,rfl⟩
  obtain⟨f,WH⟩:=ht;obtain⟨n,l0,rfl,hl,SL,_⟩:=ld WH;exact H3 hu h.v h.o hx (h.c SL) (Prod.ext rfl ho) hf he
theorem Nu {u:Un}{k:Nat}{s:Sy}{m:Nat}{x:Mx}(h:CvI u m x k s)(hx:u.ms[m]? = some x)(hf:s.fault=0){t:Nat}(ht:t<s.ts.length):∃ (d:Nat) (P:List (Nat×Nat)),fz u s t m=some (d,P)/\d=ch u.ms s.tb m t/\
  (P=[]\/∃ (l0:List (Nat×Nat)) (i pc:Nat) (y:Is),P=l0++[(i,pc)]/\(az u).is[i]? = some y/\pc<(ay u y).length/\d<=aF x/\(kE (aF x) (Be u (az u) m (aF x) i pc)).testBit d=true):=by
 obtain⟨l,hl⟩:∃ l,s.ts[t]? = some l:=⟨_,getElem?_eq_getElem ht⟩;obtain⟨h1,h2⟩:=h.c hf t l hl;refine⟨_,_,Ba hx hl,Nat.min_eq_left h1,?_⟩;rw[Nat.min_eq_left h1];rcases eq_nil_or_concat l with rfl | ⟨L,b,rfl⟩
 ·exact .inl rfl
 ·rw[concat_eq_append] at hl h2 |-;have hb:=h.v.fr _ (mem_of_getElem? hl) b xr;obtain⟨q,hq,gZ,_⟩:=hb.q;simp only[map_append,map_cons,map_nil,reverse_append,reverse_cons,reverse_nil,nil_append,cons_append] at h2 |-;exact .inr ⟨_,_,_,_,rfl,AQ hb.ic,by simp only[ay,gg,hq];exact gZ,h1,(pK h1).2 h2.be⟩
theorem Ov {u:Un}{s:Sy}{t:Int}(h:(sw u s t).1≠0):∃ (n:Nat) (l0:List Fr) (f:Fr) (x:Mx),t=n/\s.ts[n]? = some (l0++[f])/\s.fault=0/\u.ms[(sw u s t).2]? = some x:=by
 unfold sw at h |-;split at h
 ·rename_i f un p hf hi;obtain⟨n,l0,rfl,hl,SL,_⟩:=ld hf;split at h
  ·rename_i x hx;split at h
   ·exact (h rfl).elim
   ·rename_i hk;refine⟨n,l0,f,x,rfl,hl,SL,?_⟩;simp only[hx,if_neg hk]
  ·exact (h rfl).elim
 ·exact (h rfl).elim
structure OV (u:Un)(met:List Bool)(k:Nat)(s:Sy):Prop where
 v:ov u k s
 c:∀ (m:Nat) (x:Mx),u.ms[m]? = some x->met[m]? = some false->CvI u m x k s
theorem Nn {u:Un}(hu:fV u)(met:List Bool):OV u met 0 (oS u):=⟨EE hu,λ m x _ _=>Nt hu m x⟩
theorem KR {u:Un}(hu:fV u){met:List Bool}{k:Nat}{s:Sy}(h:OV u met k s)(t:Int)(he:(sw u s t).1=0\/met[(sw u s t).2]?≠some false):OV u met (k+1) (fT u s t).1:=
 ⟨Ae hu h.v t,λ m x hx hm=>K2 hu (h.c m x hx hm) hx t (he.imp id λ h1 h2=>h1 (by rw[h2];exact hm))⟩
theorem Nm {u:Un}{met:List Bool}{k:Nat}{s:Sy}(h:OV u met k s)(n:Nat):OV u (met.set n true) k s:=
 ⟨h.v,λ m x hx hm=>h.c m x hx (by
  rw[getElem?_set] at hm;split at hm
  ·split at hm<;>cases hm
  ·exact hm)⟩
theorem Qc {u:Un}{met:List Bool}{k:Nat}{s:Sy}(h:OV u met k s){t:Int}(h0:(sw u s t).1≠0)(hm:met[(sw u s t).2]? = some false):∃ (d:Nat) (l0:List (Nat×Nat)) (i pc:Nat) (y:Is) (x:Mx),u.ms[(sw u s t).2]? = some x/\fz u s t (sw u s t).2=some (d,l0++[(i,pc)])/\
  (az u).is[i]? = some y/\pc<(ay u y).length/\d<=aF x/\(kE (aF x) (Be u (az u) (sw u s t).2 (aF x) i pc)).testBit d=true:=by
 obtain⟨n,l0,f,x,rfl,hl,hf,hx⟩:=Ov h0;obtain⟨d,P,hp,_,hc⟩:=Nu (h.c _ x hx hm) hx hf (List.getElem?_eq_some_iff.1 hl).1;rcases hc with rfl | ⟨l1,i,pc,y,rfl,hy,gZ,hd,hb⟩
 ·rw[Ba hx hl] at hp;simp at hp
 ·exact⟨d,l1,i,pc,y,x,hx,hp,hy,gZ,hd,hb⟩
theorem Jy {u:Un}(hu:fV u){k:Nat}(hk:k<=1000){s:Sy}(hs:ov u k s){t:Int}{m:Nat}{d:Nat}{l:List (Nat×Nat)}(h:fz u s t m=some (d,l)):l.length<=1000000/\∀ p∈l,p.1<=1000000/\p.2<=1000000:=by
 obtain⟨_,_,_,h4,h5⟩:=hs.bounds hu hk;unfold fz at h;split at h
 ·cases h
 ·split at h
  ·cases h
  ·rename_i fs Th;split at h
   ·cases h
   ·simp only[Option.some.injEq,Prod.mk.injEq] at h;obtain⟨_,rfl⟩:=h;have hm:=mem_of_getElem? Th;refine⟨by rw[length_map];exact h4 _ hm,λ p hp=>?_⟩;rw[mem_map] at hp;obtain⟨f,hf,rfl⟩:=hp;have h6:=vO (hs.fr _ hm f hf).ic;have h7:=(GG hu).1;have h8:=(h5 _ hm f hf).2;exact⟨by simp only[pJ];omega,h8⟩
theorem PC:zF prog 3 2 54=true:=by kernel_rfl
theorem ptEq:EqT prog 54 (qx 2):=C9 yA PC Ix
theorem ptEI:LH prog [⟨54,qx 2⟩]:=λ x hx=>by
 simp only[mem_cons,not_mem_nil,or_false] at hx;subst hx;exact ptEq
def Q5 (p:Nat×Nat):Value:=.agg #[.int .i64 p.1,.int .i64 p.2]
theorem Gg {u:Un}(hu:fV u){s:Sy}{t:Int}{z:In}(hi:jJ u s t=some z):(iL z).length<=1000/\(iQ z).length<=1000:=by
 unfold jJ at hi;split at hi
 ·rename_i f hf;split at hi
  ·rename_i q hq;have TV:=(hu.pc q (mem_of_getElem? hq)).2 _ (mem_of_getElem? hi)
   cases z with
   | call go tg es ps=>
    obtain⟨c1,_,_⟩:=TV;rw[getElem?_map,Option.map_eq_some_iff] at c1;obtain⟨qq,VL,c4⟩:=c1;simp only[Prod.mk.injEq] at c4;have:=hu.pr qq (mem_of_getElem? VL);simp only[iL,iQ];omega
   | _=>simp[iL,iQ]
  ·cases hi
 ·cases hi
set_option maxHeartbeats 4000000 in
theorem za {u:Un}(hu:fV u){k:Nat}(hk:k<=1000){s:Sy}(hs:ov u k s)(t:Int):ae prog 10 [cg u,gC (az u),cT s,I t] (.cB [I (sw u s t).1,I (sw u s t).2]):=by
 obtain⟨h1,h2,h3,h4,h5⟩:=hs.bounds hu hk;have Vo:=mY hu;have R4:=y8 u s t ⟨h3,h4⟩ hs.frs λ z hz=>Gg hu hz;have tG:trees (s.gs.map dc)=true:=aO s.gs;have tT:trees (s.tb.flatMap dL)=true:=ak cj _;have tS:trees (s.ts.flatMap en)=true:=ak bX _;have Xa:=ak ca (az u).is;have Tp:=js (az u).calls;have Yc:=aK (az u).roots;have RQ:trees [cg u,cT s,I t]=true:=by
  have:=bj u;simp only[trees,tree,cT,kX,cg,this,ints,Bool.and_self]
 refine ae.aE ah Tryz.func10 rfl Ix (by simp[Tryz.ntmps10]) rfl λ C hC RR=>?_;rw[Tryz.ntmps10] at hC;simp only[cT,kX,cg,cR,gC,eC,ints,aB] at R4 RQ |-;apply aq;simp[hC];apply aq;simp[hC];refine cX RQ R4 ?_
 cases hi:jJ u s t with
 | none=>
  have hz:sw u s t=(0,0):=Gv λ un p h=>by rw[hi] at h;cases h
  rw[hz];simp[hC,mD];apply aW;simp[hC];refine T.cond (b:=true) Ta ?_;simp;apply aq;simp[hC];apply T.ret;apply aa.here;simp[Tryz.results10]
 | some z=>
  by_cases WG:∀ un p,z≠.lock un p
  ·have hz:sw u s t=(0,0):=Gv λ un p h=>by rw[hi] at h;cases h;exact WG un p rfl
   obtain⟨n4,n5⟩:=MF WG;rw[hz];obtain⟨zc,hzc,hzl⟩:=oW z;obtain⟨c1,c2,c3,c4,c5,c6,c7,c8,c9,c10,c11,rfl⟩:=Kf hzl;have n4':(qX z != 4)=true:=by simp only[bne,n4,Bool.not_false]
   have n5':(qX z != 5)=true:=by simp only[bne,n5,Bool.not_false]
   have V5:=xw z;rw[hzc] at V5;simp only[all_cons,all_nil,Bool.and_true,Bool.and_eq_true] at V5;obtain⟨_,o1,o2,o3,o4,o5,o6,o7,o8,o9,o10,o11⟩:=V5;simp[hC,mD,hzc];apply aW;simp[hC,n4',n5'];refine T.cond (b:=true) Ta ?_;simp;apply aq;simp[hC];apply T.ret;apply aa.here;simp[Tryz.results10]
  ·obtain⟨un,p,rfl⟩:∃ un p,z=.lock un p:=by
    by_cases h:∃ un p,z=.lock un p
    ·exact h
    ·exact (WG λ un p e=>h ⟨un,p,e⟩).elim
   obtain⟨n,l0,f,q,xm,rfl,Ut,hl,W2,hq,T0,hm,Yf,US,d0,hpr2⟩:=EH hu hs hi;have SN:sw u s n=if xH un (ch u.ms s.tb (iV (gg u.ms f) p) n) (aF xm)=0 then (0,0) else (xH un (ch u.ms s.tb (iV (gg u.ms f) p) n) (aF xm),iV (gg u.ms f) p):=by
    simp only[sw,Ut,hi,Yf,Int.toNat_natCast]
   rw[SN];have VZ:((l0++[f]).flatMap dY).drop (l0.length*4)=dY f:=by
    have h6:(l0++[f])[l0.length]? = some f:=by simp
    have h7:=aI (f:=dY) (n:=4) ef h6;rw[h7,drop_of_length_le xr];simp
   have Uk:=L4 hl;have Si:=(List.getElem?_eq_some_iff.1 hl).1;have Zz:(l0++[f]).length=l0.length+1:=by simp
   have UY:=h4 _ (mem_of_getElem? hl);simp only[length_append,length_singleton] at UY;have tP:trees ((l0++[f]).flatMap dY)=true:=ak cZ _;obtain⟨q',T6,_,_,hel'⟩:=W2.q;have hqv':=hu.pr q' (mem_of_getElem? T6);have UK:=zu hu f yA W2.el;have tio:trees [cg u,.agg (dY f)]=true:=by
    have:=bj u;simp only[trees,tree,cg,this,cZ,Bool.and_self]
   generalize l0++[f]=P at VZ Zz tP Uk;have Wj:=JX (gg u.ms f) p T0;have tmu:trees [.agg (dV (gg u.ms f)),.agg (gW p)]=true:=by simp only[trees,tree,ca,cY,Bool.and_self]
   have Xj:=zb u.ms Vo s.tb (iV (gg u.ms f) p) n xm Yf hs.tb yA λ h hh=>⟨by have:=(hs.hd h hh).1;omega,by have:=hs.ho h hh;omega⟩;have tde:trees [.ax (u.ms.flatMap cH) u.ms.length,.ax (s.tb.flatMap dL) s.tb.length,I (iV (gg u.ms f) p),I n]=true:=by simp only[trees,tree,Bool.and_self]
   have S9:=aI (f:=cH) (n:=3) mB Yf;have hc18:=Fb xm;generalize iV (gg u.ms f) p=mu at *;generalize ch u.ms s.tb mu n=dd at *;obtain⟨i1,i2,i3,hisc,tis2⟩:∃ p ls n,dV (gg u.ms f)=[I p,.ax ls n]/\trees ls=true:=⟨_,_,_,rfl,aK _⟩;rw[hisc] at UK Wj tmu;simp only[cg,cR,ints,aB,dY] at UK tio VZ;obtain⟨p1,p2,p3,p4,gZ,tpc⟩:=oL p;rw[gZ] at Wj tmu;have w1:=cF (l0.length:Int) yA yA;have w2:(((l0.length+1:Nat):Int)-1)=(l0.length:Int):=by omega
   have w3:(l0.length:Int)<(l0.length:Int)+1:=by omega
   generalize Ul:aF xm=cap at *;have hK1:xH true dd cap=if dd=0 then 2 else 0:=by simp[xH]
   have hK2:xH false dd cap=if cap<=dd then (if cap=1 then 3 else 4) else 0:=by simp[xH]
   simp only[hC,mD,cW,bf,gZ,cons_append,nil_append]
   cases un with
   | true=>
    simp;apply aW;simp[hC];refine T.cond (b:=false) Ta (T.skip ?_);simp;apply aq;simp[hC,Si,Uk,en];refine T.seq (T.rx ah follows [0,1,2,3,4,5,6,8,9,7,10,11] [(9,7)] Ix ?_);simp[hC,Zz,w1,w3,VZ];refine RX.call rfl rfl rfl rfl rfl tio UK ?_;simp;refine RX.call rfl rfl rfl rfl rfl tmu Wj ?_;simp;apply aq;simp[hC];refine cX tde Xj ?_;simp[hC];by_cases WJ:dd=0
    ·subst WJ;have hK:xH true 0 cap=2:=by simp[xH]
     rcases hc18 with ⟨z1,z2,V0⟩ | ⟨z1,hc8⟩
     ·repeat first
       | apply T.seq
       | (apply aN;simp[hC,hm,S9,cH,z1,z2])
       | (refine T.cond (b:=false) ?_ ?_;(first | rfl | (simp[ev,assoc];done));simp)
       | (refine T.cond (b:=true) ?_ ?_;(first | rfl | (simp[ev,assoc,hm,S9,cH,z1,z2];done));simp)
       | (apply T.skip;simp)
       | apply T.block
      apply T.ret;apply aa.here;simp[Tryz.results10,hK]
     ·by_cases z2:xm.size=0
      ·have z3:xm.re=true:=by
        cases hr:xm.re with
        | true=>rfl
        | false=>exact (z1 ⟨z2,hr⟩).elim
       repeat first
        | apply T.seq
        | (apply aN;simp[hC,hm,S9,cH,z2,z3])
        | (refine T.cond (b:=false) ?_ ?_;(first | rfl | (simp[ev,assoc];done));simp)
        | (refine T.cond (b:=true) ?_ ?_;(first | rfl | (simp[ev,assoc,hm,S9,cH,z2,z3];done));simp)
        | (apply T.skip;simp)
        | apply T.block
       apply T.ret;apply aa.here;simp[Tryz.results10,hK]
      ·repeat first
        | apply T.seq
        | (apply aN;simp[hC,hm,S9,cH,z2])
        | (refine T.cond (b:=false) ?_ ?_;(first | rfl | (simp[ev,assoc];done));simp)
        | (refine T.cond (b:=true) ?_ ?_;(first | rfl | (simp[ev,assoc,hm,S9,cH,z2];done));simp)
        | (apply T.skip;simp)
        | apply T.block
       apply T.ret;apply aa.here;simp[Tryz.results10,hK]
    ·have hK:xH true dd cap=0:=by simp[xH,WJ]
     rcases hc18 with ⟨z1,z2,V0⟩ | ⟨z1,hc8⟩
     ·repeat first
       | apply T.seq
       | (apply aN;simp[hC,hm,S9,cH,z1,z2,WJ])
       | (refine T.cond (b:=false) ?_ ?_;(first | rfl | (simp[ev,assoc];done));simp)
       | (refine T.cond (b:=true) ?_ ?_;(first | rfl | (simp[ev,assoc,hm,S9,cH,z1,z2,WJ];done));simp)
       | (apply T.skip;simp)
       | apply T.block
      apply T.ret;apply aa.here;simp[Tryz.results10,hK]
     ·by_cases z2:xm.size=0
      ·have z3:xm.re=true:=by
        cases hr:xm.re with
        | true=>rfl
        | false=>exact (z1 ⟨z2,hr⟩).elim
       repeat first
        | apply T.seq
        | (apply aN;simp[hC,hm,S9,cH,z2,z3,WJ])
        | (refine T.cond (b:=false) ?_ ?_;(first | rfl | (simp[ev,assoc];done));simp)
        | (refine T.cond (b:=true) ?_ ?_;(first | rfl | (simp[ev,assoc,hm,S9,cH,z2,z3,WJ];done));simp)
        | (apply T.skip;simp)
        | apply T.block
       apply T.ret;apply aa.here;simp[Tryz.results10,hK]
      ·repeat first
        | apply T.seq
        | (apply aN;simp[hC,hm,S9,cH,z2,WJ])
        | (refine T.cond (b:=false) ?_ ?_;(first | rfl | (simp[ev,assoc];done));simp)
        | (refine T.cond (b:=true) ?_ ?_;(first | rfl | (simp[ev,assoc,hm,S9,cH,z2,WJ];done));simp)
        | (apply T.skip;simp)
        | apply T.block
       apply T.ret;apply aa.here;simp[Tryz.results10,hK]
   | false=>
    simp;apply aW;simp[hC];refine T.cond (b:=false) Ta (T.skip ?_);simp;apply aq;simp[hC,Si,Uk,en];refine T.seq (T.rx ah follows [0,1,2,3,4,5,6,8,9,7,10,11] [(9,7)] Ix ?_);simp[hC,Zz,w1,w3,VZ];refine RX.call rfl rfl rfl rfl rfl tio UK ?_;simp;refine RX.call rfl rfl rfl rfl rfl tmu Wj ?_;simp;apply aq;simp[hC];refine cX tde Xj ?_;simp[hC];rcases hc18 with ⟨z1,z2,V0⟩ | ⟨z1,hc8⟩
    ·subst V0;by_cases WJ:dd=0
     ·subst WJ;have hK:xH false 0 1=0:=by simp[xH]
      repeat first
       | apply T.seq
       | (apply aN;simp[hC,hm,S9,cH,z1,z2])
       | (refine T.cond (b:=false) ?_ ?_;(first | rfl | (simp[ev,assoc,hm,S9,cH,z1,z2];done));simp)
       | (refine T.cond (b:=true) ?_ ?_;(first | rfl | (simp[ev,assoc,hm,S9,cH,z1,z2];done));simp)
       | (apply T.skip;simp)
       | apply T.block
      apply T.ret;apply aa.here;simp[Tryz.results10,hK]
     ·have SU:0<dd:=by omega
      have hK:xH false dd 1=3:=by simp[xH];omega
      repeat first
       | apply T.seq
       | (apply aN;simp[hC,hm,S9,cH,z1,z2,SU])
       | (refine T.cond (b:=false) ?_ ?_;(first | rfl | (simp[ev,assoc];done));simp)
       | (refine T.cond (b:=true) ?_ ?_;(first | rfl | (simp[ev,assoc,hm,S9,cH,z1,z2,SU];done));simp)
       | (apply T.skip;simp)
       | apply T.block
      apply T.ret;apply aa.here;simp[Tryz.results10,hK]
    ·subst hc8;by_cases hd8:8<=dd
     ·have SU:(8:Int)<=(dd:Int):=by omega
      have hK:xH false dd 8=4:=by simp[xH];omega
      by_cases z2:xm.size=0
      ·have z3:xm.re=true:=by
        cases hr:xm.re with
        | true=>rfl
        | false=>exact (z1 ⟨z2,hr⟩).elim
       repeat first
        | apply T.seq
        | (apply aN;simp[hC,hm,S9,cH,z2,z3,SU])
        | (refine T.cond (b:=false) ?_ ?_;(first | rfl | (simp[ev,assoc];done));simp)
        | (refine T.cond (b:=true) ?_ ?_;(first | rfl | (simp[ev,assoc,hm,S9,cH,z2,z3,SU];done));simp)
        | (apply T.skip;simp)
        | apply T.block
       apply T.ret;apply aa.here;simp[Tryz.results10,hK]
      ·repeat first
        | apply T.seq
        | (apply aN;simp[hC,hm,S9,cH,z2,SU])
        | (refine T.cond (b:=false) ?_ ?_;(first | rfl | (simp[ev,assoc];done));simp)
        | (refine T.cond (b:=true) ?_ ?_;(first | rfl | (simp[ev,assoc,hm,S9,cH,z2,SU];done));simp)
        | (apply T.skip;simp)
        | apply T.block
       apply T.ret;apply aa.here;simp[Tryz.results10,hK]
     ·have SU:¬ (8:Int)<=(dd:Int):=by omega
      have hK:xH false dd 8=0:=by simp[xH];omega
      by_cases z2:xm.size=0
      ·have z3:xm.re=true:=by
        cases hr:xm.re with
        | true=>rfl
        | false=>exact (z1 ⟨z2,hr⟩).elim
       repeat first
        | apply T.seq
        | (apply aN;simp[hC,hm,S9,cH,z2,z3,SU])
        | (refine T.cond (b:=false) ?_ ?_;(first | rfl | (simp[ev,assoc,hm,S9,cH,z2,z3,SU];done));simp)
        | (refine T.cond (b:=true) ?_ ?_;(first | rfl | (simp[ev,assoc,hm,S9,cH,z2,z3,SU];done));simp)
        | (apply T.skip;simp)
        | apply T.block
       apply T.ret;apply aa.here;simp[Tryz.results10,hK]
      ·repeat first
        | apply T.seq
        | (apply aN;simp[hC,hm,S9,cH,z2,SU])
        | (refine T.cond (b:=false) ?_ ?_;(first | rfl | (simp[ev,assoc,hm,S9,cH,z2,SU];done));simp)
        | (refine T.cond (b:=true) ?_ ?_;(first | rfl | (simp[ev,assoc,hm,S9,cH,z2,SU];done));simp)
        | (apply T.skip;simp)
        | apply T.block
       apply T.ret;apply aa.here;simp[Tryz.results10,hK]
end Go.Proofs.YtlkmbdfhdknlgaaGreat
namespace Go.Can
open Go.RowKit
section
variable {P:Program}{C:Cx}{σ:Nat->Option OB}{s:St}{a:Act}{w:World}{ops:Array Oper}{av:List (Nat×TI)}
theorem LI.ret {f:FuncId}{args:List CV}{H:List (Nat×Ob)}{n:Nat}{ks:List Nat}{R R':CV->St->Prop}(h:LI P av f args H n ks R)(hR:∀ r s,R r s->R' r s):LI P av f args H n ks R':=by
 obtain⟨fn,c,hf,hb,SW,hl,hT⟩:=h;refine⟨fn,c,hf,hb,SW,hl,λ C hC RR hM=>T.mono (hT C hC RR hM) λ e s q=>?_⟩;have key:∀ (C:Cx) s,aa C (λ s'=>∃ r,bL av fn s'=some r/\R r s') s->aa C (λ s'=>∃ r,bL av fn s'=some r/\R' r s') s:=λ C s ⟨s',⟨r,q1,q2⟩,hl⟩=>⟨s',⟨r,q1,hR r s' q2⟩,hl⟩
 cases e with
 | normal=>exact key C s q
 | ret=>exact key C s q
 | _=>exact q
end
end Go.Can
namespace Go.Can
mutual
def n7:CV->CV
 | .aj=>.ax [] 0
 | .agg cs=>.agg (qA cs)
 | .ax cs n=>.ax (qA cs) n
 | .cB cs=>.cB (qA cs)
 | .int k n=>.int k n
 | .bool b=>.bool b
 | .str s=>.str s
 | .cQ cs=>.cQ cs
 | .bJ=>.bJ
 | .fn f cs=>.fn f cs
 | .iface f cs=>.iface f cs
 | .cE=>.cE
 | .iter k s p=>.iter k s p
 | .mp k es=>.mp k es
 | .bb o f n=>.bb o f n
 | .aw o f=>.aw o f
 | .any=>.any
def qA:List CV->List CV
 | []=>[]
 | c::cs=>n7 c::qA cs
end
theorem FX (c:CV):one (n7 c)=one c:=by cases c<;>simp only[n7,one]
theorem Cn:∀ cs:List CV,(qA cs).all one=cs.all one
 | []=>by simp only[qA]
 | c::cs=>by simp only[qA,List.all_cons,FX,Cn cs]
theorem JQ {cs:List CV}(h:cs=[]):qA cs=[]:=by rw[h,qA]
mutual
theorem cr.n7 {w:World}{F:Nat->Prop}:∀ (c:CV) (v:Value),cr w F c v->cr w F (n7 c) v
 | .aj,v,h=>by
  simp only[cr] at h;subst h;simp only[Can.n7,cr];exact⟨none,0,rfl,Nat.le_refl _,Nat.zero_le _,.inl ⟨trivial,trivial⟩⟩
 | .agg cs,v,h=>by
  simp only[cr] at h;obtain⟨vs,h1,h2,h3⟩:=h;simp only[Can.n7,cr];exact⟨vs,h1,bZ.n7 cs vs h2,by rw[Cn];exact h3⟩
 | .ax cs n,v,h=>by
  simp only[cr] at h;obtain⟨A,cap,h1,h2,h3,h4⟩:=h;simp only[Can.n7,cr];refine⟨A,cap,h1,h2,h3,?_⟩;rcases h4 with ⟨h4,h5⟩ | ⟨ad,h4,h5⟩
  ·exact .inl ⟨h4,JQ h5⟩
  ·exact .inr ⟨ad,h4,fF.n7 cs ad h5⟩
 | .cB cs,v,h=>by
  simp only[cr] at h;obtain⟨vs,h1,h2⟩:=h;simp only[Can.n7,cr];exact⟨vs,h1,bZ.n7 cs vs h2⟩
 | .int _ _,_,h=>by simpa only[Can.n7] using h
 | .bool _,_,h=>by simpa only[Can.n7] using h
 | .str _,_,h=>by simpa only[Can.n7] using h
 | .cQ _,_,h=>by simpa only[Can.n7] using h
 | .bJ,_,h=>by simpa only[Can.n7] using h
 | .fn _ _,_,h=>by simpa only[Can.n7] using h
 | .iface _ _,_,h=>by simpa only[Can.n7] using h
 | .cE,_,h=>by simpa only[Can.n7] using h
 | .iter _ _ _,_,h=>by simpa only[Can.n7] using h
 | .mp _ _,_,h=>by simpa only[Can.n7] using h
 | .bb _ _ _,_,h=>by simpa only[Can.n7] using h
 | .aw _ _,_,h=>by simpa only[Can.n7] using h
 | .any,_,h=>by simpa only[Can.n7] using h
theorem bZ.n7 {w:World}{F:Nat->Prop}:∀ (cs:List CV) (vs:List Value),bZ w F cs vs->bZ w F (qA cs) vs
 | [],_,h=>by simpa only[qA] using h
 | c::cs,vs,h=>by
  simp only[bZ] at h;obtain⟨v,r,h1,h2,h3⟩:=h;simp only[qA,bZ];exact⟨v,r,h1,cr.n7 c v h2,bZ.n7 cs r h3⟩
theorem fF.n7 {w:World}{F:Nat->Prop}:∀ (cs:List CV) (ad:Addr),fF w F cs ad->fF w F (qA cs) ad
 | [],_,_=>by simp only[qA,fF]
 | c::cs,ad,h=>by
  simp only[fF] at h;obtain⟨⟨u,h1,h2,h3⟩,h4,h5⟩:=h;simp only[qA,fF];exact⟨⟨u,h1,h2,cr.n7 c u h3⟩,by rw[FX];exact h4,fF.n7 cs _ h5⟩
end
theorem ae.n7 {P:Program}{f:FuncId}{args:List CV}{r:CV}(h:ae P f args r):ae P f args (Can.n7 r):=
 ⟨h.1,λ F vs w hF hv=>(h.2 F vs w hF hv).mono λ _e _w' ⟨v,h1,h2,h3⟩=>⟨v,h1,h2,cr.n7 r v h3⟩⟩
end Go.Can
