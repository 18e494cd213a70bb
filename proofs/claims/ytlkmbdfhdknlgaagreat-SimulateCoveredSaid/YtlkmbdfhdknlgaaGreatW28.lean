/- Lemmas. -/
import Derived.Test.YtlkmbdfhdknlgaaGreatW25
namespace Go.aK
open Go.Can List
def lK (c:Cl)(L m:Nat)(sm:List (List Nat))(i:Nat)(x:Is)(z:In)(pc:Nat):List Nat:=if fk z=true then sm.getD (fx c i pc) [] else nK L (eT x m z)
structure InH (u:Un)(c:Cl)(L i:Nat)(x:Is)(sm:List (List Nat)):Prop where
 hx:c.is[i]? = some x
 L8:L<=8
 sm:yz L c.is.length sm
 nx:∀ pc z,(ay u x)[pc]? = some z->∀ q∈jn z pc,q<(ay u x).length
 kal:∀ pc z,(ay u x)[pc]? = some z->fk z=true->fx c i pc<c.is.length
 pos:0<(ay u x).length
def BH (sm:List (List Nat))(k d e:Nat):Prop:=gP sm k d e=true
def BV (t:List (List Nat))(q:Nat)(a:List Nat):List (List Nat):=if yJ a (t.getD q [])=true then t else t.set q (lI (t.getD q []) a)
theorem Jg {t:List (List Nat)}{q:Nat}{a:List Nat}(h:yJ a (t.getD q [])=true):BV t q a=t:=if_pos h
theorem BU {t:List (List Nat)}{q:Nat}{a:List Nat}(h:¬ yJ a (t.getD q [])=true):BV t q a=t.set q (lI (t.getD q []) a):=if_neg h
structure Md (u:Un)(c:Cl)(L m i:Nat)(x:Is)(sm:List (List Nat))(t:List (List Nat)):Prop where
 wf:yz L (ay u x).length t
 sound:∀ pc d e,gP t pc d e=true->Ri u c m L (BH sm) i pc d e
 base:∀ d,d<=L->gP t 0 d d=true
def LN (u:Un)(c:Cl)(L m i:Nat)(x:Is)(sm t:List (List Nat))(pc:Nat):Prop:=∀ z,(ay u x)[pc]? = some z->∀ q∈jn z pc,yJ (qy (t.getD pc []) (lK c L m sm i x z pc)) (t.getD q [])=true
section
variable {u:Un}{c:Cl}{L m i:Nat}{x:Is}{sm:List (List Nat)}(H:InH u c L i x sm)
include H
theorem pU {pc:Nat}{z:In}(hz:(ay u x)[pc]? = some z):wK L (lK c L m sm i x z pc):=by
 unfold lK;split
 .rename_i h;have⟨r,hr,hw⟩:=H.sm.get (H.kal pc z hz h);rw[getD_eq_getElem?_getD,hr];exact hw
 .exact JL L _
theorem FX {pc d e e':Nat}{z:In}(hz:(ay u x)[pc]? = some z){q:Nat}(hq:q∈jn z pc)(h:Ri u c m L (BH sm) i pc d e)(hb:bM (lK c L m sm i x z pc) e e'=true):Ri u c m L (BH sm) i q d e':=by
 have hl:=oq (pU H (m:=m) hz) hb;unfold lK at hb;split at hb
 .rename_i hc;have Wq:q=pc+1:=by
   cases z with
   | call g t l ps=>simpa [jn] using hq
   | _=>simp[fk] at hc
  rw[Wq];exact .call h H.hx hz hc hb hl.2
 .rename_i hc;have:=(vZ L _ e e').1 hb;exact .step h H.hx hz (by simpa using hc) this.2.2 hl.2 hq
theorem Bc {t:List (List Nat)}(ht:yz L (ay u x).length t){p:Nat}(hp:p<(ay u x).length):wK L (t.getD p [])/\t[p]? = some (t.getD p []):=by
 have _:=H;have⟨r,hr,hw⟩:=ht.get hp;rw[getD_eq_getElem?_getD,hr];exact⟨hw,rfl⟩
theorem Md.fin {t:List (List Nat)}(h:Md u c L m i x sm t)(hc:∀ pc,pc<(ay u x).length->LN u c L m i x sm t pc):t=uq L (ay u x).length (Ri u c m L (BH sm) i):=by
 refine FW h.wf λ pc d e h1 h2 h3=>⟨h.sound pc d e,λ hr=>?_⟩;clear h1 h2 h3;have key:∀ {pc q d e e':Nat} {z:In},gP t pc d e=true->(ay u x)[pc]? = some z->q∈jn z pc->bM (lK c L m sm i x z pc) e e'=true->gP t q d e'=true:=by
  intro pc q d e e' z h1 hz hq hb;have hp:=(List.getElem?_eq_some_iff.1 hz).1;have UO:=H.nx pc z hz q hq;have⟨w1,g1⟩:=Bc H h.wf hp;have⟨w2,g2⟩:=Bc H h.wf UO;have h2:=hc pc hp z hz q hq;rw[p9 (by rw[(ye w1 (pU H hz)).len,w2.len])] at h2;exact h2 d e' ((wD _ _ d e').2 ⟨e,h1,hb⟩)
 induction hr with
 | base hd=>exact h.base _ hd
 | step S0 hx hz WT he hl hq ih=>
  rw[H.hx] at hx;cases hx;refine key ih hz hq ?_;unfold lK;rw[if_neg (by simp[WT])];exact (vZ L _ _ _).2 ⟨(S0.le).2,hl,he⟩
 | call S0 hx hz WT hs hl ih=>
  rw[H.hx] at hx;cases hx;refine key ih hz (q:=_+1) ?_ ?_
  .rename_i z
   cases z with
   | call g t l ps=>simp[jn]
   | _=>simp[fk] at WT
  .unfold lK;rw[if_pos WT];exact hs
theorem Md.start:Md u c L m i x sm ((replicate (ay u x).length (rX L)).set 0 (nK L 0)):=by
 have hp:=H.pos;have hw:yz L (ay u x).length (replicate (ay u x).length (rX L)):=⟨by simp,λ r hr=>by rw[eq_of_mem_replicate hr];exact D9 L⟩;have hb:∀ pc d e,gP (replicate (ay u x).length (rX L)) pc d e=false:=λ pc d e=>by
  unfold gP;rw[getD_eq_getElem?_getD,getElem?_replicate];split
  .exact vU L d e
  .simp[bM]
 refine⟨hw.set (JL L 0),λ pc d e h=>?_,λ d hd=>?_⟩
 .rw[lC (by simpa using hp)] at h;split at h
  .rename_i h2;subst h2;have:=(vZ L 0 d e).1 h;have he:e=d:=by omega
   subst he;exact .base this.1
  .rw[hb] at h;cases h
 .rw[lC (by simpa using hp),if_pos rfl];exact (vZ L 0 d d).2 ⟨hd,hd,yA⟩
theorem HA {pc:Nat}(gQ:pc<(ay u x).length)(h0:pc≠0):LN u c L m i x sm ((replicate (ay u x).length (rX L)).set 0 (nK L 0)) pc:=by
 intro z hz q hq;have hw:=(Md.start (m:=m) H).wf;have⟨w1,g1⟩:=Bc H hw gQ;have⟨w2,g2⟩:=Bc H hw (H.nx pc z hz q hq);rw[p9 (by rw[(ye w1 (pU H hz)).len,w2.len])];intro d e hb;obtain⟨k,hk,_⟩:=(wD _ _ d e).1 hb;have:bM (rX L) d k=true:=by
  rw[getD_eq_getElem?_getD,getElem?_set_ne yA,getElem?_replicate,if_pos gQ] at hk;exact hk
 rw[vU] at this;cases this
theorem Mz {t:List (List Nat)}(h:Md u c L m i x sm t){q:Nat}(hq:q<(ay u x).length){a:List Nat}(ha:wK L a)(hs:∀ d e,bM a d e=true->Ri u c m L (BH sm) i q d e) :
  Md u c L m i x sm (BV t q a)/\yJ a ((BV t q a).getD q [])=true/\(∀ p d e,gP t p d e=true->gP (BV t q a) p d e=true)/\(∀ p,p≠q->(BV t q a).getD p []=t.getD p [])/\(yJ a (t.getD q [])=true->BV t q a=t)/\(yJ a (t.getD q [])=false->fQ t<fQ (BV t q a)):=by
 have⟨w,g⟩:=Bc H h.wf hq;have hlen:a.length=(t.getD q []).length:=by rw[ha.len,w.len]
 by_cases SF:yJ a (t.getD q [])=true
 .rw[Jg SF];exact⟨h,SF,λ _ _ _ h=>h,λ _ _=>rfl,λ _=>rfl,λ h=>by rw[SF] at h;cases h⟩
 .rw[BU SF];have hu:=Jk w ha;have hub:=FU (a:=t.getD q []) (b:=a) hlen.symm;have SM:q<t.length:=by rw[h.wf.len];exact hq
  have hqd:(t.set q (lI (t.getD q []) a)).getD q []=lI (t.getD q []) a:=by
   rw[getD_eq_getElem?_getD,getElem?_set,if_pos rfl,if_pos SM];rfl
  have UP:∀ p d e,gP t p d e=true->gP (t.set q (lI (t.getD q []) a)) p d e=true:=λ p d e hb=>by
   rw[lC SM];split
   .rename_i hp;subst hp;rw[hub,show bM (t.getD p []) d e=true from hb];rfl
   .exact hb
  refine⟨⟨h.wf.set hu,λ p d e hb=>?_,λ d hd=>UP 0 d d (h.base d hd)⟩,?_,UP,λ p hp=>?_,λ h=>(SF h).elim,λ _=>?_⟩
  .rw[lC SM] at hb;split at hb
   .rename_i hp;subst hp;rw[hub,Bool.or_eq_true] at hb;rcases hb with hb | hb
    .exact h.sound p d e hb
    .exact hs d e hb
   .exact h.sound p d e hb
  .rw[hqd,p9 (by rw[ha.len,hu.len])];intro d e hb;rw[hub,hb,Bool.or_true]
  .rw[getD_eq_getElem?_getD,getElem?_set_ne (λ e=>hp e.symm),getD_eq_getElem?_getD]
  .have h1:=uY t q (t.getD q []) (lI (t.getD q []) a) g;have h2:eK (t.getD q [])<eK (lI (t.getD q []) a):=by
    have SL:¬ ∀ d e,bM a d e=true->bM (t.getD q []) d e=true:=λ hh=>by
     exact SF ((p9 hlen).2 hh)
    have hex:∃ d e,bM a d e=true/\bM (t.getD q []) d e=false:=by
     refine Classical.byContradiction λ hc=>SL λ d e hb=>?_
     cases T0:bM (t.getD q []) d e with
     | true=>rfl
     | false=>exact (hc ⟨d,e,hb,T0⟩).elim
    obtain⟨d,e,hb,T0⟩:=hex;have hle:=(oq ha hb).2;have:=H.L8;exact yo _ _ (by rw[w.len,hu.len]) (λ d e hb=>by rw[hub,hb];rfl) ⟨d,e,yA,T0,by rw[hub,hb,Bool.or_true]⟩
   omega
def kr (a:List Nat):List Nat->List (List Nat)->List Nat->List (List Nat)×List Nat
 | [],t,td=>(t,td)
 | q::r,t,td=>if yJ a (t.getD q [])=true then kr a r t td else kr a r (t.set q (lI (t.getD q []) a)) (td++[q])
omit H in
theorem xo (a:List Nat):∀ (l:List Nat) (q:Nat) (t:List (List Nat)) (td:List Nat),kr a (l++[q]) t td=(if yJ a ((kr a l t td).1.getD q [])=true then kr a l t td else ((kr a l t td).1.set q (lI ((kr a l t td).1.getD q []) a),(kr a l t td).2++[q]))
 | [],q,t,td=>by
  simp only[nil_append,kr];rfl
 | x::l,q,t,td=>by
  simp only[cons_append,kr];split<;>exact xo a l q _ _
structure PrcI (u:Un)(c:Cl)(L m i:Nat)(x:Is)(sm:List (List Nat))(a:List Nat)(qs:List Nat)(t0:List (List Nat))(td0:List Nat)(t:List (List Nat))(td:List Nat):Prop where
 A:Md u c L m i x sm t
 mono:∀ p d e,gP t0 p d e=true->gP t p d e=true
 Pc:∀ p,p∈td\/t.getD p []=t0.getD p []
 sub:∀ p,p∈td0->p∈td
 val:∀ p,p∈td->p∈td0\/p<(ay u x).length
 done:∀ q∈qs,yJ a (t.getD q [])=true
 ms:td.length+2*fQ t0<=td0.length+2*fQ t
theorem Gc {t0:List (List Nat)}{td0:List Nat}(h0:Md u c L m i x sm t0){a:List Nat}(ha:wK L a):∀ (qs:List Nat),(∀ q∈qs,q<(ay u x).length/\∀ d e,bM a d e=true->Ri u c m L (BH sm) i q d e)->∀ n,n<=qs.length->PrcI u c L m i x sm a (qs.take n) t0 td0 (kr a (qs.take n) t0 td0).1 (kr a (qs.take n) t0 td0).2:=by
 intro qs hqs n
 induction n with
 | zero=>intro _;exact⟨h0,λ _ _ _ h=>h,λ _=>.inr rfl,λ _ h=>h,λ _ h=>.inl h,(λ q hq=>by simp at hq),Nat.le_refl _⟩
 | succ n ih=>
  intro hn;have hI:=ih yA;obtain⟨q,Yo⟩:∃ q,qs[n]? = some q:=⟨_,getElem?_eq_getElem yA⟩;have⟨hq,hs⟩:=hqs q (mem_of_getElem? Yo);have SE:qs.take (n+1)=qs.take n++[q]:=by rw[take_add_one,Yo];rfl
  rw[SE];generalize qs.take n=l at hI |-;rw[xo];generalize kr a l t0 td0=s at hI;obtain⟨t,td⟩:=s;simp only at hI |-;have⟨k1,k2,k3,k4,k5,k6⟩:=Mz H hI.A hq ha hs;by_cases SF:yJ a (t.getD q [])=true
  .rw[if_pos SF];refine⟨hI.A,hI.mono,hI.Pc,hI.sub,hI.val,λ p hp=>?_,hI.ms⟩;rcases mem_append.1 hp with hp | hp
   .exact hI.done p hp
   .rw[mem_singleton.1 hp];exact SF
  .rw[if_neg SF];rw[BU SF] at k1 k2 k3 k4 k6;have hb:=k6 (by simpa using SF);refine⟨k1,λ p d e h=>k3 p d e (hI.mono p d e h),λ p=>?_,λ p hp=>mem_append_left _ (hI.sub p hp),λ p hp=>?_,λ p hp=>?_,?_⟩
   .by_cases TE:p=q
    .exact .inl (by simp[TE])
    .rcases hI.Pc p with h | h
     .exact .inl (mem_append_left _ h)
     .exact .inr (by rw[k4 p TE];exact h)
   .rcases mem_append.1 hp with hp | hp
    .exact hI.val p hp
    .rw[mem_singleton.1 hp];exact .inr hq
   .by_cases TE:p=q
    .rw[TE];exact k2
    .rw[k4 p TE];rcases mem_append.1 hp with hp | hp
     .exact hI.done p hp
     .exact (TE (mem_singleton.1 hp)).elim
   .have:=hI.ms;simp only[length_append,length_singleton];omega
structure Mt (u:Un)(c:Cl)(L m i:Nat)(x:Is)(sm:List (List Nat))(t:List (List Nat))(td:List Nat):Prop where
 A:Md u c L m i x sm t
 val:∀ p∈td,p<(ay u x).length
 D6:∀ p,p<(ay u x).length->p∈td\/LN u c L m i x sm t p
theorem Mt.start:Mt u c L m i x sm ((replicate (ay u x).length (rX L)).set 0 (nK L 0)) [0]:=by
 refine⟨Md.start H,λ p hp=>by rw[mem_singleton.1 hp];exact H.pos,λ p hp=>?_⟩;by_cases h:p=0
 .exact .inl (by simp[h])
 .exact .inr (HA H hp h)
def KA (n L:Nat)(t:List (List Nat))(td:List Nat):Nat:=2*(9*(L+1)*n-fQ t)+td.length
theorem Mt.step {t:List (List Nat)}{td:List Nat}{pc:Nat}(h:Mt u c L m i x sm t (td++[pc])){z:In}(hz:(ay u x)[pc]? = some z) :
  Mt u c L m i x sm (kr (qy (t.getD pc []) (lK c L m sm i x z pc)) (jn z pc) t td).1 (kr (qy (t.getD pc []) (lK c L m sm i x z pc)) (jn z pc) t td).2/\
  KA (ay u x).length L (kr (qy (t.getD pc []) (lK c L m sm i x z pc)) (jn z pc) t td).1 (kr (qy (t.getD pc []) (lK c L m sm i x z pc)) (jn z pc) t td).2<KA (ay u x).length L t (td++[pc]):=by
 have gQ:=h.val pc xr;have⟨w,g⟩:=Bc H h.A.wf gQ;have hsw:=pU H (m:=m) hz;have ha:=ye w hsw;have hI:=Gc H (td0:=td) h.A ha (jn z pc) (λ q hq=>⟨H.nx pc z hz q hq,λ d e hb=>by
  obtain⟨k,k1,k2⟩:=(wD _ _ d e).1 hb;exact FX H hz hq (h.A.sound pc d k k1) k2⟩) (jn z pc).length (Nat.le_refl _)
 rw[take_length] at hI;generalize hae:qy (t.getD pc []) (lK c L m sm i x z pc)=a at ha hI |-;generalize kr a (jn z pc) t td=s at hI |-;obtain⟨t',td'⟩:=s;simp only at hI |-;refine⟨⟨hI.A,λ p hp=>?_,λ p hp=>?_⟩,?_⟩
 .rcases hI.val p hp with hp | hp
  .exact h.val p (mem_append_left _ hp)
  .exact hp
 .rcases hI.Pc p with h1 | h1
  .exact .inl h1
  .by_cases XC:p=pc
   .subst XC;right;intro z' UM q hq;rw[hz] at UM;cases UM;rw[h1,hae];exact hI.done q hq
   .rcases h.D6 p hp with h2 | h2
    .rcases mem_append.1 h2 with h2 | h2
     .exact .inl (hI.sub p h2)
     .exact (XC (mem_singleton.1 h2)).elim
    .right;intro z' UM q hq;have h3:=h2 z' UM q hq;have UO:=H.nx p z' UM q hq;obtain⟨w1,_⟩:=Bc H h.A.wf hp;obtain⟨w2,_⟩:=Bc H h.A.wf UO;obtain⟨w3,_⟩:=Bc H hI.A.wf UO;have hc:=ye w1 (pU H (m:=m) UM);rw[p9 (by rw[hc.len,w2.len])] at h3;rw[h1,p9 (by rw[hc.len,w3.len])];exact λ d e hb=>hI.mono q d e (h3 d e hb)
 .have h1:=hI.ms;have h2:=tu t' hI.A.wf.row;rw[hI.A.wf.len] at h2;unfold KA;simp only[length_append,length_singleton];omega
theorem Mt.fin {t:List (List Nat)}(h:Mt u c L m i x sm t []):t=uq L (ay u x).length (Ri u c m L (BH sm) i):=
 h.A.fin H λ p hp=>by
  rcases h.D6 p hp with h1 | h1
  .cases h1
  .exact h1
end
def swA (a:List Nat):List Nat->List (List Nat)×Bool->List (List Nat)×Bool
 | [],s=>s
 | q::r,s=>swA a r (if yJ a (s.1.getD q [])=true then s else (s.1.set q (lI (s.1.getD q []) a),true))
def ss (u:Un)(c:Cl)(L m i:Nat)(x:Is)(sm t0:List (List Nat)):Nat->List (List Nat)×Bool
 | 0=>(t0,false)
 | pc+1=>match (ay u x)[pc]? with
  | none=>ss u c L m i x sm t0 pc
  | some z=>swA (qy ((ss u c L m i x sm t0 pc).1.getD pc []) (lK c L m sm i x z pc)) (jn z pc) (ss u c L m i x sm t0 pc)
section
variable {u:Un}{c:Cl}{L m i:Nat}{x:Is}{sm:List (List Nat)}(H:InH u c L i x sm)
include H
end
section
variable {u:Un}{c:Cl}{m L:Nat}
noncomputable def wz (u:Un) (c:Cl) (m L:Nat) (sm:List (List Nat)) (i:Nat):List Nat:=vM L (IT u c m L (BH sm) i)
noncomputable def uu (u:Un) (c:Cl) (m L:Nat):List (List Nat):=uq L c.is.length (vT u c m L)
structure IN (u:Un)(c:Cl)(m L:Nat)(t:List (List Nat)):Prop where
 wf:yz L c.is.length t
 sound:∀ i d e,gP t i d e=true->vT u c m L i d e
 pre:∀ i d e,gP t i d e=true->IT u c m L (BH t) i d e
theorem IN.start:IN u c m L (replicate c.is.length (rX L)):=by
 have hb:∀ pc d e,gP (replicate c.is.length (rX L)) pc d e=false:=λ pc d e=>by
  unfold gP;rw[getD_eq_getElem?_getD,getElem?_replicate];split
  .exact vU L d e
  .simp[bM]
 exact⟨⟨by simp,λ r hr=>by rw[eq_of_mem_replicate hr];exact D9 L⟩,(λ i d e h=>by rw[hb] at h;cases h),λ i d e h=>by rw[hb] at h;cases h⟩
theorem xX {S:Nat->Nat->Nat->Prop}{i d e:Nat}(h:IT u c m L S i d e):i<c.is.length/\d<=L/\e<=L:=by
 obtain⟨pc,x,h1,_,h3⟩:=h;exact⟨(List.getElem?_eq_some_iff.1 h1).1,h3.le⟩
theorem IN.fin {t:List (List Nat)}(h:IN u c m L t)(hc:∀ i,i<c.is.length->t.getD i []=wz u c m L t i):t=uu u c m L:=by
 refine FW h.wf λ i d e _ _ _=>⟨h.sound i d e,λ hs=>?_⟩;refine hs.least (S:=BH t) λ i d e he=>?_;have⟨h1,h2,h3⟩:=xX he;show bM (t.getD i []) d e=true;rw[hc i h1];exact (iX h2 h3).2 he
theorem IN.step {t:List (List Nat)}(h:IN u c m L t)(h8:L<=8){i:Nat}(hi:i<c.is.length):IN u c m L (t.set i (wz u c m L t i))/\(t.getD i []≠wz u c m L t i->fQ t<fQ (t.set i (wz u c m L t i))):=by
 have SM:i<t.length:=by rw[h.wf.len];exact hi
 have hex:=nN L (IT u c m L (BH t) i);have UP:∀ p d e,gP t p d e=true->gP (t.set i (wz u c m L t i)) p d e=true:=λ p d e hb=>by
  rw[lC SM];split
  .rename_i hp;subst hp;have h1:=h.pre p d e hb;obtain⟨_,h2,h3⟩:=xX h1;exact (iX h2 h3).2 h1
  .exact hb
 have SF:∀ p d e,gP (t.set i (wz u c m L t i)) p d e=true->IT u c m L (BH t) p d e:=λ p d e hb=>by
  rw[lC SM] at hb;split at hb
  .rename_i hp;subst hp;have⟨h2,h3⟩:=oq hex hb;exact (iX h2 h3).1 hb
  .exact h.pre p d e hb
 refine⟨⟨h.wf.set hex,λ p d e hb=>?_,λ p d e hb=>(SF p d e hb).mono λ a b c hx=>UP a b c hx⟩,λ SL=>?_⟩
 .exact GQ.1 ((SF p d e hb).mono λ a b c hx=>h.sound a b c hx)
 .have⟨r,hr,hw⟩:=h.wf.get hi;have hg:t.getD i []=r:=by rw[getD_eq_getElem?_getD,hr];rfl
  have h1:=uY t i r (wz u c m L t i) hr;rw[hg] at SL;have TN:∀ d e,bM r d e=true->bM (wz u c m L t i) d e=true:=λ d e hb=>by
   have:=UP i d e (by rw[jG hr];exact hb);rwa [lC SM,if_pos rfl] at this
  have hx:∃ d e,bM r d e=false/\bM (wz u c m L t i) d e=true:=by
   refine Classical.byContradiction λ hc=>SL (FP hw hex λ d e _ _=>?_)
   cases hb:bM r d e with
   | true=>rw[TN d e hb]
   | false=>
    cases T0:bM (wz u c m L t i) d e with
    | true=>exact (hc ⟨d,e,hb,T0⟩).elim
    | false=>rfl
  obtain⟨d,e,hb,T0⟩:=hx;have hle:=(oq hex T0).2;have:=yo r (wz u c m L t i) (hw.len.trans hex.len.symm) TN ⟨d,e,yA,hb,T0⟩;omega
end
section
variable (u:Un)(c:Cl)(m L:Nat)
noncomputable def fZ (i:Nat) (x:Is):List (List Nat):=uq L (ay u x).length (Rr u c m L i)
noncomputable def ni:List Nat:=(range c.is.length).map λ i=>lU L (ql u c m L i)
def j4 (E:List Nat)(k s:Nat):List Nat:=E.set k (E.getD k 0 ||| s)
structure Mg (E:List Nat):Prop where
 len:E.length=c.is.length
 lt:∀ s∈E,s<2 ^ (L+1)
 sound:∀ i e,bM E i e=true->ql u c m L i e
 root:∀ r∈c.roots,bM E r 0=true
def cloE (E:List Nat)(i:Nat)(x:Is):Prop:=∀ pc z,(ay u x)[pc]? = some z->fk z=true->∀ e,(Ac ((fZ u c m L i x).getD pc []) (E.getD i 0)).testBit e=true->bM E (fx c i pc) e=true
structure Mv:Prop where
 L8:L<=8
 kal:∀ i x pc z,c.is[i]? = some x->(ay u x)[pc]? = some z->fk z=true->fx c i pc<c.is.length
 root:∀ r∈c.roots,r<c.is.length
end
section
variable {u:Un}{c:Cl}{m L:Nat}
theorem GH {i pc:Nat}{x:Is}(h:pc<(ay u x).length):(fZ u c m L i x)[pc]? = some (vM L (Rr u c m L i pc)):=Am _ h
theorem OP {i pc d e:Nat}(h:Rr u c m L i pc d e):d<=L/\e<=L:=h.ri.le
theorem By {E:List Nat}{i pc e:Nat}{x:Is}(h:pc<(ay u x).length):(Ac ((fZ u c m L i x).getD pc []) (E.getD i 0)).testBit e=true↔∃ d,bM E i d=true/\Rr u c m L i pc d e:=by
 have hg:(fZ u c m L i x).getD pc []=vM L (Rr u c m L i pc):=by
  rw[getD_eq_getElem?_getD,GH h];rfl
 rw[Hg,hg];constructor
 .rintro⟨d,h1,h2⟩;have⟨h3,h4⟩:=oq (nN L _) h2;exact⟨d,h1,(iX h3 h4).1 h2⟩
 .rintro⟨d,h1,h2⟩;have⟨h3,h4⟩:=OP h2;exact⟨d,h1,(iX h3 h4).2 h2⟩
theorem Pw {E:List Nat}{i pc:Nat}{x:Is}(h:pc<(ay u x).length):Ac ((fZ u c m L i x).getD pc []) (E.getD i 0)<2 ^ (L+1):=by
 rw[getD_eq_getElem?_getD,GH h];exact Bz _ _ _ (nN L _).lt
theorem Lo (H:Mv u c L){i e:Nat}(h:ql u c m L i e):i<c.is.length/\e<=L:=by
 cases h with
 | root h=>exact⟨H.root _ h,Nat.zero_le _⟩
 | call _ hr hx hz hc=>exact⟨H.kal _ _ _ _ hx hz hc,(OP hr).2⟩
theorem Mg.fin (_H:Mv u c L){E:List Nat}(h:Mg u c m L E)(hc:∀ i x,c.is[i]? = some x->cloE u c m L E i x):E=ni u c m L:=by
 have key:∀ i e,ql u c m L i e->bM E i e=true:=by
  intro i e he
  induction he with
  | root hr=>exact h.root _ hr
  | call _ hr hx hz WT ih=>exact hc _ _ hx _ _ hz WT _ ((By (List.getElem?_eq_some_iff.1 hz).1).2 ⟨_,ih,hr⟩)
 refine ext_getElem? λ i=>?_;by_cases hi:i<c.is.length
 .have h1:i<E.length:=by rw[h.len];exact hi
  rw[getElem?_eq_getElem h1,ni,getElem?_map,getElem?_eq_getElem yBy];simp only[getElem_range,Option.map_some];congr 1;refine Gz (h.lt _ (getElem_mem h1)) λ e _=>?_;have hb:bM E i e=(E[i]).testBit e:=by simp[bM,getD_eq_getElem?_getD,getElem?_eq_getElem h1]
  rw[<- hb];exact⟨h.sound i e,key i e⟩
 .rw[getElem?_eq_none (by rw[h.len];omega),getElem?_eq_none (by simp[ni];omega)]
theorem sa {E:List Nat}{k s i e:Nat}(hk:k<E.length):bM (j4 E k s) i e=if i=k then (bM E k e || s.testBit e) else bM E i e:=by
 unfold bM j4;rw[getD_eq_getElem?_getD,getElem?_set];by_cases h:k=i
 .subst h;simp[hk,Nat.testBit_or]
 .rw[if_neg h,if_neg (λ e=>h e.symm),getD_eq_getElem?_getD]
theorem z6:∀ (t:List Nat) (i a b:Nat),t[i]? = some a->eK (t.set i b)+bits a=eK t+bits b
 | [],i,a,b,h=>by simp at h
 | x::t,0,a,b,h=>by
  simp at h;subst h;simp[eK];omega
 | x::t,i+1,a,b,h=>by
  have:=z6 t i a b UA;simp only[eK,set_cons_succ,map_cons,sum_cons] at this |-;omega
theorem MA (h8:L<=8){E:List Nat}(h:Mg u c m L E){k s:Nat}(hk:k<c.is.length)(hs:s<2 ^ (L+1))(W3:∀ e,s.testBit e=true->ql u c m L k e)(SL:¬ ∀ e,s.testBit e=true->bM E k e=true) :
  Mg u c m L (j4 E k s)/\eK E<eK (j4 E k s):=by
 have SO:k<E.length:=by rw[h.len];exact hk
 obtain⟨y,hy⟩:∃ y,E[k]? = some y:=⟨_,getElem?_eq_getElem SO⟩;have hyd:E.getD k 0=y:=by rw[getD_eq_getElem?_getD,hy];rfl
 have hyl:=h.lt y (mem_of_getElem? hy);refine⟨⟨by simp[j4,h.len],λ x hx=>?_,λ i e hb=>?_,λ r hr=>?_⟩,?_⟩
 .unfold j4 at hx;rcases mem_or_eq_of_mem_set hx with hx | rfl
  .exact h.lt x hx
  .rw[hyd];exact Nat.or_lt_two_pow hyl hs
 .rw[sa SO] at hb;split at hb
  .rename_i hi;subst hi;rw[Bool.or_eq_true] at hb;rcases hb with hb | hb
   .exact h.sound i e hb
   .exact W3 e hb
  .exact h.sound i e hb
 .rw[sa SO];split
  .rename_i hi;rw[<- hi,h.root r hr];rfl
  .exact h.root r hr
 .have h1:=z6 E k y (y ||| s) hy;have h2:bits y<bits (y ||| s):=by
   have hex:∃ e,s.testBit e=true/\bM E k e=false:=by
    refine Classical.byContradiction λ hc=>SL λ e he=>?_
    cases hb:bM E k e with
    | true=>rfl
    | false=>exact (hc ⟨e,he,hb⟩).elim
   obtain⟨e,he,hb⟩:=hex;have Y5:y.testBit e=false:=by rw[<- hb,bM,hyd]
   have:=Fz hs he;exact Ha (λ a ha=>by rw[Nat.testBit_or,ha];rfl) yA Y5 (by rw[Nat.testBit_or,he,Bool.or_true])
  unfold j4;rw[hyd];omega
end
section
variable {u:Un}{c:Cl}{m L:Nat}
def xd (t:List (List Nat))(E:List Nat)(i pc:Nat):Nat:=Ac (t.getD pc []) (E.getD i 0)
def vt (u:Un)(c:Cl)(t:List (List Nat))(i:Nat)(x:Is):Nat->List Nat×List Nat->List Nat×List Nat
 | 0,s=>s
 | pc+1,s=>match (ay u x)[pc]? with
  | none=>vt u c t i x pc s
  | some z=>if fk z=true then (if xd t (vt u c t i x pc s).1 i pc ||| (vt u c t i x pc s).1.getD (fx c i pc) 0=(vt u c t i x pc s).1.getD (fx c i pc) 0 then vt u c t i x pc s
    else (j4 (vt u c t i x pc s).1 (fx c i pc) (xd t (vt u c t i x pc s).1 i pc),(vt u c t i x pc s).2++[fx c i pc])) else vt u c t i x pc s
structure EpI (u:Un)(c:Cl)(m L i:Nat)(x:Is)(E0:List Nat)(td0:List Nat)(k:Nat)(s:List Nat×List Nat):Prop where
 A:Mg u c m L s.1
 mono:∀ p e,bM E0 p e=true->bM s.1 p e=true
 Pc:∀ p,p∈s.2\/s.1.getD p 0=E0.getD p 0
 sub:∀ p,p∈td0->p∈s.2
 val:∀ p,p∈s.2->p∈td0\/p<c.is.length
 done:i∈s.2\/∀ pc z,pc<k->(ay u x)[pc]? = some z->fk z=true->∀ e,(xd (fZ u c m L i x) s.1 i pc).testBit e=true->bM s.1 (fx c i pc) e=true
 ms:s.2.length+2*eK E0<=td0.length+2*eK s.1
theorem Gi {s E k:Nat}{l:List Nat}(h:l.getD k 0=E):s ||| E=E↔∀ e,s.testBit e=true->bM l k e=true:=by
 rw[or_self_iff];simp only[bM,h]
theorem Fh (H:Mv u c L){i:Nat}{x:Is}(hx:c.is[i]? = some x){E0 td0:List Nat}(h0:Mg u c m L E0):∀ k,k<=(ay u x).length->EpI u c m L i x E0 td0 k (vt u c (fZ u c m L i x) i x k (E0,td0))
 | 0,_=>⟨h0,λ _ _ h=>h,λ _=>.inr rfl,λ _ h=>h,λ _ h=>.inl h,.inr λ pc z hp=>by omega,Nat.le_refl _⟩
 | k+1,hk=>by
  have hI:=Fh H hx (td0:=td0) h0 k yA;obtain⟨z,hz⟩:∃ z,(ay u x)[k]? = some z:=⟨_,getElem?_eq_getElem yA⟩;simp only[vt,hz];generalize vt u c (fZ u c m L i x) i x k (E0,td0)=s at hI |-;obtain⟨E,td⟩:=s;simp only at hI |-;by_cases hc:fk z=true
  .rw[if_pos hc];have SO:=H.kal i x k z hx hz hc;have hkn:k<(ay u x).length:=by omega
   by_cases ho:xd (fZ u c m L i x) E i k ||| E.getD (fx c i k) 0=E.getD (fx c i k) 0
   .rw[if_pos ho];refine⟨hI.A,hI.mono,hI.Pc,hI.sub,hI.val,?_,hI.ms⟩;rcases hI.done with h | h
    .exact .inl h
    .refine .inr λ pc z' hp UM Z9 e he=>?_;by_cases VO:pc=k
     .subst VO;exact (Gi rfl).1 ho e he
     .exact h pc z' yA UM Z9 e he
   .rw[if_neg ho];have SL:¬ ∀ e,(xd (fZ u c m L i x) E i k).testBit e=true->bM E (fx c i k) e=true:=λ h=>ho ((Gi rfl).2 h);have Yg:=MA H.L8 hI.A SO (Pw (u:=u) (c:=c) (m:=m) (L:=L) (E:=E) (i:=i) hkn) (λ e he=>by
     obtain⟨d,h1,h2⟩:=(By (u:=u) (c:=c) (m:=m) (L:=L) (E:=E) (i:=i) hkn).1 he;exact .call (hI.A.sound i d h1) h2 hx hz hc) SL
    obtain⟨k1,k2⟩:=Yg;have hkE:fx c i k<E.length:=by rw[hI.A.len];exact SO
    have UP:∀ p e,bM E p e=true->bM (j4 E (fx c i k) (xd (fZ u c m L i x) E i k)) p e=true:=λ p e hb=>by
     rw[sa hkE];split
     .rename_i hp;rw[<- hp,hb];rfl
     .exact hb
    have hoth:∀ p,p≠fx c i k->(j4 E (fx c i k) (xd (fZ u c m L i x) E i k)).getD p 0=E.getD p 0:=λ p hp=>by
     rw[j4,getD_eq_getElem?_getD,getElem?_set_ne (λ e=>hp e.symm),getD_eq_getElem?_getD]
    refine⟨k1,λ p e h=>UP p e (hI.mono p e h),λ p=>?_,λ p hp=>mem_append_left _ (hI.sub p hp),λ p hp=>?_,?_,?_⟩
    .by_cases hp:p=fx c i k
     .exact .inl (by simp[hp])
     .rcases hI.Pc p with h | h
      .exact .inl (mem_append_left _ h)
      .exact .inr ((hoth p hp).trans h)
    .rcases mem_append.1 hp with hp | hp
     .exact hI.val p hp
     .rw[mem_singleton.1 hp];exact .inr SO
    .by_cases Z1:i=fx c i k
     .exact .inl (by rw[mem_append,mem_singleton];exact .inr Z1)
     .rcases hI.done with h | h
      .exact .inl (mem_append_left _ h)
      .refine .inr λ pc z' hp UM Z9 e he=>?_;rw[xd,hoth i Z1] at he;by_cases VO:pc=k
       .subst VO;rw[sa hkE,if_pos rfl];rw[show (xd (fZ u c m L i x) E i pc).testBit e=true from he,Bool.or_true]
       .exact UP _ e (h pc z' yA UM Z9 e he)
    .have h1:td.length+2*eK E0<=td0.length+2*eK E:=hI.ms;have h2:eK E<eK (j4 E (fx c i k) (xd (fZ u c m L i x) E i k)):=k2;simp only[length_append,length_singleton];omega
  .rw[if_neg hc];refine⟨hI.A,hI.mono,hI.Pc,hI.sub,hI.val,?_,hI.ms⟩;rcases hI.done with h | h
   .exact .inl h
   .refine .inr λ pc z' hp UM Z9 e he=>?_;by_cases VO:pc=k
    .subst VO;rw[hz] at UM;cases UM;exact (hc Z9).elim
    .exact h pc z' yA UM Z9 e he
structure OF (u:Un)(c:Cl)(m L:Nat)(E td:List Nat):Prop where
 A:Mg u c m L E
 val:∀ p∈td,p<c.is.length
 D6:∀ p x,c.is[p]? = some x->p∈td\/cloE u c m L E p x
def fK (n:Nat):List Nat->List Nat
 | []=>replicate n 0
 | r::l=>(fK n l).set r 1
theorem mS (n:Nat):∀ l,(fK n l).length=n
 | []=>by simp[fK]
 | r::l=>by simp[fK,mS n l]
theorem pY (n:Nat):∀ (l:List Nat) (i e:Nat),(∀ r∈l,r<n)->(bM (fK n l) i e=true↔i∈l/\e=0)
 | [],i,e,_=>by
  unfold bM fK;rw[getD_eq_getElem?_getD,getElem?_replicate];split<;>simp
 | r::l,i,e,h=>by
  have ih:=pY n l i e λ x hx=>h x (mem_cons_of_mem _ hx);have hr:=h r mem_cons_self;unfold bM at ih |-;rw[fK,getD_eq_getElem?_getD,getElem?_set];by_cases YX:r=i
  .subst YX;rw[if_pos rfl,if_pos (by rw[mS];exact hr)];simp only[Option.getD_some,mem_cons,true_or,true_and];rw[show (1:Nat)=2 ^ 0 from rfl,Nat.testBit_two_pow,decide_eq_true_eq];exact eq_comm
  .rw[if_neg YX,<- getD_eq_getElem?_getD,ih,mem_cons];constructor
   .rintro⟨h1,h2⟩;exact⟨.inr h1,h2⟩
   .rintro⟨h1 | h1,h2⟩
    .exact (YX h1.symm).elim
    .exact⟨h1,h2⟩
theorem Cd (n L:Nat):∀ l:List Nat,∀ s∈fK n l,s<2 ^ (L+1)
 | [],s,h=>by rw[eq_of_mem_replicate h];exact Nat.two_pow_pos _
 | r::l,s,h=>by
  rcases mem_or_eq_of_mem_set h with h | rfl
  .exact Cd n L l s h
  .have:2 ^ 1<=2 ^ (L+1):=Nat.pow_le_pow_right yA yA;omega
theorem Mg.start (H:Mv u c L):Mg u c m L (fK c.is.length c.roots):=
 ⟨mS _ _,Cd _ _ _,λ i e h=>by
  obtain⟨h1,rfl⟩:=(pY _ _ i e H.root).1 h;exact .root h1,λ r hr=>(pY _ _ r 0 H.root).2 ⟨hr,rfl⟩⟩
theorem OF.start (H:Mv u c L):OF u c m L (fK c.is.length c.roots) c.roots:=by
 refine⟨Mg.start H,H.root,λ p x hx=>?_⟩;by_cases h:p∈c.roots
 .exact .inl h
 .refine .inr λ pc z hz hc e he=>?_;obtain⟨d,h1,_⟩:=(By (List.getElem?_eq_some_iff.1 hz).1).1 he;exact (h ((pY _ _ p d H.root).1 h1).1).elim
def NG (n:Nat)(E td:List Nat):Nat:=2*(9*n-eK E)+td.length
theorem OF.step (H:Mv u c L){E td:List Nat}{i:Nat}{x:Is}(h:OF u c m L E (td++[i]))(hx:c.is[i]? = some x) :
  OF u c m L (vt u c (fZ u c m L i x) i x (ay u x).length (E,td)).1 (vt u c (fZ u c m L i x) i x (ay u x).length (E,td)).2/\
  NG c.is.length (vt u c (fZ u c m L i x) i x (ay u x).length (E,td)).1 (vt u c (fZ u c m L i x) i x (ay u x).length (E,td)).2<NG c.is.length E (td++[i]):=by
 have hI:=Fh H hx (td0:=td) h.A (ay u x).length (Nat.le_refl _);generalize vt u c (fZ u c m L i x) i x (ay u x).length (E,td)=s at hI |-;obtain⟨E',td'⟩:=s;simp only at hI |-;refine⟨⟨hI.A,λ p hp=>?_,λ p y hy=>?_⟩,?_⟩
 .rcases hI.val p hp with h1 | h1
  .exact h.val p (mem_append_left _ h1)
  .exact h1
 .by_cases V5:p=i
  .subst V5;rw[hx] at hy;cases hy;rcases hI.done with h1 | h1
   .exact .inl h1
   .exact .inr λ pc z hz hc e he=>h1 pc z (List.getElem?_eq_some_iff.1 hz).1 hz hc e he
  .rcases h.D6 p y hy with h1 | h1
   .rcases mem_append.1 h1 with h1 | h1
    .exact .inl (hI.sub p h1)
    .exact (V5 (mem_singleton.1 h1)).elim
   .rcases hI.Pc p with h2 | h2
    .exact .inl h2
    .refine .inr λ pc z hz hc e he=>?_;rw[h2] at he;exact hI.mono _ e (h1 pc z hz hc e he)
 .have h1:td'.length+2*eK E<=td.length+2*eK E':=hI.ms;have h2:=tv E';have h3:E'.length=c.is.length:=hI.A.len;unfold NG;simp only[length_append,length_singleton];omega
theorem OF.fin (H:Mv u c L){E:List Nat}(h:OF u c m L E []):E=ni u c m L:=
 h.A.fin H λ i x hx=>by
  rcases h.D6 i x hx with h1 | h1
  .cases h1
  .exact h1
end
theorem qf {u:Un}{x:Is}(h:ub u x):∃ q,u.ps[x.proc]? = some q/\ay u x=q.code:=by
 obtain⟨⟨q,hq,_⟩,_⟩:=h;exact⟨q,hq,by simp only[ay,hq]⟩
theorem Ix {u:Un}(hu:gg u){x:Is}(h:ub u x){pc:Nat}{z:In}(hz:(ay u x)[pc]? = some z)(hr:z≠.ret):pc+1<(ay u x).length:=by
 have⟨q,hq,hc⟩:=qf h;obtain⟨⟨c,WT⟩,_⟩:=hu.pc q (mem_of_getElem? hq);rw[hc,WT] at hz |-;have h1:=(List.getElem?_eq_some_iff.1 hz).1;simp only[length_append,length_singleton] at h1 |-;by_cases h:pc=c.length
 .rw[h] at hz;simp at hz;exact (hr hz.symm).elim
 .omega
theorem DA {u:Un}(hu:gg u){x:Is}(h:ub u x):0<(ay u x).length:=by
 have⟨q,hq,hc⟩:=qf h;obtain⟨⟨c,WT⟩,_⟩:=hu.pc q (mem_of_getElem? hq);rw[hc,WT];simp
theorem yd {u:Un}(hu:gg u){x:Is}(h:ub u x){pc:Nat}{z:In}(hz:(ay u x)[pc]? = some z):∃ q,u.ps[x.proc]? = some q/\ay u x=q.code/\x.bh.length=q.bh/\I3 (u.ps.map λ q=>(q.ints,q.bh)) u.ms u.gs.length q.locals q.bh ((ay u x).length-1) z:=by
 obtain⟨⟨q,hq,hl⟩,_⟩:=h;have hc:ay u x=q.code:=by simp only[ay,hq]
 rw[hc] at hz |-;exact⟨q,hq,rfl,hl,(hu.pc q (mem_of_getElem? hq)).2 z (mem_of_getElem? hz)⟩
theorem Kp {u:Un}(hu:gg u){x:Is}(h:ub u x){pc:Nat}{z:In}(hz:(ay u x)[pc]? = some z){q:Nat}(hq:q∈jn z pc):q<(ay u x).length:=by
 have hp:=DA hu h;obtain⟨_,_,_,_,hi⟩:=yd hu h hz;have hn:z≠.ret->pc+1<(ay u x).length:=Ix hu h hz
 cases z with
 | ret=>cases hq
 | jump g=>
  have:g<=(ay u x).length-1:=hi;simp only[jn,mem_singleton] at hq;omega
 | branch g e=>
  have h1:g<=(ay u x).length-1:=hi.1;have h2:=hn xr;simp only[jn] at hq;split at hq
  .simp only[mem_singleton] at hq;omega
  .simp only[mem_cons,not_mem_nil,or_false] at hq;omega
 | set t g e=>
  have h2:=hn xr;simp only[jn,mem_singleton] at hq;omega
 | call g t l ps=>
  have h2:=hn xr;simp only[jn,mem_singleton] at hq;omega
 | lock un p=>
  have h2:=hn xr;simp only[jn,mem_singleton] at hq;omega
theorem KP {u:Un}(hu:gg u){i:Nat}{x:Is}(hx:(aw u).is[i]? = some x){pc:Nat}{z:In}(hz:(ay u x)[pc]? = some z){y:Is}(hy:kK x z=some y):((aw u).calls.getD i []).getD pc (-1)=(eC (aw u).is y:Int)/\y∈(aw u).is:=by
 have ci:=qh hu;have hi:=(List.getElem?_eq_some_iff.1 hx).1;have h1:=ci.row i x hi hx;refine⟨?_,ci.mem i x hi hx z (mem_of_getElem? hz) y hy⟩;have hg:(aw u).calls.getD i []=Ay (aw u).is x (ay u x):=by
  rw[getD_eq_getElem?_getD,h1];rfl
 rw[hg,Ay,getD_eq_getElem?_getD,getElem?_map,hz];simp only[Option.map_some,Option.getD_some,hy]
theorem II {x:Is}{z:In}(h:fk z=true):∃ y,kK x z=some y:=by
 cases z with
 | call g t l ps=>exact⟨_,rfl⟩
 | _=>simp[fk] at h
theorem AY {u:Un}(hu:gg u){i:Nat}{x:Is}(hx:(aw u).is[i]? = some x){pc:Nat}{z:In}(hz:(ay u x)[pc]? = some z)(hc:fk z=true):fx (aw u) i pc<(aw u).is.length/\((aw u).calls.getD i []).getD pc (-1)=(fx (aw u) i pc:Int):=by
 have⟨y,hy⟩:=II (x:=x) hc;have⟨h1,h2⟩:=KP hu hx hz hy;have h3:fx (aw u) i pc=eC (aw u).is y:=by
  rw[fx,h1];simp
 rw[h3];exact⟨wx h2,h1⟩
theorem FT {u:Un}(hu:gg u){L:Nat}(h8:L<=8):Mv u (aw u) L:=by
 refine⟨h8,λ i x pc z hx hz hc=>(AY hu hx hz hc).1,λ r hr=>?_⟩;have ci:=qh hu;rcases (ci.root r).1 hr with rfl | ⟨j,x,hj,hx,z,hz,_,y,hy,rfl⟩
 .exact ci.pos
 .exact wx (ci.mem j x hj hx z hz y hy)
theorem LM {u:Un}(hu:gg u):∀ (f i:Nat) (l:List Is) (cs:List (List Int)) (r:List Nat),l.Nodup->(∀ y∈l,ub u y)->∀ y∈(lz u f i l cs r).is,ub u y
 | 0,_,_,_,_,_,h=>h
 | f+1,i,l,cs,r,hn,h=>by
  simp only[lz];split
  .exact h
  .rename_i x hx;have⟨h1,h2⟩:=sw hu (h x (mem_of_getElem? hx)) (ay u x) l r (λ _ h=>h) hn h;exact LM hu f (i+1) _ _ _ h1 h2
theorem LL {u:Un}(hu:gg u):∀ y∈(aw u).is,ub u y:=by
 refine LM hu 100 0 [⟨u.main,[]⟩] [] [0] xr λ x hx=>?_;rw[mem_singleton.1 hx];have hp:=hu.np.1;obtain⟨q,hq⟩:∃ q,u.ps[0]? = some q:=⟨_,getElem?_eq_getElem yA⟩;exact⟨⟨q,by rw[hu.main];exact hq,by rw[(hu.p0 q hq).2];rfl⟩,λ l hl=>by cases hl⟩
theorem MB {u:Un}(hu:gg u){L:Nat}(h8:L<=8){i:Nat}{x:Is}(hx:(aw u).is[i]? = some x){sm:List (List Nat)}(hs:yz L (aw u).is.length sm):InH u (aw u) L i x sm:=by
 have hv:=LL hu x (mem_of_getElem? hx);exact⟨hx,h8,hs,λ pc z hz q hq=>Kp hu hv hz hq,λ pc z hz hc=>(AY hu hx hz hc).1,DA hu hv⟩
end Go.aK
namespace Go.Proofs.YtlkmbdfhdknlgaaGreat
open Go.Can Go.aK List
def gN (f:List Nat)(i:Nat):List CV:=(f.take i).map (λ n:Nat=>I n)++replicate (f.length-i) (I 0)
theorem jX {f:List Nat}{i:Nat}(h:i<=f.length):(gN f i).length=f.length:=by simp[gN];omega
theorem iF (f:List Nat):gN f 0=replicate f.length (I 0):=by simp[gN]
theorem jY (f:List Nat):gN f f.length=f.map λ n:Nat=>I n:=by simp[gN]
theorem kO (n:Nat):trees (replicate n (I 0))=true:=by
 induction n with
 | zero=>rfl
 | succ n ih=>rw[replicate_succ];simpa only[trees,tree,Bool.true_and] using ih
theorem fF (f:List Nat)(i:Nat):trees (gN f i)=true:=by rw[gN,a9,aC,kO];rfl
theorem jW {f:List Nat}{i v:Nat}(h:f[i]? = some v):take i (gN f i)++I v::drop (i+1) (gN f i)=gN f (i+1):=by
 have hl:=(List.getElem?_eq_some_iff.1 h).1;have hA:((f.take i).map (λ n:Nat=>I n)).length=i:=by rw[length_map,length_take];omega
 have hr:replicate (f.length-i) (I 0)=I 0::replicate (f.length-(i+1)) (I 0):=by
  rw[show f.length-i=(f.length-(i+1))+1 by omega,replicate_succ]
 rw[gN,gN,hr,take_left' hA];have hd:drop (i+1) ((f.take i).map (λ n:Nat=>I n)++I 0::replicate (f.length-(i+1)) (I 0))=replicate (f.length-(i+1)) (I 0):=by
  rw[<- drop_drop,drop_left' hA];rfl
 rw[hd,take_add_one,h];simp
theorem qc {f:List Nat}{i:Nat}(h:f[i]? = some 0):gN f i=gN f (i+1):=by
 have hl:=(List.getElem?_eq_some_iff.1 h).1;rw[gN,gN,show f.length-i=(f.length-(i+1))+1 by omega,replicate_succ,take_add_one,h];simp
theorem BX {l:List CV}(h:trees l=true)(i:Nat):trees (take i l)=true/\trees (drop i l)=true:=by
 have:=a9 (take i l) (drop i l);rw[take_append_drop,h] at this
 simpa using this.symm
end Go.Proofs.YtlkmbdfhdknlgaaGreat
namespace Go.aK
open Go.Can List
def D3 (u:Un)(x:Is)(L:Nat)(t:List (List Nat)):Nat->List Nat
 | 0=>rX L
 | k+1=>if (ay u x)[k]?.map vL=some true then lI (D3 u x L t k) (t.getD k []) else D3 u x L t k
theorem Bd {u:Un}{x:Is}{L n:Nat}{t:List (List Nat)}(ht:yz L n t):∀ k,k<=n->wK L (D3 u x L t k)
 | 0,_=>D9 L
 | k+1,hk=>by
  have ih:=Bd (u:=u) (x:=x) ht k yA;unfold D3;split
  .have⟨r,hr,hw⟩:=ht.get (p:=k) yA;rw[getD_eq_getElem?_getD,hr];exact Jk ih hw
  .exact ih
theorem JU {z:In}:vL z=true↔z=.ret:=by cases z<;>simp[vL]
theorem GP {u:Un}{x:Is}{L n:Nat}{t:List (List Nat)}(ht:yz L n t){d e:Nat}:∀ k,k<=n->(bM (D3 u x L t k) d e=true↔∃ pc,pc<k/\(ay u x)[pc]? = some .ret/\gP t pc d e=true)
 | 0,_=>by simp[D3,vU]
 | k+1,hk=>by
  have ih:=GP (u:=u) (x:=x) (d:=d) (e:=e) ht k yA;have hw:=Bd (u:=u) (x:=x) ht k yA;have⟨r,hr,hwr⟩:=ht.get (p:=k) yA;have hg:t.getD k []=r:=by rw[getD_eq_getElem?_getD,hr];rfl
  have hbt:gP t k d e=bM r d e:=jG hr d e;unfold D3;split
  .rename_i Wo;have hz:(ay u x)[k]? = some .ret:=by
    cases hc:(ay u x)[k]? with
    | none=>rw[hc] at Wo;cases Wo
    | some z=>
     rw[hc] at Wo;simp only[Option.map_some,Option.some.injEq] at Wo;rw[JU.1 Wo]
   rw[hg,FU (by rw[hw.len,hwr.len]),Bool.or_eq_true,ih];constructor
   .rintro (⟨pc,h1,h2,h3⟩ | h)
    .exact⟨pc,yA,h2,h3⟩
    .exact⟨k,yA,hz,by rw[hbt];exact h⟩
   .rintro⟨pc,h1,h2,h3⟩;by_cases hp:pc=k
    .subst hp;rw[hbt] at h3;exact .inr h3
    .exact .inl ⟨pc,yA,h2,h3⟩
  .rename_i Wo;rw[ih];constructor
   .rintro⟨pc,h1,h2,h3⟩;exact⟨pc,yA,h2,h3⟩
   .rintro⟨pc,h1,h2,h3⟩;by_cases hp:pc=k
    .subst hp;rw[h2] at Wo;exact (Wo rfl).elim
    .exact⟨pc,yA,h2,h3⟩
theorem N4 {u:Un}{c:Cl}{m L i:Nat}{x:Is}(hx:c.is[i]? = some x)(sm:List (List Nat)):D3 u x L (uq L (ay u x).length (Ri u c m L (BH sm) i)) (ay u x).length=wz u c m L sm i:=by
 have hw:=lO L (ay u x).length (Ri u c m L (BH sm) i);refine F8 (Bd hw _ (Nat.le_refl _)) λ d e hd he=>?_;rw[GP hw _ (Nat.le_refl _)];constructor
 .rintro⟨pc,h1,h2,h3⟩;exact⟨pc,x,hx,h2,(sf h1 hd he).1 h3⟩
 .rintro⟨pc,y,h1,h2,h3⟩;rw[hx] at h1;cases h1;have hl:=(List.getElem?_eq_some_iff.1 h2).1;exact⟨pc,hl,h2,(sf hl hd he).2 h3⟩
section
variable {u:Un}{c:Cl}{m L:Nat}
open Classical in
/-- The last k instances gone through, from the end. -/
noncomputable def yQ (u:Un) (c:Cl) (m L:Nat) (t0:List (List Nat)):Nat->List (List Nat)×Bool
 | 0=>(t0,false)
 | k+1=>if (yQ u c m L t0 k).1.getD (c.is.length-1-k) []=wz u c m L (yQ u c m L t0 k).1 (c.is.length-1-k) then yQ u c m L t0 k else ((yQ u c m L t0 k).1.set (c.is.length-1-k) (wz u c m L (yQ u c m L t0 k).1 (c.is.length-1-k)),true)
structure OfI (u:Un)(c:Cl)(m L:Nat)(t0:List (List Nat))(s:List (List Nat)×Bool):Prop where
 A:IN u c m L s.1
 same:s.2=false->s.1=t0
 le:fQ t0<=fQ s.1
 lt:s.2=true->fQ t0<fQ s.1
theorem EV (h8:L<=8){t0:List (List Nat)}(h0:IN u c m L t0):∀ k,k<=c.is.length->OfI u c m L t0 (yQ u c m L t0 k)/\((yQ u c m L t0 k).2=false->∀ i,c.is.length-k<=i->i<c.is.length->t0.getD i []=wz u c m L t0 i)
 | 0,_=>⟨⟨h0,λ _=>rfl,Nat.le_refl _,λ h=>by cases h⟩,λ _ i h1 h2=>by omega⟩
 | k+1,hk=>by
  have⟨hI,hd⟩:=EV h8 h0 k yA;unfold yQ;split
  .rename_i he;refine⟨hI,λ h i h1 h2=>?_⟩;by_cases Z1:i=c.is.length-1-k
   .subst Z1;rw[hI.same h] at he;exact he
   .exact hd h i yA h2
  .rename_i he;have⟨k1,k2⟩:=hI.A.step h8 (i:=c.is.length-1-k) yA;have k3:=k2 he;have k4:=hI.le;exact⟨⟨k1,(λ h=>by cases h),(by show _<=fQ (set _ _ _);omega),λ _=>(by show _<fQ (set _ _ _);omega)⟩,λ h=>by cases h⟩
theorem Nx (h8:L<=8){t0:List (List Nat)}(h0:IN u c m L t0)(h:(yQ u c m L t0 c.is.length).2=false):t0=uu u c m L:=
 h0.fin λ i hi=>(EV h8 h0 _ (Nat.le_refl _)).2 h i yA hi
end
section
variable {u:Un}{c:Cl}{m L:Nat}
theorem Dl (H:Mv u c L){i d:Nat}:bM (ni u c m L) i d=true↔ql u c m L i d:=by
 unfold bM ni;rw[getD_eq_getElem?_getD,getElem?_map];by_cases hi:i<c.is.length
 .rw[getElem?_eq_getElem yBy];simp only[getElem_range,Option.map_some,Option.getD_some];by_cases hd:d<=L
  .exact p7 hd
  .constructor
   .intro h;exact (hd (Fz (pt L _) h)).elim
   .intro h;exact (hd (Lo H h).2).elim
 .rw[getElem?_eq_none yBy];constructor
  .intro h;simp at h
  .intro h;exact (hi (Lo H h).1).elim
theorem ap_be (H:Mv u c L){i pc:Nat}{x:Is}(h:pc<(ay u x).length):Ac ((fZ u c m L i x).getD pc []) ((ni u c m L).getD i 0)=lU L (Be u c m L i pc):=
 Gz (Pw h) λ e _=>by
  rw[By h];exact⟨λ⟨d,h1,h2⟩=>⟨d,(Dl H).1 h1,h2⟩,λ⟨d,h1,h2⟩=>⟨d,(Dl H).2 h1,h2⟩⟩
noncomputable def yp (u:Un) (c:Cl) (m L i:Nat) (x:Is):List Nat:=(range (ay u x).length).map λ pc=>lU L (Be u c m L i pc)
noncomputable def DI (u:Un) (c:Cl) (m L:Nat):List (List Nat):=(range c.is.length).map λ i=>match c.is[i]? with
 | some x=>yp u c m L i x
 | none=>[]
theorem Hb {i:Nat}{x:Is}(hx:c.is[i]? = some x):(DI u c m L)[i]? = some (yp u c m L i x):=by
 have hl:=(List.getElem?_eq_some_iff.1 hx).1;rw[DI,getElem?_map,getElem?_eq_getElem yBz];simp only[getElem_range,Option.map_some,hx]
theorem Hc {i pc:Nat}{x:Is}(h:pc<(ay u x).length):(yp u c m L i x)[pc]? = some (lU L (Be u c m L i pc)):=by
 rw[yp,getElem?_map,getElem?_eq_getElem UA];simp
end
end Go.aK
namespace Go.Proofs.YtlkmbdfhdknlgaaGreat
open Go.Can Go.aK List Tryz
theorem DO {r:List Nat}{i s:Nat}(h:r[i]? = some s)(x:Nat):FG (r.drop i) x i=(if x.testBit i=true then s else 0) ||| FG (r.drop (i+1)) x (i+1):=by
 have hl:=(List.getElem?_eq_some_iff.1 h).1;rw[drop_eq_getElem_cons hl];have:=(List.getElem?_eq_some_iff.1 h).2;rw[this,FG]
def J179 (r:List Nat)(x:Nat)(m:Nat)(s:St):Prop:=∃ i a:Nat,m=r.length-i/\i<=r.length/\a<2 ^ 63/\a ||| FG (r.drop i) x i=Ac r x/\s=⟨[(10,I i),(9,I r.length),(8,aA r),(5,I a),(1,I x)],[],0⟩
theorem HE (r:List Nat)(x:Nat)(hl:r.length<=9)(hr:∀ s∈r,s<2 ^ 63)(hx:x<2 ^ 63):ae prog 157 [aA r,I x] (I (Ac r x)):=by
 have tr:=aC r;refine ae.aD af Tryz.func157 rfl Bw (by simp[Tryz.ntmps157]) rfl λ C hC M0=>?_;rw[Tryz.ntmps157] at hC;apply aq;simp[hC];apply aq;simp[hC];simp only[aA];apply aW;simp[hC];apply T.block;refine T.aI (J179 r x) (n:=r.length) ?_ ?_
 .refine aa.trim [10,9,8,5,1] [] 0 U2 yA ⟨0,0,yA,yA,yA,by simp[Ac],?_⟩;simp[aA]
 .rintro n s ⟨i,a,rfl,hi,ha,Wa,rfl⟩;simp only[aA];by_cases Jz:i<r.length
  .obtain⟨b,hb⟩:∃ b,r[i]? = some b:=⟨_,getElem?_eq_getElem Jz⟩;have OZ:=dV hb;have UE:=hr b (mem_of_getElem? hb);have wi:=cr ((i:Int)+1) yA yA;have Sz:=DO hb x;have Zp:=H3 (x:=a) (y:=b) ha UE;have⟨y,z,b1,b2,b3⟩:=LX hx (d:=i) yA;have b0:¬ ((i:Int)<0):=by omega
   apply aq;simp[hC,Jz];refine T.seq (T.cond (b:=true) rfl (T.skip ?_));simp;apply eE;apply aq;simp[hC,Jz,OZ];apply aq;simp[hC,b0,b1,b2,b3]
   cases hbit:x.testBit i with
   | true=>
    refine T.cond (b:=true) Tt ?_;simp;apply aM;simp[hC,Zp];apply aM;simp[hC,wi];refine⟨r.length-(i+1),yA,aa.trim [10,9,8,5,1] [] 0 U2 yA ⟨i+1,a ||| b,rfl,yA,Nat.or_lt_two_pow ha UE,?_,?_⟩⟩
    .rw[<- Wa,Sz,hbit,if_pos rfl,Nat.or_assoc]
    .simp[aA]
   | false=>
    refine T.cond (b:=false) Tt (T.skip ?_);simp;apply aM;simp[hC,wi];refine⟨r.length-(i+1),yA,aa.trim [10,9,8,5,1] [] 0 U2 yA ⟨i+1,a,rfl,yA,ha,?_,?_⟩⟩
    .rw[<- Wa,Sz,hbit];simp
    .simp[aA]
  .have Rz:i=r.length:=by omega
   subst Rz;rw[drop_length,FG,Nat.or_zero] at Wa;apply aq;simp[hC];refine T.seq (T.cond (b:=false) rfl (T.exit ?_));simp;apply aq;simp[hC];apply T.ret;apply aa.here;rw[Wa];simp[Tryz.results157]
theorem uE (r:List Nat)(x:Nat)(hl:r.length<=9)(hr:∀ s∈r,s<2 ^ 63)(hx:x<2 ^ 63):ae prog 122 [aA r,I x] (I (Ac r x)):=by
 have h:=HE r x hl hr hx;have MY:trees [aA r,I x]=true:=by simp only[trees,aE,tree,Bool.and_self]
 refine ae.aD af Tryz.func122 rfl Bw (by simp[Tryz.ntmps122]) rfl λ C hC M0=>?_;rw[Tryz.ntmps122] at hC;apply aq;simp[hC];apply aq;simp[hC];refine cS MY h ?_;simp[hC];apply T.ret;apply aa.here;simp[Tryz.results122]
theorem JM {L i:Nat}(c:Int)(h:i<L+1):(nK L c)[i]? = some (if 0<=(i:Int)+c/\(i:Int)+c<=L then 2 ^ ((i:Int)+c).toNat else 0):=by
 simp[nK,getElem?_range h]
theorem g8 (L:Nat)(c:Int):(nK L c).length=L+1:=by simp[nK]
def J318 (L:Nat)(c:Int)(m:Nat)(s:St):Prop:=∃ i:Nat,m=L+1-i/\i<=L+1/\s=⟨[(12,I i),(11,I ((L:Int)+1)),(5,.a7 0 0 (L+1)),(0,I L),(1,I c)],[(0,⟨3,1,gN (nK L c) i⟩)],1⟩
theorem qP (L:Nat)(c:Int)(hL:L<=8)(h1 : -1<=c)(h2:c<=1):ae prog 202 [I L,I c] (aA (nK L c)):=by
 refine ae.aD af Tryz.func202 rfl Bw (by simp[Tryz.ntmps202]) (aE _) λ C hC M0=>?_;rw[Tryz.ntmps202] at hC;have wL:=cr ((L:Int)+1) yA yA;have bd:0<=(L:Int)+1/\8*((L:Int)+1)<=281474976710656/\(L:Int)+1<=9223372036854775807:=by omega
 apply aq;simp[hC];apply aq;simp[hC,wL,bd];apply aW;simp[hC];apply T.block;refine T.aI (J318 L c) (n:=L+1) ?_ ?_
 .refine aa.trim [12,11,5,0,1] [0] 1 U2 yA ⟨0,yA,yA,?_⟩;rw[iF,g8];simp
 .rintro n s ⟨i,rfl,hi,rfl⟩;have Tg:(gN (nK L c) i).length=L+1:=by rw[jX (by rw[g8];exact hi),g8]
  have Xv:=fF (nK L c) i;by_cases Jz:i<L+1
  .have hiI:(i:Int)<(L:Int)+1:=by omega
   have UJ:i<=L:=by omega
   have wi:=cr ((i:Int)+1) yA yA;have wc:=cr ((i:Int)+c) yA yA;have Uc:=JM c Jz;apply aq;simp[hC,hiI];refine T.seq (T.cond (b:=true) rfl (T.skip ?_));simp;apply eE;apply aq;simp[hC];by_cases h0:0<=(i:Int)+c
   .obtain⟨e,he⟩:∃ e:Nat,(i:Int)+c=e:=⟨((i:Int)+c).toNat,yA⟩;rw[he] at Uc wc;by_cases hL2:(e:Int)<=(L:Int)
    .have hsh:=ON (d:=e) yA;have b0:¬ ((e:Int)<0):=by omega
     rw[if_pos ⟨yA,hL2⟩,Int.toNat_natCast] at Uc;apply aq;simp[hC,he,wc,hL2];refine du ?_;simp;apply aM;simp[hC,he,wc,b0,hsh,UJ,Tg,hiI];apply aM;simp[hC,wi];refine⟨L+1-(i+1),yA,aa.trim [12,11,5,0,1] [0] 1 yBt yA ⟨i+1,rfl,yA,?_⟩⟩;rw[<- jW Uc];simp
    .rw[if_neg yA] at Uc;apply aq;simp[hC,he,wc,hL2];refine gk ?_;simp;apply aM;simp[hC,wi];refine⟨L+1-(i+1),yA,aa.trim [12,11,5,0,1] [0] 1 yCy yA ⟨i+1,rfl,yA,?_⟩⟩;rw[qc Uc];simp
   .rw[if_neg yA] at Uc;apply aq;simp[hC,wc,h0];refine gk ?_;simp;apply aM;simp[hC,wi];refine⟨L+1-(i+1),yA,aa.trim [12,11,5,0,1] [0] 1 yCy yA ⟨i+1,rfl,yA,?_⟩⟩;rw[qc Uc];simp
  .have Rz:i=L+1:=by omega
   subst Rz;have VJ:=jY (nK L c);rw[g8] at VJ;have tF:=aC (nK L c);rw[VJ] at Tg |-;apply aq;simp[hC];refine T.seq (T.cond (b:=false) rfl (T.exit ?_));simp;apply aq;simp[hC];apply T.ret;refine aa.le (Le.di (o:=0) rfl tF) ?_;apply aa.here;have SE:take (L+1) ((nK L c).map λ n:Nat=>I n)=(nK L c).map λ n:Nat=>I n:=take_of_length_le (by rw[length_map,g8];omega);simp[Tryz.results202,aA,g8,SE]
theorem ia (a b:List Nat):(qy a b).length=a.length:=by simp[qy]
theorem LH {a b:List Nat}{i x:Nat}(h:a[i]? = some x):(qy a b)[i]? = some (Ac b x):=by simp[qy,h]
def J323 (a b:List Nat)(m:Nat)(s:St):Prop:=∃ i:Nat,m=a.length-i/\i<=a.length/\s=⟨[(13,I i),(12,I a.length),(11,aA a),(5,.a7 0 0 a.length),(1,aA b)],[(0,⟨3,1,gN (qy a b) i⟩)],1⟩
theorem Ke (a b:List Nat)(la:a.length<=9)(lb:b.length<=9)(ha:∀ s∈a,s<2 ^ 63)(hb:∀ s∈b,s<2 ^ 63):ae prog 204 [aA a,aA b] (aA (qy a b)):=by
 refine ae.aD af Tryz.func204 rfl Bw (by simp[Tryz.ntmps204]) (aE _) λ C hC M0=>?_;rw[Tryz.ntmps204] at hC;have ta:=aC a;have tb:=aC b;have bd:8*(a.length:Int)<=281474976710656/\(a.length:Int)<=9223372036854775807:=by omega
 simp only[aA];apply aq;simp[hC];apply aq;simp[hC,bd];apply aW;simp[hC];apply T.block;refine T.aI (J323 a b) (n:=a.length) ?_ ?_
 .refine aa.trim [13,12,11,5,1] [0] 1 U2 yA ⟨0,yA,yA,?_⟩;rw[iF,ia];simp[aA]
 .rintro n s ⟨i,rfl,hi,rfl⟩;have Tg:(gN (qy a b) i).length=a.length:=by rw[jX (by rw[ia];exact hi),ia]
  have Xv:=fF (qy a b) i;simp only[aA];by_cases Jz:i<a.length
  .obtain⟨x,hx⟩:∃ x,a[i]? = some x:=⟨_,getElem?_eq_getElem Jz⟩;have OZ:=dV hx;have Uc:=LH (b:=b) hx;have wi:=cr ((i:Int)+1) yA yA;have Wa:=uE b x lb hb (ha x (mem_of_getElem? hx));have MY:trees [aA b,I x]=true:=by simp only[trees,aE,tree,Bool.and_self]
   have YG:i+1<=a.length:=Jz;simp only[aA] at Wa MY;apply aq;simp[hC,Jz];refine T.seq (T.cond (b:=true) rfl (T.skip ?_));simp;apply eE;apply aq;simp[hC,Jz,OZ];apply aM;simp[hC];refine cS MY Wa ?_;simp[hC,Jz,YG,Tg];apply aM;simp[hC,wi];refine⟨a.length-(i+1),yA,aa.trim [13,12,11,5,1] [0] 1 yBt yA ⟨i+1,rfl,yA,?_⟩⟩;rw[<- jW Uc];simp[aA]
  .have Rz:i=a.length:=by omega
   subst Rz;have VJ:=jY (qy a b);rw[ia] at VJ;have tF:=aC (qy a b);rw[VJ] at Tg |-;apply aq;simp[hC];refine T.seq (T.cond (b:=false) rfl (T.exit ?_));simp;apply aq;simp[hC];apply T.ret;refine aa.le (Le.di (o:=0) rfl tF) ?_;apply aa.here;have SE:take a.length ((qy a b).map λ n:Nat=>I n)=(qy a b).map λ n:Nat=>I n:=take_of_length_le (by rw[length_map,ia];omega);simp[Tryz.results204,ia,SE]
theorem C6 (L:Nat)(hL:L<=8):ae prog 181 [I L] (aA (nK L 0)):=by
 have h:=qP L 0 hL yA yA;have MY:trees [I L,I 0]=true:=rfl;refine ae.aD af Tryz.func181 rfl Bw (by simp[Tryz.ntmps181]) (aE _) λ C hC M0=>?_;rw[Tryz.ntmps181] at hC;apply aq;simp[hC];apply aq;simp[hC];refine cS MY h ?_;simp[hC];apply T.ret;apply aa.here;simp[Tryz.results181]
theorem up_ok (L:Nat)(hL:L<=8):ae prog 179 [I L] (aA (nK L 1)):=by
 have h:=qP L 1 hL yA yA;have MY:trees [I L,I 1]=true:=rfl;refine ae.aD af Tryz.func179 rfl Bw (by simp[Tryz.ntmps179]) (aE _) λ C hC M0=>?_;rw[Tryz.ntmps179] at hC;apply aq;simp[hC];apply aq;simp[hC];refine cS MY h ?_;simp[hC];apply T.ret;apply aa.here;simp[Tryz.results179]
theorem N8 (L:Nat)(hL:L<=8):ae prog 180 [I L] (aA (nK L (-1))):=by
 have h:=qP L (-1) hL yA yA;have MY:trees [I L,I (-1)]=true:=rfl;refine ae.aD af Tryz.func180 rfl Bw (by simp[Tryz.ntmps180]) (aE _) λ C hC M0=>?_;rw[Tryz.ntmps180] at hC;apply aq;simp[hC];apply aq;simp[hC];refine cS MY h ?_;simp[hC];apply T.ret;apply aa.here;simp[Tryz.results180]
theorem fo {a b:List Nat}(h:b.length=a.length):(lI a b).length=a.length:=by simp[lI,h]
theorem El {a b:List Nat}{i x y:Nat}(h1:a[i]? = some x)(h2:b[i]? = some y):(lI a b)[i]? = some (x ||| y):=by simp[lI,getElem?_zipWith,h1,h2]
def J233 (a b:List Nat)(m:Nat)(s:St):Prop:=∃ i:Nat,m=a.length-i/\i<=a.length/\s=⟨[(12,I i),(11,I a.length),(5,.a7 0 0 a.length),(0,aA a),(1,aA b)],[(0,⟨3,1,gN (lI a b) i⟩)],1⟩
theorem M9 (a b:List Nat)(la:a.length<=1000)(lb:b.length=a.length)(ha:∀ s∈a,s<2 ^ 63)(hb:∀ s∈b,s<2 ^ 63):ae prog 203 [aA a,aA b] (aA (lI a b)):=by
 refine ae.aD af Tryz.func203 rfl Bw (by simp[Tryz.ntmps203]) (aE _) λ C hC M0=>?_;rw[Tryz.ntmps203] at hC;have ta:=aC a;have tb:=aC b;have bd:8*(a.length:Int)<=281474976710656/\(a.length:Int)<=9223372036854775807:=by omega
 simp only[aA];apply aq;simp[hC];apply aq;simp[hC,bd];apply aW;simp[hC];apply T.block;refine T.aI (J233 a b) (n:=a.length) ?_ ?_
 .refine aa.trim [12,11,5,0,1] [0] 1 U2 yA ⟨0,yA,yA,?_⟩;rw[iF,fo lb];simp[aA]
 .rintro n s ⟨i,rfl,hi,rfl⟩;have Tg:(gN (lI a b) i).length=a.length:=by rw[jX (by rw[fo lb];exact hi),fo lb]
  have Xv:=fF (lI a b) i;simp only[aA];by_cases Jz:i<a.length
  .obtain⟨x,hx⟩:∃ x,a[i]? = some x:=⟨_,getElem?_eq_getElem Jz⟩;have WA:i<b.length:=by omega
   obtain⟨y,hy⟩:∃ y,b[i]? = some y:=⟨_,getElem?_eq_getElem WA⟩;have OZ:=dV hx;have TC:=dV hy;have Uc:=El hx hy;have wi:=cr ((i:Int)+1) yA yA;have Zp:=H3 (ha x (mem_of_getElem? hx)) (hb y (mem_of_getElem? hy));have YG:i+1<=a.length:=Jz;apply aq;simp[hC,Jz];refine T.seq (T.cond (b:=true) rfl (T.skip ?_));simp;apply eE;apply aq;simp[hC];refine T.rx af follows [0,1,2,3,4,5,6,7,8,9,10,11,12] [] Bw ?_;simp[hC,Jz,WA,OZ,TC,Zp,YG,Tg];apply aM;simp[hC,wi];refine⟨a.length-(i+1),yA,aa.trim [12,11,5,0,1] [0] 1 yBt yA ⟨i+1,rfl,yA,?_⟩⟩;rw[<- jW Uc];simp[aA]
  .have Rz:i=a.length:=by omega
   subst Rz;have VJ:=jY (lI a b);rw[fo lb] at VJ;have tF:=aC (lI a b);rw[VJ] at Tg |-;apply aq;simp[hC];refine T.seq (T.cond (b:=false) rfl (T.exit ?_));simp;apply aq;simp[hC];apply T.ret;refine aa.le (Le.di (o:=0) rfl tF) ?_;apply aa.here;have SE:take a.length ((lI a b).map λ n:Nat=>I n)=(lI a b).map λ n:Nat=>I n:=take_of_length_le (by rw[length_map,fo lb];omega);simp[Tryz.results203,fo lb,SE]
theorem GI {a b:List Nat}:yJ a b=true↔∀ (j x y:Nat),a[j]? = some x->b[j]? = some y->x ||| y=y:=by
 unfold yJ;rw[all_eq_true];constructor
 .intro h j x y hx hy;have:=h (decide (x ||| y=y)) (mem_iff_getElem?.2 ⟨j,by rw[getElem?_zipWith,hx,hy]⟩)
  simpa using this
 .intro h z hz;obtain⟨j,hj⟩:=mem_iff_getElem?.1 hz;rw[getElem?_zipWith] at hj
  cases hx:a[j]? with
  | none=>rw[hx] at hj;simp at hj
  | some x=>
   cases hy:b[j]? with
   | none=>rw[hx,hy] at hj;simp at hj
   | some y=>
    rw[hx,hy] at hj;simp only[Option.some.injEq] at hj;rw[<- hj]
    simpa using h j x y hx hy
def J324 (a b:List Nat)(m:Nat)(s:St):Prop:=∃ i:Nat,m=a.length-i/\i<=a.length/\(∀ (j x y:Nat),j<i->a[j]? = some x->b[j]? = some y->x ||| y=y)/\s=⟨[(8,I i),(7,I a.length),(0,aA a),(1,aA b)],[],0⟩
theorem EG (a b:List Nat)(la:a.length<=1000)(lb:b.length=a.length)(ha:∀ s∈a,s<2 ^ 63)(hb:∀ s∈b,s<2 ^ 63):ae prog 205 [aA a,aA b] (.bool (yJ a b)):=by
 refine ae.aD af Tryz.func205 rfl Bw (by simp[Tryz.ntmps205]) rfl λ C hC M0=>?_;rw[Tryz.ntmps205] at hC;have ta:=aC a;have tb:=aC b;simp only[aA];apply aq;simp[hC];apply aW;simp[hC];apply T.block;refine T.aI (J324 a b) (n:=a.length) ?_ ?_
 .refine aa.trim [8,7,0,1] [] 0 U2 yA ⟨0,yA,yA,λ j x y h=>by omega,?_⟩;simp[aA]
 .rintro n s ⟨i,rfl,hi,Tr,rfl⟩;simp only[aA];by_cases Jz:i<a.length
  .obtain⟨x,hx⟩:∃ x,a[i]? = some x:=⟨_,getElem?_eq_getElem Jz⟩;have WA:i<b.length:=by omega
   obtain⟨y,hy⟩:∃ y,b[i]? = some y:=⟨_,getElem?_eq_getElem WA⟩;have OZ:=dV hx;have TC:=dV hy;have wi:=cr ((i:Int)+1) yA yA;apply aq;simp[hC,Jz];refine T.seq (T.cond (b:=true) rfl (T.skip ?_));simp;apply eE;apply aq;simp[hC];refine T.seq (T.rx af follows [0,1,2,3,4,5,6,7,8,9] [] Bw ?_);have han:=DP (ha x (mem_of_getElem? hx)) (hb y (mem_of_getElem? hy));have SL:=Lu (x:=x) (y:=y);simp[hC,Jz,WA,OZ,TC,han];by_cases U3:x ||| y=y
   .have Zr:(((D5 x y:Nat):Int) != 0)=false:=by rw[SL];simp[U3]
    refine T.cond (b:=false) (by simp only[ev,assoc,Zr];rfl) (T.skip ?_);simp;apply aM;simp[hC,wi];refine⟨a.length-(i+1),yA,aa.trim [8,7,0,1] [] 0 U2 yA ⟨i+1,rfl,yA,λ j p q hj hp hq=>?_,?_⟩⟩
    .by_cases hji:j=i
     .subst hji;rw[hx] at hp;cases hp;rw[hy] at hq;cases hq;exact U3
     .exact Tr j p q yA hp hq
    .simp[aA]
   .have Zr:(((D5 x y:Nat):Int) != 0)=true:=by rw[SL];simp[U3]
    have SF:yJ a b=false:=by
     cases T0:yJ a b with
     | false=>rfl
     | true=>exact (U3 (GI.1 T0 i x y hx hy)).elim
    refine T.cond (b:=true) (by simp only[ev,assoc,Zr];rfl) ?_;simp;apply aq;simp[hC];apply T.ret;apply aa.here;rw[SF];simp[Tryz.results205]
  .have Rz:i=a.length:=by omega
   subst Rz;have SF:yJ a b=true:=GI.2 λ j x y hx hy=>Tr j x y (List.getElem?_eq_some_iff.1 hx).1 hx hy;apply aq;simp[hC];refine T.seq (T.cond (b:=false) rfl (T.exit ?_));simp;apply aq;simp[hC];apply T.ret;apply aa.here;rw[SF];simp[Tryz.results205]
theorem Ok (x:Is)(m:Nat)(z:In) : -1<=eT x m z/\eT x m z<=1:=by
 unfold eT;split
 .split
  .split<;>omega
  .omega
 .omega
theorem ig (x:Mx):aH x<=8:=by unfold aH;split<;>omega
theorem AS (x:Mx):(cP x).length=3:=rfl
theorem Ct {u:Un}(hu:gg u){x:Is}(hx:ub u x){k:Nat}{z:In}(hz:(ay u x)[k]? = some z):ae prog 183 [cf u,.agg (dW x),I k] (.agg (cY z)):=by
 have⟨pq,TE,Sw,Xi,Uw⟩:=yd hu hx hz;rw[Sw] at hz;have Tx:=(List.getElem?_eq_some_iff.1 TE).1;have SO:=(List.getElem?_eq_some_iff.1 hz).1;have OZ:=cb (f:=nA) (n:=5) iY TE 4 yA;have Vf:=aL (f:=cY) (n:=12) hU hz;have U4:=px z;have XS:=eB z;have SH:=bm u;simp only[dk,ints] at SH;have⟨xc,Vo,VL⟩:=nW z;obtain⟨c1,c2,c3,c4,c5,c6,c7,c8,c9,c10,c11,rfl⟩:=CU VL;rw[Vo] at Vf U4 XS |-;simp only[all_cons,all_nil,Bool.and_true,Bool.and_eq_true] at U4;obtain⟨_,o1,o2,o3,o4,o5,o6,o7,o8,o9,o10,o11⟩:=U4;have SJ:tree (.agg [I (qU z),c1,c2,c3,c4,c5,c6,c7,c8,c9,c10,c11])=true:=by simp only[tree,XS]
 refine ae.aD af Tryz.func183 rfl Bw (by simp[Tryz.ntmps183]) SJ λ C hC M0=>?_;rw[Tryz.ntmps183] at hC;simp only[cf,dk,dW,ints];apply aq;simp[hC];apply aq;simp[hC,Tx,OZ,nA,SO,Vf];apply T.ret;apply aa.here;simp[Tryz.results183]
set_option maxHeartbeats 2000000 in
theorem EN {u:Un}(hu:gg u){x:Is}(hx:ub u x){k:Nat}{z:In}(hz:(ay u x)[k]? = some z)(m:Nat):ae prog 178 [cf u,.agg (dW x),I k,I m] (I (eT x m z)):=by
 have TV:=Ct hu hx hz;have⟨pq,TE,Sw,Xi,Uw⟩:=yd hu hx hz;have U4:=px z;have XS:=eB z;have SH:=bm u;have ti:=bS x;have⟨xc,Vo,VL⟩:=nW z;obtain⟨c1,c2,c3,c4,c5,c6,c7,c8,c9,c10,c11,rfl⟩:=CU VL;rw[Vo] at U4 XS TV;simp only[all_cons,all_nil,Bool.and_true,Bool.and_eq_true] at U4;obtain⟨_,o1,o2,o3,o4,o5,o6,o7,o8,o9,o10,o11⟩:=U4;have t2:trees [cf u,.agg (dW x),I k]=true:=by simp only[trees,tree,cf,SH,ti,Bool.and_self]
 refine ae.aD af Tryz.func178 rfl Bw (by simp[Tryz.ntmps178]) rfl λ C hC M0=>?_;rw[Tryz.ntmps178] at hC;simp only[cf,dk,dW,ints] at TV t2 |-;apply aq;simp[hC];apply aq;simp[hC];refine cS t2 TV ?_;simp[hC];by_cases Xo:∃ un p,z=.lock un p
 .obtain⟨un,p,rfl⟩:=Xo;have hp:iq p=[c7,c8,c9]:=by
   have h:=congrArg (λ l=>(l.drop 7).take 3) Vo
   simpa [cY,bf,iq] using h
  have UC:wM u.ms u.gs.length pq.locals pq.bh p:=Uw;have hq:p.param=true->p.index<x.bh.length:=λ h=>by
   rw[Xi];rcases UC with h6 | h6
   .exact h6.2.1
   .rw[h] at h6;cases h6.1
  have VC:=CH x p hq;rw[hp] at VC;have h2:trees [c7,c8,c9]=true:=by rw[<- hp];exact db p
  have tp:trees [.agg (dW x),.agg [c7,c8,c9]]=true:=by
   rw[show trees [.agg (dW x),.agg [c7,c8,c9]]=(trees (dW x) && (trees [c7,c8,c9] && true)) from rfl,bS,h2];rfl
  simp only[dW] at VC tp
  cases un with
  | false=>
   have SG:qU (.lock false p)=4:=rfl;rw[SG];apply aW;simp[hC];refine TL.cN Rg rfl rfl rfl rfl (bW.of rfl tp VC) (TL.go' af ?_);by_cases TF:jl x p=m
   .have hc:eT x m (.lock false p)=1:=by simp[eT,TF]
    rw[hc];simp[hC,TF];refine gk ?_;simp;apply aW;simp[hC];refine du ?_;simp;apply aq;simp[hC];apply T.ret;apply aa.here;simp[Tryz.results178]
   .have hc:eT x m (.lock false p)=0:=by simp[eT,TF]
    have Wy:((jl x p:Int) != (m:Int))=true:=by rw[bne_iff_ne];omega
    rw[hc];simp[hC,Wy];refine du ?_;simp;apply aq;simp[hC];apply T.ret;apply aa.here;simp[Tryz.results178]
  | true=>
   have SG:qU (.lock true p)=5:=rfl;rw[SG];apply aW;simp[hC];refine TL.cN Rg rfl rfl rfl rfl (bW.of rfl tp VC) (TL.go' af ?_);by_cases TF:jl x p=m
   .have hc:eT x m (.lock true p)=-1:=by simp[eT,TF]
    rw[hc];simp[hC,TF];refine gk ?_;simp;apply aW;simp[hC];refine gk ?_;simp;apply aq;simp[hC];apply T.ret;apply aa.here;simp[Tryz.results178]
   .have hc:eT x m (.lock true p)=0:=by simp[eT,TF]
    have Wy:((jl x p:Int) != (m:Int))=true:=by rw[bne_iff_ne];omega
    rw[hc];simp[hC,Wy];refine du ?_;simp;apply aq;simp[hC];apply T.ret;apply aa.here;simp[Tryz.results178]
 .have Tr:(((qU z:Int) != 4)=true/\((qU z:Int) != 5)=true)/\eT x m z=0:=by
   cases z with
   | lock un p=>exact (Xo ⟨un,p,rfl⟩).elim
   | call g t l ps=>cases g<;>exact⟨⟨rfl,rfl⟩,rfl⟩
   | _=>exact⟨⟨rfl,rfl⟩,rfl⟩
  obtain⟨⟨h4,h5⟩,hc⟩:=Tr;rw[hc];apply aW;simp[hC,h4,h5];refine du ?_;simp;apply aq;simp[hC];apply T.ret;apply aa.here;simp[Tryz.results178]
theorem Iz (x:Is)(m:Nat)(z:In):eT x m z=1\/eT x m z=-1\/eT x m z=0:=by
 have:=Ok x m z;omega
theorem Nb {u:Un}(hu:gg u){x:Is}(hx:ub u x){k:Nat}{z:In}(hz:(ay u x)[k]? = some z){m:Nat}{xm:Mx}(hm:u.ms[m]? = some xm):ae prog 146 [cf u,.agg (dW x),I k,I m] (aA (nK (aH xm) (eT x m z))):=by
 have WJ:=EN hu hx hz m;have UZ:=sE xm;have Ua:=(List.getElem?_eq_some_iff.1 hm).1;have UD:=aL (f:=cP) (n:=3) AS hm;have SH:=bm u;have ti:=bS x;have t1:trees [.agg (cP xm)]=true:=rfl;have t2:trees [cf u,.agg (dW x),I k,I m]=true:=by simp only[trees,tree,cf,SH,ti,Bool.and_self]
 have t3:trees [I (aH xm)]=true:=rfl;refine ae.aD af Tryz.func146 rfl Bw (by simp[Tryz.ntmps146]) (aE _) λ C hC M0=>?_;rw[Tryz.ntmps146] at hC;simp only[cf,dk,dW,ints] at WJ t2 |-;simp only[cP] at UZ t1;apply aq;simp[hC];apply aq;simp[hC,Ua,UD,cP];refine cS t1 UZ ?_;simp[hC];apply aW;simp[hC];refine cS t2 WJ ?_;rcases Iz x m z with hc | hc | hc
 .have Yg:=up_ok (aH xm) (ig xm);simp only[hc] at WJ |-;simp;apply T.block;apply aq;simp[hC];refine du ?_;simp;apply aq;simp[hC];refine cS t3 Yg ?_;simp[hC];apply T.ret;apply aa.here;simp[Tryz.results146]
 .have hdn:=N8 (aH xm) (ig xm);simp only[hc] at WJ |-;simp;apply T.block;apply aq;simp[hC];refine bg ?_;simp;apply aq;simp[hC];refine du ?_;simp;apply aq;simp[hC];refine cS t3 hdn ?_;simp[hC];apply T.ret;apply aa.here;simp[Tryz.results146]
 .have hid:=C6 (aH xm) (ig xm);simp only[hc] at WJ |-;simp;apply T.block;apply aq;simp[hC];refine bg ?_;simp;apply aq;simp[hC];refine gk ?_;simp;apply aq;simp[hC];refine cS t3 hid ?_;simp[hC];apply T.ret;apply aa.here;simp[Tryz.results146]
def bR (t:List (List Nat)):CV:=.az (t.map aA) t.length
theorem ct:∀ t:List (List Nat),trees (t.map aA)=true
 | []=>rfl
 | r::t=>by
  have h:tree (aA r)=true:=aE r;have:=ct t;simp only[map_cons,trees,h,this,Bool.and_self]
theorem fB (t:List (List Nat)):tree (bR t)=true:=by simp only[bR,tree]
theorem FV {t:List (List Nat)}{p:Nat}(r:List Nat)(h:p<t.length):take p (t.map aA)++aA r::drop (p+1) (t.map aA)=(t.set p r).map aA:=by
 rw[map_set,set_eq_take_append_cons_drop,if_pos UA]
theorem lh {α:Type}(f:α->CV){l:List α}{i:Nat}{a:α}(h:l[i]? = some a):(l.map f).drop i=f a::(l.drop (i+1)).map f:=by
 obtain⟨hl,rfl⟩:=List.getElem?_eq_some_iff.1 h;rw[<- map_drop,drop_eq_getElem_cons hl,map_cons]
theorem C0 {u:Un}(hu:gg u){i:Nat}{x:Is}(hx:(aw u).is[i]? = some x){pc:Nat}{z:In}(hz:(ay u x)[pc]? = some z)(hc:fk z=true):∃ row:List Int,(aw u).calls[i]? = some row/\row[pc]? = some ((fx (aw u) i pc:Nat):Int)/\fx (aw u) i pc<(aw u).is.length:=by
 have⟨h1,h2⟩:=AY hu hx hz hc
 cases hr:(aw u).calls[i]? with
 | none=>rw[getD_eq_getElem?_getD,getD_eq_getElem?_getD,hr] at h2;simp at h2
 | some row=>
  rw[getD_eq_getElem?_getD,getD_eq_getElem?_getD,hr] at h2;simp only[Option.getD_some] at h2
  cases hp:row[pc]? with
  | none=>rw[hp] at h2;simp at h2
  | some n=>
   rw[hp] at h2;exact⟨row,rfl,by rw[hp,<- h2];rfl,h1⟩
theorem Cw (z:In):((qU z:Int) == 2)=fk z:=by
 cases z with
 | call g _ _ _=>cases g<;>rfl
 | lock g _=>cases g<;>rfl
 | _=>rfl
theorem mc {L:Nat}(h8:L<=8){r:List Nat}(h:wK L r):∀ s∈r,s<2 ^ 63:=λ s hs=>by
 have h1:=h.lt s hs;have h2:2 ^ (L+1)<=2 ^ 9:=Nat.pow_le_pow_right yA yA;have h3:(2:Nat) ^ 9<2 ^ 63:=by decide
 exact Nat.lt_of_lt_of_le h1 (Nat.le_trans h2 (Nat.le_of_lt h3))
theorem fI (c:Cl):trees (gE c)=true:=by
 simp only[gE,trees,tree,aE,Bool.and_self]
theorem ik {c:CV}(h:tree c=true):∀ n:Nat,trees (replicate n c)=true
 | 0=>rfl
 | n+1=>by simp only[replicate_succ,trees,h,ik h n,Bool.and_self]
theorem G2 {u:Un}(hu:gg u){i:Nat}{x:Is}(hx:(aw u).is[i]? = some x):ub u x:=LL hu x (mem_of_getElem? hx)
theorem fU (o:Nat)(cs:List CV)(n:Nat)(l:List Nat):cC o cs n (aA l)=aA l:=rfl
theorem nV (l:List Nat):eI (aA l)=false:=rfl
theorem oo (l:List Nat):(aA l).cells=[aA l]:=rfl
theorem CF (L:Nat):CV.az (replicate (L+1) (CV.int IntKind.i64 0)) (L+1)=aA (rX L):=by simp[aA,rX]
theorem F7 {j n:Nat}(Z N:CV)(h:j<n):replicate j Z++Z::drop (j+1) (replicate j Z++replicate (n-j) N)=replicate (j+1) Z++replicate (n-(j+1)) N:=by
 have h1:drop (j+1) (replicate j Z++replicate (n-j) N)=replicate (n-(j+1)) N:=by
  rw[drop_append,length_replicate,drop_replicate,drop_replicate];have e1:j-(j+1)=0:=by omega
  have e2:n-j-(j+1-j)=n-(j+1):=by omega
  rw[e1,e2];rfl
 rw[h1,replicate_succ',append_assoc];rfl
theorem Ny (z:In)(pc:Nat):(jn z pc).length<=2:=by
 cases z<;>simp[jn];split<;>simp
noncomputable def Mm (u:Un) (m i L:Nat) (x:Is) (sm:List (List Nat)):List (List Nat):=uq L (ay u x).length (Ri u (aw u) m L (BH sm) i)
theorem KQ (g k:Nat):ae prog 226 [.agg [I g],I k] (aA [g]):=by
 refine ae.aD af Tryz.func226 rfl Bw (by simp[Tryz.ntmps226]) (aE _) λ C hC M0=>?_;rw[Tryz.ntmps226] at hC;apply aq;simp[hC];apply aq;simp[hC];apply T.ret;refine aa.le (Le.trim [4] [1] 2 xr yA) ?_;simp;refine aa.le (Le.di (o:=1) rfl rfl) ?_;apply aa.here;simp[aA]
theorem LU (g k:Nat)(hk:k<=1000000):ae prog 227 [.agg [I g],I k] (aA (if g=k+1 then [g] else [min g (k+1),max g (k+1)])):=by
 have wk:=cr ((k:Int)+1) yA yA;refine ae.aD af Tryz.func227 rfl Bw (by simp[Tryz.ntmps227]) (aE _) λ C hC M0=>?_;rw[Tryz.ntmps227] at hC;apply aq;simp[hC];apply aW;simp[hC,wk];by_cases h:g=k+1
 .subst h;simp;refine du ?_;simp;apply aq;simp[hC];apply T.ret;simp;refine aa.le (Le.trim [4] [1] 2 xr yA) ?_;simp;refine aa.le (Le.di (o:=1) rfl rfl) ?_;apply aa.here;simp[aA]
 .have SL:(((g:Int) == (k:Int)+1))=false:=by rw[beq_eq_false_iff_ne];omega
  refine T.cond (b:=false) (by simp only[ev,assoc,SL];rfl) (T.skip ?_);rw[if_neg h];have UW:(if (k:Int)+1<(g:Int) then (k:Int)+1 else (g:Int))=((min g (k+1):Nat):Int):=by split<;>omega
  have hmax:(if (g:Int)<(k:Int)+1 then (k:Int)+1 else (g:Int))=((max g (k+1):Nat):Int):=by split<;>omega
  generalize min g (k+1)=A at UW |-;generalize max g (k+1)=B at hmax |-;simp;apply aq;simp[hC,wk,UW,hmax];apply T.ret;refine aa.le (Le.trim [4] [1] 2 xr yA) ?_;simp;refine aa.le (Le.di (o:=1) rfl rfl) ?_;apply aa.here;simp[aA]
theorem Lp (k:Nat):ae prog 225 [.agg [],I k] (aA []):=by
 refine ae.aD af Tryz.func225 rfl Bw (by simp[Tryz.ntmps225]) (aE _) λ C hC M0=>?_;rw[Tryz.ntmps225] at hC;apply aq;simp[hC];apply aq;simp[hC];apply T.ret;refine aa.le (Le.trim [4] [] 0 xr yA) ?_;simp;refine aa.le (Le.nz [4] []) ?_;apply aa.here;simp[aA]
theorem Jp (k:Nat)(hk:k<=1000000):ae prog 228 [.agg [],I k] (aA [k+1]):=by
 have wk:=cr ((k:Int)+1) yA yA;refine ae.aD af Tryz.func228 rfl Bw (by simp[Tryz.ntmps228]) (aE _) λ C hC M0=>?_;rw[Tryz.ntmps228] at hC;apply aq;simp[hC];apply aq;simp[hC,wk];apply T.ret;refine aa.le (Le.trim [4] [1] 2 xr yA) ?_;simp;refine aa.le (Le.di (o:=1) rfl rfl) ?_;apply aa.here;simp[aA]
def yb:In->CV
 | .ret=>.iface 280 [.agg []]
 | .jump g=>.iface 282 [.agg [I g]]
 | .branch g _=>.iface 283 [.agg [I g]]
 | _=>.iface 284 [.agg []]
set_option maxRecDepth 100000 in
theorem Fs (z:In):ae prog 182 [.agg (cY z)] (yb z):=by
 have U4:=px z;have⟨xc,Vo,VL⟩:=nW z;obtain⟨c1,c2,c3,c4,c5,c6,c7,c8,c9,c10,c11,rfl⟩:=CU VL;rw[Vo] at U4 |-;simp only[all_cons,all_nil,Bool.and_true,Bool.and_eq_true] at U4;obtain⟨_,o1,o2,o3,o4,o5,o6,o7,o8,o9,o10,o11⟩:=U4;have SJ:tree (yb z)=true:=by cases z<;>rfl
 refine ae.aD af Tryz.func182 rfl Bw (by simp[Tryz.ntmps182]) SJ λ C hC M0=>?_;rw[Tryz.ntmps182] at hC;apply aq;simp[hC]
 cases z with
 | ret=>
  rw[show qU In.ret=8 from rfl];apply aW;simp[hC];apply T.block;apply aq;simp[hC];refine du ?_;simp;refine T.seq (T.region (TL.some af 1 ?_));simp[hC];refine gW rfl (gU (d:=.bp []) (c:=.agg []) af Rg rfl xr rfl (λ h=>by cases h)) (TL.go' af ?_);simp[hC];apply T.ret;simp;refine aa.le (Le.trim [2] [] 0 xr yA) ?_;simp;apply aa.here;simp[yb]
 | jump g=>
  have WK:c1=I g:=by
   have h:=congrArg (λ l=>l.drop 1) Vo;simp[cY] at h;exact h.1.symm
  subst WK;rw[show qU (In.jump g)=7 from rfl];apply aW;simp[hC];apply T.block;apply aq;simp[hC];refine bg ?_;simp;apply aq;simp[hC];refine du ?_;simp;refine T.seq (T.region (TL.some af 3 ?_));simp[hC];refine gW rfl (gU (d:=.bp [(0,3)]) (c:=.agg [I g]) af Rg rfl xr rfl (λ h=>by cases h)) (TL.go' af ?_);simp[hC];apply T.ret;simp;refine aa.le (Le.trim [2] [] 0 xr yA) ?_;simp;apply aa.here;simp[yb]
 | branch g e=>
  have WK:c1=I g:=by
   have h:=congrArg (λ l=>l.drop 1) Vo;simp[cY] at h;exact h.1.symm
  subst WK;rw[show qU (In.branch g e)=6 from rfl];apply aW;simp[hC];apply T.block;apply aq;simp[hC];refine bg ?_;simp;apply aq;simp[hC];refine bg ?_;simp;apply aq;simp[hC];refine du ?_;simp;refine T.seq (T.region (TL.some af 3 ?_));simp[hC];refine gW rfl (gU (d:=.bp [(0,3)]) (c:=.agg [I g]) af Rg rfl xr rfl (λ h=>by cases h)) (TL.go' af ?_);simp[hC];apply T.ret;simp;refine aa.le (Le.trim [2] [] 0 xr yA) ?_;simp;apply aa.here;simp[yb]
 | set t gl e=>
  rw[show qU (In.set t gl e)=1 from rfl];apply aW;simp[hC];apply T.block;apply aq;simp[hC];refine bg ?_;simp;apply aq;simp[hC];refine bg ?_;simp;apply aq;simp[hC];refine gk ?_;simp;refine T.seq (T.region (TL.some af 1 ?_));simp[hC];refine gW rfl (gU (d:=.bp []) (c:=.agg []) af Rg rfl xr rfl (λ h=>by cases h)) (TL.go' af ?_);simp[hC];apply T.ret;refine aa.le (Le.trim [2] [] 0 xr yA) ?_;simp;apply aa.here;simp[yb]
 | call g t l ps=>
  cases g with
  | true=>
   rw[show qU (In.call true t l ps)=3 from rfl];apply aW;simp[hC];apply T.block;apply aq;simp[hC];refine bg ?_;simp;apply aq;simp[hC];refine bg ?_;simp;apply aq;simp[hC];refine gk ?_;simp;refine T.seq (T.region (TL.some af 1 ?_));simp[hC];refine gW rfl (gU (d:=.bp []) (c:=.agg []) af Rg rfl xr rfl (λ h=>by cases h)) (TL.go' af ?_);simp[hC];apply T.ret;refine aa.le (Le.trim [2] [] 0 xr yA) ?_;simp;apply aa.here;simp[yb]
  | false=>
   rw[show qU (In.call false t l ps)=2 from rfl];apply aW;simp[hC];apply T.block;apply aq;simp[hC];refine bg ?_;simp;apply aq;simp[hC];refine bg ?_;simp;apply aq;simp[hC];refine gk ?_;simp;refine T.seq (T.region (TL.some af 1 ?_));simp[hC];refine gW rfl (gU (d:=.bp []) (c:=.agg []) af Rg rfl xr rfl (λ h=>by cases h)) (TL.go' af ?_);simp[hC];apply T.ret;refine aa.le (Le.trim [2] [] 0 xr yA) ?_;simp;apply aa.here;simp[yb]
 | lock un p=>
  cases un with
  | true=>
   rw[show qU (In.lock true p)=5 from rfl];apply aW;simp[hC];apply T.block;apply aq;simp[hC];refine bg ?_;simp;apply aq;simp[hC];refine bg ?_;simp;apply aq;simp[hC];refine gk ?_;simp;refine T.seq (T.region (TL.some af 1 ?_));simp[hC];refine gW rfl (gU (d:=.bp []) (c:=.agg []) af Rg rfl xr rfl (λ h=>by cases h)) (TL.go' af ?_);simp[hC];apply T.ret;refine aa.le (Le.trim [2] [] 0 xr yA) ?_;simp;apply aa.here;simp[yb]
  | false=>
   rw[show qU (In.lock false p)=4 from rfl];apply aW;simp[hC];apply T.block;apply aq;simp[hC];refine bg ?_;simp;apply aq;simp[hC];refine bg ?_;simp;apply aq;simp[hC];refine gk ?_;simp;refine T.seq (T.region (TL.some af 1 ?_));simp[hC];refine gW rfl (gU (d:=.bp []) (c:=.agg []) af Rg rfl xr rfl (λ h=>by cases h)) (TL.go' af ?_);simp[hC];apply T.ret;refine aa.le (Le.trim [2] [] 0 xr yA) ?_;simp;apply aa.here;simp[yb]
def ctlM : jh := [((280, "lockorder/flow.next"), 225), ((282, "lockorder/flow.next"), 226), ((283, "lockorder/flow.next"), 227), ((284, "lockorder/flow.next"), 228)]
theorem Oe:jM prog ctlM:=qX Bw
theorem LC (z : In) {k : Nat} (hk : k <= 1000000) : ∃ (t : Nat) (v : CV) (g : Nat), yb z = .iface t [v] /\ zI ctlM t "lockorder/flow.next" = some g /\ tree v = true /\ ae prog g [v, I k] (aA (jn z k)) := by
 cases z with
 | ret=>exact⟨_,_,_,rfl,by rfl,rfl,Lp k⟩
 | jump g=>exact⟨_,_,_,rfl,by rfl,rfl,KQ g k⟩
 | branch g e=>exact⟨_,_,_,rfl,by rfl,rfl,LU g k hk⟩
 | _=>exact⟨_,_,_,rfl,by rfl,rfl,Jp k hk⟩
theorem J7 {u:Un}(hu:gg u){x:Is}(hx:ub u x){k:Nat}{z:In}(hz:(ay u x)[k]? = some z)(hk:k<=1000000):ae prog 147 [cf u,.agg (dW x),I k] (aA (jn z k)):=by
 have TV:=Ct hu hx hz;have hct:=Fs z;have SH:=bm u;have ti:=bS x;have XS:=eB z;have⟨t,v,g,e1,e2,e3,e4⟩:=LC z hk;have t2:trees [cf u,.agg (dW x),I k]=true:=by simp only[trees,tree,cf,SH,ti,Bool.and_self]
 have t3:trees [.agg (cY z)]=true:=by simp only[trees,tree,XS,Bool.and_self]
 have t4:trees [v,I k]=true:=by simp only[trees,e3];rfl
 rw[e1] at hct;refine ae.aD af Tryz.func147 rfl Bw (by simp[Tryz.ntmps147]) (aE _) λ C hC M0=>?_;rw[Tryz.ntmps147] at hC;simp only[cf,dk,dW,ints] at TV t2 |-;apply aq;simp[hC];apply aq;simp[hC];refine cS t2 TV ?_;simp;refine cS t3 hct ?_;simp[hC];apply aq;simp[hC];refine OU Rg rfl (ql.to Oe rfl (by simp[jF,ev,BK,assoc,e2]) e4.1) t4 e4 (TL.go' af ?_);simp[hC];apply T.ret;apply aa.here;simp[Tryz.results147]
def qL (u:Un)(x:Is)(m i:Nat)(sm:List (List Nat)):List CV:=[.cM (dk u),.cM (dW x),.cM [bR sm],.cM (gE (aw u)),.cM [I i],.cM [I m]]
theorem vd (u:Un)(x:Is)(m i:Nat)(sm:List (List Nat)):trees (qL u x m i sm)=true:=by
 simp only[qL,trees,tree,Bool.and_self]
theorem J2 {u:Un}(hu:gg u){i:Nat}{x:Is}(hx:(aw u).is[i]? = some x){m:Nat}{xm:Mx}(hm:u.ms[m]? = some xm){sm:List (List Nat)}(hs:yz (aH xm) (aw u).is.length sm){pc:Nat}{z:In}(hz:(ay u x)[pc]? = some z) :
  ae prog 187 (I pc::qL u x m i sm) (aA (lK (aw u) (aH xm) m sm i x z pc)):=by
 have hv:=G2 hu hx;have h8:=ig xm;have hrel:=Nb hu hv hz hm;have⟨pq,TE,Sw⟩:=qf hv;have SA:=lv hu x;have Tx:=(List.getElem?_eq_some_iff.1 TE).1;have OZ:=cb (f:=nA) (n:=5) iY TE 4 yA;have UM:=hz;rw[Sw] at UM;have Ys:=(List.getElem?_eq_some_iff.1 UM).1;have Vf:=aL (f:=cY) (n:=12) hU UM;have⟨xc,Vo,VL⟩:=nW z;rw[Vo] at Vf;have SG:=Cw z;have MY:trees [cf u,.agg (dW x),I pc,I m]=true:=by simp only[trees,tree,cf,bm,bS,Bool.and_self]
 refine ae.aD af Tryz.func187 rfl Bw (by simp[Tryz.ntmps187,qL]) (aE _) λ C hC M0=>?_;rw[Tryz.ntmps187] at hC;simp only[qL,cf,dk,gE,dW,ints,bR] at hrel MY |-;apply aq;simp[hC];apply aW;simp[hC,Tx,OZ,nA,Ys,Vf]
 cases hc:fk z with
 | true=>
  have⟨row,TU,Tb,hr3⟩:=C0 hu hx hz hc;have Tz:=lh ints TU;have V9:=lh dg Tb;have Uo:=(List.getElem?_eq_some_iff.1 TU).1;have TO:=(List.getElem?_eq_some_iff.1 Tb).1;have hl3:fx (aw u) i pc<sm.length:=by rw[hs.len];exact hr3
  obtain⟨sk,hsk⟩:∃ sk,sm[fx (aw u) i pc]? = some sk:=⟨_,getElem?_eq_getElem hl3⟩;have hd3:=lh aA hsk;have hstp:lK (aw u) (aH xm) m sm i x z pc=sk:=by rw[lK,if_pos hc,getD_eq_getElem?_getD,hsk];rfl
  rw[hc] at SG;refine T.cond (b:=true) yBs ?_;simp;refine T.seq (T.rx af follows [0,1,2,3,4,5,6,7,8,9,10,11] [] Bw ?_);simp[hC,Tz,V9,Uo,TO,hl3,hd3,ints];apply T.ret;apply aa.here;simp[Tryz.results187,hstp]
 | false=>
  have hstp:lK (aw u) (aH xm) m sm i x z pc=nK (aH xm) (eT x m z):=by rw[lK,if_neg (by rw[hc];simp)]
  rw[hc] at SG;refine T.cond (b:=false) yBs (T.skip ?_);simp;apply aq;simp[hC];refine cS MY hrel ?_;simp[hC];apply T.ret;apply aa.here;simp[Tryz.results187,hstp]
theorem QI (u:Un)(m i L:Nat)(x:Is)(sm:List (List Nat)):yz L (ay u x).length (Mm u m i L x sm):=lO _ _ _
theorem QQ (u:Un)(c:Cl)(m L:Nat)(sm:List (List Nat))(i:Nat):wK L (wz u c m L sm i):=nN _ _
theorem Nm (z:In):((qU z:Int) == 8)=vL z:=by
 cases z with
 | call g _ _ _=>cases g<;>rfl
 | lock g _=>cases g<;>rfl
 | _=>rfl
def qa (u:Un):List (Nat×Ob):=[(1,⟨34,0,gE (aw u)⟩),(0,⟨30,0,dk u⟩)]
theorem wE {u:Un}(hu:gg u):(aw u).is.length<=49/\0<(aw u).is.length:=by
 have⟨hI,VN⟩:=yg hu;exact⟨jU hu hI.nd hI.v,VN⟩
theorem JR (ρ:Nat->Nat)(l:List Nat):cO ρ (aA l)=aA l:=by simp only[aA,cO]
set_option maxHeartbeats 4000000
def oK (u:Un)(x:Is)(m i:Nat)(sm:List (List Nat)):List CV:=dk u++dW x++[I m,.fn 187 (qL u x m i sm)]
theorem wR (u:Un)(x:Is)(m i:Nat)(sm:List (List Nat)):trees (oK u x m i sm)=true:=by
 simp only[oK,a9,bm,bS,trees,tree,vd,Bool.and_self]
def m8 (u:Un)(x:Is)(m i:Nat)(sm:List (List Nat))(t:List CV):List (Nat×Ob):=[(1,⟨22,1,t⟩),(0,⟨264,0,oK u x m i sm⟩)]
def J295a (u:Un)(x:Is)(n m i L:Nat)(sm:List (List Nat))(k:Nat)(s:St):Prop:=∃ j:Nat,k=n-j/\j<=n/\s=⟨[(34,I j),(33,I n),(5,.a7 1 0 n),(3,I L),(1,.ax 0 0)],m8 u x m i sm (replicate j (aA (rX L))++replicate (n-j) .aj),2⟩
def J295b (u:Un)(x:Is)(n m i L:Nat)(sm:List (List Nat))(k:Nat)(s:St):Prop:=∃ t td,k=KA n L t td/\k<=30000/\Mt u (aw u) L m i x sm t td/\s=⟨[(7,.a7 2 0 td.length),(5,.a7 1 0 n),(1,.ax 0 0)],(2,cV td)::m8 u x m i sm (t.map aA),3⟩
def J295c (u:Un)(x:Is)(n m i:Nat)(sm:List (List Nat))(a nx:List Nat)(t0:List (List Nat))(td0:List Nat)(k:Nat)(s:St):Prop:=∃ j:Nat,k=nx.length-j/\j<=nx.length/\s=⟨[(79,I j),(78,I nx.length),(77,aA nx),(9,aA a),(7,.a7 2 0 (kr a (nx.take j) t0 td0).2.length),(5,.a7 1 0 n),(1,.ax 0 0)],(2,cV (kr a (nx.take j) t0 td0).2)::m8 u x m i sm ((kr a (nx.take j) t0 td0).1.map aA),3⟩
theorem Na {u:Un}(hu:gg u){i:Nat}{x:Is}(hx:(aw u).is[i]? = some x){m:Nat}{xm:Mx}(hm:u.ms[m]? = some xm){sm:List (List Nat)}(hs:yz (aH xm) (aw u).is.length sm) :
  ae Tryz.prog 188 [.agg (oK u x m i sm)] (bR (Mm u m i (aH xm) x sm)):=by
 have hv:=G2 hu hx;have h8:=ig xm;have H:=MB hu h8 hx hs;have UZ:=sE xm;have hid:=C6 (aH xm) h8;have⟨pq,TE,Sw⟩:=qf hv;have SA:=lv hu x;have Ua:=(List.getElem?_eq_some_iff.1 hm).1;have Tx:=(List.getElem?_eq_some_iff.1 TE).1;have UD:=aL (f:=cP) (n:=3) AS hm;have OZ:=cb (f:=nA) (n:=5) iY TE 4 yA;have t1:trees [.agg (cP xm)]=true:=rfl;have t2:trees [I (aH xm)]=true:=rfl;have bd:24*((ay u x).length:Int)<=281474976710656/\((ay u x).length:Int)<=9223372036854775807:=by omega
 have hw1:=cr ((aH xm:Int)+1) yA yA;have bd2:(0<=(aH xm:Int)+1/\8*((aH xm:Int)+1)<=281474976710656/\(aH xm:Int)+1<=9223372036854775807):=by omega
 have tp:=wR u x m i sm;have Yb:=vd u x m i sm;have tZ:trees (replicate (aH xm+1) (I 0))=true:=kO _;have Xv:=λ j=>a9 (replicate j (aA (rX (aH xm)))) (replicate (pq.code.length-j) CV.aj);refine ae.aD af Tryz.func188 rfl Bw (by simp[Tryz.ntmps188,oK,dk,dW]) (fB _) λ C hC M0=>?_;rw[Tryz.ntmps188] at hC;simp only[cP] at UZ t1;rw[Sw] at SA bd;simp only[oK,dk,dW,ints,bR,cons_append,nil_append] at tp |-;apply aq;simp[hC];apply aq;simp[hC,Ua,UD,cP];refine cS t1 UZ ?_;simp[hC];apply aq;simp[hC,Tx,OZ,nA];apply aq;simp[hC,bd];apply aW;simp[hC];have tfn:tree (.fn 187 (qL u x m i sm))=true:=by simp only[tree,Yb]
 have tu1:trees (u.gs.map dg)=true:=aP _;have tu2:=dw u.ms;have tu3:trees (u.ps.flatMap nA)=true:=ak fS u.ps;apply T.block;refine T.aI (J295a u x pq.code.length m i (aH xm) sm) (n:=pq.code.length) ?_ ?_
 .refine aa.trim [34,33,5,3,1] [1,0] 2 (by simp[-all_eq_true,ai Yb,bG _ _ (aE _)]) yA ⟨0,yA,yA,?_⟩;simp[m8,oK,dk,dW,ints]
 .rintro n s ⟨j,rfl,hj,rfl⟩;simp only[m8,oK,dk,dW,ints,cons_append,nil_append];by_cases Tl:j<pq.code.length
  .have W6:1<=pq.code.length-j:=by omega
   have wj:=cr ((j:Int)+1) yA yA;apply aq;simp[hC,Tl];refine T.seq (T.cond (b:=true) rfl (T.skip ?_));simp;apply eE;apply aq;simp[hC];refine T.region (TL.some af 5 ?_);simp[hC,hw1,bd2];refine TL.le (Le.di (o:=2) rfl tZ) ?_;simp[fU,aN Yb];refine TL.go' af ?_;simp[hC,Tl,W6];apply aM;simp[hC,wj];rw[CF,F7 _ _ Tl];have tF:=Xv (j+1);rw[ik (aE _),ik rfl] at tF;refine⟨pq.code.length-(j+1),yA,?_⟩;refine aa.trim [34,33,5,3,1] [1,0] 2 (by simp[-all_eq_true,ai Yb,bG _ _ (aE _),ai tF]) yA ⟨j+1,rfl,yA,?_⟩;simp[m8,oK,dk,dW,ints]
  .have VG:j=pq.code.length:=by omega
   subst VG;apply aq;simp[hC];refine T.seq (T.cond (b:=false) rfl (T.exit ?_));simp;have VN:0<pq.code.length:=by have:=H.pos;rwa [Sw] at this
   have hpos2:1<=pq.code.length:=VN;have SQ:aA (nK (aH xm) 0)::replicate (pq.code.length-1) (aA (rX (aH xm)))=((replicate pq.code.length (rX (aH xm))).set 0 (nK (aH xm) 0)).map aA:=by
    obtain⟨n,hn⟩:∃ n,pq.code.length=n+1:=⟨pq.code.length-1,yA⟩;rw[hn];simp[replicate_succ]
   apply aq;simp[hC];refine cS t2 hid ?_;simp[hC,VN,nV,oo,hpos2];rw[SQ];have h0:Mt u (aw u) (aH xm) m i x sm ((replicate pq.code.length (rX (aH xm))).set 0 (nK (aH xm) 0)) [0]:=by
    rw[<- Sw];exact Mt.start H
   have XG:KA pq.code.length (aH xm) ((replicate pq.code.length (rX (aH xm))).set 0 (nK (aH xm) 0)) [0]<=30000:=by
    unfold KA;have:9*(aH xm+1)*pq.code.length<=81*145:=Nat.mul_le_mul yA SA;simp only[length_singleton];omega
   clear Xv tZ;generalize (replicate pq.code.length (rX (aH xm))).set 0 (nK (aH xm) 0)=t0 at h0 XG |-;have tT:=ct t0;apply aq;simp[hC];apply eE;refine T.aI (J295b u x pq.code.length m i (aH xm) sm) (n:=KA pq.code.length (aH xm) t0 [0]) ?_ ?_
   .refine aa.trim [7,5,1] [2,1,0] 3 (by simp[-all_eq_true,ai Yb,bG _ _ (aE _),ai tT]) yA ⟨t0,[0],rfl,XG,h0,?_⟩;simp[m8,oK,dk,dW,ints,cV]
   .clear h0 SQ XG tT;clear t0;rintro k s ⟨t,td,rfl,VT,hI,rfl⟩;simp only[m8,oK,dk,dW,ints,cV,cons_append,nil_append];have tT:=ct t;have tD:=aC td;have SM:t.length=pq.code.length:=by rw[hI.A.wf.len,Sw]
    rcases eq_nil_or_concat td with rfl | ⟨td0,pc,rfl⟩
    .have TB:=hI.fin H;change t=Mm u m i (aH xm) x sm at TB;apply aW;simp[hC];refine T.cond (b:=false) Tt (T.exit ?_);simp;apply aq;simp[hC];apply T.ret;refine aa.le (Le.di (o:=1) rfl tT) ?_;apply aa.here;have SE:take pq.code.length (t.map aA)=t.map aA:=take_of_length_le yBh;rw[<- TB];simp[Tryz.results188,SE,SM]
    .rw[concat_eq_append] at *;have hpcl:pc<(ay u x).length:=hI.val pc xr;have Ys:pc<pq.code.length:=by rw[<- Sw];exact hpcl
     obtain⟨z,hz⟩:∃ z,(ay u x)[pc]? = some z:=⟨_,getElem?_eq_getElem hpcl⟩;have⟨Xy,W2⟩:=hI.step H hz;have⟨rw0,hrw,w2⟩:=hI.A.wf.get (p:=pc) hpcl;have hg:t.getD pc []=rw0:=by rw[getD_eq_getElem?_getD,hrw];rfl
     have w3:=pU H (m:=m) hz;have w4:=ye w2 w3;have hPrc:=Gc H (td0:=td0) hI.A w4 (jn z pc) (λ q hq=>⟨H.nx pc z hz q hq,λ d e hb=>by
      obtain⟨y,y1,y2⟩:=(wD _ _ d e).1 hb;exact FX H hz hq (hI.A.sound pc d y (by rw[jG hrw];exact y1)) y2⟩)
     rw[hg] at Xy W2;have hlen:(td0++[pc]).length=td0.length+1:=by simp
     rw[hlen];have wl:=cr ((td0.length:Int)+1-1) yA (by unfold KA at VT;rw[hlen] at VT;omega);have wl2:=cr (td0.length:Int) yA (by unfold KA at VT;rw[hlen] at VT;omega);have bI:(td0.length:Int)<(td0.length:Int)+1:=by omega
     have bI2:(td0.length:Int)<=(td0.length:Int)+1:=by omega
     have tD0:=aC td0;have bt:td0.length<=30000:=by unfold KA at VT;rw[hlen] at VT;omega
     apply aW;simp[hC];refine jk ?_;simp;apply T.block;apply aq;simp[hC,wl2,bI];apply aq;simp[hC,wl2];refine T.le (Le.cut (o:=2) td0.length rfl) ?_;simp[St.cut];have hstepc:=J2 hu hx hm hs hz;have hcomp:=Ke rw0 (lK (aw u) (aH xm) m sm i x z pc) (by rw[w2.len];omega) (by rw[w3.len];omega) (mc h8 w2) (mc h8 w3);have T6:=J7 hu hv hz yA;have Xf:trees (I pc::qL u x m i sm)=true:=by simp only[trees,tree,Yb,Bool.and_self]
     have Wg:trees [aA rw0,aA (lK (aw u) (aH xm) m sm i x z pc)]=true:=by simp only[trees,aE,Bool.and_self]
     have ZK:trees [.agg (dk u),.agg (dW x),I pc]=true:=by simp only[trees,tree,bm,bS,Bool.and_self]
     simp only[cf,dk,dW,ints] at T6 ZK;refine T.seq (T.rx af follows [0,1,2,3,4,5,6,7,8,9] [(3,7)] Bw ?_);simp[hC,Ys,hrw];refine RX.call rfl rfl rfl rfl rfl Xf hstepc ?_;simp;refine RX.call rfl rfl rfl rfl rfl Wg hcomp ?_;simp;apply aq;simp[hC];refine cS ZK T6 ?_;have SX:aA (jn z pc)=CV.az ((jn z pc).map λ n:Nat=>I n) (jn z pc).length:=rfl;simp[hC,SX];generalize ha:qy rw0 (lK (aw u) (aH xm) m sm i x z pc)=a at *;have Ul:(jn z pc).length<=2:=Ny z pc;have tnx:=aC (jn z pc);apply T.block;refine T.aI (J295c u x pq.code.length m i sm a (jn z pc) t td0) (n:=(jn z pc).length) ?_ ?_
     .refine aa.trim [79,78,77,9,7,5,1] [2,1,0] 3 (by simp[-all_eq_true,ai Yb,bG _ _ (aE _),ai tT,ai tD0]) yA ⟨0,yA,yA,?_⟩;simp[m8,oK,dk,dW,ints,cV,SX,kr]
     .rintro n s ⟨j,rfl,hj,rfl⟩;simp only[m8,oK,dk,dW,ints,cV,cons_append,nil_append,SX];by_cases Tl:j<(jn z pc).length
      .obtain⟨q,hq⟩:∃ q,(jn z pc)[j]? = some q:=⟨_,getElem?_eq_getElem Tl⟩;have hqd:=dV hq;have hPj:=hPrc j hj;have cW:=xo a ((jn z pc).take j) q t td0;have htk1:(jn z pc).take j++[q]=(jn z pc).take (j+1):=by rw[take_add_one,hq];rfl
       rw[htk1] at cW;have UO:q<pq.code.length:=by rw[<- Sw];exact Kp hu hv hz (mem_of_getElem? hq)
       generalize kr a ((jn z pc).take j) t td0=S2 at *;have⟨rq,hrq,wq⟩:=hPj.A.wf.get (p:=q) (by rw[Sw];exact UO);have hgq:S2.1.getD q []=rq:=by rw[getD_eq_getElem?_getD,hrq];rfl
       rw[hgq] at cW;have hsl3:=hPj.A.wf.len;have UE:=tu S2.1 hPj.A.wf.row;have TP:=hPj.ms;rw[Sw] at hsl3;rw[hsl3] at UE;have hb9:9*(aH xm+1)*pq.code.length<=81*145:=Nat.mul_le_mul yA SA;have tS3:=ct S2.1;have tD3:=aC S2.2;have hpw:=EG a rq (by rw[w4.len];omega) (by rw[wq.len,w4.len]) (mc h8 w4) (mc h8 wq);have Zi:=M9 rq a (by rw[wq.len];omega) (by rw[wq.len,w4.len]) (mc h8 wq) (mc h8 w4);have targ6:trees [aA a,aA rq]=true:=by simp only[trees,aE,Bool.and_self]
       have targ7:trees [aA rq,aA a]=true:=by simp only[trees,aE,Bool.and_self]
       have wj:=cr ((j:Int)+1) yA yA;have hql2:q+1<=pq.code.length:=UO;apply aq;simp[hC,Tl];refine T.seq (T.cond (b:=true) rfl (T.skip ?_));simp;apply eE;apply aq;simp[hC,Tl,hqd];apply aq;simp[hC,UO,hrq];refine cS targ6 hpw ?_;simp[hC]
       cases SF:yJ a rq with
       | true=>
        rw[if_pos SF] at cW;refine T.cond (b:=false) Tt (T.skip ?_);simp;apply aM;simp[hC,wj];refine⟨(jn z pc).length-(j+1),yA,aa.trim [79,78,77,9,7,5,1] [2,1,0] 3 yDz yA ⟨j+1,rfl,yA,?_⟩⟩;rw[cW];simp[m8,oK,dk,dW,ints,cV,SX]
       | false=>
        rw[if_neg (by rw[SF];simp)] at cW;refine T.cond (b:=true) Tt ?_;simp;apply aq;simp[hC,UO,hrq];refine cS targ7 Zi ?_;simp[hC,UO,nV,oo,hsl3,hql2];rw[FV _ (show q<S2.1.length by omega)];generalize S2.1.set q (lI rq a)=t4 at *;have tT4:=ct t4;have bdd:(S2.2.length+1)*8<=140737488355328:=by omega
        have hD5:(S2.2.map λ n:Nat=>I n)++[I q]=(S2.2++[q]).map λ n:Nat=>I n:=by simp
        have tD5:=aC (S2.2++[q]);rw[<- hD5] at tD5;apply aM;simp[hC,bdd];apply aM;simp[hC,wj];have rD:=λ ρ=>ah ρ _ tD5;have r1:=λ ρ=>ah ρ _ tu1;have r2:=λ ρ=>ah ρ _ tu2;have r3:=λ ρ=>ah ρ _ tu3;have r4:=λ ρ=>ah ρ _ Yb;have tcall:(qL u x m i sm).all tree=true:=all_eq_true.2 λ c hc=>ju Yb c hc;have r5:=λ ρ=>ah ρ _ tnx;have r6:=λ ρ=>ah ρ _ tT4;have hna:aA a=CV.az (a.map λ n:Nat=>I n) a.length:=rfl;have ta:=aC a;have r7:=λ ρ=>ah ρ _ ta;have hnk:aA x.bh=CV.az (x.bh.map λ n:Nat=>I n) x.bh.length:=rfl;have tk:=aC x.bh;have r8:=λ ρ=>ah ρ _ tk;refine⟨(jn z pc).length-(j+1),yA,?_⟩;simp only[hna,hnk];refine aa.le (Le.norm [79,78,77,9,7,5,1] [(4,2),(1,1),(0,0)] 0 3 SZ SY (by simp[cB,mZ,lF,tree,assoc,-all_eq_true,-all_flatMap,au tD5,tcall,au tT4]) yA) ?_;simp[cq,bb,aX,cO,ec,assoc,rD,r4,r6];refine aa.here ⟨j+1,rfl,yA,?_⟩;rw[cW];simp[m8,oK,dk,dW,ints,cV,SX,hna,hnk]
      .have VG:j=(jn z pc).length:=by omega
       subst VG;rw[take_length] at *;generalize kr a (jn z pc) t td0=S2 at *;have tS3:=ct S2.1;have tD3:=aC S2.2;apply aq;simp[hC];refine T.seq (T.cond (b:=false) rfl (T.exit ?_));simp;rw[Sw] at W2;refine⟨KA pq.code.length (aH xm) S2.1 S2.2,W2,aa.trim [7,5,1] [2,1,0] 3 yDz yA ⟨S2.1,S2.2,rfl,yA,Xy,?_⟩⟩;simp[m8,oK,dk,dW,ints,cV]
theorem yL {l:List (List Nat)}{j:Nat}{r:List Nat}(h:l[j]? = some r):(l.take j).map aA++[aA r]=(l.take (j+1)).map aA:=by
 rw[take_add_one,h];simp
end Go.Proofs.YtlkmbdfhdknlgaaGreat
namespace Go.Can
open Go.RowKit
section
variable {P:Program}{C:Cx}{U:Nat->Option OB}{s:St}{a:Act}{w:World}{ops:Array Oper}{av:List (Nat×TI)}
def oB (P:Program)(f:FuncId)(args:List CV)(r:CV):Prop:=
 ka P f/\∀ (F:Nat->Prop) (vs:List Value) (w:World),FOk w F->bX w F args vs ->
  Calls P f vs.toArray w λ e w'=>∃ v,e=.returned v/\Below w.heap.size w w'/\cj w' (λ b=>b<w.heap.size) r v
theorem oB.Nw (UT:aF P av){f:FuncId}{args:List CV}{n:Nat}{ob:Ob}(h:Body P av f args [] 0 (iO (.a7 0 0 n) [(0,ob)] 1))(hs:jI ob.cells=true)(Sz:trees ob.cells=true):oB P f args (.az ob.cells n):=by
 obtain⟨fn,c,hf,hb,hn,ha,h⟩:=h;refine⟨⟨fn,hf,hn,by simp[hb]⟩,λ F vs w hF hv=>?_⟩;have TO:=bX.length _ _ hv;let C:Cx:=⟨w,F,λ _=>False,hF,fn.ntmps,λ _=>none,0⟩
 have h0:aQ C (λ _=>none) ⟨(enter args).env,[],0⟩ { tmps:=vs.toArray++Array.replicate (fn.ntmps-vs.toArray.size) undef,defers:=[] } w:=by
  refine⟨rfl,by simp[C];omega,rfl,rfl,rfl,Nat.le_refl _,λ _ _ _=>rfl,?_,?_,?_,λ _ _=>rfl,λ _ h=>absurd h (Nat.not_lt_zero _),Nat.zero_le _,λ _ _ _ _ h=>by cases h⟩
  .intro t c hc;obtain⟨_,h2⟩:=fW args 0 t c hc;have⟨v,h3,h4⟩:=bX.get _ _ hv t c yC;refine⟨v,?_,VR.cJ _ _ (cj.bD (cL.same λ b hb=>?_).1 c v h4)⟩
   .have P1:=(List.getElem?_eq_some_iff.1 h3).1;simp only;rw[Array.getElem?_append_left (by simpa using P1)]
    simpa using h3
   .rcases hb with hF | ⟨o,ob,ho,_⟩
    .exact hF
    .simp[assoc] at ho
  .intro o ob ho;simp[assoc] at ho
  .intro o o' ob SN b ho;simp[assoc] at ho
 refine calls_of_wp hf hb (wp_mono (h C rfl rfl _ _ ⟨_,h0⟩) λ e a' w' ⟨s',q,U,hr⟩=>?_);have fin:aa C (λ s'=>∃ r,bJ av fn s'=some r/\iO (.a7 0 0 n) [(0,ob)] 1 r s') s'->a'.defers=[]/\∃ v,(results fn a'.tmps).run P w'=.ok v w'/\(∃ Wf,Ending.returned v=.returned Wf/\Below w.heap.size w w'/\cj w' (λ b=>b<w.heap.size) (.az ob.cells n) Wf):=λ⟨s2,⟨r,hq,TU,Tb,hr3⟩,hle⟩=>by
  subst TU;have⟨σ2,hr⟩:=hle _ _ ⟨U,hr⟩;have⟨v,k1,k2⟩:=iI (P:=P) UT hr hq;refine⟨hr.pB,v,k1,v,rfl,⟨hr.os,hr.tape,hr.output,hr.size,λ k hk=>hr.frame k hk (λ hx=>hx)⟩,?_⟩;have⟨B,hB,SB,Ty,h1,h5⟩:=hr.obj 0 ob (by rw[Tb];simp[assoc]);simp only[VR] at k2;obtain⟨B',Uz,k2⟩:=k2;rw[hB] at Uz;cases Uz;simp only[cj];split at k2
  .rename_i Zs;obtain⟨rfl,_,rfl⟩:=k2;exact⟨none,0,rfl,Nat.le_refl _,Nat.zero_le _,.inl ⟨rfl,Ty Zs⟩⟩
  .rename_i b hbk;obtain⟨cap,rfl,c1,c2,_⟩:=k2;have⟨cur,m1,m2,m3,m4,m5,m6⟩:=h5 b hbk;refine⟨_,cap,rfl,c1,c2,.inr ⟨_,rfl,?_⟩⟩;have Zs:¬ b<w.heap.size:=by
    rcases hr.new 0 B b (Nat.zero_le _) hB hbk with h6 | h6
    .exact h6.elim
    .exact Nat.not_lt.2 h6
   exact gJ _ _ _ (bX.scalar _ _ hs (aZ.eL _ _ Sz m6)) h1 Zs λ j u hu=>by
    rw[add_lit,Nat.zero_add,cell_of_row w' b j cur _ _ m1];rw[List.getElem?_take] at hu;split at hu
    .simpa using hu
    .cases hu
 cases e with
 | normal=>exact fin q
 | ret=>exact fin q
 | exit _=>exact q.elim
 | goto _=>exact q.elim
 | panic _=>exact q.elim
 | outgrown=>exact q.elim
theorem TL.callL {o:Oper}{l:List Oper}{c:Call}{g:FuncId}{cs ds:List CV}{r:CV}{K:St->Prop}(hd:bj C.nt o.dst=true)(hg:o.guard=none)(ho:o.op=.call c)(SP:bK s c=Option.some (g,cs))(hl:vq s cs=Option.some ds)(hp:oB P g ds r)(h:TL P C ops l (s.put o.dst r) K):TL P C ops (o::l) s K:=by
 intro a w Q hr hQ;obtain⟨U,hr⟩:=hr;unfold wpList;rw[if_pos (by simp[Region.wanted,hg])];refine .inl ?_;have⟨vs,YH,Tr⟩:=ql.value ho SP hp.1 U a w hr;unfold Oper.wp;rw[YH];refine (hp.2 C.F _ w (Mf hr) (xM hr _ _ _ Tr hl)).mono λ e w' ⟨v,he,hb,hv⟩=>?_;subst he;have S0:=hr.below hb;refine h _ _ Q ⟨U,S0.put ?_ (VR.cJ _ _ (cj.bD (cL.same λ b hb=>DX hr b hb).1 _ _ hv))⟩ hQ;intro t e;rw[S0.tm];rw[e] at hd
 simpa [bj] using hd
end
end Go.Can
namespace Go.Proofs.YtlkmbdfhdknlgaaGreat
open Go.Can Go.aK List Tryz
theorem PQ:assoc av 236=some ⟨.func,1,8,[.cH]⟩:=rfl
theorem zr {u:Un}(hu:gg u){i:Nat}{x:Is}(hx:(aw u).is[i]? = some x){m:Nat}{xm:Mx}(hm:u.ms[m]? = some xm){sm:List (List Nat)}(hs:yz (aH xm) (aw u).is.length sm):ae prog 156 [cf u,ib (aw u),I m,bR sm,I i] (bR (Mm u m i (aH xm) x sm)):=by
 have T9:=Na hu hx hm hs;have Jz:=(List.getElem?_eq_some_iff.1 hx).1;have hdi:=aL (f:=dW) (n:=2) g9 hx;have MY:trees [.agg (oK u x m i sm)]=true:=by simp only[trees,tree,wR,Bool.and_self]
 have SH:=bm u;have TM:=fI (aw u);have tix:=bS x;have tsm:trees [bR sm]=true:=by simp only[trees,fB,Bool.and_self]
 have tI:trees [I m]=true:=rfl;have tI2:trees [I i]=true:=rfl;refine ae.aD af Tryz.func156 rfl Bw (by simp[Tryz.ntmps156]) (fB _) λ C hC M0=>?_;rw[Tryz.ntmps156] at hC;generalize Mm u m i (aH xm) x sm=t at *;simp only[oK,qL,cf,ib,dk,gE,dW,ints,bR,cons_append,nil_append] at SH TM tix tsm T9 MY |-;apply aq;simp[hC];apply aq;simp[hC,Jz,hdi,dW];apply aq;simp[hC];refine T.le (Le.di (o:=0) rfl SH) ?_;simp[fU];refine T.le (Le.di (o:=1) rfl TM) ?_;simp[fU];refine T.le (Le.di (o:=2) rfl tI) ?_;simp[fU];refine T.le (Le.di (o:=3) rfl tsm) ?_;simp[fU];refine T.le (Le.di (o:=4) rfl tI2) ?_;simp[fU];refine T.le (Le.di (o:=5) rfl tix) ?_;simp[fU];apply aq;simp[hC];refine cS MY T9 ?_;simp[hC];apply T.ret;apply aa.here;simp[Tryz.results156]
def J233b (a b:List Nat)(m:Nat)(s:St):Prop:=∃ i:Nat,m=a.length-i/\i<=a.length/\s=⟨[(12,I i),(11,I a.length),(5,.a7 0 0 a.length),(0,aA a),(1,aA b)],[(0,⟨3,1,gN (lI a b) i⟩)],1⟩
theorem Qh (a b:List Nat)(la:a.length<=1000)(lb:b.length=a.length)(ha:∀ s∈a,s<2 ^ 63)(hb:∀ s∈b,s<2 ^ 63):Body prog av 203 [aA a,aA b] [] 0 (iO (.a7 0 0 a.length) [(0,cV (lI a b))] 1):=by
 refine Body.iZ Tryz.func203 rfl Bw (by simp[Tryz.ntmps203]) λ C hC M0=>?_;rw[Tryz.ntmps203] at hC;have ta:=aC a;have tb:=aC b;have bd:8*(a.length:Int)<=281474976710656/\(a.length:Int)<=9223372036854775807:=by omega
 simp only[aA];apply aq;simp[hC];apply aq;simp[hC,bd];apply aW;simp[hC];apply T.block;refine T.aI (J233b a b) (n:=a.length) ?_ ?_
 .refine aa.trim [12,11,5,0,1] [0] 1 U2 yA ⟨0,yA,yA,?_⟩;rw[iF,fo lb];simp[aA]
 .rintro n s ⟨i,rfl,hi,rfl⟩;have Tg:(gN (lI a b) i).length=a.length:=by rw[jX (by rw[fo lb];exact hi),fo lb]
  have Xv:=fF (lI a b) i;simp only[aA];by_cases Jz:i<a.length
  .obtain⟨x,hx⟩:∃ x,a[i]? = some x:=⟨_,getElem?_eq_getElem Jz⟩;have WA:i<b.length:=by omega
   obtain⟨y,hy⟩:∃ y,b[i]? = some y:=⟨_,getElem?_eq_getElem WA⟩;have OZ:=dV hx;have TC:=dV hy;have Uc:=El hx hy;have wi:=cr ((i:Int)+1) yA yA;have Zp:=H3 (ha x (mem_of_getElem? hx)) (hb y (mem_of_getElem? hy));have YG:i+1<=a.length:=Jz;apply aq;simp[hC,Jz];refine T.seq (T.cond (b:=true) rfl (T.skip ?_));simp;apply eE;apply aq;simp[hC];refine T.rx af follows [0,1,2,3,4,5,6,7,8,9,10,11,12] [] Bw ?_;simp[hC,Jz,WA,OZ,TC,Zp,YG,Tg];apply aM;simp[hC,wi];refine⟨a.length-(i+1),yA,aa.trim [12,11,5,0,1] [0] 1 yBt yA ⟨i+1,rfl,yA,?_⟩⟩;rw[<- jW Uc];simp[aA]
  .have Rz:i=a.length:=by omega
   subst Rz;have VJ:=jY (lI a b);rw[fo lb] at VJ;have tF:=aC (lI a b);rw[VJ] at Tg |-;apply aq;simp[hC];refine T.seq (T.cond (b:=false) rfl (T.exit ?_));simp;apply aq;simp[hC];apply T.ret;refine aa.trim [4] [0] 1 (by simp[-all_eq_true,ai tF]) yA ?_;simp[Tryz.results203,cV,iO]
def J177 (u:Un)(x:Is)(n i L:Nat)(t:List (List Nat))(k:Nat)(s:St):Prop:=∃ j:Nat,k=n-j/\j<=n/\s=⟨[(29,I j),(28,I n),(27,bR t),(11,.a7 2 0 (L+1)),(6,.ax 1 0),(5,.ax 0 0),(4,I i)],(2,cV (D3 u x L t j))::qa u,3⟩
theorem Nh {u:Un}(hu:gg u){i:Nat}{x:Is}(hx:(aw u).is[i]? = some x){m:Nat}{xm:Mx}(hm:u.ms[m]? = some xm){sm:List (List Nat)}(hs:yz (aH xm) (aw u).is.length sm):Body prog av 185 [cf u,ib (aw u),I m,bR sm,I i] [] 0 (iO (.a7 0 0 (aH xm+1)) [(0,cV (wz u (aw u) m (aH xm) sm i))] 1):=by
 have SF:=zr hu hx hm hs;have hwf:=QI u m i (aH xm) x sm;have TB:=N4 (u:=u) (m:=m) (L:=aH xm) hx sm;have hv:=G2 hu hx;have h8:=ig xm;have UZ:=sE xm;have⟨pq,TE,Sw⟩:=qf hv;have SA:=lv hu x;have Jz:=(List.getElem?_eq_some_iff.1 hx).1;have Ua:=(List.getElem?_eq_some_iff.1 hm).1;have Tx:=(List.getElem?_eq_some_iff.1 TE).1;have UD:=aL (f:=cP) (n:=3) AS hm;have hdi:=aL (f:=dW) (n:=2) g9 hx;have OZ:=cb (f:=nA) (n:=5) iY TE 4 yA;have t1:trees [.agg (cP xm)]=true:=rfl;have hw1:=cr ((aH xm:Int)+1) yA yA;have bd2:(0<=(aH xm:Int)+1/\8*((aH xm:Int)+1)<=281474976710656/\(aH xm:Int)+1<=9223372036854775807):=by omega
 have MY:trees [cf u,ib (aw u),I m,bR sm,I i]=true:=by simp only[trees,tree,cf,ib,bm,fI,fB,Bool.and_self]
 have SH:=bm u;have TM:=fI (aw u);have tZ:trees (replicate (aH xm+1) (I 0))=true:=kO _;refine Body.iZ Tryz.func185 rfl Bw (by simp[Tryz.ntmps185]) λ C hC M0=>?_;rw[Tryz.ntmps185] at hC;simp only[cP] at UZ t1;change D3 u x (aH xm) (Mm u m i (aH xm) x sm) (ay u x).length=_ at TB;generalize Mm u m i (aH xm) x sm=t at *;rw[Sw] at SA;have SM:t.length=pq.code.length:=by rw[hwf.len,Sw]
 have tT:=ct t;simp only[cf,ib,dk,gE,ints,bR] at MY SH TM SF |-;apply aq;simp[hC];apply aq;simp[hC,Ua,UD,cP];refine cS t1 UZ ?_;simp[hC,hw1,bd2];apply aW;simp[hC];refine cS MY SF ?_;simp[hC];apply T.block;refine T.aI (J177 u x pq.code.length i (aH xm) t) (n:=pq.code.length) ?_ ?_
 .refine aa.trim [29,28,27,11,6,5,4] [2,1,0] 3 yDf yA ⟨0,yA,yA,?_⟩;simp[qa,dk,gE,ints,bR,D3,cV,rX,SM]
 .rintro n s ⟨j,rfl,hj,rfl⟩;simp only[qa,dk,gE,ints,bR,cV];have hqw:=Bd (u:=u) (x:=x) hwf;by_cases Tl:j<pq.code.length
  .obtain⟨z,UM⟩:∃ z,pq.code[j]? = some z:=⟨_,getElem?_eq_getElem Tl⟩;have hz:(ay u x)[j]? = some z:=by rw[Sw];exact UM
   have Vf:=aL (f:=cY) (n:=12) hU UM;have⟨xc,Vo,VL⟩:=nW z;rw[Vo] at Vf;have SG:=Nm z;have⟨rj,hrj,wj⟩:=hwf.get (p:=j) (by rw[Sw];exact Tl);have hdt:=lh aA hrj;have hgj:t.getD j []=rj:=by rw[getD_eq_getElem?_getD,hrj];rfl
   have hw:=hqw j (by rw[Sw];exact hj);have cW:D3 u x (aH xm) t (j+1)=if vL z=true then lI (D3 u x (aH xm) t j) rj else D3 u x (aH xm) t j:=by
    rw[D3,hz,hgj];simp
   have wij:=cr ((j:Int)+1) yA yA;generalize D3 u x (aH xm) t j=q at *;have Zi:=Qh q rj (by rw[hw.len];omega) (by rw[hw.len,wj.len]) (mc h8 hw) (mc h8 wj);rw[hw.len] at Zi;have tq:=aC q;have tq2:=aC (lI q rj);apply aq;simp[hC,SM,Tl];refine T.seq (T.cond (b:=true) rfl (T.skip ?_));simp;apply eE;apply aq;simp[hC,Tl,hdt];refine T.seq (T.rx af follows [0,1,2,3,4,5,6,7,8,9,10,11,12,13,14,15] [] Bw ?_);simp[hC,Jz,hdi,dW,Tx,OZ,nA,Tl,Vf]
   cases hr:vL z with
   | true=>
    rw[hr] at SG cW;refine T.cond (b:=true) yBs ?_;simp;refine T.le (Le.trim [29,28,27,13,11,6,5,4] [2,1,0] 3 (by simp[-all_eq_true,ai SH,ai TM,ai tq,bG _ _ (aE _)]) yA) ?_;simp;refine T.le (Le.di (o:=2) rfl tq) ?_;have SE:take (aH xm+1) (q.map λ n:Nat=>I n)=q.map λ n:Nat=>I n:=take_of_length_le (by rw[length_map,hw.len];omega);have Yo:CV.az (q.map λ n:Nat=>I n) (aH xm+1)=aA q:=by simp only[aA];rw[hw.len]
    simp[fU,SE,Yo];apply aM;simp[hC];have rq2:=λ ρ=>ah ρ _ tq2;refine TL.er af [] [] 0 1 (Zi) rfl Ts Rg rfl rfl Ta Ta Xe Ta Ta (TL.go' af ?_);simp[hC,bz,bb,cO,bU,cV,rq2];apply aM;simp[hC,wij];refine⟨pq.code.length-(j+1),yA,?_⟩;have rT:=λ ρ=>ah ρ _ tT;have rU:=λ ρ=>ah ρ _ SH;have rC:=λ ρ=>ah ρ _ TM;refine aa.le (Le.norm [29,28,27,11,6,5,4] [(3,2),(1,1),(0,0)] 0 3 SZ SY (by simp[cB,mZ,lF,tree,assoc,-all_eq_true,-all_flatMap,au tq2,au SH,au TM]) yA) ?_;simp[cq,bb,aX,cO,ec,assoc,rq2,JR];refine aa.here ⟨j+1,rfl,yA,?_⟩;rw[cW];simp[qa,dk,gE,ints,bR,SM,cV]
   | false=>
    rw[hr] at SG cW;refine T.cond (b:=false) yBs (T.skip ?_);simp;apply aM;simp[hC,wij];refine⟨pq.code.length-(j+1),yA,aa.trim [29,28,27,11,6,5,4] [2,1,0] 3 (by simp[-all_eq_true,ai SH,ai TM,ai tq]) yA ⟨j+1,rfl,yA,?_⟩⟩;rw[cW];simp[qa,dk,gE,ints,bR,SM,cV]
  .have VG:j=pq.code.length:=by omega
   subst VG;apply aq;simp[hC,SM];refine T.seq (T.cond (b:=false) rfl (T.exit ?_));simp;apply aq;simp[hC];apply T.ret;rw[Sw] at TB;rw[TB];have tE:=aC (wz u (aw u) m (aH xm) sm i);have rE:=λ ρ=>ah ρ _ tE;refine aa.le (Le.norm [10] [(2,0)] 0 1 SZ SY (by simp[cB,mZ,lF,assoc,-all_eq_true,-all_flatMap,au tE]) yA) ?_;simp[cq,bb,cO,ec,assoc,rE];apply aa.here;simp[iO]
def J178 (a b:List Nat)(k:Nat)(s:St):Prop:=∃ j:Nat,k=a.length-j/\j<=a.length/\a.take j=b.take j/\s=⟨[(13,I j),(12,I a.length),(1,aA b),(0,aA a)],[],0⟩
theorem HF (a b:List Nat)(hl:a.length=b.length)(ha:a.length<=100000):ae prog 186 [aA a,aA b] (.bool (decide (a=b))):=by
 refine ae.aD af Tryz.func186 rfl Bw (by simp[Tryz.ntmps186]) rfl λ C hC M0=>?_;rw[Tryz.ntmps186] at hC;have ta:=aC a;have tb:=aC b;simp only[aA];apply aq;simp[hC];apply aW;simp[hC];refine T.cond (b:=false) (by simp[ev,assoc,hl]) (T.skip ?_);simp;apply aW;simp[hC];apply T.block;refine T.aI (J178 a b) (n:=a.length) ?_ ?_
 .refine aa.trim [13,12,1,0] [] 0 U2 yA ⟨0,yA,yA,by simp,?_⟩;simp[aA]
 .rintro k s ⟨j,rfl,hj,SE,rfl⟩;simp only[aA];by_cases Tl:j<a.length
  .obtain⟨x,hx⟩:∃ x,a[j]? = some x:=⟨_,getElem?_eq_getElem Tl⟩;obtain⟨y,hy⟩:∃ y,b[j]? = some y:=⟨_,getElem?_eq_getElem yA⟩;have hjb:j<b.length:=by omega
   have UD:=dV hx;have hdy:=dV hy;have wj:=cr ((j:Int)+1) yA yA;apply aq;simp[hC,Tl];refine T.seq (T.cond (b:=true) rfl (T.skip ?_));simp;apply eE;apply aq;simp[hC];refine T.seq (T.rx af follows [0,1,2,3,4,5,6,7,8] [] Bw ?_);simp[hC,Tl,hjb,UD,hdy];by_cases U3:x=y
   .refine T.cond (b:=false) yCr (T.skip ?_);simp;apply aM;simp[hC,wj];refine⟨a.length-(j+1),yA,aa.trim [13,12,1,0] [] 0 U2 yA ⟨j+1,rfl,yA,?_,?_⟩⟩
    .rw[take_add_one,take_add_one,hx,hy,SE,U3]
    .simp[aA]
   .have ZH:¬ a=b:=λ h=>by
     subst h;rw[hx] at hy;cases hy;exact U3 rfl
    have hxyi:¬ (x:Int)=(y:Int):=λ h=>U3 (Int.ofNat.inj h);refine T.cond (b:=true) (by simp[ev,assoc,hxyi]) ?_;simp;apply aq;simp[hC];apply T.ret;apply aa.here;simp[Tryz.results186,ZH]
  .have VG:j=a.length:=by omega
   have ZH:a=b:=by
    rw[VG,take_length,hl,take_length] at SE;exact SE
   subst VG;apply aq;simp[hC];refine T.seq (T.cond (b:=false) rfl (T.exit ?_));simp;apply aq;simp[hC];apply T.ret;apply aa.here;simp[Tryz.results186,ZH]
def J176 (u:Un)(m n L:Nat)(k:Nat)(s:St):Prop:=∃ j:Nat,k=n-j/\j<=n/\s=⟨[(15,I j),(14,I n),(7,.a7 2 0 n),(4,.ax 1 0),(3,.ax 0 0),(2,I m)],(2,⟨22,1,replicate j (aA (rX L))++replicate (n-j) .aj⟩)::qa u,3⟩
theorem Kd {u:Un}(hu:gg u){m:Nat}{xm:Mx}(hm:u.ms[m]? = some xm):Body prog av 184 [cf u,ib (aw u),I m] [] 0 (iO (.a7 0 0 (aw u).is.length) [(0,⟨22,1,(replicate (aw u).is.length (rX (aH xm))).map aA⟩)] 1):=by
 have h8:=ig xm;have UZ:=sE xm;have⟨SA,hcp⟩:=wE hu;have Ua:=(List.getElem?_eq_some_iff.1 hm).1;have UD:=aL (f:=cP) (n:=3) AS hm;have t1:trees [.agg (cP xm)]=true:=rfl;have hw1:=cr ((aH xm:Int)+1) yA yA;have bd2:(0<=(aH xm:Int)+1/\8*((aH xm:Int)+1)<=281474976710656/\(aH xm:Int)+1<=9223372036854775807):=by omega
 have SH:=bm u;have TM:=fI (aw u);have tZ:trees (replicate (aH xm+1) (I 0))=true:=kO _;refine Body.iZ Tryz.func184 rfl Bw (by simp[Tryz.ntmps184]) λ C hC M0=>?_;rw[Tryz.ntmps184] at hC;simp only[cP] at UZ t1;generalize hn:(aw u).is.length=n at *;have bd:24*(n:Int)<=281474976710656/\(n:Int)<=9223372036854775807:=by omega
 have Xv:=λ j=>a9 (replicate j (aA (rX (aH xm)))) (replicate (n-j) CV.aj);simp only[cf,ib,dk,gE,ints] at SH TM |-;rw[hn] at TM |-;apply aq;simp[hC];apply aq;simp[hC,bd];apply aW;simp[hC];apply T.block;refine T.aI (J176 u m n (aH xm)) (n:=n) ?_ ?_
 .refine aa.trim [15,14,7,4,3,2] [2,1,0] 3 yCe yA ⟨0,yA,yA,?_⟩;simp[qa,dk,gE,ints,hn]
 .rintro k s ⟨j,rfl,hj,rfl⟩;simp only[qa,dk,gE,ints,hn];by_cases Tl:j<n
  .have W6:1<=n-j:=by omega
   have wj:=cr ((j:Int)+1) yA yA;apply aq;simp[hC,Tl];refine T.seq (T.cond (b:=true) rfl (T.skip ?_));simp;apply eE;apply aq;simp[hC];apply aM;simp[hC,Ua,UD,cP];refine TL.call Rg rfl rfl (bW.of rfl t1 UZ) (TL.some af 2 ?_);simp[hC,hw1,bd2];refine TL.le (Le.di (o:=3) rfl tZ) ?_;simp[fU];rw[CF];refine TL.go' af ?_;simp[hC,Tl,W6,nV,oo];apply aM;simp[hC,wj];rw[F7 _ _ Tl];have tF:=Xv (j+1);rw[ik (aE _),ik rfl] at tF;refine⟨n-(j+1),yA,?_⟩;refine aa.trim [15,14,7,4,3,2] [2,1,0] 3 (by simp[-all_eq_true,ai SH,ai TM,ai tF]) yA ⟨j+1,rfl,yA,?_⟩;simp[qa,dk,gE,ints,hn]
  .have VG:j=n:=by omega
   subst VG;apply aq;simp[hC];refine T.seq (T.cond (b:=false) rfl (T.exit ?_));simp;apply aq;simp[hC];apply T.ret;have tR0:=ik (aE (rX (aH xm))) j;have rR:=λ ρ=>ah ρ _ tR0;refine aa.le (Le.norm [6] [(2,0)] 0 1 SZ SY (by simp[cB,mZ,lF,assoc,-all_eq_true,-all_flatMap,au tR0]) yA) ?_;simp[cq,bb,cO,ec,assoc,rR];apply aa.here;simp[iO]
theorem Ca:∀ l:List Nat,jI (l.map λ n:Nat=>I n)=true
 | []=>rfl
 | n::l=>by
  have:=Ca l;simp only[map_cons,jI,this,Bool.and_true];rfl
def sT (u:Un)(m:Nat):List (Nat×CV):=[(7,.a7 2 0 (aw u).is.length),(4,.ax 1 0),(3,.ax 0 0),(2,I m)]
def sL (u:Un)(t:List (List Nat)):List (Nat×Ob):=(2,⟨22,1,t.map aA⟩)::qa u
def J112a (u:Un)(m L:Nat)(k:Nat)(s:St):Prop:=∃ (t:List (List Nat)) (ag:Bool),k=(9*(L+1)*(aw u).is.length-fQ t)+(if ag=true then 1 else 0)/\IN u (aw u) m L t/\(ag=false->t=uu u (aw u) m L)/\s=⟨(8,.bool ag)::sT u m,sL u t,3⟩
def J112b (u:Un)(m L:Nat)(t0:List (List Nat))(k:Nat)(s:St):Prop:=∃ j:Nat,k=(aw u).is.length-j/\j<=(aw u).is.length/\s=⟨(9,I (((aw u).is.length:Int)-1-(j:Int)))::(8,.bool (yQ u (aw u) m L t0 j).2)::sT u m,sL u (yQ u (aw u) m L t0 j).1,3⟩
theorem Qj {u:Un}(hu:gg u){m:Nat}{xm:Mx}(hm:u.ms[m]? = some xm):ae prog 155 [cf u,ib (aw u),I m] (bR (uu u (aw u) m (aH xm))):=by
 have⟨SA,hcp⟩:=wE hu;have h8:=ig xm;have hem:=Kd hu hm;have h0:=IN.start (u:=u) (c:=aw u) (m:=m) (L:=aH xm);have SH:=bm u;have TM:=fI (aw u);have hexb:=λ (t:List (List Nat)) (ht:IN u (aw u) m (aH xm) t) (i:Nat) (x:Is) (hx:(aw u).is[i]? = some x)=>oB.Nw af (Nh hu hx hm ht.wf) (Ca _) (aC _);refine ae.aD af Tryz.func155 rfl Bw (by simp[Tryz.ntmps155]) (fB _) λ C hC M0=>?_;rw[Tryz.ntmps155] at hC;have hB0:fQ (replicate (aw u).is.length (rX (aH xm)))=fQ (replicate (aw u).is.length (rX (aH xm))):=rfl;generalize replicate (aw u).is.length (rX (aH xm))=t0 at *;simp only[cf,ib,dk,gE,ints,bR] at SH TM hem hexb |-;have tT:=ct t0;have rT:=λ ρ=>ah ρ _ tT;apply aq;simp[hC];apply aq;simp[hC];refine TL.er af [] [] 0 1 (hem) rfl Ts Rg rfl rfl Ta Ta Xe Ta Ta (TL.go' af ?_);simp[hC,bz,bb,cO,bU,rT];apply aW;simp[hC];apply T.block;refine T.aI (J112a u m (aH xm)) (n:=(9*(aH xm+1)*(aw u).is.length-fQ t0)+1) ?_ ?_
 .refine aa.trim [8,7,4,3,2] [2,1,0] 3 (by simp[-all_eq_true,ai SH,ai TM,ai tT]) yA ⟨t0,true,by simp,h0,(λ h=>by cases h),?_⟩;simp[sT,sL,qa,dk,gE,ints]
 .clear tT rT h0 hem hB0;clear t0;rintro k s ⟨t0,ag,rfl,h0,UF,rfl⟩;have tT:=ct t0;have SM:=h0.wf.len;simp only[sT,sL,qa,dk,gE,ints]
  cases ag with
  | false=>
   have TB:=UF rfl;apply aW;simp[hC];refine bg ?_;simp;apply T.exit;simp;apply aq;simp[hC];apply T.ret;refine aa.le (Le.di (o:=2) rfl tT) ?_;apply aa.here;have SE:take (aw u).is.length (t0.map aA)=t0.map aA:=take_of_length_le yBh;rw[<- TB];simp[Tryz.results155,SE,SM]
  | true=>
   apply aW;simp[hC];refine jk ?_;simp;apply T.block;have wn:=cr (((aw u).is.length:Int)-1) yA yA;apply aq;simp[hC];apply aq;simp[hC,wn];apply T.block;refine T.aI (J112b u m (aH xm) t0) (n:=(aw u).is.length) ?_ ?_
   .refine aa.trim [9,8,7,4,3,2] [2,1,0] 3 (by simp[-all_eq_true,ai SH,ai TM,ai tT]) yA ⟨0,yA,yA,?_⟩;simp[sT,sL,qa,dk,gE,ints,yQ]
   .rintro k s ⟨j,rfl,hj,rfl⟩;simp only[sT,sL,qa,dk,gE,ints];obtain⟨hI,_⟩:=EV h8 h0 j hj;by_cases Tl:j<(aw u).is.length
    .obtain⟨i,hi⟩:∃ i:Nat,(aw u).is.length-1-j=i:=⟨_,rfl⟩;have hii:((aw u).is.length:Int)-1-(j:Int)=(i:Int):=by omega
     have Jz:i<(aw u).is.length:=by omega
     have UJ:i+1<=(aw u).is.length:=Jz;obtain⟨x,hx⟩:∃ x,(aw u).is[i]? = some x:=⟨_,getElem?_eq_getElem Jz⟩;have cW:yQ u (aw u) m (aH xm) t0 (j+1)=if (yQ u (aw u) m (aH xm) t0 j).1.getD i []=wz u (aw u) m (aH xm) (yQ u (aw u) m (aH xm) t0 j).1 i then yQ u (aw u) m (aH xm) t0 j else ((yQ u (aw u) m (aH xm) t0 j).1.set i (wz u (aw u) m (aH xm) (yQ u (aw u) m (aH xm) t0 j).1 i),true):=by
      rw[yQ,hi]
     generalize hS:yQ u (aw u) m (aH xm) t0 j=S at *;have hex:=hexb S.1 hI.A i x hx;have hew:=QQ u (aw u) m (aH xm) S.1 i;simp only[cV] at hex;rw[<- hew.len] at hex;change oB _ _ _ (aA (wz u (aw u) m (aH xm) S.1 i)) at hex;generalize wz u (aw u) m (aH xm) S.1 i=e at *;have hSl:=hI.A.wf.len;have⟨ri,YX,wri⟩:=hI.A.wf.get (p:=i) Jz;have X3:S.1.getD i []=ri:=by rw[getD_eq_getElem?_getD,YX];rfl
     rw[X3] at cW;have tS:=ct S.1;have tS2:=ju tS;have SE:take (aw u).is.length (S.1.map aA)=S.1.map aA:=take_of_length_le yBh;have heq:=HF e ri (by rw[hew.len,wri.len]) (by rw[hew.len];omega);have MY:trees [aA e,aA ri]=true:=by simp only[trees,aE,Bool.and_self]
     rw[hii];have wi:=cr ((i:Int)-1) yA yA;have Rz:(i:Int)-1=((aw u).is.length:Int)-1-((j+1:Nat):Int):=by omega
     apply aW;simp[hC];refine T.cond (b:=true) Tt (T.skip ?_);simp;apply eE;apply aq;simp[hC];refine TL.callL Rg rfl rfl rfl (by simp[vq,KM,assoc,SE,hSl,aE]) hex (TL.go' af ?_);simp[hC];apply aq;simp[hC,Jz,YX];refine cS MY heq ?_;simp[hC];by_cases he:e=ri
     .rw[if_pos he.symm] at cW;refine T.cond (b:=false) (by simp[ev,assoc,he]) (T.skip ?_);simp;apply aM;simp[hC,wi];refine⟨(aw u).is.length-(j+1),yA,aa.trim [9,8,7,4,3,2] [2,1,0] 3 (by simp[-all_eq_true,ai SH,ai TM,ai tS]) yA ⟨j+1,rfl,yA,?_⟩⟩;rw[cW,<- Rz];simp[sT,sL,qa,dk,gE,ints]
     .rw[if_neg (λ h=>he h.symm)] at cW;refine T.cond (b:=true) (by simp[ev,assoc,he]) ?_;simp;apply aM;simp[hC,Jz,UJ,nV,oo,hSl];apply aM;simp[hC,wi];rw[FV _ (show i<S.1.length by omega)];generalize S.1.set i e=t4 at *;have tT4:=ct t4;refine⟨(aw u).is.length-(j+1),yA,aa.trim [9,8,7,4,3,2] [2,1,0] 3 (by simp[-all_eq_true,ai SH,ai TM,ai tT4]) yA ⟨j+1,rfl,yA,?_⟩⟩;rw[cW,<- Rz];simp[sT,sL,qa,dk,gE,ints]
    .have VG:j=(aw u).is.length:=by omega
     subst VG;have hsf:=Nx h8 h0;generalize yQ u (aw u) m (aH xm) t0 (aw u).is.length=S at *;have tS:=ct S.1;have hm1:((aw u).is.length:Int)-1-((aw u).is.length:Int)=-1:=by omega
     rw[hm1];apply aW;simp[hC];refine T.cond (b:=false) Tt ?_;simp;apply T.exit;simp;have hSl:=hI.A.wf.len;have UE:=tu S.1 hI.A.wf.row;rw[hSl] at UE;have Y5:=hI.le;refine⟨(9*(aH xm+1)*(aw u).is.length-fQ S.1)+(if S.2=true then 1 else 0),?_,aa.trim [8,7,4,3,2] [2,1,0] 3 (by simp[-all_eq_true,ai SH,ai TM,ai tS]) yA ⟨S.1,S.2,rfl,hI.A,λ h=>?_,?_⟩⟩
     .cases h2:S.2 with
      | true=>have:=hI.lt h2;simp;omega
      | false=>simp;omega
     .rw[hI.same h,hsf h]
     .simp[sT,sL,qa,dk,gE,ints]
end Go.Proofs.YtlkmbdfhdknlgaaGreat
namespace Go.aK
open Go.Can
theorem Hk (l:List Nat)(n:Nat):(iR l n).length<=l.length+1:=by
 unfold iR;split
 .omega
 .simp;omega
theorem Eu (x:Is):∀ (c:List In) (l:List Is) (r:List Nat),(iM x c l r).2.2.length<=r.length+c.length
 | [],_,_=>by simp[iM]
 | i::c,l,r=>by
  cases h:kK x i with
  | none=>
   have:=Eu x c l r;simp only[iM,h,List.length_cons];omega
  | some y=>
   have:=Eu x c (fy l y) (if uJ i=true then iR r (eC (fy l y) y) else r);have h2:(if uJ i=true then iR r (eC (fy l y) y) else r).length<=r.length+1:=by
    split
    .exact Hk _ _
    .omega
   simp only[iM,h,List.length_cons];omega
theorem G4 {u:Un}(hu:gg u):∀ (f i:Nat) (l:List Is) (cs:List (List Int)) (r:List Nat),(lz u f i l cs r).roots.length<=r.length+145*f
 | 0,_,_,_,_=>by simp[lz]
 | f+1,i,l,cs,r=>by
  simp only[lz];split
  .simp
  .rename_i x _;have h1:=G4 hu f (i+1) (iM x (ay u x) l r).1 (cs++[(iM x (ay u x) l r).2.1]) (iM x (ay u x) l r).2.2;have h2:=Eu x (ay u x) l r;have h3:=lv hu x;omega
theorem Oh {u:Un}(hu:gg u):(aw u).roots.length<=14501:=G4 hu 100 0 _ _ _
end Go.aK
namespace Go.Proofs.YtlkmbdfhdknlgaaGreat
open Go.Can Go.aK List Tryz
theorem xg (n:Nat):∀ (l:List Nat) (i:Nat),(∀ r∈l,r<n)->(fK n l)[i]? = if i<n then some (if i∈l then 1 else 0) else none
 | [],i,_=>by
  rw[fK,getElem?_replicate];simp
 | r::l,i,h=>by
  have ih:=xg n l i (λ x hx=>h x (mem_cons_of_mem _ hx));rw[fK,getElem?_set,ih,mS];have hr:=h r mem_cons_self;by_cases YX:r=i
  .subst YX;simp[hr]
  .have:¬ i=r:=λ e=>YX e.symm;simp[YX,this]
theorem HG (n:Nat)(l:List Nat)(h:∀ r∈l,r<n):fK n l.reverse=fK n l:=by
 refine ext_getElem? λ i=>?_;rw[xg n _ i (λ r hr=>h r (mem_reverse.1 hr)),xg n l i h];simp
theorem MO {u:Un}{c:Cl}{m L:Nat}:BH (uu u c m L)=vT u c m L:=by
 funext k d e;refine propext ⟨λ h=>?_,λ h=>?_⟩
 .obtain⟨h1,h2,h3⟩:=(lO L c.is.length (vT u c m L)).lt h;exact (sf h1 h2 h3).1 h
 .have⟨h1,h2,h3⟩:=xX (GQ.2 h);exact (sf h1 h2 h3).2 h
theorem NW {u:Un}{m L i:Nat}{x:Is}:Mm u m i L x (uu u (aw u) m L)=fZ u (aw u) m L i x:=by
 unfold Mm fZ;rw[MO];congr 1;funext pc d e;exact propext P2
noncomputable def mB (u:Un) (m L:Nat):List (List (List Nat)):=(range (aw u).is.length).map λ i=>match (aw u).is[i]? with
 | some x=>fZ u (aw u) m L i x
 | none=>[]
theorem C3 (u:Un)(m L:Nat):(mB u m L).length=(aw u).is.length:=by simp[mB]
theorem A9 {u:Un}{m L i:Nat}{x:Is}(hx:(aw u).is[i]? = some x):(mB u m L)[i]? = some (fZ u (aw u) m L i x):=by
 have hl:=(List.getElem?_eq_some_iff.1 hx).1;rw[mB,getElem?_map,getElem?_eq_getElem yBz];simp only[getElem_range,Option.map_some,hx]
theorem kf:∀ t:List (List (List Nat)),trees (t.map bR)=true
 | []=>rfl
 | r::t=>by
  have h:=fB r;have:=kf t;simp only[map_cons,trees,h,this,Bool.and_self]
theorem Gu {t:List Nat}{p:Nat}(r:Nat)(h:p<t.length):take p (t.map λ n:Nat=>I n)++I r::drop (p+1) (t.map λ n:Nat=>I n)=(t.set p r).map λ n:Nat=>I n:=by
 rw[map_set,set_eq_take_append_cons_drop,if_pos UA]
theorem vI {l:List (List (List Nat))}{j:Nat}{r:List (List Nat)}(h:l[j]? = some r):(l.take j).map bR++[bR r]=(l.take (j+1)).map bR:=by
 rw[take_add_one,h];simp
theorem GB {L n:Nat}(h8:L<=8)(h:n<2 ^ (L+1)):n<2 ^ 63:=by
 have h2:2 ^ (L+1)<=2 ^ 9:=Nat.pow_le_pow_right yA yA;have h3:(2:Nat) ^ 9<2 ^ 63:=by decide
 exact Nat.lt_of_lt_of_le h (Nat.le_trans h2 (Nat.le_of_lt h3))
def dQ (T:List (List (List Nat))):CV:=.az (T.map bR) T.length
noncomputable def JG (u:Un) (m L:Nat):CV:=.agg [bR (uu u (aw u) m L),dQ (mB u m L),aA (ni u (aw u) m L)]
theorem Hr (u:Un)(m L:Nat):tree (JG u m L)=true:=by
 simp only[JG,dQ,tree,trees,fB,aE,Bool.and_self]
def jr (_u:Un)(m:Nat):List (Nat×CV):=[(7,.ax 3 0),(6,.ax 2 0),(4,.ax 1 0),(3,.ax 0 0),(2,I m)]
def jo (u:Un)(sm:List (List Nat))(v:CV)(E:List Nat):List (Nat×Ob):=[(4,cV E),(3,⟨201,0,[bR sm,v,.a7 4 0 (aw u).is.length]⟩),(2,⟨201,0,[.aj,.aj,.aj]⟩),(1,⟨34,0,gE (aw u)⟩),(0,⟨30,0,dk u⟩)]
def J175a (u:Un)(m L:Nat)(sm:List (List Nat))(E:List Nat)(k:Nat)(s:St):Prop:=∃ j:Nat,k=(aw u).is.length-j/\j<=(aw u).is.length/\s=⟨(29,I j)::(28,I (aw u).is.length)::jr u m,(5,⟨32,1,((mB u m L).take j).map bR⟩)::jo u sm (.a7 5 0 j) E,6⟩
def J175b (u:Un)(m L:Nat)(sm:List (List Nat))(k:Nat)(s:St):Prop:=∃ j:Nat,k=(aw u).roots.length-j/\j<=(aw u).roots.length/\s=⟨(56,I j)::(55,I (aw u).roots.length)::(54,aA (aw u).roots)::(9,.a7 5 0 (aw u).roots.length)::jr u m,(5,cV (aw u).roots)::jo u sm (dQ (mB u m L)) (fK (aw u).is.length ((aw u).roots.take j).reverse),6⟩
def J175c (u:Un)(m L:Nat)(sm:List (List Nat))(k:Nat)(s:St):Prop:=∃ (E td:List Nat),k=NG (aw u).is.length E td/\k<=30000/\OF u (aw u) m L E td/\s=⟨(9,.a7 5 0 td.length)::jr u m,(5,cV td)::jo u sm (dQ (mB u m L)) E,6⟩
def J175d (u:Un)(m L:Nat)(sm:List (List Nat))(i:Nat)(x:Is)(E0 td0:List Nat)(k:Nat)(s:St):Prop:=∃ pc:Nat,k=(ay u x).length-pc/\pc<=(ay u x).length/\s=⟨(91,I pc)::(90,I (ay u x).length)::(89,.az ((ay u x).flatMap cY) (ay u x).length)::(12,I i)::(9,.a7 5 0 (vt u (aw u) (fZ u (aw u) m L i x) i x pc (E0,td0)).2.length)::jr u m,(5,cV (vt u (aw u) (fZ u (aw u) m L i x) i x pc (E0,td0)).2)::jo u sm (dQ (mB u m L)) (vt u (aw u) (fZ u (aw u) m L i x) i x pc (E0,td0)).1,6⟩
theorem HT {u:Un}(hu:gg u){m:Nat}{xm:Mx}(hm:u.ms[m]? = some xm):ae prog 121 [cf u,ib (aw u),I m] (JG u m (aH xm)):=by
 have⟨SA,hcp⟩:=wE hu;have h8:=ig xm;have H:=FT hu h8;have hof:=Qj hu hm;have hswf:=(lO (aH xm) (aw u).is.length (vT u (aw u) m (aH xm)));have YD:∀ (j:Nat) (x:Is),(aw u).is[j]? = some x->ae prog 156 [cf u,ib (aw u),I m,bR (uu u (aw u) m (aH xm)),I j] (bR (fZ u (aw u) m (aH xm) j x)):=λ j x hx=>by
  have:=zr hu hx hm hswf;change ae _ _ [_,_,_,bR (uu u (aw u) m (aH xm)),_] (bR (Mm u m j (aH xm) x (uu u (aw u) m (aH xm)))) at this;rwa [NW] at this
 have SH:=bm u;have TM:=fI (aw u);have hrl:=Oh hu;have Sz:=OF.start (u:=u) (m:=m) H;have MY:trees [cf u,ib (aw u),I m]=true:=by simp only[trees,tree,cf,ib,bm,fI,Bool.and_self]
 have Yj:∀ (sm:List (List Nat)) (j:Nat),trees [cf u,ib (aw u),I m,bR sm,I j]=true:=λ sm j=>by simp only[trees,tree,cf,ib,bm,fI,fB,Bool.and_self]
 refine ae.aD af Tryz.func121 rfl Bw (by simp[Tryz.ntmps121]) (Hr _ _ _) λ C hC M0=>?_;rw[Tryz.ntmps121] at hC;have bd:8*((aw u).is.length:Int)<=281474976710656/\((aw u).is.length:Int)<=9223372036854775807:=by omega
 simp only[JG];generalize hsmd:uu u (aw u) m (aH xm)=sm at *;have tS:=ct sm;simp only[cf,ib,dk,gE,ints,bR] at SH TM Yj MY hof YD |-;apply aq;simp[hC];refine T.seq (T.rx af follows [0,1,2,4,5,6,7,9,3,8,10] [(0,7),(0,9),(1,7),(1,9),(5,9),(5,3),(7,9),(7,3),(9,3)] Bw ?_);simp[hC,bd];refine RX.call rfl rfl rfl rfl rfl MY hof ?_;simp;have SX:aA (aw u).roots=CV.az ((aw u).roots.map λ n:Nat=>I n) (aw u).roots.length:=rfl;simp only[SX] at TM Yj MY YD |-;have rT:=λ ρ=>ah ρ _ tS;have rU:=λ ρ=>ah ρ _ SH;have rC:=λ ρ=>ah ρ _ TM;have tZ:trees (replicate (aw u).is.length (CV.int IntKind.i64 0))=true:=kO _;have rZ:=λ ρ=>ah ρ _ tZ;refine T.le (Le.norm [7,6,4,3,2] [(10,4),(12,3),(2,2),(1,1),(0,0)] 0 5 SZ SY (by simp[cB,mZ,lF,tree,assoc,-all_eq_true,-all_flatMap,au SH,au TM,au tZ]) yA) ?_;simp[cq,bb,aX,cO,ec,assoc,rZ];have hE0:replicate (aw u).is.length (CV.int IntKind.i64 0)=(fK (aw u).is.length []).map λ n:Nat=>I n:=by simp[fK]
 rw[hE0] at tZ |-;generalize hEE:fK (aw u).is.length []=E00 at *;have Ul:=C3 u m (aH xm);apply aW;simp[hC];apply T.block;refine T.aI (J175a u m (aH xm) sm E00) (n:=(aw u).is.length) ?_ ?_
 .refine aa.le (Le.mU 3 1 32 1 rfl rfl) ?_;simp;refine aa.trim [29,28,7,6,4,3,2] [5,4,3,2,1,0] 6 yDf yA ⟨0,yA,yA,?_⟩;simp[jr,jo,dk,gE,ints,bR,cV,SX]
 .rintro k s ⟨j,rfl,hj,rfl⟩;simp only[jr,jo,dk,gE,ints,bR,cV,SX];by_cases Tl:j<(aw u).is.length
  .obtain⟨x,hx⟩:∃ x,(aw u).is[j]? = some x:=⟨_,getElem?_eq_getElem Tl⟩;have wj:=cr ((j:Int)+1) yA yA;have bd3:(j+1)*24<=140737488355328:=by omega
   have Vz:=vI (A9 (m:=m) (L:=aH xm) hx);have tRa:=kf ((mB u m (aH xm)).take (j+1));rw[<- Vz] at tRa;have SM:(map bR (take j (mB u m (aH xm)))).length=j:=by simp;omega
   have rRa:=λ ρ=>ah ρ _ tRa;have rE:=λ ρ=>ah ρ _ tZ;have hinj:=YD j x hx;have htj:=Yj sm j;simp only[bR] at hinj htj Vz;simp only[bR] at tRa rRa;generalize hR:map bR (take j (mB u m (aH xm)))=R at *;apply aq;simp[hC,Tl];refine T.seq (T.cond (b:=true) rfl (T.skip ?_));simp;apply eE;apply aq;simp[hC];refine T.rx af follows [0,1,2,3,4,5,6,7,8,9,10,11,12] [(1,8),(1,9)] Bw ?_;simp[hC];refine RX.call rfl rfl rfl rfl rfl htj hinj ?_;simp[bd3,SM];apply aM;simp[hC,wj];refine⟨(aw u).is.length-(j+1),yA,?_⟩;refine aa.le (Le.norm [29,28,7,6,4,3,2] [(19,5),(4,4),(3,3),(2,2),(1,1),(0,0)] 0 6 SZ SY (by simp[cB,mZ,lF,tree,assoc,-all_eq_true,-all_flatMap,au tRa,au SH,au TM,au tZ]) yA) ?_;simp[cq,bb,aX,cO,ec,assoc,rRa,rE];refine aa.here ⟨j+1,rfl,yA,?_⟩;simp[jr,jo,dk,gE,ints,bR,cV,SX,<- Vz]
  .have VG:j=(aw u).is.length:=by omega
   subst VG;have tI:=kf (mB u m (aH xm));rw[show take (aw u).is.length (mB u m (aH xm))=mB u m (aH xm) from take_of_length_le yA];apply aq;simp[hC];refine T.seq (T.cond (b:=false) rfl (T.exit ?_));simp;refine T.le (Le.di (o:=5) rfl tI) ?_;have SE:take (aw u).is.length (map bR (mB u m (aH xm)))=map bR (mB u m (aH xm)):=take_of_length_le yBh;simp[aN tZ,SE];refine T.le (Le.trim [7,6,4,3,2] [4,3,2,1,0] 5 yDf yA) ?_;simp;have bd4:8*((aw u).roots.length:Int)<=281474976710656/\((aw u).roots.length:Int)<=9223372036854775807:=by omega
   have ZU:0<(aw u).roots.length:=length_pos_of_mem (((qh hu).root 0).2 (.inl rfl));have SJ:take (aw u).roots.length (map (λ n:Nat=>I n) (aw u).roots)=map (λ n:Nat=>I n) (aw u).roots:=take_of_length_le (by rw[length_map];exact Nat.le_refl _);have tRo:=aC (aw u).roots;apply aq;simp[hC,bd4];apply aq;simp[hC,ZU];rw[SJ];apply aW;simp[hC];apply T.block;refine T.aI (J175b u m (aH xm) sm) (n:=(aw u).roots.length) ?_ ?_
   .refine aa.trim [56,55,54,9,7,6,4,3,2] [5,4,3,2,1,0] 6 (by simp[-all_eq_true,ai SH,ai TM,ai tRo,ai tZ]) yA ⟨0,yA,yA,?_⟩;rw[<- hEE];simp[jr,jo,dk,gE,ints,bR,cV,SX,dQ,Ul,fK]
   .clear hE0 tZ rZ;rintro k s ⟨j,rfl,hj,rfl⟩;simp only[jr,jo,dk,gE,ints,bR,cV,SX,dQ,Ul];have hEl:=mS (aw u).is.length ((aw u).roots.take j).reverse;by_cases W6:j<(aw u).roots.length
    .obtain⟨r,hr⟩:∃ r,(aw u).roots[j]? = some r:=⟨_,getElem?_eq_getElem W6⟩;have ZV:=dV hr;have VM:=H.root r (mem_of_getElem? hr);have hrn2:r+1<=(aw u).is.length:=VM;have wj:=cr ((j:Int)+1) yA yA;have W2:fK (aw u).is.length ((aw u).roots.take (j+1)).reverse=(fK (aw u).is.length ((aw u).roots.take j).reverse).set r 1:=by
      rw[take_add_one,hr];simp[fK]
     generalize fK (aw u).is.length ((aw u).roots.take j).reverse=E at *;apply aq;simp[hC,W6];refine T.seq (T.cond (b:=true) rfl (T.skip ?_));simp;apply eE;apply aq;simp[hC,W6,ZV];apply aM;simp[hC,VM,hrn2,hEl];apply aM;simp[hC,wj];rw[show CV.int IntKind.i64 1=I ((1:Nat):Int) from rfl,Gu _ (show r<E.length by omega)];generalize E.set r 1=E2 at *;have tE2:=aC E2;refine⟨(aw u).roots.length-(j+1),yA,aa.trim [56,55,54,9,7,6,4,3,2] [5,4,3,2,1,0] 6 (by simp[-all_eq_true,ai SH,ai TM,ai tRo,ai tE2]) yA ⟨j+1,rfl,yA,?_⟩⟩;rw[W2];simp[jr,jo,dk,gE,ints,bR,cV,SX,dQ,Ul]
    .have hje2:j=(aw u).roots.length:=by omega
     subst hje2;have hrv:=HG (aw u).is.length (aw u).roots H.root;rw[take_length,hrv] at *;generalize fK (aw u).is.length (aw u).roots=E0 at *;have tE:=aC E0;apply aq;simp[hC];refine T.seq (T.cond (b:=false) rfl (T.exit ?_));simp;have XG:NG (aw u).is.length E0 (aw u).roots<=30000:=by unfold NG;omega
     apply eE;refine T.aI (J175c u m (aH xm) sm) (n:=NG (aw u).is.length E0 (aw u).roots) ?_ ?_
     .refine aa.trim [9,7,6,4,3,2] [5,4,3,2,1,0] 6 (by simp[-all_eq_true,ai SH,ai TM,ai tE,ai tRo]) yA ⟨E0,(aw u).roots,rfl,XG,Sz,?_⟩;simp[jr,jo,dk,gE,ints,bR,cV,SX,dQ,Ul]
     .clear Sz hrv XG tE hEl hEE;clear E0;rintro k s ⟨E0,td,rfl,VT,hI,rfl⟩;simp only[jr,jo,dk,gE,ints,bR,cV,SX,dQ,Ul];have tE:=aC E0;have tD:=aC td;have SK:=hI.A.len;rcases eq_nil_or_concat td with rfl | ⟨td0,i,rfl⟩
      .have TB:=hI.fin H;apply aW;simp[hC];refine T.cond (b:=false) Tt (T.exit ?_);simp;refine T.le (Le.di (o:=4) rfl tE) ?_;have Xx:take (aw u).is.length (E0.map λ n:Nat=>I n)=E0.map λ n:Nat=>I n:=take_of_length_le yBh;simp[Xx];apply aq;simp[hC];apply T.ret;apply aa.here;rw[<- TB];simp[Tryz.results121,aA,SK]
      .rw[concat_eq_append] at *;have Jz:=hI.val i xr;obtain⟨x,hx⟩:∃ x,(aw u).is[i]? = some x:=⟨_,getElem?_eq_getElem Jz⟩;have⟨Xy,W2⟩:=hI.step H hx;have hlen:(td0++[i]).length=td0.length+1:=by simp
       rw[hlen];have bt:td0.length<=30000:=by unfold NG at VT;rw[hlen] at VT;omega
       have wl:=cr ((td0.length:Int)+1-1) yA yA;have wl2:=cr (td0.length:Int) yA yA;have bI:(td0.length:Int)<(td0.length:Int)+1:=by omega
       have bI2:(td0.length:Int)<=(td0.length:Int)+1:=by omega
       have tD0:=aC td0;apply aW;simp[hC];refine jk ?_;simp;apply T.block;apply aq;simp[hC,wl2,bI];apply aq;simp[hC,wl2];refine T.le (Le.cut (o:=5) td0.length rfl) ?_;simp[St.cut];have hv:=G2 hu hx;have⟨pq,TE,Sw⟩:=qf hv;have hcdl:=lv hu x;have YL:(ay u x).length=pq.code.length:=by rw[Sw]
       have Tx:=(List.getElem?_eq_some_iff.1 TE).1;have hdi:=aL (f:=dW) (n:=2) g9 hx;have OZ:=cb (f:=nA) (n:=5) iY TE 4 yA;have tco:trees (pq.code.flatMap cY)=true:=ak eB _;refine T.seq (T.rx af follows [0,1,2,3,4,5,6,7,8,9,10,11,12] [] Bw ?_);simp[hC,Jz,hdi,dW,Tx,OZ,nA];apply T.block;have XO:Mg u (aw u) m (aH xm) E0:=hI.A;refine T.aI (J175d u m (aH xm) sm i x E0 td0) (n:=(ay u x).length) ?_ ?_
       .refine aa.trim [91,90,89,12,9,7,6,4,3,2] [5,4,3,2,1,0] 6 (by simp[-all_eq_true,ai SH,ai TM,ai tE,ai tD0]) yA ⟨0,yA,yA,?_⟩;simp[jr,jo,dk,gE,ints,bR,cV,SX,dQ,Ul,vt,Sw]
       .rintro k s ⟨pc,rfl,gQ,rfl⟩;have hee:=Fh H hx (td0:=td0) XO pc gQ;simp only[jr,jo,dk,gE,ints,bR,cV,SX,dQ,Ul];have hinl:(fZ u (aw u) m (aH xm) i x).length=(ay u x).length:=(lO _ _ _).len;have hina:=A9 (m:=m) (L:=aH xm) hx;rw[Sw] at gQ;by_cases Yr:pc<pq.code.length
        .obtain⟨z,UM⟩:∃ z,pq.code[pc]? = some z:=⟨_,getElem?_eq_getElem Yr⟩;have hz:(ay u x)[pc]? = some z:=by rw[Sw];exact UM
         have Vf:=aL (f:=cY) (n:=12) hU UM;have U4:=px z;have XS:=eB z;have⟨xc,Vo,VL⟩:=nW z;obtain⟨c1,c2,c3,c4,c5,c6,c7,c8,c9,c10,c11,rfl⟩:=CU VL;rw[Vo] at Vf U4 XS;simp only[all_cons,all_nil,Bool.and_true,Bool.and_eq_true] at U4;obtain⟨_,o1,o2,o3,o4,o5,o6,o7,o8,o9,o10,o11⟩:=U4;have SG:=Cw z;have Zb:=cr ((pc:Int)+1) yA yA;obtain⟨rp,ZU,wrp⟩:=(lO (aH xm) (ay u x).length (Rr u (aw u) m (aH xm) i)).get (p:=pc) (by rw[Sw];exact Yr);change (fZ u (aw u) m (aH xm) i x)[pc]? = some rp at ZU;have hgp:(fZ u (aw u) m (aH xm) i x).getD pc []=rp:=by rw[getD_eq_getElem?_getD,ZU];rfl
         have UQ:=lh aA ZU;have WS:=lh bR hina;have cW:∀ E:List Nat×List Nat,vt u (aw u) (fZ u (aw u) m (aH xm) i x) i x pc (E0,td0)=E->vt u (aw u) (fZ u (aw u) m (aH xm) i x) i x (pc+1) (E0,td0)=if fk z=true then (if Ac rp (E.1.getD i 0) ||| E.1.getD (fx (aw u) i pc) 0=E.1.getD (fx (aw u) i pc) 0 then E else (Go.aK.j4 E.1 (fx (aw u) i pc) (Ac rp (E.1.getD i 0)),E.2++[fx (aw u) i pc])) else E:=λ E hE=>by
          rw[vt,hz];simp only[xd,hgp,hE]
         replace cW:=cW _ rfl;generalize hSS:vt u (aw u) (fZ u (aw u) m (aH xm) i x) i x pc (E0,td0)=S2 at *;have tS2:=aC S2.1;have tD2:=aC S2.2;have hSl:=hee.A.len;have TP:=hee.ms;have UE:=tv S2.1;rw[hSl] at UE;rw[Sw];apply aq;simp[hC,Yr];refine T.seq (T.cond (b:=true) rfl (T.skip ?_));simp;apply eE;apply aq;simp[hC,Yr,Vf];apply aW;simp[hC]
         cases hc:fk z with
         | false=>
          rw[hc] at SG cW;have hop2:((qU z:Int) != 2)=true:=by rw[bne,SG];rfl
          refine T.cond (b:=true) (by simp[ev,assoc,hop2]) ?_;simp;apply T.exit;simp;apply aM;simp[hC,Zb];refine⟨(ay u x).length-(pc+1),yA,aa.trim [91,90,89,12,9,7,6,4,3,2] [5,4,3,2,1,0] 6 yDd yA ⟨pc+1,by rw[Sw],yA,?_⟩⟩;rw[cW];simp[jr,jo,dk,gE,ints,bR,cV,SX,dQ,Ul,Sw]
         | true=>
          have⟨row,TU,Tb,hr3⟩:=C0 hu hx hz hc;have Tz:=lh ints TU;have V9:=lh dg Tb;have Uo:=(List.getElem?_eq_some_iff.1 TU).1;have TO:=(List.getElem?_eq_some_iff.1 Tb).1;rw[hc] at SG cW;have hop2:((qU z:Int) != 2)=false:=by rw[bne,SG];rfl
          refine T.cond (b:=false) (by simp[ev,assoc,hop2]) (T.skip ?_);simp;generalize fx (aw u) i pc=ko at *;obtain⟨ek,hek⟩:∃ ek,S2.1[ko]? = some ek:=⟨_,getElem?_eq_getElem yA⟩;obtain⟨ei,XK⟩:∃ ei,S2.1[i]? = some ei:=⟨_,getElem?_eq_getElem yA⟩;have hgk:S2.1.getD ko 0=ek:=by rw[getD_eq_getElem?_getD,hek];rfl
          have X3:S2.1.getD i 0=ei:=by rw[getD_eq_getElem?_getD,XK];rfl
          have b63:∀ s∈S2.1,s<2 ^ 63:=λ s hs=>GB h8 (hee.A.lt s hs);have b1:=b63 ek (mem_of_getElem? hek);have b2:=b63 ei (mem_of_getElem? XK);have b3:Ac rp ei<2 ^ 63:=GB h8 (Bz rp ei 0 wrp.lt);have Wa:=uE rp ei (by rw[wrp.len];omega) (mc h8 wrp) b2;rw[hgk,X3] at cW;generalize Ac rp ei=sv at *;have Yc:trees [aA rp,I ei]=true:=by simp only[trees,aE,tree,Bool.and_self]
          have Zp:=H3 b1 b3;have han:=DP b3 b1;have VI:(((D5 sv ek:Nat):Int) != 0)=!decide (sv ||| ek=ek):=Lu;have hko2:ko+1<=(aw u).is.length:=hr3;refine T.seq (T.rx af follows [0,1,2,3,4,5,6,7,8,9,10,11,12,13,14,15,16,17,18,19,20,21,22,23] [(1,21),(4,21),(7,21)] Bw ?_);simp[hC,Tz,V9,Uo,TO,ints,Jz,WS,bR,hinl,YL,Yr,UQ,XK];refine RX.call rfl rfl rfl rfl rfl Yc Wa ?_;simp;apply aq;simp[hC,hr3,hek,han];by_cases hq:sv ||| ek=ek
          .have Zz:(((D5 sv ek:Nat):Int) != 0)=false:=by rw[VI];simp[hq]
           rw[if_pos hq] at cW;refine T.cond (b:=false) (by simp[ev,assoc,Zz]) (T.skip ?_);simp;apply aM;simp[hC,Zb];refine⟨(ay u x).length-(pc+1),yA,aa.trim [91,90,89,12,9,7,6,4,3,2] [5,4,3,2,1,0] 6 yDd yA ⟨pc+1,by rw[Sw],yA,?_⟩⟩;rw[cW];simp[jr,jo,dk,gE,ints,bR,cV,SX,dQ,Ul,Sw]
          .have Zz:(((D5 sv ek:Nat):Int) != 0)=true:=by rw[VI];simp[hq]
           rw[if_neg hq] at cW;have hue:Go.aK.j4 S2.1 ko sv=S2.1.set ko (ek ||| sv):=by rw[Go.aK.j4,hgk]
           rw[hue] at cW;have bdd:(S2.2.length+1)*8<=140737488355328:=by omega
           refine T.cond (b:=true) (by simp[ev,assoc,Zz]) ?_;simp;have hko3:ko+1<=S2.1.length:=by omega
           apply aq;simp[hC,hr3,hek,Zp,hko3];rw[Gu _ (show ko<S2.1.length by omega)];generalize S2.1.set ko (ek ||| sv)=E3 at *;have tE3:=aC E3;have hD5:(S2.2.map λ n:Nat=>I n)++[I ko]=(S2.2++[ko]).map λ n:Nat=>I n:=by simp
           have tD5:=aC (S2.2++[ko]);rw[<- hD5] at tD5;apply aM;simp[hC,bdd];apply aM;simp[hC,Zb];have rE3:=λ ρ=>ah ρ _ tE3;have rD5:=λ ρ=>ah ρ _ tD5;have rI:=λ ρ=>ah ρ _ tI;have rK:=λ ρ=>ah ρ _ tco;refine⟨(ay u x).length-(pc+1),yA,?_⟩;refine aa.le (Le.norm [91,90,89,12,9,7,6,4,3,2] [(32,5),(4,4),(3,3),(2,2),(1,1),(0,0)] 0 6 SZ SY (by simp[cB,mZ,lF,tree,assoc,-all_eq_true,-all_flatMap,au tE3,au tD5,au SH,au TM]) yA) ?_;simp[cq,bb,aX,cO,ec,assoc,rE3,rD5];refine aa.here ⟨pc+1,by rw[Sw],yA,?_⟩;rw[cW];simp[jr,jo,dk,gE,ints,bR,cV,SX,dQ,Ul,Sw]
        .have XD:pc=pq.code.length:=by omega
         subst XD;rw[<- YL] at hee |-;generalize hS2:vt u (aw u) (fZ u (aw u) m (aH xm) i x) i x (ay u x).length (E0,td0)=S2 at *;have tS2:=aC S2.1;have tD2:=aC S2.2;have Tg:¬ (ay u x).length<(ay u x).length:=by omega
         apply aq;simp[hC];refine T.seq (T.cond (b:=false) Tt (T.exit ?_));simp;refine⟨NG (aw u).is.length S2.1 S2.2,W2,aa.trim [9,7,6,4,3,2] [5,4,3,2,1,0] 6 yDd yA ⟨S2.1,S2.2,rfl,yA,Xy,?_⟩⟩;simp[jr,jo,dk,gE,ints,bR,cV,SX,dQ,Ul]
theorem DH (u:Un)(c:Cl)(m L:Nat):(DI u c m L).length=c.is.length:=by simp[DI]
theorem LY (u:Un)(c:Cl)(m L i:Nat)(x:Is):(yp u c m L i x).length=(ay u x).length:=by simp[yp]
def vu (u:Un):List (Nat×CV):=[(8,.a7 3 0 (aw u).is.length),(7,.ax 2 0)]
noncomputable def vr (u:Un) (m L:Nat) (T:List CV):List (Nat×Ob):=[(3,⟨22,1,T⟩),(2,⟨201,0,[bR (uu u (aw u) m L),dQ (mB u m L),aA (ni u (aw u) m L)]⟩)]
def J107a (u:Un)(m L:Nat)(t:List (List Nat))(k:Nat)(s:St):Prop:=∃ i:Nat,k=(aw u).is.length-i/\i<=(aw u).is.length/\s=⟨(24,I i)::(23,I (aw u).is.length)::(22,dQ (mB u m L))::vu u,vr u m L ((t.take i).map aA++replicate ((aw u).is.length-i) .aj),4⟩
def J107b (u:Un)(m L:Nat)(t:List (List Nat))(i:Nat)(U8:List (List Nat))(br:List Nat)(k:Nat)(s:St):Prop:=∃ pc:Nat,k=U8.length-pc/\pc<=U8.length/\s=⟨(37,I pc)::(36,I U8.length)::(35,bR U8)::(9,I i)::(24,I i)::(23,I (aw u).is.length)::(22,dQ (mB u m L))::vu u,(4,⟨3,1,gN br pc⟩)::vr u m L ((t.take i).map aA++.a7 4 0 U8.length::replicate ((aw u).is.length-(i+1)) .aj),5⟩
theorem EO {u:Un}(hu:gg u){m:Nat}{xm:Mx}(hm:u.ms[m]? = some xm):ae prog 61 [cf u,ib (aw u),I m] (bR (DI u (aw u) m (aH xm))):=by
 have⟨SA,hcp⟩:=wE hu;have h8:=ig xm;have H:=FT hu h8;have W3:=HT hu hm;have SH:=bm u;have TM:=fI (aw u);have MY:trees [cf u,ib (aw u),I m]=true:=by simp only[trees,tree,cf,ib,bm,fI,Bool.and_self]
 have UE:=DH u (aw u) m (aH xm);have hba:=λ (i:Nat) (x:Is) (hx:(aw u).is[i]? = some x)=>Hb (u:=u) (m:=m) (L:=aH xm) hx;have Y5:=λ (i pc:Nat) (x:Is) (h:pc<(ay u x).length)=>ap_be (i:=i) (m:=m) H h;have helt:∀ s∈ni u (aw u) m (aH xm),s<2 ^ (aH xm+1):=λ s hs=>by
  simp only[ni,mem_map] at hs;obtain⟨i,_,rfl⟩:=hs;exact pt _ _
 have hell:(ni u (aw u) m (aH xm)).length=(aw u).is.length:=by simp[ni]
 have Ul:=C3 u m (aH xm);have bd:24*((aw u).is.length:Int)<=281474976710656/\((aw u).is.length:Int)<=9223372036854775807:=by omega
 have tI:=kf (mB u m (aH xm));have tS:=ct (uu u (aw u) m (aH xm));have tE:=aC (ni u (aw u) m (aH xm));have Xv:=λ j=>ik (c:=CV.aj) rfl j;refine ae.aD af Tryz.func61 rfl Bw (by simp[Tryz.ntmps61]) (fB _) λ C hC M0=>?_;rw[Tryz.ntmps61] at hC;generalize DI u (aw u) m (aH xm)=t at *;simp only[cf,ib,dk,gE,ints,bR] at SH TM MY W3 |-;simp only[JG] at W3;apply aq;simp[hC];apply aq;simp[hC];refine cS MY W3 ?_;simp[hC,bR,dQ,aA];apply aq;simp[hC,Ul,bd];apply aW;simp[hC];apply T.block;refine T.aI (J107a u m (aH xm) t) (n:=(aw u).is.length) ?_ ?_
 .refine aa.trim [24,23,22,8,7] [3,2] 4 U2 yA ⟨0,yA,yA,?_⟩;simp[vu,vr,bR,dQ,aA,Ul]
 .rintro k s ⟨i,rfl,hi,rfl⟩;simp only[vu,vr,bR,dQ,Ul];have tR0:=ct (t.take i);have SM:(map aA (take i t)).length=i:=by simp;omega
  by_cases Jz:i<(aw u).is.length
  .obtain⟨x,hx⟩:∃ x,(aw u).is[i]? = some x:=⟨_,getElem?_eq_getElem Jz⟩;have hcdl:=lv hu x;have wi:=cr ((i:Int)+1) yA yA;have Vz:=yL (hba i x hx);have WS:=lh bR (A9 (m:=m) (L:=aH xm) hx);have XM:=LY u (aw u) m (aH xm) i x;have hbra:=λ (pc:Nat) (h:pc<(ay u x).length)=>Hc (u:=u) (c:=aw u) (m:=m) (L:=aH xm) (i:=i) h;have hbe2:=λ (pc:Nat) (h:pc<(ay u x).length)=>Y5 i pc x h;have hwt:=lO (aH xm) (ay u x).length (Rr u (aw u) m (aH xm) i);change yz _ _ (fZ u (aw u) m (aH xm) i x) at hwt;generalize yp u (aw u) m (aH xm) i x=br at *;generalize fZ u (aw u) m (aH xm) i x=U8 at *;have tN:=ct U8;have ZO:=hwt.len;generalize hR:map aA (take i t)=R at *;obtain⟨ei,XK⟩:∃ ei,(ni u (aw u) m (aH xm))[i]? = some ei:=⟨_,getElem?_eq_getElem yA⟩;have hdE:=dV XK;have X3:(ni u (aw u) m (aH xm)).getD i 0=ei:=by rw[getD_eq_getElem?_getD,XK];rfl
   have b2:ei<2 ^ 63:=GB h8 (helt ei (mem_of_getElem? XK));have bdn:8*(U8.length:Int)<=281474976710656/\(U8.length:Int)<=9223372036854775807:=by omega
   have Tf:R.length+1<=R.length+((aw u).is.length-i):=by omega
   have TQ:i+1<=R.length+((aw u).is.length-i):=by omega
   have WB:i+1<=i+((aw u).is.length-i):=by omega
   apply aq;simp[hC,Jz];refine T.seq (T.cond (b:=true) rfl (T.skip ?_));simp;apply eE;apply aq;simp[hC,Jz,WS,bR];apply aq;simp[hC,bdn,Jz,SM,WB];have hdrp:drop (i+1) (R++replicate ((aw u).is.length-i) CV.aj)=replicate ((aw u).is.length-(i+1)) CV.aj:=by
    rw[drop_append,drop_eq_nil_of_le yA,drop_replicate,SM];have e:(aw u).is.length-i-(i+1-i)=(aw u).is.length-(i+1):=by omega
    rw[e];rfl
   rw[hdrp];have tRN:=Xv ((aw u).is.length-(i+1));apply aq;simp[hC];apply T.block;refine T.aI (J107b u m (aH xm) t i U8 br) (n:=U8.length) ?_ ?_
   .have tZ:trees (replicate U8.length (CV.int IntKind.i64 0))=true:=kO _;refine aa.trim [37,36,35,9,24,23,22,8,7] [4,3,2] 5 (by simp[-all_eq_true,ai tR0,ai tRN,ai tZ,bG _ _ (aE _)]) yA ⟨0,yA,yA,?_⟩;simp[vu,vr,bR,dQ,Ul,hR,iF,XM,ZO]
   .rintro k s ⟨pc,rfl,gQ,rfl⟩;simp only[vu,vr,bR,dQ,Ul,hR];have trB:=fF br pc;have trB2:=fF br (pc+1);have Tg:(gN br pc).length=U8.length:=by rw[jX yA];omega
    by_cases Tx:pc<U8.length
    .have⟨rp,ZU,wrp⟩:=hwt.get (p:=pc) yA;have hgp:U8.getD pc []=rp:=by rw[getD_eq_getElem?_getD,ZU];rfl
     have UQ:=lh aA ZU;have Wa:=uE rp ei (by rw[wrp.len];omega) (mc h8 wrp) b2;have hbv:=hbe2 pc yA;rw[hgp,X3] at hbv;have hputb:=hbra pc yA;rw[hbv] at Wa;generalize lU (aH xm) (Be u (aw u) m (aH xm) i pc)=v at *;have Yc:trees [aA rp,I ei]=true:=by simp only[trees,aE,tree,Bool.and_self]
     have Zb:=cr ((pc:Int)+1) yA yA;have UJ:i<(ni u (aw u) m (aH xm)).length:=by omega
     have Ys:pc+1<=U8.length:=Tx;have hrow:(R++CV.a7 4 0 U8.length::replicate ((aw u).is.length-(i+1)) CV.aj)[i]? = some (CV.a7 4 0 U8.length):=by
      rw[getElem?_append_right yA,SM];simp
     have hnE:aA (ni u (aw u) m (aH xm))=CV.az ((ni u (aw u) m (aH xm)).map λ n:Nat=>I n) (ni u (aw u) m (aH xm)).length:=rfl;simp only[hnE];generalize hTT:R++CV.a7 4 0 U8.length::replicate ((aw u).is.length-(i+1)) CV.aj=TT at *;apply aq;simp[hC,Tx];refine T.seq (T.cond (b:=true) rfl (T.skip ?_));simp;apply eE;apply aq;simp[hC,Tx,UQ];refine T.rx af follows [0,1,2,3,4,5,6,7,8,9,10,11,12,13] [(3,11)] Bw ?_;simp[hC,Jz,hrow,UJ,hdE];refine RX.call rfl rfl rfl rfl rfl Yc Wa ?_;simp[Tx,Ys,Tg];apply aM;simp[hC,Zb];rw[jW hputb,<- hTT];refine⟨U8.length-(pc+1),yA,aa.trim [37,36,35,9,24,23,22,8,7] [4,3,2] 5 (by simp[-all_eq_true,ai tR0,ai tRN,ai trB2]) yA ⟨pc+1,rfl,yA,?_⟩⟩;simp[vu,vr,bR,dQ,Ul,hR,hnE]
    .have XD:pc=U8.length:=by omega
     subst XD;have VJ:=jY br;rw[XM,<- ZO] at VJ;have tB1:=aC br;rw[VJ] at Tg |-;have hbn:CV.az (map (λ n:Nat=>I n) br) U8.length=aA br:=by simp only[aA];rw[XM,ZO]
     apply aq;simp[hC];refine T.seq (T.cond (b:=false) rfl (T.exit ?_));simp;refine T.le (Le.di (o:=4) rfl tB1) ?_;have SE:take U8.length (map (λ n:Nat=>I n) br)=map (λ n:Nat=>I n) br:=take_of_length_le yBh;simp[fU,SE,hbn,aN tR0,aN tRN];apply aM;simp[hC,wi];have hap2:R++aA br::replicate ((aw u).is.length-(i+1)) CV.aj=(t.take (i+1)).map aA++replicate ((aw u).is.length-(i+1)) CV.aj:=by
      rw[<- Vz,append_assoc];rfl
     rw[hap2];have tR1:=ct (t.take (i+1));rw[map_take] at tR1;refine⟨(aw u).is.length-(i+1),yA,aa.trim [24,23,22,8,7] [3,2] 4 (by simp[-all_eq_true,ai tR1,ai tRN,bG _ _ (aE _)]) yA ⟨i+1,rfl,yA,?_⟩⟩;simp[vu,vr,bR,dQ,Ul]
  .have Rz:i=(aw u).is.length:=by omega
   subst Rz;have Xx:take (aw u).is.length t=t:=take_of_length_le yA;rw[Xx];apply aq;simp[hC];refine T.seq (T.cond (b:=false) rfl (T.exit ?_));simp;apply aq;simp[hC];apply T.ret;refine aa.le (Le.di (o:=3) rfl (ct t)) ?_;apply aa.here;have SE:take (aw u).is.length (t.map aA)=t.map aA:=take_of_length_le yBh;simp[Tryz.results61,SE,UE]
theorem Cr (u:Un)(c:Cl)(m d:Nat):ae prog 24 [cf u,ib c,I m,.agg (DD d [])] (.bool true):=by
 refine ae.aD af Tryz.func24 rfl Bw (by simp[Tryz.ntmps24]) rfl λ C hC M0=>?_;rw[Tryz.ntmps24] at hC;simp only[cf,dk,ib,DD]
 repeat first
  | apply T.seq
  | (apply aM;simp[hC])
  | (refine bg ?_;simp)
  | (refine du ?_;simp)
  | (apply T.skip;simp)
  | apply T.block
 apply T.ret;apply aa.here;simp[Tryz.results24]
theorem Ge {u:Un}(hu:gg u){m:Nat}{xm:Mx}(hm:u.ms[m]? = some xm)(d:Nat)(l:List (Nat×Nat))(hl:l.length<=1000000)(i pc:Nat){x:Is}(hx:(aw u).is[i]? = some x)(gQ:pc<(ay u x).length) :
  ae prog 24 [cf u,ib (aw u),I m,.agg (DD d (l++[(i,pc)]))] (.bool (decide (d<=8) && (lU (aH xm) (Be u (aw u) m (aH xm) i pc)).testBit d)):=by
 have Y5:=EO hu hm;have h8:=ig xm;have P1:lU (aH xm) (Be u (aw u) m (aH xm) i pc)<2 ^ 63:=GB h8 (pt _ _);have hha:=Ng (lU (aH xm) (Be u (aw u) m (aH xm) i pc)) d P1;have hg1:=Hb (u:=u) (c:=aw u) (m:=m) (L:=aH xm) hx;have WE:=dV (Hc (u:=u) (c:=aw u) (m:=m) (L:=aH xm) (i:=i) gQ);have Ym:=DH u (aw u) m (aH xm);have hrl:(yp u (aw u) m (aH xm) i x).length=(ay u x).length:=by simp[yp]
 have hixl:=(List.getElem?_eq_some_iff.1 hx).1;have Tz:=lh aA hg1;have Jz:i<(DI u (aw u) m (aH xm)).length:=by omega
 have Tx:pc<(yp u (aw u) m (aH xm) i x).length:=by omega
 generalize yp u (aw u) m (aH xm) i x=row at hg1 WE Tz Tx hrl;generalize DI u (aw u) m (aH xm)=TT at Y5 hg1 Tz Jz Ym;simp only[bR,aA] at Y5 Tz;have MY:trees [cf u,ib (aw u),I m]=true:=by simp only[trees,tree,cf,ib,bm,fI,Bool.and_self]
 have hd:=aL (f:=yI) (n:=2) AH (show (l++[(i,pc)])[l.length]? = some (i,pc) by simp);have w1:=cr (l.length:Int) yA yA;have w2:(l.length:Int)<(l.length:Int)+1:=by omega
 have hz:(((l.length:Int)+1) == 0)=false:=by rw[beq_eq_false_iff_ne];omega
 refine ae.aD af Tryz.func24 rfl Bw (by simp[Tryz.ntmps24]) rfl λ C hC M0=>?_;rw[Tryz.ntmps24] at hC;simp only[cf,dk,ib,DD] at *;simp only[length_append,length_singleton] at hd |-;generalize (l++[(i,pc)]).flatMap yI=Q at hd |-
 repeat first
  | apply T.seq
  | (apply aM;simp[hC,hz,w1,w2,hd,yI])
  | (refine T.cond (b:=false) ?_ ?_;(first | rfl | (simp[ev,assoc,hz,w1,w2,hd,yI];done));simp)
  | (refine T.cond (b:=true) ?_ ?_;(first | rfl | (simp[ev,assoc,hz,w1,w2,hd,yI];done));simp)
  | (apply T.skip;simp)
  | apply T.block
 refine T.rx af follows [0,1,2,4,5,8,9,12,13,3,6,7,10,11,14,15] [(5,3),(9,3),(13,3)] Bw ?_;simp[hC];refine RX.call rfl xr rfl rfl rfl MY Y5 ?_;simp[Jz,Tz,Tx,WE];refine RX.call rfl xr rfl rfl rfl SD (hha) ?_;simp;apply T.ret;apply aa.here;simp[Tryz.results24]
def Ss (s:Sy):Prop:=∀ h∈s.tb,h.o<=s.ts.length/\(h.o=0->h.d=0)
def DV (i:Nat)(a b:List Ho):Prop:=∀ (j:Nat) (h h':Ho),a[j]? = some h->b[j]? = some h'->(h.o=i+1\/h'.o=i+1)->h=h'
theorem DV.refl (i:Nat)(a:List Ho):DV i a a:=λ j h h' h1 h2 _=>by rw[h1] at h2;cases h2;rfl
theorem oa (m i:Nat):∀ (os:List Nat) (a b:List Ho),a.length=b.length->DV i a b->fe m i os b=fe m i os a
 | [],a,b,_,_=>by cases a<;>cases b<;>rfl
 | o::os,[],[],_,_=>rfl
 | o::os,[],_::_,h,_=>by simp at h
 | o::os,_::_,[],h,_=>by simp at h
 | o::os,x::a,y::b,h,ht=>by
  have h1:=oa m i os a b UA λ j p q hp hq hd=>ht (j+1) p q (by simpa using hp) (by simpa using hq) hd;have h2:=ht 0 x y rfl rfl;simp only[fe,h1];by_cases hd:x.o=i+1\/y.o=i+1
  .rw[h2 hd]
  .have hx:x.o≠i+1:=λ e=>hd (.inl e);have hy:y.o≠i+1:=λ e=>hd (.inr e);rw[if_neg (λ e=>hy e.2),if_neg (λ e=>hx e.2)]
theorem pD (m i:Nat):∀ (os:List Nat) (a:List Ho),(∀ h∈a,h.o<=i)->fe m i os a=0
 | [],a,_=>by cases a<;>rfl
 | o::os,[],_=>rfl
 | o::os,x::a,h=>by
  have h1:=h x mem_cons_self;simp only[fe,pD m i os a λ y hy=>h y (mem_cons_of_mem _ hy)];rw[if_neg (λ e=>by omega)]
theorem DV.set {i:Nat}{a:List Ho}{e:Nat}{x y:Ho}(he:a[e]? = some x)(hx:x.o≠i+1)(hy:y.o≠i+1):DV i a (a.set e y):=λ j h h' h1 h2 hd=>by
 by_cases hj:e=j
 .subst hj;rw[he] at h1;cases h1;rw[getElem?_set_self (List.getElem?_eq_some_iff.1 he).1] at h2;cases h2;rcases hd with hd | hd
  .exact (hx hd).elim
  .exact (hy hd).elim
 .rw[getElem?_set_ne hj,h1] at h2;cases h2;rfl
theorem NJ (ms:List Mx)(tb:List Ho)(e th:Nat):(fM ms tb e th).1.length=tb.length/\(∀ i,i≠th->DV i tb (fM ms tb e th).1)/\∀ h∈(fM ms tb e th).1,h∈tb\/h.o=th+1:=by
 unfold fM;split
 .rename_i hf;refine⟨by simp,λ i hi=>?_,λ h hh=>?_⟩
  .unfold xW at hf;split at hf
   .rename_i m h hm hh;rw[hh];refine DV.set hh (λ TQ=>?_) yBx;rw[TQ] at hf;simp at hf;omega
   .cases hf
  .rcases mem_or_eq_of_mem_set hh with hh | hh
   .exact .inl hh
   .exact .inr (by rw[hh])
 .exact⟨rfl,λ i _=>DV.refl i tb,λ h hh=>.inl hh⟩
theorem Hp (ms:List Mx)(tb:List Ho)(e th:Nat):(dt ms tb e th).1.length=tb.length/\(∀ i,i≠th->DV i tb (dt ms tb e th).1)/\∀ h∈(dt ms tb e th).1,h∈tb\/h.o=th+1\/(h.o=0/\h.d=0):=by
 unfold dt;split
 .rename_i h hm hh;split
  .rename_i ho;refine⟨by simp,λ i hi=>DV.set hh yA ?_,λ x hx=>?_⟩
   .split
    .simp only;omega
    .simp only;omega
   .rcases mem_or_eq_of_mem_set hx with hx | hx
    .exact .inl hx
    .rw[hx];split
     .exact .inr (.inr ⟨rfl,rfl⟩)
     .exact .inr (.inl rfl)
  .exact⟨rfl,λ i _=>DV.refl i tb,λ h hh=>.inl hh⟩
 .exact⟨rfl,λ i _=>DV.refl i tb,λ h hh=>.inl hh⟩
structure ua (u:Un)(t:Nat)(s s':Sy):Prop where
 tbl:s'.tb.length=s.tb.length
 tb:∀ i,i≠t->DV i s.tb s'.tb
 ow:Ss s->Ss s'
 ts:∀ i,i≠t->i<s.ts.length->s'.ts[i]? = s.ts[i]?
 len:s.ts.length<=s'.ts.length
 new:∀ i l,s.ts.length<=i->s'.ts[i]? = some l->i=s.ts.length/\t<s.ts.length/\∃ g:Fr,l=[g]/\g.pc=0/\gv u.ms g∈(aw u).is/\eC (aw u).is (gv u.ms g)∈(aw u).roots
theorem ua.same (u:Un)(t:Nat)(s:Sy){gs:List Int}{fa:Nat}:ua u t s ⟨gs,s.tb,s.ts,fa⟩:=
 ⟨rfl,λ i _=>DV.refl i _,λ h=>h,λ _ _ _=>rfl,Nat.le_refl _,λ i l hi h=>by
  have:=(List.getElem?_eq_some_iff.1 h).1;simp only at this;omega⟩
theorem ua.set (u:Un){t:Nat}{s:Sy}{gs:List Int}{tb:List Ho}{l:List Fr}{fa:Nat}(h1:tb.length=s.tb.length)(h2:∀ i,i≠t->DV i s.tb tb)(h3:∀ h∈tb,h∈s.tb\/h.o=t+1\/(h.o=0/\h.d=0))(ht:t<s.ts.length):ua u t s ⟨gs,tb,s.ts.set t l,fa⟩:=
 ⟨h1,h2,λ h x hx=>by
  simp only[length_set];rcases h3 x hx with h4 | h4 | h4
  .exact h x h4
  .exact⟨yA,λ h5=>by omega⟩
  .exact⟨yA,λ _=>h4.2⟩,λ i hi _=>by simp only;rw[getElem?_set_ne yA],by simp,λ i l hi h=>by
  have:=(List.getElem?_eq_some_iff.1 h).1;simp only[length_set] at this;omega⟩
theorem ua.Ev (u:Un){t:Nat}{s:Sy}{gs:List Int}{l:List Fr}{fa:Nat}(ht:t<s.ts.length):ua u t s ⟨gs,s.tb,s.ts.set t l,fa⟩:=
 ua.set u rfl (λ i _=>DV.refl i _) (λ _ h=>.inl h) ht
theorem MN {u:Un}(hu:gg u){k:Nat}{s:Sy}(hs:pK u k s){t:Nat}{l0:List Fr}{f:Fr}(hl:s.ts[t]? = some (l0++[f]))(ht:eX s t=some f){q:Pr}(hq:u.ps[f.proc]? = some q){i:In}(hi:q.code[f.pc]? = some i):ua u t s (fj u s t l0 f i).1:=by
 have SM:=(List.getElem?_eq_some_iff.1 hl).1
 cases i with
 | set k' gl e=>
  simp only[fj,OO];split
  .split
   .exact ua.Ev u SM
   .exact ua.Ev u SM
  .exact ua.same u t s
 | branch g e=>
  simp only[fj,Pp];split
  .exact ua.Ev u SM
  .exact ua.same u t s
 | jump g=>exact ua.Ev u SM
 | ret=>exact ua.Ev u SM
 | lock un p=>
  simp only[fj];split
  .simp only[OL];split
   .split
    .have⟨a,b,c⟩:=Hp u.ms s.tb (bV u s t p).1.toNat t;exact ua.set u a b c SM
    .exact ua.same u t s
   .exact ua.same u t s
  .simp only[OY];split
   .split
    .have⟨a,b,c⟩:=NJ u.ms s.tb (bV u s t p).1.toNat t;exact ua.set u a b (λ h hh=>(c h hh).imp id .inl) SM
    .exact ua.same u t s
   .exact ua.same u t s
 | call go tg es ps=>
  have hsv:=F0 hu hs hl ht hq hi;simp only[fj] at hsv |-;split
  .rename_i X2;rw[if_pos X2] at hsv;simp only[O8] at hsv |-;split
   .rename_i h0;rw[if_pos h0] at hsv;split
    .exact ua.same u t s
    .rename_i h32;rw[if_neg h32] at hsv;have hb:=ua.Ev u (s:=s) (gs:=s.gs) (l:=l0++[{ f with pc:=f.pc+1 }]) (fa:=s.fault) SM;refine⟨rfl,λ i _=>DV.refl i _,λ h x hx=>?_,λ i hi Jz=>?_,by simp,λ i l TQ h=>?_⟩
     .have:=h x hx;simp only[length_append,length_set,length_singleton];exact⟨yA,this.2⟩
     .simp only;rw[getElem?_append_left (by rw[length_set];exact Jz),getElem?_set_ne yA]
     .have P1:=(List.getElem?_eq_some_iff.1 h).1;simp only[length_append,length_set,length_singleton] at P1;have Rz:i=s.ts.length:=by omega
      subst Rz;simp only at h;rw[getElem?_append_right xr] at h;simp only[length_set,Nat.sub_self,getElem?_cons_zero,Option.some.injEq] at h;subst h;have hic:=(hsv.fr [(ny u s t f tg (uI u tg) es ps).1] xr _ (mem_singleton.2 rfl)).ic;refine⟨rfl,SM,_,rfl,?_,hic,?_⟩
      .unfold ny;split
       .split<;>rfl
       .rfl
      .have⟨o1,o2,o3,o4⟩:=hs.gH hl;obtain⟨q',UH,gQ,W0,SK⟩:=o2.q;rw[hq] at UH;cases UH;have Uw:=(hu.pc q (mem_of_getElem? hq)).2 _ (mem_of_getElem? hi);rw[<- hs.gs,<- W0,<- SK] at Uw;obtain⟨c1,c2,c3⟩:=Uw;have hci:=qh hu;rw[hci.root];right;obtain⟨j,hj⟩:=mem_iff_getElem?.1 o2.ic;refine⟨j,_,(List.getElem?_eq_some_iff.1 hj).1,hj,.call go tg es ps,?_,X2,?_⟩
       .simp only[ay,gv,hq];exact mem_of_getElem? hi
       .unfold ny at h0 |-;split
        .rename_i h1;rw[if_pos h1] at h0;split
         .rename_i h2;have⟨k1,k2⟩:=n7 hu ht o2 ps c3 h2;refine⟨_,rfl,?_⟩;simp only[gv,k2]
         .rename_i h2;rw[if_neg h2] at h0;exact (h2 h0).elim
        .rename_i h1;rw[if_neg h1] at h0;exact (h1 h0).elim
   .exact ua.same u t s
  .simp only[Po];split
   .exact ua.Ev u SM
   .exact ua.same u t s
theorem FZ {u:Un}(hu:gg u){k:Nat}{s:Sy}(hs:pK u k s)(t:Int):ua u t.toNat s (gr u s t).1:=by
 unfold gr;split
 .exact ua.same u _ s (gs:=s.gs) (fa:=s.fault)
 .rename_i f hf;split
  .exact ua.same u _ s (gs:=s.gs) (fa:=s.fault)
  .rename_i i hi;obtain⟨n,l0,rfl,hl,_,hd⟩:=nH hf;obtain⟨q,hq,gQ,_,_⟩:=(hs.gH hl).2.1.q;simp only[j8,hf,hq] at hi;rw[Int.toNat_natCast,hd];exact MN hu hs hl hf hq hi
theorem Qz (u:Un):Ss (qv u):=λ h hh=>by
 have:=eq_of_mem_replicate hh;rw[this];exact⟨Nat.zero_le _,λ _=>rfl⟩
end Go.Proofs.YtlkmbdfhdknlgaaGreat
