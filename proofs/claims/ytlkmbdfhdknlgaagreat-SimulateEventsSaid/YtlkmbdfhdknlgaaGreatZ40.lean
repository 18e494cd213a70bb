/- The rounds that find the l -/
import Derived.Test.YtlkmbdfhdknlgaaGreatZ39
namespace Go.aJ
open Go.Can List
def kq (c:Cl)(L m:Nat)(sm:List (List Nat))(i:Nat)(x:Is)(z:In)(pc:Nat):List Nat:=if eI z=true then sm.getD (er c i pc) [] else vk L (eT x m z)
structure InH (u:Un)(c:Cl)(L i:Nat)(x:Is)(sm:List (List Nat)):Prop where
 hx:c.is[i]? = some x
 L8:L<=8
 sm:vz L c.is.length sm
 nx:∀ pc z,(ay u x)[pc]? = some z->∀ q∈gG z pc,q<(ay u x).length
 kal:∀ pc z,(ay u x)[pc]? = some z->eI z=true->er c i pc<c.is.length
 pos:0<(ay u x).length
def BV (sm:List (List Nat))(k d e:Nat):Prop:=fW sm k d e=true
def BK (t:List (List Nat))(q:Nat)(a:List Nat):List (List Nat):=if CS a (t.getD q [])=true then t else t.set q (oz (t.getD q []) a)
theorem IQ {t:List (List Nat)}{q:Nat}{a:List Nat}(h:CS a (t.getD q [])=true):BK t q a=t:=if_pos h
theorem BJ {t:List (List Nat)}{q:Nat}{a:List Nat}(h:¬ CS a (t.getD q [])=true):BK t q a=t.set q (oz (t.getD q []) a):=if_neg h
structure GZ (u:Un)(c:Cl)(L m i:Nat)(x:Is)(sm:List (List Nat))(t:List (List Nat)):Prop where
 wf:vz L (ay u x).length t
 sound:∀ pc d e,fW t pc d e=true->Ri u c m L (BV sm) i pc d e
 base:∀ d,d<=L->fW t 0 d d=true
def Ld (u:Un)(c:Cl)(L m i:Nat)(x:Is)(sm t:List (List Nat))(pc:Nat):Prop:=∀ z,(ay u x)[pc]? = some z->∀ q∈gG z pc,CS (xQ (t.getD pc []) (kq c L m sm i x z pc)) (t.getD q [])=true
section
variable {u:Un}{c:Cl}{L m i:Nat}{x:Is}{sm:List (List Nat)}(H:InH u c L i x sm)
include H
theorem vC {pc:Nat}{z:In}(hz:(ay u x)[pc]? = some z):sW L (kq c L m sm i x z pc):=by
 unfold kq;split
 ·rename_i h;obtain⟨r,hr,hw⟩:=H.sm.get (H.kal pc z hz h);rw[getD_eq_getElem?_getD,hr];exact hw
 ·exact Jh L _
theorem FE {pc d e e':Nat}{z:In}(hz:(ay u x)[pc]? = some z){q:Nat}(hq:q∈gG z pc)(h:Ri u c m L (BV sm) i pc d e)(hb:bH (kq c L m sm i x z pc) e e'=true):Ri u c m L (BV sm) i q d e':=by
 have hl:=pX (vC H (m:=m) hz) hb;unfold kq at hb;split at hb
 ·rename_i hc;have VL:q=pc+1:=by
   cases z with
   | call g t l ps=>simpa [gG] using hq
   | _=>simp[eI] at hc
  rw[VL];exact .call h H.hx hz hc hb hl.2
 ·rename_i hc;have:=(vF L _ e e').1 hb;exact .step h H.hx hz (by simpa using hc) this.2.2 hl.2 hq
theorem KG {t:List (List Nat)}(ht:vz L (ay u x).length t){p:Nat}(hp:p<(ay u x).length):sW L (t.getD p [])/\t[p]? = some (t.getD p []):=by
 have _:=H;obtain⟨r,hr,hw⟩:=ht.get hp;rw[getD_eq_getElem?_getD,hr];exact⟨hw,rfl⟩
theorem GZ.fin {t:List (List Nat)}(h:GZ u c L m i x sm t)(hc:∀ pc,pc<(ay u x).length->Ld u c L m i x sm t pc):t=ru L (ay u x).length (Ri u c m L (BV sm) i):=by
 refine FD h.wf λ pc d e h1 h2 h3=>⟨h.sound pc d e,λ hr=>?_⟩;clear h1 h2 h3;have key:∀ {pc q d e e':Nat} {z:In},fW t pc d e=true->(ay u x)[pc]? = some z->q∈gG z pc->bH (kq c L m sm i x z pc) e e'=true->fW t q d e'=true:=by
  intro pc q d e e' z h1 hz hq hb;have hp:=(List.getElem?_eq_some_iff.1 hz).1;have Ux:=H.nx pc z hz q hq;obtain⟨w1,g1⟩:=KG H h.wf hp;obtain⟨w2,g2⟩:=KG H h.wf Ux;have h2:=hc pc hp z hz q hq;rw[vM (by rw[(E7 w1 (vC H hz)).len,w2.len])] at h2;exact h2 d e' ((Bf _ _ d e').2 ⟨e,h1,hb⟩)
 induction hr with
 | base hd=>exact h.base _ hd
 | step So hx hz WM he hl hq ih=>
  rw[H.hx] at hx;cases hx;refine key ih hz hq ?_;unfold kq;rw[if_neg (by simp[WM])];exact (vF L _ _ _).2 ⟨(So.le).2,hl,he⟩
 | call So hx hz WM hs hl ih=>
  rw[H.hx] at hx;cases hx;refine key ih hz (q:=_+1) ?_ ?_
  ·rename_i z
   cases z with
   | call g t l ps=>simp[gG]
   | _=>simp[eI] at WM
  ·unfold kq;rw[if_pos WM];exact hs
theorem GZ.start:GZ u c L m i x sm ((replicate (ay u x).length (vg L)).set 0 (vk L 0)):=by
 have hp:=H.pos;have hw:vz L (ay u x).length (replicate (ay u x).length (vg L)):=⟨by simp,λ r hr=>by rw[eq_of_mem_replicate hr];exact DS L⟩;have hb:∀ pc d e,fW (replicate (ay u x).length (vg L)) pc d e=false:=λ pc d e=>by
  unfold fW;rw[getD_eq_getElem?_getD,getElem?_replicate];split
  ·exact zV L d e
  ·simp[bH]
 refine⟨hw.set (Jh L 0),λ pc d e h=>?_,λ d hd=>?_⟩
 ·rw[sK (by simpa using hp)] at h;split at h
  ·rename_i h2;subst h2;have:=(vF L 0 d e).1 h;have he:e=d:=by omega
   subst he;exact .base this.1
  ·rw[hb] at h;cases h
 ·rw[sK (by simpa using hp),if_pos rfl];exact (vF L 0 d d).2 ⟨hd,hd,by omega⟩
theorem LX {t:List (List Nat)}(h:GZ u c L m i x sm t){q:Nat}(hq:q<(ay u x).length){a:List Nat}(ha:sW L a)(hs:∀ d e,bH a d e=true->Ri u c m L (BV sm) i q d e) :
  GZ u c L m i x sm (BK t q a)/\CS a ((BK t q a).getD q [])=true/\(∀ p d e,fW t p d e=true->fW (BK t q a) p d e=true)/\(∀ p,p≠q->(BK t q a).getD p []=t.getD p [])/\(CS a (t.getD q [])=true->BK t q a=t)/\(CS a (t.getD q [])=false->e9 t<e9 (BK t q a)):=by
 obtain⟨w,g⟩:=KG H h.wf hq;have hlen:a.length=(t.getD q []).length:=by rw[ha.len,w.len]
 by_cases R4:CS a (t.getD q [])=true
 ·rw[IQ R4];exact⟨h,R4,λ _ _ _ h=>h,λ _ _=>rfl,λ _=>rfl,λ h=>by rw[R4] at h;cases h⟩
 ·rw[BJ R4];have hu:=D1 w ha;have hub:=z6 (a:=t.getD q []) (b:=a) hlen.symm;have Si:q<t.length:=by rw[h.wf.len];exact hq
  have hqd:(t.set q (oz (t.getD q []) a)).getD q []=oz (t.getD q []) a:=by
   rw[getD_eq_getElem?_getD,getElem?_set,if_pos rfl,if_pos Si];rfl
  have VQ:∀ p d e,fW t p d e=true->fW (t.set q (oz (t.getD q []) a)) p d e=true:=λ p d e hb=>by
   rw[sK Si];split
   ·rename_i hp;subst hp;rw[hub,show bH (t.getD p []) d e=true from hb];rfl
   ·exact hb
  refine⟨⟨h.wf.set hu,λ p d e hb=>?_,λ d hd=>VQ 0 d d (h.base d hd)⟩,?_,VQ,λ p hp=>?_,λ h=>(R4 h).elim,λ _=>?_⟩
  ·rw[sK Si] at hb;split at hb
   ·rename_i hp;subst hp;rw[hub,Bool.or_eq_true] at hb;rcases hb with hb | hb
    ·exact h.sound p d e hb
    ·exact hs d e hb
   ·exact h.sound p d e hb
  ·rw[hqd,vM (by rw[ha.len,hu.len])];intro d e hb;rw[hub,hb,Bool.or_true]
  ·rw[getD_eq_getElem?_getD,getElem?_set_ne (λ e=>hp e.symm),getD_eq_getElem?_getD]
  ·have h1:=zN t q (t.getD q []) (oz (t.getD q []) a) g;have h2:dw (t.getD q [])<dw (oz (t.getD q []) a):=by
    have Sb:¬ ∀ d e,bH a d e=true->bH (t.getD q []) d e=true:=λ hh=>by
     exact R4 ((vM hlen).2 hh)
    have hex:∃ d e,bH a d e=true/\bH (t.getD q []) d e=false:=by
     refine Classical.byContradiction λ hc=>Sb λ d e hb=>?_
     cases TG:bH (t.getD q []) d e with
     | true=>rfl
     | false=>exact (hc ⟨d,e,hb,TG⟩).elim
    obtain⟨d,e,hb,TG⟩:=hex;have hle:=(pX ha hb).2;have:=H.L8;exact xZ _ _ (by rw[w.len,hu.len]) (λ d e hb=>by rw[hub,hb];rfl) ⟨d,e,by omega,TG,by rw[hub,hb,Bool.or_true]⟩
   omega
structure InP (u:Un)(c:Cl)(L m i:Nat)(x:Is)(sm:List (List Nat))(t:List (List Nat))(td:List Nat):Prop where
 A:GZ u c L m i x sm t
 val:∀ p∈td,p<(ay u x).length
 GJ:∀ p,p<(ay u x).length->p∈td\/Ld u c L m i x sm t p
theorem InP.fin {t:List (List Nat)}(h:InP u c L m i x sm t []):t=ru L (ay u x).length (Ri u c m L (BV sm) i):=
 h.A.fin H λ p hp=>by
  rcases h.GJ p hp with h1 | h1
  ·cases h1
  ·exact h1
end
def uO (a:List Nat):List Nat->List (List Nat)×Bool->List (List Nat)×Bool
 | [],s=>s
 | q::r,s=>uO a r (if CS a (s.1.getD q [])=true then s else (s.1.set q (oz (s.1.getD q []) a),true))
theorem Ac (a:List Nat):∀ (l:List Nat) (q:Nat) (s:List (List Nat)×Bool),uO a (l++[q]) s=(if CS a ((uO a l s).1.getD q [])=true then uO a l s else ((uO a l s).1.set q (oz ((uO a l s).1.getD q []) a),true))
 | [],q,s=>by
  simp only[nil_append,uO];rfl
 | x::l,q,s=>by
  simp only[cons_append,uO];exact Ac a l q _
def jE (u:Un)(c:Cl)(L m i:Nat)(x:Is)(sm t0:List (List Nat)):Nat->List (List Nat)×Bool
 | 0=>(t0,false)
 | pc+1=>match (ay u x)[pc]? with
  | none=>jE u c L m i x sm t0 pc
  | some z=>uO (xQ ((jE u c L m i x sm t0 pc).1.getD pc []) (kq c L m sm i x z pc)) (gG z pc) (jE u c L m i x sm t0 pc)
structure SwI (u:Un)(c:Cl)(L m i:Nat)(x:Is)(sm t0:List (List Nat))(s:List (List Nat)×Bool):Prop where
 A:GZ u c L m i x sm s.1
 same:s.2=false->s.1=t0
 le:e9 t0<=e9 s.1
 lt:s.2=true->e9 t0<e9 s.1
section
variable {u:Un}{c:Cl}{L m i:Nat}{x:Is}{sm:List (List Nat)}(H:InH u c L i x sm)
include H
theorem I3 {t0:List (List Nat)}{a:List Nat}(ha:sW L a){s:List (List Nat)×Bool}(h0:SwI u c L m i x sm t0 s):∀ (qs:List Nat),(∀ q∈qs,q<(ay u x).length/\∀ d e,bH a d e=true->Ri u c m L (BV sm) i q d e)->∀ n,n<=qs.length->SwI u c L m i x sm t0 (uO a (qs.take n) s)/\((uO a (qs.take n) s).2=false->s.2=false/\∀ q∈qs.take n,CS a (t0.getD q [])=true):=by
 intro qs hqs n
 induction n with
 | zero=>intro _;exact⟨h0,λ h=>⟨h,λ q hq=>by simp at hq⟩⟩
 | succ n ih=>
  intro hn;obtain⟨hI,hd⟩:=ih yA;obtain⟨q,YG⟩:∃ q,qs[n]? = some q:=⟨_,getElem?_eq_getElem yA⟩;obtain⟨hq,hs⟩:=hqs q (mem_of_getElem? YG);have R3:qs.take (n+1)=qs.take n++[q]:=by rw[take_add_one,YG];rfl
  rw[R3];generalize qs.take n=l at hI hd |-;rw[Ac];generalize uO a l s=s' at hI hd |-;obtain⟨t,ag⟩:=s';simp only at hI hd |-;obtain⟨k1,k2,k3,k4,k5,k6⟩:=LX H hI.A hq ha hs;by_cases R4:CS a (t.getD q [])=true
  ·rw[if_pos R4];refine⟨hI,λ h=>?_⟩;obtain⟨h1,h2⟩:=hd h;refine⟨h1,λ p hp=>?_⟩;rcases mem_append.1 hp with hp | hp
   ·exact h2 p hp
   ·rw[mem_singleton.1 hp,<- hI.same h];exact R4
  ·rw[if_neg R4];rw[BJ R4] at k1 k6;have hb:e9 t<_:=k6 (by simpa using R4);have hle:e9 t0<=e9 t:=hI.le;exact⟨⟨k1,(λ h=>by cases h),by simp only;omega,λ _=>by simp only;omega⟩,λ h=>by cases h⟩
theorem Ab {t0:List (List Nat)}(h0:GZ u c L m i x sm t0):∀ k,k<=(ay u x).length->SwI u c L m i x sm t0 (jE u c L m i x sm t0 k)/\((jE u c L m i x sm t0 k).2=false->∀ p,p<k->Ld u c L m i x sm t0 p)
 | 0,_=>⟨⟨h0,λ _=>rfl,Nat.le_refl _,λ h=>by cases h⟩,λ _ p hp=>by omega⟩
 | k+1,hk=>by
  obtain⟨hI,hd⟩:=Ab h0 k yA;obtain⟨z,hz⟩:∃ z,(ay u x)[k]? = some z:=⟨_,getElem?_eq_getElem yA⟩;simp only[jE,hz];obtain⟨w,g⟩:=KG H hI.A.wf (show k<_ by omega);have ha:=E7 w (vC H (m:=m) hz);obtain⟨k1,k2⟩:=I3 H ha hI (gG z k) (λ q hq=>⟨H.nx k z hz q hq,λ d e hb=>by
   obtain⟨y,y1,y2⟩:=(Bf _ _ d e).1 hb;exact FE H hz hq (hI.A.sound k d y y1) y2⟩) (gG z k).length (Nat.le_refl _)
  rw[take_length] at k1 k2;refine⟨k1,λ h p hp=>?_⟩;obtain⟨k3,k4⟩:=k2 h;by_cases U7:p=k
  ·subst U7;intro z' U4 q hq;rw[hz] at U4;cases U4;have hs:=hI.same k3;have:=k4 q hq;rw[hs] at this;exact this
  ·exact hd k3 p yA
theorem Ma {t0:List (List Nat)}(h0:GZ u c L m i x sm t0)(h:(jE u c L m i x sm t0 (ay u x).length).2=false):t0=ru L (ay u x).length (Ri u c m L (BV sm) i):=
 h0.fin H ((Ab H h0 _ (Nat.le_refl _)).2 h)
theorem O4 {a b:List Nat}(h:a.length=b.length):oz b a=b↔CS a b=true:=by
 have _:=H;rw[vM h];constructor
 ·intro he d e hb;rw[<- he,z6 h.symm,hb,Bool.or_true]
 ·intro hs;refine ext_getElem? λ d=>?_;rw[oz,getElem?_zipWith];by_cases hd:d<b.length
  ·rw[getElem?_eq_getElem hd,getElem?_eq_getElem yA];simp only;congr 1;refine Nat.eq_of_testBit_eq λ e=>?_;rw[Nat.testBit_or];have h1:=hs d e;simp only[bH,getD_eq_getElem?_getD,getElem?_eq_getElem hd,getElem?_eq_getElem (show d<a.length by omega),Option.getD_some] at h1;cases hx:(b[d]).testBit e<;>cases hy:(a[d]'yA).testBit e<;>simp_all
  ·rw[getElem?_eq_none yA,getElem?_eq_none yA]
end
section
variable {u:Un}{c:Cl}{m L:Nat}
noncomputable def exR (u:Un) (c:Cl) (m L:Nat) (sm:List (List Nat)) (i:Nat):List Nat:=vo L (LF u c m L (BV sm) i)
noncomputable def tw (u:Un) (c:Cl) (m L:Nat):List (List Nat):=ru L c.is.length (uJ u c m L)
structure LS (u:Un)(c:Cl)(m L:Nat)(t:List (List Nat)):Prop where
 wf:vz L c.is.length t
 sound:∀ i d e,fW t i d e=true->uJ u c m L i d e
 pre:∀ i d e,fW t i d e=true->LF u c m L (BV t) i d e
theorem LS.start:LS u c m L (replicate c.is.length (vg L)):=by
 have hb:∀ pc d e,fW (replicate c.is.length (vg L)) pc d e=false:=λ pc d e=>by
  unfold fW;rw[getD_eq_getElem?_getD,getElem?_replicate];split
  ·exact zV L d e
  ·simp[bH]
 exact⟨⟨by simp,λ r hr=>by rw[eq_of_mem_replicate hr];exact DS L⟩,(λ i d e h=>by rw[hb] at h;cases h),λ i d e h=>by rw[hb] at h;cases h⟩
theorem AT {S:Nat->Nat->Nat->Prop}{i d e:Nat}(h:LF u c m L S i d e):i<c.is.length/\d<=L/\e<=L:=by
 obtain⟨pc,x,h1,_,h3⟩:=h;exact⟨(List.getElem?_eq_some_iff.1 h1).1,h3.le⟩
theorem LS.fin {t:List (List Nat)}(h:LS u c m L t)(hc:∀ i,i<c.is.length->t.getD i []=exR u c m L t i):t=tw u c m L:=by
 refine FD h.wf λ i d e _ _ _=>⟨h.sound i d e,λ hs=>?_⟩;refine hs.least (S:=BV t) λ i d e he=>?_;obtain⟨h1,h2,h3⟩:=AT he;show bH (t.getD i []) d e=true;rw[hc i h1];exact (kz h2 h3).2 he
end
section
variable {u:Un}{c:Cl}{m L:Nat}
noncomputable def ni (u:Un) (c:Cl) (m L:Nat) (t:List (List Nat)):List (List Nat):=(range c.is.length).map λ i=>exR u c m L t i
theorem An {t:List (List Nat)}{i:Nat}(h:i<c.is.length):(ni u c m L t)[i]? = some (exR u c m L t i):=by
 rw[ni,getElem?_map,getElem?_eq_getElem TK];simp
theorem wM {t:List (List Nat)}{i d e:Nat}:fW (ni u c m L t) i d e=true↔LF u c m L (BV t) i d e:=by
 by_cases hi:i<c.is.length
 ·rw[mU (An hi)];have hw:=pG L (LF u c m L (BV t) i);constructor
  ·intro h;obtain⟨h1,h2⟩:=pX hw h;exact (kz h1 h2).1 h
  ·intro h;obtain⟨_,h1,h2⟩:=AT h;exact (kz h1 h2).2 h
 ·rw[zP (by simp[ni];omega)];constructor
  ·intro h;cases h
  ·intro h;exact (hi (AT h).1).elim
theorem LS.round {t:List (List Nat)}(h:LS u c m L t)(h8:L<=8):LS u c m L (ni u c m L t)/\(t≠ni u c m L t->e9 t<e9 (ni u c m L t))/\(t=ni u c m L t->t=tw u c m L):=by
 have hw:vz L c.is.length (ni u c m L t):=⟨by simp[ni],λ r hr=>by
  simp only[ni,mem_map] at hr;obtain⟨i,_,rfl⟩:=hr;exact pG L _⟩
 have VQ:∀ i d e,fW t i d e=true->fW (ni u c m L t) i d e=true:=λ i d e hb=>wM.2 (h.pre i d e hb);refine⟨⟨hw,λ i d e hb=>Gu.1 ((wM.1 hb).mono λ a b c hx=>h.sound a b c hx),λ i d e hb=>(wM.1 hb).mono λ a b c hx=>VQ a b c hx⟩,λ Sb=>?_,λ he=>?_⟩
 ·have key:∀ (a b:List (List Nat)),a.length=b.length->(∀ r∈a,sW L r)->(∀ r∈b,sW L r)->(∀ i d e,fW a i d e=true->fW b i d e=true)->e9 a<=e9 b/\(a≠b->e9 a<e9 b):=by
   intro a
   induction a with
   | nil=>
    intro b hl _ _ _;have:b=[]:=length_eq_zero_iff.1 hl.symm;subst this;exact⟨Nat.le_refl _,λ h=>(h rfl).elim⟩
   | cons x a ih=>
    intro b hl ha hb hs
    cases b with
    | nil=>simp at hl
    | cons y b=>
     have hx:=ha x mem_cons_self;have hy:=hb y mem_cons_self;have YC:∀ d e,bH x d e=true->bH y d e=true:=λ d e hq=>by simpa [fW] using hs 0 d e (by simpa [fW] using hq)
     obtain⟨i1,i2⟩:=ih b ZC (λ r hr=>ha r (mem_cons_of_mem _ hr)) (λ r hr=>hb r (mem_cons_of_mem _ hr)) λ i d e hq=>by simpa [fW] using hs (i+1) d e (by simpa [fW] using hq)
     have hm:=qR x y (by rw[hx.len,hy.len]) YC;simp only[e9,map_cons,sum_cons] at i1 i2 |-;refine⟨by omega,λ Sb=>?_⟩;by_cases UN:x=y
     ·have:=i2 λ e=>Sb (by rw[UN,e]);omega
     ·have hex:∃ d e,bH x d e=false/\bH y d e=true:=by
       refine Classical.byContradiction λ hc=>UN (Fx hx hy λ d e _ _=>?_)
       cases Vl:bH x d e with
       | true=>rw[YC d e Vl]
       | false=>
        cases TG:bH y d e with
        | true=>exact (hc ⟨d,e,Vl,TG⟩).elim
        | false=>rfl
      obtain⟨d,e,h1,h2⟩:=hex;have:=xZ x y (by rw[hx.len,hy.len]) YC ⟨d,e,by have:=(pX hy h2).2;omega,h1,h2⟩;omega
  exact (key t _ (by rw[h.wf.len,hw.len]) h.wf.row hw.row VQ).2 Sb
 ·refine h.fin λ i hi=>?_;rw[he,getD_eq_getElem?_getD,An hi,<- he];rfl
end
section
variable (u:Un)(c:Cl)(m L:Nat)
noncomputable def fw (i:Nat) (x:Is):List (List Nat):=ru L (ay u x).length (Rr u c m L i)
noncomputable def qL:List Nat:=(range c.is.length).map λ i=>kE L (qu u c m L i)
def iY (E:List Nat)(k s:Nat):List Nat:=E.set k (E.getD k 0 ||| s)
structure G1 (E:List Nat):Prop where
 len:E.length=c.is.length
 lt:∀ s∈E,s<2 ^ (L+1)
 sound:∀ i e,bH E i e=true->qu u c m L i e
 root:∀ r∈c.roots,bH E r 0=true
def Qv (E:List Nat)(i:Nat)(x:Is):Prop:=∀ pc z,(ay u x)[pc]? = some z->eI z=true->∀ e,(DQ ((fw u c m L i x).getD pc []) (E.getD i 0)).testBit e=true->bH E (er c i pc) e=true
structure LG:Prop where
 L8:L<=8
 kal:∀ i x pc z,c.is[i]? = some x->(ay u x)[pc]? = some z->eI z=true->er c i pc<c.is.length
 root:∀ r∈c.roots,r<c.is.length
end
section
variable {u:Un}{c:Cl}{m L:Nat}
theorem Gi {i pc:Nat}{x:Is}(h:pc<(ay u x).length):(fw u c m L i x)[pc]? = some (vo L (Rr u c m L i pc)):=z8 _ h
theorem N5 {i pc d e:Nat}(h:Rr u c m L i pc d e):d<=L/\e<=L:=h.ri.le
theorem Bp {E:List Nat}{i pc e:Nat}{x:Is}(h:pc<(ay u x).length):(DQ ((fw u c m L i x).getD pc []) (E.getD i 0)).testBit e=true↔∃ d,bH E i d=true/\Rr u c m L i pc d e:=by
 have hg:(fw u c m L i x).getD pc []=vo L (Rr u c m L i pc):=by
  rw[getD_eq_getElem?_getD,Gi h];rfl
 rw[GV,hg];constructor
 ·rintro⟨d,h1,h2⟩;obtain⟨h3,h4⟩:=pX (pG L _) h2;exact⟨d,h1,(kz h3 h4).1 h2⟩
 ·rintro⟨d,h1,h2⟩;obtain⟨h3,h4⟩:=N5 h2;exact⟨d,h1,(kz h3 h4).2 h2⟩
theorem Lu {E:List Nat}{i pc:Nat}{x:Is}(h:pc<(ay u x).length):DQ ((fw u c m L i x).getD pc []) (E.getD i 0)<2 ^ (L+1):=by
 rw[getD_eq_getElem?_getD,Gi h];exact Bq _ _ _ (pG L _).lt
theorem KV (H:LG u c L){i e:Nat}(h:qu u c m L i e):i<c.is.length/\e<=L:=by
 cases h with
 | root h=>exact⟨H.root _ h,Nat.zero_le _⟩
 | call _ hr hx hz hc=>exact⟨H.kal _ _ _ _ hx hz hc,(N5 hr).2⟩
theorem G1.fin (_H:LG u c L){E:List Nat}(h:G1 u c m L E)(hc:∀ i x,c.is[i]? = some x->Qv u c m L E i x):E=qL u c m L:=by
 have key:∀ i e,qu u c m L i e->bH E i e=true:=by
  intro i e he
  induction he with
  | root hr=>exact h.root _ hr
  | call _ hr hx hz WM ih=>exact hc _ _ hx _ _ hz WM _ ((Bp (List.getElem?_eq_some_iff.1 hz).1).2 ⟨_,ih,hr⟩)
 refine ext_getElem? λ i=>?_;by_cases hi:i<c.is.length
 ·have h1:i<E.length:=by rw[h.len];exact hi
  rw[getElem?_eq_getElem h1,qL,getElem?_map,getElem?_eq_getElem ZD];simp only[getElem_range,Option.map_some];congr 1;refine Ga (h.lt _ (getElem_mem h1)) λ e _=>?_;have hb:bH E i e=(E[i]).testBit e:=by simp[bH,getD_eq_getElem?_getD,getElem?_eq_getElem h1]
  rw[<- hb];exact⟨h.sound i e,key i e⟩
 ·rw[getElem?_eq_none (by rw[h.len];omega),getElem?_eq_none (by simp[qL];omega)]
theorem qZ {E:List Nat}{k s i e:Nat}(hk:k<E.length):bH (iY E k s) i e=if i=k then (bH E k e || s.testBit e) else bH E i e:=by
 unfold bH iY;rw[getD_eq_getElem?_getD,getElem?_set];by_cases h:k=i
 ·subst h;simp[hk,Nat.testBit_or]
 ·rw[if_neg h,if_neg (λ e=>h e.symm),getD_eq_getElem?_getD]
theorem zO:∀ (t:List Nat) (i a b:Nat),t[i]? = some a->dw (t.set i b)+bits a=dw t+bits b
 | [],i,a,b,h=>by simp at h
 | x::t,0,a,b,h=>by
  simp at h;subst h;simp[dw];omega
 | x::t,i+1,a,b,h=>by
  have:=zO t i a b TK;simp only[dw,set_cons_succ,map_cons,sum_cons] at this |-;omega
theorem FA (h8:L<=8){E:List Nat}(h:G1 u c m L E){k s:Nat}(hk:k<c.is.length)(hs:s<2 ^ (L+1))(XE:∀ e,s.testBit e=true->qu u c m L k e)(Sb:¬ ∀ e,s.testBit e=true->bH E k e=true) :
  G1 u c m L (iY E k s)/\dw E<dw (iY E k s):=by
 have R8:k<E.length:=by rw[h.len];exact hk
 obtain⟨y,hy⟩:∃ y,E[k]? = some y:=⟨_,getElem?_eq_getElem R8⟩;have hyd:E.getD k 0=y:=by rw[getD_eq_getElem?_getD,hy];rfl
 have hyl:=h.lt y (mem_of_getElem? hy);refine⟨⟨by simp[iY,h.len],λ x hx=>?_,λ i e hb=>?_,λ r hr=>?_⟩,?_⟩
 ·unfold iY at hx;rcases mem_or_eq_of_mem_set hx with hx | rfl
  ·exact h.lt x hx
  ·rw[hyd];exact Nat.or_lt_two_pow hyl hs
 ·rw[qZ R8] at hb;split at hb
  ·rename_i hi;subst hi;rw[Bool.or_eq_true] at hb;rcases hb with hb | hb
   ·exact h.sound i e hb
   ·exact XE e hb
  ·exact h.sound i e hb
 ·rw[qZ R8];split
  ·rename_i hi;rw[<- hi,h.root r hr];rfl
  ·exact h.root r hr
 ·have h1:=zO E k y (y ||| s) hy;have h2:bits y<bits (y ||| s):=by
   have hex:∃ e,s.testBit e=true/\bH E k e=false:=by
    refine Classical.byContradiction λ hc=>Sb λ e he=>?_
    cases hb:bH E k e with
    | true=>rfl
    | false=>exact (hc ⟨e,he,hb⟩).elim
   obtain⟨e,he,hb⟩:=hex;have hbe:y.testBit e=false:=by rw[<- hb,bH,hyd]
   have:=Ff hs he;exact GP (λ a ha=>by rw[Nat.testBit_or,ha];rfl) yA hbe (by rw[Nat.testBit_or,he,Bool.or_true])
  unfold iY;rw[hyd];omega
end
section
variable {u:Un}{c:Cl}{m L:Nat}
def oF (t:List (List Nat))(E:List Nat)(i pc:Nat):Nat:=DQ (t.getD pc []) (E.getD i 0)
theorem vJ {s E k:Nat}{l:List Nat}(h:l.getD k 0=E):s ||| E=E↔∀ e,s.testBit e=true->bH l k e=true:=by
 rw[or_self_iff];simp only[bH,h]
structure InE (u:Un)(c:Cl)(m L:Nat)(E td:List Nat):Prop where
 A:G1 u c m L E
 val:∀ p∈td,p<c.is.length
 GJ:∀ p x,c.is[p]? = some x->p∈td\/Qv u c m L E p x
def gM (n:Nat):List Nat->List Nat
 | []=>replicate n 0
 | r::l=>(gM n l).set r 1
theorem mv (n:Nat):∀ l,(gM n l).length=n
 | []=>by simp[gM]
 | r::l=>by simp[gM,mv n l]
theorem tU (n:Nat):∀ (l:List Nat) (i e:Nat),(∀ r∈l,r<n)->(bH (gM n l) i e=true↔i∈l/\e=0)
 | [],i,e,_=>by
  unfold bH gM;rw[getD_eq_getElem?_getD,getElem?_replicate];split<;>simp
 | r::l,i,e,h=>by
  have ih:=tU n l i e λ x hx=>h x (mem_cons_of_mem _ hx);have hr:=h r mem_cons_self;unfold bH at ih |-;rw[gM,getD_eq_getElem?_getD,getElem?_set];by_cases ZZ:r=i
  ·subst ZZ;rw[if_pos rfl,if_pos (by rw[mv];exact hr)];simp only[Option.getD_some,mem_cons,true_or,true_and];rw[show (1:Nat)=2 ^ 0 from rfl,Nat.testBit_two_pow,decide_eq_true_eq];exact eq_comm
  ·rw[if_neg ZZ,<- getD_eq_getElem?_getD,ih,mem_cons];constructor
   ·rintro⟨h1,h2⟩;exact⟨.inr h1,h2⟩
   ·rintro⟨h1 | h1,h2⟩
    ·exact (ZZ h1.symm).elim
    ·exact⟨h1,h2⟩
theorem B3 (n L:Nat):∀ l:List Nat,∀ s∈gM n l,s<2 ^ (L+1)
 | [],s,h=>by rw[eq_of_mem_replicate h];exact Nat.two_pow_pos _
 | r::l,s,h=>by
  rcases mem_or_eq_of_mem_set h with h | rfl
  ·exact B3 n L l s h
  ·have:2 ^ 1<=2 ^ (L+1):=Nat.pow_le_pow_right yA yA;omega
theorem G1.start (H:LG u c L):G1 u c m L (gM c.is.length c.roots):=
 ⟨mv _ _,B3 _ _ _,λ i e h=>by
  obtain⟨h1,rfl⟩:=(tU _ _ i e H.root).1 h;exact .root h1,λ r hr=>(tU _ _ r 0 H.root).2 ⟨hr,rfl⟩⟩
theorem InE.fin (H:LG u c L){E:List Nat}(h:InE u c m L E []):E=qL u c m L:=
 h.A.fin H λ i x hx=>by
  rcases h.GJ i x hx with h1 | h1
  ·cases h1
  ·exact h1
def yx (u:Un)(c:Cl)(t:List (List Nat))(i:Nat)(x:Is):Nat->List Nat×Bool->List Nat×Bool
 | 0,s=>s
 | pc+1,s=>match (ay u x)[pc]? with
  | none=>yx u c t i x pc s
  | some z=>if eI z=true then (if oF t (yx u c t i x pc s).1 i pc ||| (yx u c t i x pc s).1.getD (er c i pc) 0=(yx u c t i x pc s).1.getD (er c i pc) 0 then yx u c t i x pc s
    else (iY (yx u c t i x pc s).1 (er c i pc) (oF t (yx u c t i x pc s).1 i pc),true)) else yx u c t i x pc s
structure EsI (u:Un)(c:Cl)(m L:Nat)(E0:List Nat)(s:List Nat×Bool):Prop where
 A:G1 u c m L s.1
 same:s.2=false->s.1=E0
 le:dw E0<=dw s.1
 lt:s.2=true->dw E0<dw s.1
theorem EV (H:LG u c L){i:Nat}{x:Is}(hx:c.is[i]? = some x){E0:List Nat}{s0:List Nat×Bool}(h0:EsI u c m L E0 s0):∀ k,k<=(ay u x).length->EsI u c m L E0 (yx u c (fw u c m L i x) i x k s0)/\
  ((yx u c (fw u c m L i x) i x k s0).2=false->s0.2=false/\∀ pc z,pc<k->(ay u x)[pc]? = some z->eI z=true->∀ e,(oF (fw u c m L i x) E0 i pc).testBit e=true->bH E0 (er c i pc) e=true)
 | 0,_=>⟨h0,λ h=>⟨h,λ pc z hp=>by omega⟩⟩
 | k+1,hk=>by
  obtain⟨hI,hd⟩:=EV H hx h0 k yA;obtain⟨z,hz⟩:∃ z,(ay u x)[k]? = some z:=⟨_,getElem?_eq_getElem yA⟩;simp only[yx,hz];generalize yx u c (fw u c m L i x) i x k s0=s at hI hd |-;obtain⟨E,ag⟩:=s;simp only at hI hd |-;by_cases hc:eI z=true
  ·rw[if_pos hc];have R8:=H.kal i x k z hx hz hc;have hkn:k<(ay u x).length:=by omega
   by_cases ho:oF (fw u c m L i x) E i k ||| E.getD (er c i k) 0=E.getD (er c i k) 0
   ·rw[if_pos ho];refine⟨hI,λ h=>?_⟩;obtain⟨h1,h2⟩:=hd h;refine⟨h1,λ pc z' hp U4 hc' e he=>?_⟩;by_cases U7:pc=k
    ·subst U7;have hE:E=E0:=hI.same h;rw[hE] at ho;exact (vJ rfl).1 ho e he
    ·exact h2 pc z' yA U4 hc' e he
   ·rw[if_neg ho];have Sb:¬ ∀ e,(oF (fw u c m L i x) E i k).testBit e=true->bH E (er c i k) e=true:=λ h=>ho ((vJ rfl).2 h);obtain⟨k1,k2⟩:=FA H.L8 hI.A R8 (Lu (u:=u) (c:=c) (m:=m) (L:=L) (E:=E) (i:=i) hkn) (λ e he=>by
     obtain⟨d,h1,h2⟩:=(Bp (u:=u) (c:=c) (m:=m) (L:=L) (E:=E) (i:=i) hkn).1 he;exact .call (hI.A.sound i d h1) h2 hx hz hc) Sb
    have hle:dw E0<=dw E:=hI.le;have k3:dw E<dw (iY E (er c i k) (oF (fw u c m L i x) E i k)):=k2;exact⟨⟨k1,(λ h=>by cases h),by simp only;omega,λ _=>by simp only;omega⟩,λ h=>by cases h⟩
  ·rw[if_neg hc];refine⟨hI,λ h=>?_⟩;obtain⟨h1,h2⟩:=hd h;refine⟨h1,λ pc z' hp U4 hc' e he=>?_⟩;by_cases U7:pc=k
   ·subst U7;rw[hz] at U4;cases U4;exact (hc hc').elim
   ·exact h2 pc z' yA U4 hc' e he
noncomputable def qK (u:Un) (c:Cl) (m L:Nat) (E0:List Nat):Nat->List Nat×Bool
 | 0=>(E0,false)
 | i+1=>match c.is[i]? with
  | none=>qK u c m L E0 i
  | some x=>yx u c (fw u c m L i x) i x (ay u x).length (qK u c m L E0 i)
theorem AW (H:LG u c L){E0:List Nat}(h0:G1 u c m L E0):∀ k,k<=c.is.length->EsI u c m L E0 (qK u c m L E0 k)/\((qK u c m L E0 k).2=false->∀ i x,i<k->c.is[i]? = some x->Qv u c m L E0 i x)
 | 0,_=>⟨⟨h0,λ _=>rfl,Nat.le_refl _,λ h=>by cases h⟩,λ _ i x hi=>by omega⟩
 | k+1,hk=>by
  obtain⟨hI,hd⟩:=AW H h0 k yA;obtain⟨x,hx⟩:∃ x,c.is[k]? = some x:=⟨_,getElem?_eq_getElem yA⟩;simp only[qK,hx];obtain⟨k1,k2⟩:=EV H hx hI (ay u x).length (Nat.le_refl _);refine⟨k1,λ h i y hi hy=>?_⟩;obtain⟨k3,k4⟩:=k2 h;by_cases hik:i=k
  ·subst hik;rw[hx] at hy;cases hy;exact λ pc z hz hc e he=>k4 pc z (List.getElem?_eq_some_iff.1 hz).1 hz hc e he
  ·exact hd k3 i y yA hy
theorem KT (H:LG u c L){E0:List Nat}(h0:G1 u c m L E0)(h:(qK u c m L E0 c.is.length).2=false):E0=qL u c m L:=
 h0.fin H λ i x hx=>(AW H h0 _ (Nat.le_refl _)).2 h i x (List.getElem?_eq_some_iff.1 hx).1 hx
end
theorem sD {u:Un}{x:Is}(h:sX u x):∃ q,u.ps[x.proc]? = some q/\ay u x=q.code:=by
 obtain⟨⟨q,hq,_⟩,_⟩:=h;exact⟨q,hq,by simp only[ay,hq]⟩
theorem H4 {u:Un}(hu:fV u){x:Is}(h:sX u x){pc:Nat}{z:In}(hz:(ay u x)[pc]? = some z)(hr:z≠.ret):pc+1<(ay u x).length:=by
 obtain⟨q,hq,hc⟩:=sD h;obtain⟨⟨c,WM⟩,_⟩:=hu.pc q (mem_of_getElem? hq);rw[hc,WM] at hz |-;have h1:=(List.getElem?_eq_some_iff.1 hz).1;simp only[length_append,length_singleton] at h1 |-;by_cases h:pc=c.length
 ·rw[h] at hz;simp at hz;exact (hr hz.symm).elim
 ·omega
theorem Dq {u:Un}(hu:fV u){x:Is}(h:sX u x):0<(ay u x).length:=by
 obtain⟨q,hq,hc⟩:=sD h;obtain⟨⟨c,WM⟩,_⟩:=hu.pc q (mem_of_getElem? hq);rw[hc,WM];simp
theorem xP {u:Un}(hu:fV u){x:Is}(h:sX u x){pc:Nat}{z:In}(hz:(ay u x)[pc]? = some z):∃ q,u.ps[x.proc]? = some q/\ay u x=q.code/\x.bp.length=q.bp/\IA (u.ps.map λ q=>(q.ints,q.bp)) u.ms u.gs.length q.locals q.bp ((ay u x).length-1) z:=by
 obtain⟨⟨q,hq,hl⟩,_⟩:=h;have hc:ay u x=q.code:=by simp only[ay,hq]
 rw[hc] at hz |-;exact⟨q,hq,rfl,hl,(hu.pc q (mem_of_getElem? hq)).2 z (mem_of_getElem? hz)⟩
theorem JR {u:Un}(hu:fV u){x:Is}(h:sX u x){pc:Nat}{z:In}(hz:(ay u x)[pc]? = some z){q:Nat}(hq:q∈gG z pc):q<(ay u x).length:=by
 have hp:=Dq hu h;obtain⟨_,_,_,_,hi⟩:=xP hu h hz;have hn:z≠.ret->pc+1<(ay u x).length:=H4 hu h hz
 cases z with
 | ret=>cases hq
 | jump g=>
  have:g<=(ay u x).length-1:=hi;simp only[gG,mem_singleton] at hq;omega
 | branch g e=>
  have h1:g<=(ay u x).length-1:=hi.1;have h2:=hn xr;simp only[gG] at hq;split at hq
  ·simp only[mem_singleton] at hq;omega
  ·simp only[mem_cons,not_mem_nil,or_false] at hq;omega
 | set t g e=>
  have h2:=hn xr;simp only[gG,mem_singleton] at hq;omega
 | call g t l ps=>
  have h2:=hn xr;simp only[gG,mem_singleton] at hq;omega
 | lock un p=>
  have h2:=hn xr;simp only[gG,mem_singleton] at hq;omega
theorem Ki {u:Un}(hu:fV u){i:Nat}{x:Is}(hx:(az u).is[i]? = some x){pc:Nat}{z:In}(hz:(ay u x)[pc]? = some z){y:Is}(hy:j4 x z=some y):((az u).calls.getD i []).getD pc (-1)=(ez (az u).is y:Int)/\y∈(az u).is:=by
 have ci:=sF hu;have hi:=(List.getElem?_eq_some_iff.1 hx).1;have h1:=ci.row i x hi hx;refine⟨?_,ci.mem i x hi hx z (mem_of_getElem? hz) y hy⟩;have hg:(az u).calls.getD i []=Am (az u).is x (ay u x):=by
  rw[getD_eq_getElem?_getD,h1];rfl
 rw[hg,Am,getD_eq_getElem?_getD,getElem?_map,hz];simp only[Option.map_some,Option.getD_some,hy]
theorem Ig {x:Is}{z:In}(h:eI z=true):∃ y,j4 x z=some y:=by
 cases z with
 | call g t l ps=>exact⟨_,rfl⟩
 | _=>simp[eI] at h
theorem AO {u:Un}(hu:fV u){i:Nat}{x:Is}(hx:(az u).is[i]? = some x){pc:Nat}{z:In}(hz:(ay u x)[pc]? = some z)(hc:eI z=true):er (az u) i pc<(az u).is.length/\((az u).calls.getD i []).getD pc (-1)=(er (az u) i pc:Int):=by
 obtain⟨y,hy⟩:=Ig (x:=x) hc;obtain⟨h1,h2⟩:=Ki hu hx hz hy;have h3:er (az u) i pc=ez (az u).is y:=by
  rw[er,h1];simp
 rw[h3];exact⟨vO h2,h1⟩
theorem FC {u:Un}(hu:fV u){L:Nat}(h8:L<=8):LG u (az u) L:=by
 refine⟨h8,λ i x pc z hx hz hc=>(AO hu hx hz hc).1,λ r hr=>?_⟩;have ci:=sF hu;rcases (ci.root r).1 hr with rfl | ⟨j,x,hj,hx,z,hz,_,y,hy,rfl⟩
 ·exact ci.pos
 ·exact vO (ci.mem j x hj hx z hz y hy)
theorem Lc {u:Un}(hu:fV u):∀ (f i:Nat) (l:List Is) (cs:List (List Int)) (r:List Nat),l.Nodup->(∀ y∈l,sX u y)->∀ y∈(kQ u f i l cs r).is,sX u y
 | 0,_,_,_,_,_,h=>h
 | f+1,i,l,cs,r,hn,h=>by
  simp only[kQ];split
  ·exact h
  ·rename_i x hx;obtain⟨h1,h2⟩:=rI hu (h x (mem_of_getElem? hx)) (ay u x) l r (λ _ h=>h) hn h;exact Lc hu f (i+1) _ _ _ h1 h2
theorem Lb {u:Un}(hu:fV u):∀ y∈(az u).is,sX u y:=by
 refine Lc hu 100 0 [⟨u.main,[]⟩] [] [0] xr λ x hx=>?_;rw[mem_singleton.1 hx];have hp:=hu.np.1;obtain⟨q,hq⟩:∃ q,u.ps[0]? = some q:=⟨_,getElem?_eq_getElem yA⟩;exact⟨⟨q,by rw[hu.main];exact hq,by rw[(hu.p0 q hq).2];rfl⟩,λ l hl=>by cases hl⟩
theorem LY {u:Un}(hu:fV u){L:Nat}(h8:L<=8){i:Nat}{x:Is}(hx:(az u).is[i]? = some x){sm:List (List Nat)}(hs:vz L (az u).is.length sm):InH u (az u) L i x sm:=by
 have hv:=Lb hu x (mem_of_getElem? hx);exact⟨hx,h8,hs,λ pc z hz q hq=>JR hu hv hz hq,λ pc z hz hc=>(AO hu hx hz hc).1,Dq hu hv⟩
end Go.aJ
