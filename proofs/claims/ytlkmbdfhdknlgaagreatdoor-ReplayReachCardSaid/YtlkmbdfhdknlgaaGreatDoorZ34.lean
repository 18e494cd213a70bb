/- Unit. -/
import Derived.Test.YtlkmbdfhdknlgaaGreatDoorZ33
namespace Go.Proofs.YtlkmbdfhdknlgaaGreatDoor
open Go.Can Go.aN
theorem Ai (l:List Int):im (lA (Dt l)):=by
 have h:=KF l;refine h.unit (fun f hf=>?_) fun f hf=>?_
 ·have h1:=Cp (List.mem_map_of_mem (f:=fun f:Fu=>bJ f.body) hf);have h2:=h.wt;omega
 ·obtain⟨k,hk,e⟩:=h.pn f hf;have h5:=congrArg List.length e;simp only[List.length_map,List.length_reverse,List.length_take,nP,List.length_cons,List.length_nil] at h5;omega
theorem IZ (l:List Int)(hl:l.length≤9223372036854775807):ae Tryz.prog 6 [ints l] (.dI [xb (Dt l),cK (lA (Dt l)),eP (ak (lA (Dt l)))]):=by
 have hp:=Cc l hl;have SG:=Hi (Dt l) (KF l);have Og:=wY (lA (Dt l)) (Ai l);generalize lA (Dt l)=u at SG Og;generalize Dt l=p at hp SG;generalize ak u=c at Og;have Oj:=aP u;obtain⟨t1,t2,t3⟩:=iO p;have tp:trees (eC p)=true:=by simp only[eC,trees,t1,t2,t3];rfl
 have tc:trees (cD c)=true:=by simp only[cD,trees,tree,aE];rfl
 have Qh:tree (.dI [xb p,cK u,eP c])=true:=by simp only[tree,trees,xb,cK,eP,tp,Oj,tc];rfl
 refine ae.aH af Tryz.func6 rfl N4 (by simp[Tryz.ntmps6]) Qh fun C hC N8=>?_;rw[Tryz.ntmps6] at hC;have Z2:trees [ints l]=true:=by simp only[trees,lC,Bool.and_self]
 have Xv:trees [xb p]=true:=by simp only[trees,tree,xb,tp,Bool.and_self]
 have Xu:trees [cK u]=true:=by simp only[trees,tree,cK,Oj,Bool.and_self]
 simp only[xb,eC,cK,bX,eP,cD] at hp SG Og Xv Xu ⊢;apply ai;simp[hC];apply ai;simp[hC];refine dc Z2 hp ?_;simp[hC];apply ai;simp[hC];refine dc Xv SG ?_;simp[hC];apply ai;simp[hC];refine dc Xu Og ?_;simp[hC];apply T.seq;refine T.rx af follows [0,1,2,3,4,5] [(1,3),(2,3),(2,4)] N4 ?_;simp[hC];apply T.ret;apply aa.here;simp[Tryz.results6]
end Go.Proofs.YtlkmbdfhdknlgaaGreatDoor
namespace Go.aN
open Go.Can
def ig (c:Cl)(L m:Nat)(sm:List (List Nat))(i:Nat)(x:Is)(z:In)(pc:Nat):List Nat:=if cN z=true then sm.getD (dn c i pc) [] else sV L (dw x m z)
structure InH (u:Un)(c:Cl)(L i:Nat)(x:Is)(sm:List (List Nat)):Prop where
 hx:c.is[i]? = some x
 L8:L≤8
 sm:tg L c.is.length sm
 nx:∀ pc z,(au u x)[pc]? = some z→∀ q∈dJ z pc,q<(au u x).length
 kal:∀ pc z,(au u x)[pc]? = some z→cN z=true→dn c i pc<c.is.length
 pos:0<(au u x).length
def wP (sm:List (List Nat))(k d e:Nat):Prop:=eL sm k d e=true
def zt (t:List (List Nat))(q:Nat)(a:List Nat):List (List Nat):=if vZ a (t.getD q [])=true then t else t.set q (mJ (t.getD q []) a)
theorem F9 {t:List (List Nat)}{q:Nat}{a:List Nat}(h:vZ a (t.getD q [])=true):zt t q a=t:=if_pos h
theorem uk {t:List (List Nat)}{q:Nat}{a:List Nat}(h:¬ vZ a (t.getD q [])=true):zt t q a=t.set q (mJ (t.getD q []) a):=if_neg h
structure BE (u:Un)(c:Cl)(L m i:Nat)(x:Is)(sm:List (List Nat))(t:List (List Nat)):Prop where
 wf:tg L (au u x).length t
 sound:∀ pc d e,eL t pc d e=true→Ri u c m L (wP sm) i pc d e
 base:∀ d,d≤L→eL t 0 d d=true
def Ik (u:Un)(c:Cl)(L m i:Nat)(x:Is)(sm t:List (List Nat))(pc:Nat):Prop:=∀ z,(au u x)[pc]? = some z→∀ q∈dJ z pc,vZ (q9 (t.getD pc []) (ig c L m sm i x z pc)) (t.getD q [])=true
section
variable {u:Un}{c:Cl}{L m i:Nat}{x:Is}{sm:List (List Nat)}(H:InH u c L i x sm)
include H
theorem nX {pc:Nat}{z:In}(hz:(au u x)[pc]? = some z):qW L (ig c L m sm i x z pc):=by
 unfold ig;split
 ·rename_i h;obtain⟨r,hr,hw⟩:=H.sm.get (H.kal pc z hz h);rw[List.getD_eq_getElem?_getD,hr];exact hw
 ·exact Gy L _
theorem x7 {pc d e e':Nat}{z:In}(hz:(au u x)[pc]? = some z){q:Nat}(hq:q∈dJ z pc)(h:Ri u c m L (wP sm) i pc d e)(hb:bb (ig c L m sm i x z pc) e e'=true):Ri u c m L (wP sm) i q d e':=by
 have hl:=kJ (nX H (m:=m) hz) hb;unfold ig at hb;split at hb
 ·rename_i hc;have hqq:q=pc+1:=by
   cases z with
   | call g t l ps=>simpa [dJ] using hq
   | _=>simp[cN] at hc
  rw[hqq];exact .call h H.hx hz hc hb hl.2
 ·rename_i hc;have:=(tC L _ e e').1 hb;exact .step h H.hx hz (by simpa using hc) this.2.2 hl.2 hq
theorem yL {t:List (List Nat)}(ht:tg L (au u x).length t){p:Nat}(hp:p<(au u x).length):qW L (t.getD p [])∧t[p]? = some (t.getD p []):=by
 have _:=H;obtain⟨r,hr,hw⟩:=ht.get hp;rw[List.getD_eq_getElem?_getD,hr];exact⟨hw,rfl⟩
theorem BE.fin {t:List (List Nat)}(h:BE u c L m i x sm t)(hc:∀ pc,pc<(au u x).length→Ik u c L m i x sm t pc):t=qc L (au u x).length (Ri u c m L (wP sm) i):=by
 refine C1 h.wf fun pc d e h1 h2 h3=>⟨h.sound pc d e,fun hr=>?_⟩;clear h1 h2 h3;have key:∀ {pc q d e e':Nat} {z:In},eL t pc d e=true→(au u x)[pc]? = some z→q∈dJ z pc→bb (ig c L m sm i x z pc) e e'=true→eL t q d e'=true:=by
  intro pc q d e e' z h1 hz hq hb;have hp:=(List.getElem?_eq_some_iff.1 hz).1;have P6:=H.nx pc z hz q hq;obtain⟨w1,g1⟩:=yL H h.wf hp;obtain⟨w2,g2⟩:=yL H h.wf P6;have h2:=hc pc hp z hz q hq;rw[ov (by rw[(vr w1 (nX H hz)).len,w2.len])] at h2;exact h2 d e' ((uc _ _ d e').2 ⟨e,h1,hb⟩)
 induction hr with
 | base hd=>exact h.base _ hd
 | step OS hx hz Td he hl hq ih=>
  rw[H.hx] at hx;cases hx;refine key ih hz hq ?_;unfold ig;rw[if_neg (by simp[Td])];exact (tC L _ _ _).2 ⟨(OS.le).2,hl,he⟩
 | call OS hx hz Td hs hl ih=>
  rw[H.hx] at hx;cases hx;refine key ih hz (q:=_+1) ?_ ?_
  ·rename_i z
   cases z with
   | call g t l ps=>simp[dJ]
   | _=>simp[cN] at Td
  ·unfold ig;rw[if_pos Td];exact hs
theorem BE.start:BE u c L m i x sm ((List.replicate (au u x).length (sS L)).set 0 (sV L 0)):=by
 have hp:=H.pos;have hw:tg L (au u x).length (List.replicate (au u x).length (sS L)):=⟨by simp,fun r hr=>by rw[List.eq_of_mem_replicate hr];exact BH L⟩;have hb:∀ pc d e,eL (List.replicate (au u x).length (sS L)) pc d e=false:=fun pc d e=>by
  unfold eL;rw[List.getD_eq_getElem?_getD,List.getElem?_replicate];split
  ·exact xQ L d e
  ·simp[bb]
 refine⟨hw.set (Gy L 0),fun pc d e h=>?_,fun d hd=>?_⟩
 ·rw[j8 (by simpa using hp)] at h;split at h
  ·rename_i h2;subst h2;have:=(tC L 0 d e).1 h;have he:e=d:=by omega
   subst he;exact .base this.1
  ·rw[hb] at h;cases h
 ·rw[j8 (by simpa using hp),if_pos rfl];exact (tC L 0 d d).2 ⟨hd,hd,by omega⟩
theorem CZ {t:List (List Nat)}(h:BE u c L m i x sm t){q:Nat}(hq:q<(au u x).length){a:List Nat}(ha:qW L a)(hs:∀ d e,bb a d e=true→Ri u c m L (wP sm) i q d e) :
  BE u c L m i x sm (zt t q a)∧vZ a ((zt t q a).getD q [])=true∧(∀ p d e,eL t p d e=true→eL (zt t q a) p d e=true)∧(∀ p,p≠q→(zt t q a).getD p []=t.getD p [])∧(vZ a (t.getD q [])=true→zt t q a=t)∧(vZ a (t.getD q [])=false→dz t<dz (zt t q a)):=by
 obtain⟨w,g⟩:=yL H h.wf hq;have hlen:a.length=(t.getD q []).length:=by rw[ha.len,w.len]
 by_cases Oo:vZ a (t.getD q [])=true
 ·rw[F9 Oo];exact⟨h,Oo,fun _ _ _ h=>h,fun _ _=>rfl,fun _=>rfl,fun h=>by rw[Oo] at h;cases h⟩
 ·rw[uk Oo];have hu:=BR w ha;have Ys:=xV (a:=t.getD q []) (b:=a) hlen.symm;have Qv:q<t.length:=by rw[h.wf.len];exact hq
  have YO:(t.set q (mJ (t.getD q []) a)).getD q []=mJ (t.getD q []) a:=by
   rw[List.getD_eq_getElem?_getD,List.getElem?_set,if_pos rfl,if_pos Qv];rfl
  have PB:∀ p d e,eL t p d e=true→eL (t.set q (mJ (t.getD q []) a)) p d e=true:=fun p d e hb=>by
   rw[j8 Qv];split
   ·rename_i hp;subst hp;rw[Ys,show bb (t.getD p []) d e=true from hb];rfl
   ·exact hb
  refine⟨⟨h.wf.set hu,fun p d e hb=>?_,fun d hd=>PB 0 d d (h.base d hd)⟩,?_,PB,fun p hp=>?_,fun h=>(Oo h).elim,fun _=>?_⟩
  ·rw[j8 Qv] at hb;split at hb
   ·rename_i hp;subst hp;rw[Ys,Bool.or_eq_true] at hb;rcases hb with hb | hb
    ·exact h.sound p d e hb
    ·exact hs d e hb
   ·exact h.sound p d e hb
  ·rw[YO,ov (by rw[ha.len,hu.len])];intro d e hb;rw[Ys,hb,Bool.or_true]
  ·rw[List.getD_eq_getElem?_getD,List.getElem?_set_ne (fun e=>hp e.symm),List.getD_eq_getElem?_getD]
  ·have h1:=sj t q (t.getD q []) (mJ (t.getD q []) a) g;have h2:cO (t.getD q [])<cO (mJ (t.getD q []) a):=by
    have Ok:¬ ∀ d e,bb a d e=true→bb (t.getD q []) d e=true:=fun hh=>by
     exact Oo ((ov hlen).2 hh)
    have hex:∃ d e,bb a d e=true∧bb (t.getD q []) d e=false:=by
     refine Classical.byContradiction fun hc=>Ok fun d e hb=>?_
     cases O2:bb (t.getD q []) d e with
     | true=>rfl
     | false=>exact (hc ⟨d,e,hb,O2⟩).elim
    obtain⟨d,e,hb,O2⟩:=hex;have hle:=(kJ ha hb).2;have:=H.L8;exact qO _ _ (by rw[w.len,hu.len]) (fun d e hb=>by rw[Ys,hb];rfl) ⟨d,e,by omega,O2,by rw[Ys,hb,Bool.or_true]⟩
   omega
def mL (a:List Nat):List Nat→List (List Nat)→List Nat→List (List Nat)×List Nat
 | [],t,td=>(t,td)
 | q::r,t,td=>if vZ a (t.getD q [])=true then mL a r t td else mL a r (t.set q (mJ (t.getD q []) a)) (td++[q])
omit H in
theorem z0 (a:List Nat):∀ (l:List Nat) (q:Nat) (t:List (List Nat)) (td:List Nat),mL a (l++[q]) t td=(if vZ a ((mL a l t td).1.getD q [])=true then mL a l t td else ((mL a l t td).1.set q (mJ ((mL a l t td).1.getD q []) a),(mL a l t td).2++[q]))
 | [],q,t,td=>by
  simp only[List.nil_append,mL];rfl
 | x::l,q,t,td=>by
  simp only[List.cons_append,mL];split<;>exact z0 a l q _ _
structure PrcI (u:Un)(c:Cl)(L m i:Nat)(x:Is)(sm:List (List Nat))(a:List Nat)(qs:List Nat)(t0:List (List Nat))(td0:List Nat)(t:List (List Nat))(td:List Nat):Prop where
 A:BE u c L m i x sm t
 mono:∀ p d e,eL t0 p d e=true→eL t p d e=true
 KV:∀ p,p∈td∨t.getD p []=t0.getD p []
 sub:∀ p,p∈td0→p∈td
 val:∀ p,p∈td→p∈td0∨p<(au u x).length
 done:∀ q∈qs,vZ a (t.getD q [])=true
 ms:td.length+2*dz t0≤td0.length+2*dz t
theorem Jq {t0:List (List Nat)}{td0:List Nat}(h0:BE u c L m i x sm t0){a:List Nat}(ha:qW L a):∀ (qs:List Nat),(∀ q∈qs,q<(au u x).length∧∀ d e,bb a d e=true→Ri u c m L (wP sm) i q d e)→∀ n,n≤qs.length→PrcI u c L m i x sm a (qs.take n) t0 td0 (mL a (qs.take n) t0 td0).1 (mL a (qs.take n) t0 td0).2:=by
 intro qs hqs n
 induction n with
 | zero=>intro _;exact⟨h0,fun _ _ _ h=>h,fun _=>.inr rfl,fun _ h=>h,fun _ h=>.inl h,(fun q hq=>by simp at hq),Nat.le_refl _⟩
 | succ n ih=>
  intro hn;have hI:=ih yA;obtain⟨q,QD⟩:∃ q,qs[n]? = some q:=⟨_,List.getElem?_eq_getElem yA⟩;obtain⟨hq,hs⟩:=hqs q (List.mem_of_getElem? QD);have On:qs.take (n+1)=qs.take n++[q]:=by rw[List.take_add_one,QD];rfl
  rw[On];generalize qs.take n=l at hI ⊢;rw[z0];generalize mL a l t0 td0=s at hI;obtain⟨t,td⟩:=s;simp only at hI ⊢;obtain⟨k1,k2,k3,k4,k5,k6⟩:=CZ H hI.A hq ha hs;by_cases Oo:vZ a (t.getD q [])=true
  ·rw[if_pos Oo];refine⟨hI.A,hI.mono,hI.KV,hI.sub,hI.val,fun p hp=>?_,hI.ms⟩;rcases List.mem_append.1 hp with hp | hp
   ·exact hI.done p hp
   ·rw[List.mem_singleton.1 hp];exact Oo
  ·rw[if_neg Oo];rw[uk Oo] at k1 k2 k3 k4 k6;have hb:=k6 (by simpa using Oo);refine⟨k1,fun p d e h=>k3 p d e (hI.mono p d e h),fun p=>?_,fun p hp=>List.mem_append_left _ (hI.sub p hp),fun p hp=>?_,fun p hp=>?_,?_⟩
   ·by_cases OT:p=q
    ·exact .inl (by simp[OT])
    ·rcases hI.KV p with h | h
     ·exact .inl (List.mem_append_left _ h)
     ·exact .inr (by rw[k4 p OT];exact h)
   ·rcases List.mem_append.1 hp with hp | hp
    ·exact hI.val p hp
    ·rw[List.mem_singleton.1 hp];exact .inr hq
   ·by_cases OT:p=q
    ·rw[OT];exact k2
    ·rw[k4 p OT];rcases List.mem_append.1 hp with hp | hp
     ·exact hI.done p hp
     ·exact (OT (List.mem_singleton.1 hp)).elim
   ·have:=hI.ms;simp only[List.length_append,List.length_singleton];omega
structure InP (u:Un)(c:Cl)(L m i:Nat)(x:Is)(sm:List (List Nat))(t:List (List Nat))(td:List Nat):Prop where
 A:BE u c L m i x sm t
 val:∀ p∈td,p<(au u x).length
 BC:∀ p,p<(au u x).length→p∈td∨Ik u c L m i x sm t p
def msP (n L:Nat)(t:List (List Nat))(td:List Nat):Nat:=2*(9*(L+1)*n-dz t)+td.length
theorem InP.step {t:List (List Nat)}{td:List Nat}{pc:Nat}(h:InP u c L m i x sm t (td++[pc])){z:In}(hz:(au u x)[pc]? = some z) :
  InP u c L m i x sm (mL (q9 (t.getD pc []) (ig c L m sm i x z pc)) (dJ z pc) t td).1 (mL (q9 (t.getD pc []) (ig c L m sm i x z pc)) (dJ z pc) t td).2∧
  msP (au u x).length L (mL (q9 (t.getD pc []) (ig c L m sm i x z pc)) (dJ z pc) t td).1 (mL (q9 (t.getD pc []) (ig c L m sm i x z pc)) (dJ z pc) t td).2<msP (au u x).length L t (td++[pc]):=by
 have ji:=h.val pc N3;obtain⟨w,g⟩:=yL H h.A.wf ji;have Sz:=nX H (m:=m) hz;have ha:=vr w Sz;have hI:=Jq H (td0:=td) h.A ha (dJ z pc) (fun q hq=>⟨H.nx pc z hz q hq,fun d e hb=>by
  obtain⟨k,k1,k2⟩:=(uc _ _ d e).1 hb;exact x7 H hz hq (h.A.sound pc d k k1) k2⟩) (dJ z pc).length (Nat.le_refl _)
 rw[List.take_length] at hI;generalize hae:q9 (t.getD pc []) (ig c L m sm i x z pc)=a at ha hI ⊢;generalize mL a (dJ z pc) t td=s at hI ⊢;obtain⟨t',td'⟩:=s;simp only at hI ⊢;refine⟨⟨hI.A,fun p hp=>?_,fun p hp=>?_⟩,?_⟩
 ·rcases hI.val p hp with hp | hp
  ·exact h.val p (List.mem_append_left _ hp)
  ·exact hp
 ·rcases hI.KV p with h1 | h1
  ·exact .inl h1
  ·by_cases hpp:p=pc
   ·subst hpp;right;intro z' Ps q hq;rw[hz] at Ps;cases Ps;rw[h1,hae];exact hI.done q hq
   ·rcases h.BC p hp with h2 | h2
    ·rcases List.mem_append.1 h2 with h2 | h2
     ·exact .inl (hI.sub p h2)
     ·exact (hpp (List.mem_singleton.1 h2)).elim
    ·right;intro z' Ps q hq;have h3:=h2 z' Ps q hq;have P6:=H.nx p z' Ps q hq;obtain⟨w1,_⟩:=yL H h.A.wf hp;obtain⟨w2,_⟩:=yL H h.A.wf P6;obtain⟨w3,_⟩:=yL H hI.A.wf P6;have hc:=vr w1 (nX H (m:=m) Ps);rw[ov (by rw[hc.len,w2.len])] at h3;rw[h1,ov (by rw[hc.len,w3.len])];exact fun d e hb=>hI.mono q d e (h3 d e hb)
 ·have h1:=hI.ms;have h2:=qN t' hI.A.wf.row;rw[hI.A.wf.len] at h2;unfold msP;simp only[List.length_append,List.length_singleton];omega
theorem InP.fin {t:List (List Nat)}(h:InP u c L m i x sm t []):t=qc L (au u x).length (Ri u c m L (wP sm) i):=
 h.A.fin H fun p hp=>by
  rcases h.BC p hp with h1 | h1
  ·cases h1
  ·exact h1
end
def sA (a:List Nat):List Nat→List (List Nat)×Bool→List (List Nat)×Bool
 | [],s=>s
 | q::r,s=>sA a r (if vZ a (s.1.getD q [])=true then s else (s.1.set q (mJ (s.1.getD q []) a),true))
theorem x5 (a:List Nat):∀ (l:List Nat) (q:Nat) (s:List (List Nat)×Bool),sA a (l++[q]) s=(if vZ a ((sA a l s).1.getD q [])=true then sA a l s else ((sA a l s).1.set q (mJ ((sA a l s).1.getD q []) a),true))
 | [],q,s=>by
  simp only[List.nil_append,sA];rfl
 | x::l,q,s=>by
  simp only[List.cons_append,sA];exact x5 a l q _
def jb (u:Un)(c:Cl)(L m i:Nat)(x:Is)(sm t0:List (List Nat)):Nat→List (List Nat)×Bool
 | 0=>(t0,false)
 | pc+1=>match (au u x)[pc]? with
  | none=>jb u c L m i x sm t0 pc
  | some z=>sA (q9 ((jb u c L m i x sm t0 pc).1.getD pc []) (ig c L m sm i x z pc)) (dJ z pc) (jb u c L m i x sm t0 pc)
structure SwI (u:Un)(c:Cl)(L m i:Nat)(x:Is)(sm t0:List (List Nat))(s:List (List Nat)×Bool):Prop where
 A:BE u c L m i x sm s.1
 same:s.2=false→s.1=t0
 le:dz t0≤dz s.1
 lt:s.2=true→dz t0<dz s.1
section
variable {u:Un}{c:Cl}{L m i:Nat}{x:Is}{sm:List (List Nat)}(H:InH u c L i x sm)
include H
theorem Gk {t0:List (List Nat)}{a:List Nat}(ha:qW L a){s:List (List Nat)×Bool}(h0:SwI u c L m i x sm t0 s):∀ (qs:List Nat),(∀ q∈qs,q<(au u x).length∧∀ d e,bb a d e=true→Ri u c m L (wP sm) i q d e)→∀ n,n≤qs.length→SwI u c L m i x sm t0 (sA a (qs.take n) s)∧((sA a (qs.take n) s).2=false→s.2=false∧∀ q∈qs.take n,vZ a (t0.getD q [])=true):=by
 intro qs hqs n
 induction n with
 | zero=>intro _;exact⟨h0,fun h=>⟨h,fun q hq=>by simp at hq⟩⟩
 | succ n ih=>
  intro hn;obtain⟨hI,hd⟩:=ih yA;obtain⟨q,QD⟩:∃ q,qs[n]? = some q:=⟨_,List.getElem?_eq_getElem yA⟩;obtain⟨hq,hs⟩:=hqs q (List.mem_of_getElem? QD);have On:qs.take (n+1)=qs.take n++[q]:=by rw[List.take_add_one,QD];rfl
  rw[On];generalize qs.take n=l at hI hd ⊢;rw[x5];generalize sA a l s=s' at hI hd ⊢;obtain⟨t,ag⟩:=s';simp only at hI hd ⊢;obtain⟨k1,k2,k3,k4,k5,k6⟩:=CZ H hI.A hq ha hs;by_cases Oo:vZ a (t.getD q [])=true
  ·rw[if_pos Oo];refine⟨hI,fun h=>?_⟩;obtain⟨h1,h2⟩:=hd h;refine⟨h1,fun p hp=>?_⟩;rcases List.mem_append.1 hp with hp | hp
   ·exact h2 p hp
   ·rw[List.mem_singleton.1 hp,← hI.same h];exact Oo
  ·rw[if_neg Oo];rw[uk Oo] at k1 k6;have hb:dz t<_:=k6 (by simpa using Oo);have hle:dz t0≤dz t:=hI.le;exact⟨⟨k1,(fun h=>by cases h),by simp only;omega,fun _=>by simp only;omega⟩,fun h=>by cases h⟩
theorem xZ {t0:List (List Nat)}(h0:BE u c L m i x sm t0):∀ k,k≤(au u x).length→SwI u c L m i x sm t0 (jb u c L m i x sm t0 k)∧((jb u c L m i x sm t0 k).2=false→∀ p,p<k→Ik u c L m i x sm t0 p)
 | 0,_=>⟨⟨h0,fun _=>rfl,Nat.le_refl _,fun h=>by cases h⟩,fun _ p hp=>by omega⟩
 | k+1,hk=>by
  obtain⟨hI,hd⟩:=xZ h0 k yA;obtain⟨z,hz⟩:∃ z,(au u x)[k]? = some z:=⟨_,List.getElem?_eq_getElem yA⟩;simp only[jb,hz];obtain⟨w,g⟩:=yL H hI.A.wf (show k<_ by omega);have ha:=vr w (nX H (m:=m) hz);obtain⟨k1,k2⟩:=Gk H ha hI (dJ z k) (fun q hq=>⟨H.nx k z hz q hq,fun d e hb=>by
   obtain⟨y,y1,y2⟩:=(uc _ _ d e).1 hb;exact x7 H hz hq (hI.A.sound k d y y1) y2⟩) (dJ z k).length (Nat.le_refl _)
  rw[List.take_length] at k1 k2;refine⟨k1,fun h p hp=>?_⟩;obtain⟨k3,k4⟩:=k2 h;by_cases QL:p=k
  ·subst QL;intro z' Ps q hq;rw[hz] at Ps;cases Ps;have hs:=hI.same k3;have:=k4 q hq;rw[hs] at this;exact this
  ·exact hd k3 p yA
theorem I6 {t0:List (List Nat)}(h0:BE u c L m i x sm t0)(h:(jb u c L m i x sm t0 (au u x).length).2=false):t0=qc L (au u x).length (Ri u c m L (wP sm) i):=
 h0.fin H ((xZ H h0 _ (Nat.le_refl _)).2 h)
theorem Ll {a b:List Nat}(h:a.length=b.length):mJ b a=b↔vZ a b=true:=by
 have _:=H;rw[ov h];constructor
 ·intro he d e hb;rw[← he,xV h.symm,hb,Bool.or_true]
 ·intro hs;refine List.ext_getElem? fun d=>?_;rw[mJ,List.getElem?_zipWith];by_cases hd:d<b.length
  ·rw[List.getElem?_eq_getElem hd,List.getElem?_eq_getElem yA];simp only;congr 1;refine Nat.eq_of_testBit_eq fun e=>?_;rw[Nat.testBit_or];have h1:=hs d e;simp only[bb,List.getD_eq_getElem?_getD,List.getElem?_eq_getElem hd,List.getElem?_eq_getElem (show d<a.length by omega),Option.getD_some] at h1;cases hx:(b[d]).testBit e<;>cases hy:(a[d]'yA).testBit e<;>simp_all
  ·rw[List.getElem?_eq_none yA,List.getElem?_eq_none yA]
end
section
variable {u:Un}{c:Cl}{m L:Nat}
noncomputable def Cw (u:Un) (c:Cl) (m L:Nat) (sm:List (List Nat)) (i:Nat):List Nat:=ql L (FK u c m L (wP sm) i)
noncomputable def oH (u:Un) (c:Cl) (m L:Nat):List (List Nat):=qc L c.is.length (lX u c m L)
structure FH (u:Un)(c:Cl)(m L:Nat)(t:List (List Nat)):Prop where
 wf:tg L c.is.length t
 sound:∀ i d e,eL t i d e=true→lX u c m L i d e
 pre:∀ i d e,eL t i d e=true→FK u c m L (wP t) i d e
theorem FH.start:FH u c m L (List.replicate c.is.length (sS L)):=by
 have hb:∀ pc d e,eL (List.replicate c.is.length (sS L)) pc d e=false:=fun pc d e=>by
  unfold eL;rw[List.getD_eq_getElem?_getD,List.getElem?_replicate];split
  ·exact xQ L d e
  ·simp[bb]
 exact⟨⟨by simp,fun r hr=>by rw[List.eq_of_mem_replicate hr];exact BH L⟩,(fun i d e h=>by rw[hb] at h;cases h),fun i d e h=>by rw[hb] at h;cases h⟩
theorem vl {S:Nat→Nat→Nat→Prop}{i d e:Nat}(h:FK u c m L S i d e):i<c.is.length∧d≤L∧e≤L:=by
 obtain⟨pc,x,h1,_,h3⟩:=h;exact⟨(List.getElem?_eq_some_iff.1 h1).1,h3.le⟩
theorem FH.fin {t:List (List Nat)}(h:FH u c m L t)(hc:∀ i,i<c.is.length→t.getD i []=Cw u c m L t i):t=oH u c m L:=by
 refine C1 h.wf fun i d e _ _ _=>⟨h.sound i d e,fun hs=>?_⟩;refine hs.least (S:=wP t) fun i d e he=>?_;obtain⟨h1,h2,h3⟩:=vl he;show bb (t.getD i []) d e=true;rw[hc i h1];exact (gr h2 h3).2 he
theorem FH.step {t:List (List Nat)}(h:FH u c m L t)(h8:L≤8){i:Nat}(hi:i<c.is.length):FH u c m L (t.set i (Cw u c m L t i))∧(t.getD i []≠Cw u c m L t i→dz t<dz (t.set i (Cw u c m L t i))):=by
 have Qv:i<t.length:=by rw[h.wf.len];exact hi
 have hex:=kq L (FK u c m L (wP t) i);have PB:∀ p d e,eL t p d e=true→eL (t.set i (Cw u c m L t i)) p d e=true:=fun p d e hb=>by
  rw[j8 Qv];split
  ·rename_i hp;subst hp;have h1:=h.pre p d e hb;obtain⟨_,h2,h3⟩:=vl h1;exact (gr h2 h3).2 h1
  ·exact hb
 have Oo:∀ p d e,eL (t.set i (Cw u c m L t i)) p d e=true→FK u c m L (wP t) p d e:=fun p d e hb=>by
  rw[j8 Qv] at hb;split at hb
  ·rename_i hp;subst hp;obtain⟨h2,h3⟩:=kJ hex hb;exact (gr h2 h3).1 hb
  ·exact h.pre p d e hb
 refine⟨⟨h.wf.set hex,fun p d e hb=>?_,fun p d e hb=>(Oo p d e hb).mono fun a b c hx=>PB a b c hx⟩,fun Ok=>?_⟩
 ·exact yO.1 ((Oo p d e hb).mono fun a b c hx=>h.sound a b c hx)
 ·obtain⟨r,hr,hw⟩:=h.wf.get hi;have hg:t.getD i []=r:=by rw[List.getD_eq_getElem?_getD,hr];rfl
  have h1:=sj t i r (Cw u c m L t i) hr;rw[hg] at Ok;have Pf:∀ d e,bb r d e=true→bb (Cw u c m L t i) d e=true:=fun d e hb=>by
   have:=PB i d e (by rw[jJ hr];exact hb);rwa [j8 Qv,if_pos rfl] at this
  have hx:∃ d e,bb r d e=false∧bb (Cw u c m L t i) d e=true:=by
   refine Classical.byContradiction fun hc=>Ok (xT hw hex fun d e _ _=>?_)
   cases hb:bb r d e with
   | true=>rw[Pf d e hb]
   | false=>
    cases O2:bb (Cw u c m L t i) d e with
    | true=>exact (hc ⟨d,e,hb,O2⟩).elim
    | false=>rfl
  obtain⟨d,e,hb,O2⟩:=hx;have hle:=(kJ hex O2).2;have:=qO r (Cw u c m L t i) (hw.len.trans hex.len.symm) Pf ⟨d,e,by omega,hb,O2⟩;omega
end
section
variable {u:Un}{c:Cl}{m L:Nat}
noncomputable def l9 (u:Un) (c:Cl) (m L:Nat) (t:List (List Nat)):List (List Nat):=(List.range c.is.length).map fun i=>Cw u c m L t i
theorem yg {t:List (List Nat)}{i:Nat}(h:i<c.is.length):(l9 u c m L t)[i]? = some (Cw u c m L t i):=by
 rw[l9,List.getElem?_map,List.getElem?_eq_getElem QW];simp
theorem uH {t:List (List Nat)}{i d e:Nat}:eL (l9 u c m L t) i d e=true↔FK u c m L (wP t) i d e:=by
 by_cases hi:i<c.is.length
 ·rw[jJ (yg hi)];have hw:=kq L (FK u c m L (wP t) i);constructor
  ·intro h;obtain⟨h1,h2⟩:=kJ hw h;exact (gr h1 h2).1 h
  ·intro h;obtain⟨_,h1,h2⟩:=vl h;exact (gr h1 h2).2 h
 ·rw[xM (by simp[l9];omega)];constructor
  ·intro h;cases h
  ·intro h;exact (hi (vl h).1).elim
theorem FH.round {t:List (List Nat)}(h:FH u c m L t)(h8:L≤8):FH u c m L (l9 u c m L t)∧(t≠l9 u c m L t→dz t<dz (l9 u c m L t))∧(t=l9 u c m L t→t=oH u c m L):=by
 have hw:tg L c.is.length (l9 u c m L t):=⟨by simp[l9],fun r hr=>by
  simp only[l9,List.mem_map] at hr;obtain⟨i,_,rfl⟩:=hr;exact kq L _⟩
 have PB:∀ i d e,eL t i d e=true→eL (l9 u c m L t) i d e=true:=fun i d e hb=>uH.2 (h.pre i d e hb);refine⟨⟨hw,fun i d e hb=>yO.1 ((uH.1 hb).mono fun a b c hx=>h.sound a b c hx),fun i d e hb=>(uH.1 hb).mono fun a b c hx=>PB a b c hx⟩,fun Ok=>?_,fun he=>?_⟩
 ·have key:∀ (a b:List (List Nat)),a.length=b.length→(∀ r∈a,qW L r)→(∀ r∈b,qW L r)→(∀ i d e,eL a i d e=true→eL b i d e=true)→dz a≤dz b∧(a≠b→dz a<dz b):=by
   intro a
   induction a with
   | nil=>
    intro b hl _ _ _;have:b=[]:=List.length_eq_zero_iff.1 hl.symm;subst this;exact⟨Nat.le_refl _,fun h=>(h rfl).elim⟩
   | cons x a ih=>
    intro b hl ha hb hs
    cases b with
    | nil=>simp at hl
    | cons y b=>
     have hx:=ha x List.mem_cons_self;have hy:=hb y List.mem_cons_self;have Vd:∀ d e,bb x d e=true→bb y d e=true:=fun d e hq=>by simpa [eL] using hs 0 d e (by simpa [eL] using hq)
     obtain⟨i1,i2⟩:=ih b (by simpa using hl) (fun r hr=>ha r (List.mem_cons_of_mem _ hr)) (fun r hr=>hb r (List.mem_cons_of_mem _ hr)) fun i d e hq=>by simpa [eL] using hs (i+1) d e (by simpa [eL] using hq)
     have hm:=pS x y (by rw[hx.len,hy.len]) Vd;simp only[dz,List.map_cons,List.sum_cons] at i1 i2 ⊢;refine⟨by omega,fun Ok=>?_⟩;by_cases Q0:x=y
     ·have:=i2 fun e=>Ok (by rw[Q0,e]);omega
     ·have hex:∃ d e,bb x d e=false∧bb y d e=true:=by
       refine Classical.byContradiction fun hc=>Q0 (xT hx hy fun d e _ _=>?_)
       cases Pq:bb x d e with
       | true=>rw[Vd d e Pq]
       | false=>
        cases O2:bb y d e with
        | true=>exact (hc ⟨d,e,Pq,O2⟩).elim
        | false=>rfl
      obtain⟨d,e,h1,h2⟩:=hex;have:=qO x y (by rw[hx.len,hy.len]) Vd ⟨d,e,by have:=(kJ hy h2).2;omega,h1,h2⟩;omega
  exact (key t _ (by rw[h.wf.len,hw.len]) h.wf.row hw.row PB).2 Ok
 ·refine h.fin fun i hi=>?_;rw[he,List.getD_eq_getElem?_getD,yg hi,← he];rfl
end
section
variable (u:Un)(c:Cl)(m L:Nat)
noncomputable def dX (i:Nat) (x:Is):List (List Nat):=qc L (au u x).length (Rr u c m L i)
noncomputable def pJ:List Nat:=(List.range c.is.length).map fun i=>lJ L (pf u c m L i)
def iq (E:List Nat)(k s:Nat):List Nat:=E.set k (E.getD k 0 ||| s)
structure Eg (E:List Nat):Prop where
 len:E.length=c.is.length
 lt:∀ s∈E,s<2 ^ (L+1)
 sound:∀ i e,bb E i e=true→pf u c m L i e
 root:∀ r∈c.roots,bb E r 0=true
def MF (E:List Nat)(i:Nat)(x:Is):Prop:=∀ pc z,(au u x)[pc]? = some z→cN z=true→∀ e,(BD ((dX u c m L i x).getD pc []) (E.getD i 0)).testBit e=true→bb E (dn c i pc) e=true
structure FU:Prop where
 L8:L≤8
 kal:∀ i x pc z,c.is[i]? = some x→(au u x)[pc]? = some z→cN z=true→dn c i pc<c.is.length
 root:∀ r∈c.roots,r<c.is.length
end
section
variable {u:Un}{c:Cl}{m L:Nat}
theorem DC {i pc:Nat}{x:Is}(h:pc<(au u x).length):(dX u c m L i x)[pc]? = some (ql L (Rr u c m L i pc)):=tv _ h
theorem Kw {i pc d e:Nat}(h:Rr u c m L i pc d e):d≤L∧e≤L:=h.ri.le
theorem zd {E:List Nat}{i pc e:Nat}{x:Is}(h:pc<(au u x).length):(BD ((dX u c m L i x).getD pc []) (E.getD i 0)).testBit e=true↔∃ d,bb E i d=true∧Rr u c m L i pc d e:=by
 have hg:(dX u c m L i x).getD pc []=ql L (Rr u c m L i pc):=by
  rw[List.getD_eq_getElem?_getD,DC h];rfl
 rw[Eb,hg];constructor
 ·rintro⟨d,h1,h2⟩;obtain⟨h3,h4⟩:=kJ (kq L _) h2;exact⟨d,h1,(gr h3 h4).1 h2⟩
 ·rintro⟨d,h1,h2⟩;obtain⟨h3,h4⟩:=Kw h2;exact⟨d,h1,(gr h3 h4).2 h2⟩
theorem ID {E:List Nat}{i pc:Nat}{x:Is}(h:pc<(au u x).length):BD ((dX u c m L i x).getD pc []) (E.getD i 0)<2 ^ (L+1):=by
 rw[List.getD_eq_getElem?_getD,DC h];exact ze _ _ _ (kq L _).lt
theorem Cz (H:FU u c L){i e:Nat}(h:pf u c m L i e):i<c.is.length∧e≤L:=by
 cases h with
 | root h=>exact⟨H.root _ h,Nat.zero_le _⟩
 | call _ hr hx hz hc=>exact⟨H.kal _ _ _ _ hx hz hc,(Kw hr).2⟩
theorem Eg.fin (_H:FU u c L){E:List Nat}(h:Eg u c m L E)(hc:∀ i x,c.is[i]? = some x→MF u c m L E i x):E=pJ u c m L:=by
 have key:∀ i e,pf u c m L i e→bb E i e=true:=by
  intro i e he
  induction he with
  | root hr=>exact h.root _ hr
  | call _ hr hx hz Td ih=>exact hc _ _ hx _ _ hz Td _ ((zd (List.getElem?_eq_some_iff.1 hz).1).2 ⟨_,ih,hr⟩)
 refine List.ext_getElem? fun i=>?_;by_cases hi:i<c.is.length
 ·have h1:i<E.length:=by rw[h.len];exact hi
  rw[List.getElem?_eq_getElem h1,pJ,List.getElem?_map,List.getElem?_eq_getElem Wa];simp only[List.getElem_range,Option.map_some];congr 1;refine Dw (h.lt _ (List.getElem_mem h1)) fun e _=>?_;have hb:bb E i e=(E[i]).testBit e:=by simp[bb,List.getD_eq_getElem?_getD,List.getElem?_eq_getElem h1]
  rw[← hb];exact⟨h.sound i e,key i e⟩
 ·rw[List.getElem?_eq_none (by rw[h.len];omega),List.getElem?_eq_none (by simp[pJ];omega)]
theorem p6 {E:List Nat}{k s i e:Nat}(hk:k<E.length):bb (iq E k s) i e=if i=k then (bb E k e || s.testBit e) else bb E i e:=by
 unfold bb iq;rw[List.getD_eq_getElem?_getD,List.getElem?_set];by_cases h:k=i
 ·subst h;simp[hk,Nat.testBit_or]
 ·rw[if_neg h,if_neg (fun e=>h e.symm),List.getD_eq_getElem?_getD]
theorem xL:∀ (t:List Nat) (i a b:Nat),t[i]? = some a→cO (t.set i b)+bits a=cO t+bits b
 | [],i,a,b,h=>by simp at h
 | x::t,0,a,b,h=>by
  simp at h;subst h;simp[cO];omega
 | x::t,i+1,a,b,h=>by
  have:=xL t i a b QW;simp only[cO,List.set_cons_succ,List.map_cons,List.sum_cons] at this ⊢;omega
theorem C0 (h8:L≤8){E:List Nat}(h:Eg u c m L E){k s:Nat}(hk:k<c.is.length)(hs:s<2 ^ (L+1))(VN:∀ e,s.testBit e=true→pf u c m L k e)(Ok:¬ ∀ e,s.testBit e=true→bb E k e=true) :
  Eg u c m L (iq E k s)∧cO E<cO (iq E k s):=by
 have Ot:k<E.length:=by rw[h.len];exact hk
 obtain⟨y,hy⟩:∃ y,E[k]? = some y:=⟨_,List.getElem?_eq_getElem Ot⟩;have hyd:E.getD k 0=y:=by rw[List.getD_eq_getElem?_getD,hy];rfl
 have Sv:=h.lt y (List.mem_of_getElem? hy);refine⟨⟨by simp[iq,h.len],fun x hx=>?_,fun i e hb=>?_,fun r hr=>?_⟩,?_⟩
 ·unfold iq at hx;rcases List.mem_or_eq_of_mem_set hx with hx | rfl
  ·exact h.lt x hx
  ·rw[hyd];exact Nat.or_lt_two_pow Sv hs
 ·rw[p6 Ot] at hb;split at hb
  ·rename_i hi;subst hi;rw[Bool.or_eq_true] at hb;rcases hb with hb | hb
   ·exact h.sound i e hb
   ·exact VN e hb
  ·exact h.sound i e hb
 ·rw[p6 Ot];split
  ·rename_i hi;rw[← hi,h.root r hr];rfl
  ·exact h.root r hr
 ·have h1:=xL E k y (y ||| s) hy;have h2:bits y<bits (y ||| s):=by
   have hex:∃ e,s.testBit e=true∧bb E k e=false:=by
    refine Classical.byContradiction fun hc=>Ok fun e he=>?_
    cases hb:bb E k e with
    | true=>rfl
    | false=>exact (hc ⟨e,he,hb⟩).elim
   obtain⟨e,he,hb⟩:=hex;have ZK:y.testBit e=false:=by rw[← hb,bb,hyd]
   have:=CM hs he;exact D6 (fun a ha=>by rw[Nat.testBit_or,ha];rfl) yA ZK (by rw[Nat.testBit_or,he,Bool.or_true])
  unfold iq;rw[hyd];omega
end
section
variable {u:Un}{c:Cl}{m L:Nat}
def m9 (t:List (List Nat))(E:List Nat)(i pc:Nat):Nat:=BD (t.getD pc []) (E.getD i 0)
def AJ (u:Un)(c:Cl)(t:List (List Nat))(i:Nat)(x:Is):Nat→List Nat×List Nat→List Nat×List Nat
 | 0,s=>s
 | pc+1,s=>match (au u x)[pc]? with
  | none=>AJ u c t i x pc s
  | some z=>if cN z=true then (if m9 t (AJ u c t i x pc s).1 i pc ||| (AJ u c t i x pc s).1.getD (dn c i pc) 0=(AJ u c t i x pc s).1.getD (dn c i pc) 0 then AJ u c t i x pc s
    else (iq (AJ u c t i x pc s).1 (dn c i pc) (m9 t (AJ u c t i x pc s).1 i pc),(AJ u c t i x pc s).2++[dn c i pc])) else AJ u c t i x pc s
structure EpI (u:Un)(c:Cl)(m L i:Nat)(x:Is)(E0:List Nat)(td0:List Nat)(k:Nat)(s:List Nat×List Nat):Prop where
 A:Eg u c m L s.1
 mono:∀ p e,bb E0 p e=true→bb s.1 p e=true
 KV:∀ p,p∈s.2∨s.1.getD p 0=E0.getD p 0
 sub:∀ p,p∈td0→p∈s.2
 val:∀ p,p∈s.2→p∈td0∨p<c.is.length
 done:i∈s.2∨∀ pc z,pc<k→(au u x)[pc]? = some z→cN z=true→∀ e,(m9 (dX u c m L i x) s.1 i pc).testBit e=true→bb s.1 (dn c i pc) e=true
 ms:s.2.length+2*cO E0≤td0.length+2*cO s.1
theorem tL {s E k:Nat}{l:List Nat}(h:l.getD k 0=E):s ||| E=E↔∀ e,s.testBit e=true→bb l k e=true:=by
 rw[or_self_iff];simp only[bb,h]
theorem HV (H:FU u c L){i:Nat}{x:Is}(hx:c.is[i]? = some x){E0 td0:List Nat}(h0:Eg u c m L E0):∀ k,k≤(au u x).length→EpI u c m L i x E0 td0 k (AJ u c (dX u c m L i x) i x k (E0,td0))
 | 0,_=>⟨h0,fun _ _ h=>h,fun _=>.inr rfl,fun _ h=>h,fun _ h=>.inl h,.inr fun pc z hp=>by omega,Nat.le_refl _⟩
 | k+1,hk=>by
  have hI:=HV H hx (td0:=td0) h0 k yA;obtain⟨z,hz⟩:∃ z,(au u x)[k]? = some z:=⟨_,List.getElem?_eq_getElem yA⟩;simp only[AJ,hz];generalize AJ u c (dX u c m L i x) i x k (E0,td0)=s at hI ⊢;obtain⟨E,td⟩:=s;simp only at hI ⊢;by_cases hc:cN z=true
  ·rw[if_pos hc];have Ot:=H.kal i x k z hx hz hc;have XJ:k<(au u x).length:=by omega
   by_cases ho:m9 (dX u c m L i x) E i k ||| E.getD (dn c i k) 0=E.getD (dn c i k) 0
   ·rw[if_pos ho];refine⟨hI.A,hI.mono,hI.KV,hI.sub,hI.val,?_,hI.ms⟩;rcases hI.done with h | h
    ·exact .inl h
    ·refine .inr fun pc z' hp Ps Tu e he=>?_;by_cases QL:pc=k
     ·subst QL;exact (tL rfl).1 ho e he
     ·exact h pc z' yA Ps Tu e he
   ·rw[if_neg ho];have Ok:¬ ∀ e,(m9 (dX u c m L i x) E i k).testBit e=true→bb E (dn c i k) e=true:=fun h=>ho ((tL rfl).2 h);have Vb:=C0 H.L8 hI.A Ot (ID (u:=u) (c:=c) (m:=m) (L:=L) (E:=E) (i:=i) XJ) (fun e he=>by
     obtain⟨d,h1,h2⟩:=(zd (u:=u) (c:=c) (m:=m) (L:=L) (E:=E) (i:=i) XJ).1 he;exact .call (hI.A.sound i d h1) h2 hx hz hc) Ok
    obtain⟨k1,k2⟩:=Vb;have hkE:dn c i k<E.length:=by rw[hI.A.len];exact Ot
    have PB:∀ p e,bb E p e=true→bb (iq E (dn c i k) (m9 (dX u c m L i x) E i k)) p e=true:=fun p e hb=>by
     rw[p6 hkE];split
     ·rename_i hp;rw[← hp,hb];rfl
     ·exact hb
    have YV:∀ p,p≠dn c i k→(iq E (dn c i k) (m9 (dX u c m L i x) E i k)).getD p 0=E.getD p 0:=fun p hp=>by
     rw[iq,List.getD_eq_getElem?_getD,List.getElem?_set_ne (fun e=>hp e.symm),List.getD_eq_getElem?_getD]
    refine⟨k1,fun p e h=>PB p e (hI.mono p e h),fun p=>?_,fun p hp=>List.mem_append_left _ (hI.sub p hp),fun p hp=>?_,?_,?_⟩
    ·by_cases hp:p=dn c i k
     ·exact .inl (by simp[hp])
     ·rcases hI.KV p with h | h
      ·exact .inl (List.mem_append_left _ h)
      ·exact .inr ((YV p hp).trans h)
    ·rcases List.mem_append.1 hp with hp | hp
     ·exact hI.val p hp
     ·rw[List.mem_singleton.1 hp];exact .inr Ot
    ·by_cases VW:i=dn c i k
     ·exact .inl (by rw[List.mem_append,List.mem_singleton];exact .inr VW)
     ·rcases hI.done with h | h
      ·exact .inl (List.mem_append_left _ h)
      ·refine .inr fun pc z' hp Ps Tu e he=>?_;rw[m9,YV i VW] at he;by_cases QL:pc=k
       ·subst QL;rw[p6 hkE,if_pos rfl];rw[show (m9 (dX u c m L i x) E i pc).testBit e=true from he,Bool.or_true]
       ·exact PB _ e (h pc z' yA Ps Tu e he)
    ·have h1:td.length+2*cO E0≤td0.length+2*cO E:=hI.ms;have h2:cO E<cO (iq E (dn c i k) (m9 (dX u c m L i x) E i k)):=k2;simp only[List.length_append,List.length_singleton];omega
  ·rw[if_neg hc];refine⟨hI.A,hI.mono,hI.KV,hI.sub,hI.val,?_,hI.ms⟩;rcases hI.done with h | h
   ·exact .inl h
   ·refine .inr fun pc z' hp Ps Tu e he=>?_;by_cases QL:pc=k
    ·subst QL;rw[hz] at Ps;cases Ps;exact (hc Tu).elim
    ·exact h pc z' yA Ps Tu e he
structure InE (u:Un)(c:Cl)(m L:Nat)(E td:List Nat):Prop where
 A:Eg u c m L E
 val:∀ p∈td,p<c.is.length
 BC:∀ p x,c.is[p]? = some x→p∈td∨MF u c m L E p x
def gm (n:Nat):List Nat→List Nat
 | []=>List.replicate n 0
 | r::l=>(gm n l).set r 1
theorem lF (n:Nat):∀ l,(gm n l).length=n
 | []=>by simp[gm]
 | r::l=>by simp[gm,lF n l]
theorem rF (n:Nat):∀ (l:List Nat) (i e:Nat),(∀ r∈l,r<n)→(bb (gm n l) i e=true↔i∈l∧e=0)
 | [],i,e,_=>by
  unfold bb gm;rw[List.getD_eq_getElem?_getD,List.getElem?_replicate];split<;>simp
 | r::l,i,e,h=>by
  have ih:=rF n l i e fun x hx=>h x (List.mem_cons_of_mem _ hx);have hr:=h r List.mem_cons_self;unfold bb at ih ⊢;rw[gm,List.getD_eq_getElem?_getD,List.getElem?_set];by_cases Tn:r=i
  ·subst Tn;rw[if_pos rfl,if_pos (by rw[lF];exact hr)];simp only[Option.getD_some,List.mem_cons,true_or,true_and];rw[show (1:Nat)=2 ^ 0 from rfl,Nat.testBit_two_pow,decide_eq_true_eq];exact eq_comm
  ·rw[if_neg Tn,← List.getD_eq_getElem?_getD,ih,List.mem_cons];constructor
   ·rintro⟨h1,h2⟩;exact⟨.inr h1,h2⟩
   ·rintro⟨h1 | h1,h2⟩
    ·exact (Tn h1.symm).elim
    ·exact⟨h1,h2⟩
theorem zO (n L:Nat):∀ l:List Nat,∀ s∈gm n l,s<2 ^ (L+1)
 | [],s,h=>by rw[List.eq_of_mem_replicate h];exact Nat.two_pow_pos _
 | r::l,s,h=>by
  rcases List.mem_or_eq_of_mem_set h with h | rfl
  ·exact zO n L l s h
  ·have:2 ^ 1≤2 ^ (L+1):=Nat.pow_le_pow_right yA yA;omega
theorem Eg.start (H:FU u c L):Eg u c m L (gm c.is.length c.roots):=
 ⟨lF _ _,zO _ _ _,fun i e h=>by
  obtain⟨h1,rfl⟩:=(rF _ _ i e H.root).1 h;exact .root h1,fun r hr=>(rF _ _ r 0 H.root).2 ⟨hr,rfl⟩⟩
def msE (n:Nat)(E td:List Nat):Nat:=2*(9*n-cO E)+td.length
theorem InE.step (H:FU u c L){E td:List Nat}{i:Nat}{x:Is}(h:InE u c m L E (td++[i]))(hx:c.is[i]? = some x) :
  InE u c m L (AJ u c (dX u c m L i x) i x (au u x).length (E,td)).1 (AJ u c (dX u c m L i x) i x (au u x).length (E,td)).2∧
  msE c.is.length (AJ u c (dX u c m L i x) i x (au u x).length (E,td)).1 (AJ u c (dX u c m L i x) i x (au u x).length (E,td)).2<msE c.is.length E (td++[i]):=by
 have hI:=HV H hx (td0:=td) h.A (au u x).length (Nat.le_refl _);generalize AJ u c (dX u c m L i x) i x (au u x).length (E,td)=s at hI ⊢;obtain⟨E',td'⟩:=s;simp only at hI ⊢;refine⟨⟨hI.A,fun p hp=>?_,fun p y hy=>?_⟩,?_⟩
 ·rcases hI.val p hp with h1 | h1
  ·exact h.val p (List.mem_append_left _ h1)
  ·exact h1
 ·by_cases XE:p=i
  ·subst XE;rw[hx] at hy;cases hy;rcases hI.done with h1 | h1
   ·exact .inl h1
   ·exact .inr fun pc z hz hc e he=>h1 pc z (List.getElem?_eq_some_iff.1 hz).1 hz hc e he
  ·rcases h.BC p y hy with h1 | h1
   ·rcases List.mem_append.1 h1 with h1 | h1
    ·exact .inl (hI.sub p h1)
    ·exact (XE (List.mem_singleton.1 h1)).elim
   ·rcases hI.KV p with h2 | h2
    ·exact .inl h2
    ·refine .inr fun pc z hz hc e he=>?_;rw[h2] at he;exact hI.mono _ e (h1 pc z hz hc e he)
 ·have h1:td'.length+2*cO E≤td.length+2*cO E':=hI.ms;have h2:=qP E';have h3:E'.length=c.is.length:=hI.A.len;unfold msE;simp only[List.length_append,List.length_singleton];omega
theorem InE.fin (H:FU u c L){E:List Nat}(h:InE u c m L E []):E=pJ u c m L:=
 h.A.fin H fun i x hx=>by
  rcases h.BC i x hx with h1 | h1
  ·cases h1
  ·exact h1
def wv (u:Un)(c:Cl)(t:List (List Nat))(i:Nat)(x:Is):Nat→List Nat×Bool→List Nat×Bool
 | 0,s=>s
 | pc+1,s=>match (au u x)[pc]? with
  | none=>wv u c t i x pc s
  | some z=>if cN z=true then (if m9 t (wv u c t i x pc s).1 i pc ||| (wv u c t i x pc s).1.getD (dn c i pc) 0=(wv u c t i x pc s).1.getD (dn c i pc) 0 then wv u c t i x pc s
    else (iq (wv u c t i x pc s).1 (dn c i pc) (m9 t (wv u c t i x pc s).1 i pc),true)) else wv u c t i x pc s
structure EsI (u:Un)(c:Cl)(m L:Nat)(E0:List Nat)(s:List Nat×Bool):Prop where
 A:Eg u c m L s.1
 same:s.2=false→s.1=E0
 le:cO E0≤cO s.1
 lt:s.2=true→cO E0<cO s.1
theorem Cy (H:FU u c L){i:Nat}{x:Is}(hx:c.is[i]? = some x){E0:List Nat}{s0:List Nat×Bool}(h0:EsI u c m L E0 s0):∀ k,k≤(au u x).length→EsI u c m L E0 (wv u c (dX u c m L i x) i x k s0)∧
  ((wv u c (dX u c m L i x) i x k s0).2=false→s0.2=false∧∀ pc z,pc<k→(au u x)[pc]? = some z→cN z=true→∀ e,(m9 (dX u c m L i x) E0 i pc).testBit e=true→bb E0 (dn c i pc) e=true)
 | 0,_=>⟨h0,fun h=>⟨h,fun pc z hp=>by omega⟩⟩
 | k+1,hk=>by
  obtain⟨hI,hd⟩:=Cy H hx h0 k yA;obtain⟨z,hz⟩:∃ z,(au u x)[k]? = some z:=⟨_,List.getElem?_eq_getElem yA⟩;simp only[wv,hz];generalize wv u c (dX u c m L i x) i x k s0=s at hI hd ⊢;obtain⟨E,ag⟩:=s;simp only at hI hd ⊢;by_cases hc:cN z=true
  ·rw[if_pos hc];have Ot:=H.kal i x k z hx hz hc;have XJ:k<(au u x).length:=by omega
   by_cases ho:m9 (dX u c m L i x) E i k ||| E.getD (dn c i k) 0=E.getD (dn c i k) 0
   ·rw[if_pos ho];refine⟨hI,fun h=>?_⟩;obtain⟨h1,h2⟩:=hd h;refine⟨h1,fun pc z' hp Ps Tu e he=>?_⟩;by_cases QL:pc=k
    ·subst QL;have hE:E=E0:=hI.same h;rw[hE] at ho;exact (tL rfl).1 ho e he
    ·exact h2 pc z' yA Ps Tu e he
   ·rw[if_neg ho];have Ok:¬ ∀ e,(m9 (dX u c m L i x) E i k).testBit e=true→bb E (dn c i k) e=true:=fun h=>ho ((tL rfl).2 h);obtain⟨k1,k2⟩:=C0 H.L8 hI.A Ot (ID (u:=u) (c:=c) (m:=m) (L:=L) (E:=E) (i:=i) XJ) (fun e he=>by
     obtain⟨d,h1,h2⟩:=(zd (u:=u) (c:=c) (m:=m) (L:=L) (E:=E) (i:=i) XJ).1 he;exact .call (hI.A.sound i d h1) h2 hx hz hc) Ok
    have hle:cO E0≤cO E:=hI.le;have k3:cO E<cO (iq E (dn c i k) (m9 (dX u c m L i x) E i k)):=k2;exact⟨⟨k1,(fun h=>by cases h),by simp only;omega,fun _=>by simp only;omega⟩,fun h=>by cases h⟩
  ·rw[if_neg hc];refine⟨hI,fun h=>?_⟩;obtain⟨h1,h2⟩:=hd h;refine⟨h1,fun pc z' hp Ps Tu e he=>?_⟩;by_cases QL:pc=k
   ·subst QL;rw[hz] at Ps;cases Ps;exact (hc Tu).elim
   ·exact h2 pc z' yA Ps Tu e he
noncomputable def pH (u:Un) (c:Cl) (m L:Nat) (E0:List Nat):Nat→List Nat×Bool
 | 0=>(E0,false)
 | i+1=>match c.is[i]? with
  | none=>pH u c m L E0 i
  | some x=>wv u c (dX u c m L i x) i x (au u x).length (pH u c m L E0 i)
theorem yR (H:FU u c L){E0:List Nat}(h0:Eg u c m L E0):∀ k,k≤c.is.length→EsI u c m L E0 (pH u c m L E0 k)∧((pH u c m L E0 k).2=false→∀ i x,i<k→c.is[i]? = some x→MF u c m L E0 i x)
 | 0,_=>⟨⟨h0,fun _=>rfl,Nat.le_refl _,fun h=>by cases h⟩,fun _ i x hi=>by omega⟩
 | k+1,hk=>by
  obtain⟨hI,hd⟩:=yR H h0 k yA;obtain⟨x,hx⟩:∃ x,c.is[k]? = some x:=⟨_,List.getElem?_eq_getElem yA⟩;simp only[pH,hx];obtain⟨k1,k2⟩:=Cy H hx hI (au u x).length (Nat.le_refl _);refine⟨k1,fun h i y hi hy=>?_⟩;obtain⟨k3,k4⟩:=k2 h;by_cases VW:i=k
  ·subst VW;rw[hx] at hy;cases hy;exact fun pc z hz hc e he=>k4 pc z (List.getElem?_eq_some_iff.1 hz).1 hz hc e he
  ·exact hd k3 i y yA hy
theorem HR (H:FU u c L){E0:List Nat}(h0:Eg u c m L E0)(h:(pH u c m L E0 c.is.length).2=false):E0=pJ u c m L:=
 h0.fin H fun i x hx=>(yR H h0 _ (Nat.le_refl _)).2 h i x (List.getElem?_eq_some_iff.1 hx).1 hx
end
theorem kG {u:Un}{x:Is}(h:pY u x):∃ q,u.ps[x.proc]? = some q∧au u x=q.code:=by
 obtain⟨⟨q,hq,_⟩,_⟩:=h;exact⟨q,hq,by simp only[au,hq]⟩
theorem Fm {u:Un}(hu:im u){x:Is}(h:pY u x){pc:Nat}{z:In}(hz:(au u x)[pc]? = some z)(hr:z≠.ret):pc+1<(au u x).length:=by
 obtain⟨q,hq,hc⟩:=kG h;obtain⟨⟨c,Td⟩,_⟩:=hu.pc q (List.mem_of_getElem? hq);rw[hc,Td] at hz ⊢;have h1:=(List.getElem?_eq_some_iff.1 hz).1;simp only[List.length_append,List.length_singleton] at h1 ⊢;by_cases h:pc=c.length
 ·rw[h] at hz;simp at hz;exact (hr hz.symm).elim
 ·omega
theorem qJ {u:Un}(hu:im u){x:Is}(h:pY u x):0<(au u x).length:=by
 obtain⟨q,hq,hc⟩:=kG h;obtain⟨⟨c,Td⟩,_⟩:=hu.pc q (List.mem_of_getElem? hq);rw[hc,Td];simp
theorem nE {u:Un}(hu:im u){x:Is}(h:pY u x){pc:Nat}{z:In}(hz:(au u x)[pc]? = some z):∃ q,u.ps[x.proc]? = some q∧au u x=q.code∧x.bI.length=q.bI∧FT (u.ps.map fun q=>(q.ints,q.bI)) u.ms u.gs.length q.locals q.bI ((au u x).length-1) z:=by
 obtain⟨⟨q,hq,hl⟩,_⟩:=h;have hc:au u x=q.code:=by simp only[au,hq]
 rw[hc] at hz ⊢;exact⟨q,hq,rfl,hl,(hu.pc q (List.mem_of_getElem? hq)).2 z (List.mem_of_getElem? hz)⟩
theorem rQ {u:Un}(hu:im u){x:Is}(h:pY u x){pc:Nat}{z:In}(hz:(au u x)[pc]? = some z){q:Nat}(hq:q∈dJ z pc):q<(au u x).length:=by
 have hp:=qJ hu h;obtain⟨_,_,_,_,hi⟩:=nE hu h hz;have hn:z≠.ret→pc+1<(au u x).length:=Fm hu h hz
 cases z with
 | ret=>cases hq
 | jump g=>
  have:g≤(au u x).length-1:=hi;simp only[dJ,List.mem_singleton] at hq;omega
 | branch g e=>
  have h1:g≤(au u x).length-1:=hi.1;have h2:=hn N3;simp only[dJ] at hq;split at hq
  ·simp only[List.mem_singleton] at hq;omega
  ·simp only[List.mem_cons,List.not_mem_nil,or_false] at hq;omega
 | set t g e=>
  have h2:=hn N3;simp only[dJ,List.mem_singleton] at hq;omega
 | call g t l ps=>
  have h2:=hn N3;simp only[dJ,List.mem_singleton] at hq;omega
 | lock un p=>
  have h2:=hn N3;simp only[dJ,List.mem_singleton] at hq;omega
theorem Mb {u:Un}(hu:im u){i:Nat}{x:Is}(hx:(ak u).is[i]? = some x){pc:Nat}{z:In}(hz:(au u x)[pc]? = some z){y:Is}(hy:jz x z=some y):((ak u).calls.getD i []).getD pc (-1)=(gu (ak u).is y:Int)∧y∈(ak u).is:=by
 have ci:=y0 hu;have hi:=(List.getElem?_eq_some_iff.1 hx).1;have h1:=ci.row i x hi hx;refine⟨?_,ci.mem i x hi hx z (List.mem_of_getElem? hz) y hy⟩;have hg:(ak u).calls.getD i []=yf (ak u).is x (au u x):=by
  rw[List.getD_eq_getElem?_getD,h1];rfl
 rw[hg,yf,List.getD_eq_getElem?_getD,List.getElem?_map,hz];simp only[Option.map_some,Option.getD_some,hy]
theorem FC {x:Is}{z:In}(h:cN z=true):∃ y,jz x z=some y:=by
 cases z with
 | call g t l ps=>exact⟨_,rfl⟩
 | _=>simp[cN] at h
theorem yG {u:Un}(hu:im u){i:Nat}{x:Is}(hx:(ak u).is[i]? = some x){pc:Nat}{z:In}(hz:(au u x)[pc]? = some z)(hc:cN z=true):dn (ak u) i pc<(ak u).is.length∧((ak u).calls.getD i []).getD pc (-1)=(dn (ak u) i pc:Int):=by
 obtain⟨y,hy⟩:=FC (x:=x) hc;obtain⟨h1,h2⟩:=Mb hu hx hz hy;have h3:dn (ak u) i pc=gu (ak u).is y:=by
  rw[dn,h1];simp
 rw[h3];exact⟨DF h2,h1⟩
theorem tt {u:Un}(hu:im u){L:Nat}(h8:L≤8):FU u (ak u) L:=by
 refine⟨h8,fun i x pc z hx hz hc=>(yG hu hx hz hc).1,fun r hr=>?_⟩;have ci:=y0 hu;rcases (ci.root r).1 hr with rfl | ⟨j,x,hj,hx,z,hz,_,y,hy,rfl⟩
 ·exact ci.pos
 ·exact DF (ci.mem j x hj hx z hz y hy)
theorem Ij {u:Un}(hu:im u):∀ (f i:Nat) (l:List Is) (cs:List (List Int)) (r:List Nat),l.Nodup→(∀ y∈l,pY u y)→∀ y∈(mo u f i l cs r).is,pY u y
 | 0,_,_,_,_,_,h=>h
 | f+1,i,l,cs,r,hn,h=>by
  simp only[mo];split
  ·exact h
  ·rename_i x hx;obtain⟨h1,h2⟩:=qg hu (h x (List.mem_of_getElem? hx)) (au u x) l r (fun _ h=>h) hn h;exact Ij hu f (i+1) _ _ _ h1 h2
theorem Ih {u:Un}(hu:im u):∀ y∈(ak u).is,pY u y:=by
 refine Ij hu 100 0 [⟨u.main,[]⟩] [] [0] N3 fun x hx=>?_;rw[List.mem_singleton.1 hx];have hp:=hu.np.1;obtain⟨q,hq⟩:∃ q,u.ps[0]? = some q:=⟨_,List.getElem?_eq_getElem yA⟩;exact⟨⟨q,by rw[hu.main];exact hq,by rw[(hu.p0 q hq).2];rfl⟩,fun l hl=>by cases hl⟩
theorem IY {u:Un}(hu:im u){L:Nat}(h8:L≤8){i:Nat}{x:Is}(hx:(ak u).is[i]? = some x){sm:List (List Nat)}(hs:tg L (ak u).is.length sm):InH u (ak u) L i x sm:=by
 have hv:=Ih hu x (List.mem_of_getElem? hx);exact⟨hx,h8,hs,fun pc z hz q hq=>rQ hu hv hz hq,fun pc z hz hc=>(yG hu hx hz hc).1,qJ hu hv⟩
theorem Eh (l:List Nat)(n:Nat):(fU l n).length≤l.length+1:=by
 unfold fU;split
 ·omega
 ·simp;omega
theorem BX (x:Is):∀ (c:List In) (l:List Is) (r:List Nat),(gL x c l r).2.2.length≤r.length+c.length
 | [],_,_=>by simp[gL]
 | i::c,l,r=>by
  cases h:jz x i with
  | none=>
   have:=BX x c l r;simp only[gL,h,List.length_cons];omega
  | some y=>
   have:=BX x c (eN l y) (if rX i=true then fU r (gu (eN l y) y) else r);have h2:(if rX i=true then fU r (gu (eN l y) y) else r).length≤r.length+1:=by
    split
    ·exact Eh _ _
    ·omega
   simp only[gL,h,List.length_cons];omega
theorem DZ {u:Un}(hu:im u):∀ (f i:Nat) (l:List Is) (cs:List (List Int)) (r:List Nat),(mo u f i l cs r).roots.length≤r.length+145*f
 | 0,_,_,_,_=>by simp[mo]
 | f+1,i,l,cs,r=>by
  simp only[mo];split
  ·simp
  ·rename_i x _;have h1:=DZ hu f (i+1) (gL x (au u x) l r).1 (cs++[(gL x (au u x) l r).2.1]) (gL x (au u x) l r).2.2;have h2:=BX x (au u x) l r;have h3:=eK hu x;omega
theorem yZ {u:Un}(hu:im u):(ak u).roots.length≤14501:=DZ hu 100 0 _ _ _
end Go.aN
namespace Go.Proofs.YtlkmbdfhdknlgaaGreatDoor
open Go.Can Go.aN
def jY (f:List Nat)(i:Nat):List CV:=(f.take i).map (fun n:Nat=>I n)++List.replicate (f.length-i) (I 0)
theorem vj {f:List Nat}{i:Nat}(h:i≤f.length):(jY f i).length=f.length:=by simp[jY];omega
theorem r7 (f:List Nat):jY f 0=List.replicate f.length (I 0):=by simp[jY]
theorem vk (f:List Nat):jY f f.length=f.map fun n:Nat=>I n:=by simp[jY]
theorem nQ (n:Nat):trees (List.replicate n (I 0))=true:=by
 induction n with
 | zero=>rfl
 | succ n ih=>rw[List.replicate_succ];simpa only[trees,tree,Bool.true_and] using ih
theorem pF (f:List Nat)(i:Nat):trees (jY f i)=true:=by rw[jY,aZ,bj,nQ];rfl
theorem vi {f:List Nat}{i v:Nat}(h:f[i]? = some v):List.take i (jY f i)++I v::List.drop (i+1) (jY f i)=jY f (i+1):=by
 have hl:=(List.getElem?_eq_some_iff.1 h).1;have hA:((f.take i).map (fun n:Nat=>I n)).length=i:=by rw[List.length_map,List.length_take];omega
 have hr:List.replicate (f.length-i) (I 0)=I 0::List.replicate (f.length-(i+1)) (I 0):=by
  rw[show f.length-i=(f.length-(i+1))+1 by omega,List.replicate_succ]
 rw[jY,jY,hr,List.take_left' hA];have hd:List.drop (i+1) ((f.take i).map (fun n:Nat=>I n)++I 0::List.replicate (f.length-(i+1)) (I 0))=List.replicate (f.length-(i+1)) (I 0):=by
  rw[← List.drop_drop,List.drop_left' hA];rfl
 rw[hd,List.take_add_one,h];simp
theorem xy {f:List Nat}{i:Nat}(h:f[i]? = some 0):jY f i=jY f (i+1):=by
 have hl:=(List.getElem?_eq_some_iff.1 h).1;rw[jY,jY,show f.length-i=(f.length-(i+1))+1 by omega,List.replicate_succ,List.take_add_one,h];simp
theorem zw {l:List CV}(h:trees l=true)(i:Nat):trees (List.take i l)=true∧trees (List.drop i l)=true:=by
 have:=aZ (List.take i l) (List.drop i l);rw[List.take_append_drop,h] at this
 simpa using this.symm
end Go.Proofs.YtlkmbdfhdknlgaaGreatDoor
