/- The reference's rounds: everything is gone through again and -/
import Derived.Test.YtnecpnjdonibmaaGreatZ20
namespace Go.aP
open Go.Can
def sK (a:List Nat):List Nat→List (List Nat)×Bool→List (List Nat)×Bool
 | [],s=>s
 | q::r,s=>sK a r (if rv a (s.1.getD q [])=true then s else (s.1.set q (iU (s.1.getD q []) a),true))
theorem yV (a:List Nat):∀ (l:List Nat) (q:Nat) (s:List (List Nat)×Bool),sK a (l++[q]) s=(if rv a ((sK a l s).1.getD q [])=true then sK a l s else ((sK a l s).1.set q (iU ((sK a l s).1.getD q []) a),true))
 | [],q,s=>by
  simp only[List.nil_append,sK];rfl
 | x::l,q,s=>by
  simp only[List.cons_append,sK];exact yV a l q _
def jx (u:Un)(c:Cl)(L m i:Nat)(x:Is)(sm t0:List (List Nat)):Nat→List (List Nat)×Bool
 | 0=>(t0,false)
 | pc+1=>match (au u x)[pc]? with
  | none=>jx u c L m i x sm t0 pc
  | some z=>sK (nr ((jx u c L m i x sm t0 pc).1.getD pc []) (fC c L m sm i x z pc)) (eM z pc) (jx u c L m i x sm t0 pc)
structure SwI (u:Un)(c:Cl)(L m i:Nat)(x:Is)(sm t0:List (List Nat))(s:List (List Nat)×Bool):Prop where
 A:z9 u c L m i x sm s.1
 same:s.2=false→s.1=t0
 le:cL t0≤cL s.1
 lt:s.2=true→cL t0<cL s.1
section
variable {u:Un}{c:Cl}{L m i:Nat}{x:Is}{sm:List (List Nat)}(H:InH u c L i x sm)
include H
theorem Hb {t0:List (List Nat)}{a:List Nat}(ha:qc L a){s:List (List Nat)×Bool}(h0:SwI u c L m i x sm t0 s):∀ (qs:List Nat),(∀ q∈qs,q<(au u x).length∧∀ d e,bf a d e=true→Ri u c m L (xv sm) i q d e)→∀ n,n≤qs.length→SwI u c L m i x sm t0 (sK a (qs.take n) s)∧((sK a (qs.take n) s).2=false→s.2=false∧∀ q∈qs.take n,rv a (t0.getD q [])=true):=by
 intro qs hqs n
 induction n with
 | zero=>intro _;exact⟨h0,fun h=>⟨h,fun q hq=>by simp at hq⟩⟩
 | succ n ih=>
  intro hn;obtain⟨hI,hd⟩:=ih yA;obtain⟨q,Tu⟩:∃ q,qs[n]? = some q:=⟨_,List.getElem?_eq_getElem yA⟩;obtain⟨hq,hs⟩:=hqs q (List.mem_of_getElem? Tu);have Pd:qs.take (n+1)=qs.take n++[q]:=by rw[List.take_add_one,Tu];rfl
  rw[Pd];generalize qs.take n=l at hI hd ⊢;rw[yV];generalize sK a l s=s' at hI hd ⊢;obtain⟨t,ag⟩:=s';simp only at hI hd ⊢;obtain⟨k1,k2,k3,k4,k5,k6⟩:=DA H hI.A hq ha hs;by_cases Pj:rv a (t.getD q [])=true
  ·rw[if_pos Pj];refine⟨hI,fun h=>?_⟩;obtain⟨h1,h2⟩:=hd h;refine⟨h1,fun p hp=>?_⟩;rcases List.mem_append.1 hp with hp | hp
   ·exact h2 p hp
   ·rw[List.mem_singleton.1 hp,← hI.same h];exact Pj
  ·rw[if_neg Pj];rw[uI Pj] at k1 k6;have hb:cL t<_:=k6 (by simpa using Pj);have hle:cL t0≤cL t:=hI.le;exact⟨⟨k1,(fun h=>by cases h),by simp only;omega,fun _=>by simp only;omega⟩,fun h=>by cases h⟩
theorem yU {t0:List (List Nat)}(h0:z9 u c L m i x sm t0):∀ k,k≤(au u x).length→SwI u c L m i x sm t0 (jx u c L m i x sm t0 k)∧((jx u c L m i x sm t0 k).2=false→∀ p,p<k→EJ u c L m i x sm t0 p)
 | 0,_=>⟨⟨h0,fun _=>rfl,Nat.le_refl _,fun h=>by cases h⟩,fun _ p hp=>by omega⟩
 | k+1,hk=>by
  obtain⟨hI,hd⟩:=yU h0 k yA;obtain⟨z,hz⟩:∃ z,(au u x)[k]? = some z:=⟨_,List.getElem?_eq_getElem yA⟩;simp only[jx,hz];obtain⟨w,g⟩:=vI H hI.A.wf (show k<_ by omega);have ha:=pZ w (kD H (m:=m) hz);obtain⟨k1,k2⟩:=Hb H ha hI (eM z k) (fun q hq=>⟨H.nx k z hz q hq,fun d e hb=>by
   obtain⟨y,y1,y2⟩:=(oQ _ _ d e).1 hb;exact tY H hz hq (hI.A.sound k d y y1) y2⟩) (eM z k).length (Nat.le_refl _)
  rw[List.take_length] at k1 k2;refine⟨k1,fun h p hp=>?_⟩;obtain⟨k3,k4⟩:=k2 h;by_cases Rw:p=k
  ·subst Rw;intro z' PZ q hq;rw[hz] at PZ;cases PZ;have hs:=hI.same k3;have:=k4 q hq;rw[hs] at this;exact this
  ·exact hd k3 p yA
theorem JY {t0:List (List Nat)}(h0:z9 u c L m i x sm t0)(h:(jx u c L m i x sm t0 (au u x).length).2=false):t0=qh L (au u x).length (Ri u c m L (xv sm) i):=
 h0.fin H ((yU H h0 _ (Nat.le_refl _)).2 h)
theorem Mj {a b:List Nat}(h:a.length=b.length):iU b a=b↔rv a b=true:=by
 have _:=H;rw[ml h];constructor
 ·intro he d e hb;rw[← he,yO h.symm,hb,Bool.or_true]
 ·intro hs;refine List.ext_getElem? fun d=>?_;rw[iU,List.getElem?_zipWith];by_cases hd:d<b.length
  ·rw[List.getElem?_eq_getElem hd,List.getElem?_eq_getElem yA];simp only;congr 1;refine Nat.eq_of_testBit_eq fun e=>?_;rw[Nat.testBit_or];have h1:=hs d e;simp only[bf,List.getD_eq_getElem?_getD,List.getElem?_eq_getElem hd,List.getElem?_eq_getElem (show d<a.length by omega),Option.getD_some] at h1;cases hx:(b[d]).testBit e<;>cases hy:(a[d]'yA).testBit e<;>simp_all
  ·rw[List.getElem?_eq_none yA,List.getElem?_eq_none yA]
end
section
variable {u:Un}{c:Cl}{m L:Nat}
noncomputable def tL (u:Un) (c:Cl) (m L:Nat) (sm:List (List Nat)) (i:Nat):List Nat:=tG L (Gn u c m L (xv sm) i)
noncomputable def j3 (u:Un) (c:Cl) (m L:Nat):List (List Nat):=qh L c.is.length (q9 u c m L)
structure z0 (u:Un)(c:Cl)(m L:Nat)(t:List (List Nat)):Prop where
 wf:qb L c.is.length t
 sound:∀ i d e,eO t i d e=true→q9 u c m L i d e
 pre:∀ i d e,eO t i d e=true→Gn u c m L (xv t) i d e
theorem z0.start:z0 u c m L (List.replicate c.is.length (kS L)):=by
 have hb:∀ pc d e,eO (List.replicate c.is.length (kS L)) pc d e=false:=fun pc d e=>by
  unfold eO;rw[List.getD_eq_getElem?_getD,List.getElem?_replicate];split
  ·exact tO L d e
  ·simp[bf]
 exact⟨⟨by simp,fun r hr=>by rw[List.eq_of_mem_replicate hr];exact B5 L⟩,(fun i d e h=>by rw[hb] at h;cases h),fun i d e h=>by rw[hb] at h;cases h⟩
theorem vM {S:Nat→Nat→Nat→Prop}{i d e:Nat}(h:Gn u c m L S i d e):i<c.is.length∧d≤L∧e≤L:=by
 obtain⟨pc,x,h1,_,h3⟩:=h;exact⟨(List.getElem?_eq_some_iff.1 h1).1,h3.le⟩
theorem z0.fin {t:List (List Nat)}(h:z0 u c m L t)(hc:∀ i,i<c.is.length→t.getD i []=tL u c m L t i):t=j3 u c m L:=by
 refine DE h.wf fun i d e _ _ _=>⟨h.sound i d e,fun hs=>?_⟩;refine hs.least (S:=xv t) fun i d e he=>?_;obtain⟨h1,h2,h3⟩:=vM he;show bf (t.getD i []) d e=true;rw[hc i h1];exact (g9 h2 h3).2 he
theorem z0.step {t:List (List Nat)}(h:z0 u c m L t)(h8:L≤8){i:Nat}(hi:i<c.is.length):z0 u c m L (t.set i (tL u c m L t i))∧(t.getD i []≠tL u c m L t i→cL t<cL (t.set i (tL u c m L t i))):=by
 have PK:i<t.length:=by rw[h.wf.len];exact hi
 have hex:=kG L (Gn u c m L (xv t) i);have Qp:∀ p d e,eO t p d e=true→eO (t.set i (tL u c m L t i)) p d e=true:=fun p d e hb=>by
  rw[kk PK];split
  ·rename_i hp;subst hp;have h1:=h.pre p d e hb;obtain⟨_,h2,h3⟩:=vM h1;exact (g9 h2 h3).2 h1
  ·exact hb
 have Pj:∀ p d e,eO (t.set i (tL u c m L t i)) p d e=true→Gn u c m L (xv t) p d e:=fun p d e hb=>by
  rw[kk PK] at hb;split at hb
  ·rename_i hp;subst hp;obtain⟨h2,h3⟩:=kQ hex hb;exact (g9 h2 h3).1 hb
  ·exact h.pre p d e hb
 refine⟨⟨h.wf.set hex,fun p d e hb=>?_,fun p d e hb=>(Pj p d e hb).mono fun a b c hx=>Qp a b c hx⟩,fun Pf=>?_⟩
 ·exact zC.1 ((Pj p d e hb).mono fun a b c hx=>h.sound a b c hx)
 ·obtain⟨r,hr,hw⟩:=h.wf.get hi;have hg:t.getD i []=r:=by rw[List.getD_eq_getElem?_getD,hr];rfl
  have h1:=sE t i r (tL u c m L t i) hr;rw[hg] at Pf;have Qd:∀ d e,bf r d e=true→bf (tL u c m L t i) d e=true:=fun d e hb=>by
   have:=Qp i d e (by rw[iQ hr];exact hb);rwa [kk PK,if_pos rfl] at this
  have hx:∃ d e,bf r d e=false∧bf (tL u c m L t i) d e=true:=by
   refine Classical.byContradiction fun hc=>Pf (yM hw hex fun d e _ _=>?_)
   cases hb:bf r d e with
   | true=>rw[Qd d e hb]
   | false=>
    cases Qz:bf (tL u c m L t i) d e with
    | true=>exact (hc ⟨d,e,hb,Qz⟩).elim
    | false=>rfl
  obtain⟨d,e,hb,Qz⟩:=hx;have hle:=(kQ hex Qz).2;have:=qR r (tL u c m L t i) (hw.len.trans hex.len.symm) Qd ⟨d,e,by omega,hb,Qz⟩;omega
end
section
variable {u:Un}{c:Cl}{m L:Nat}
noncomputable def mc (u:Un) (c:Cl) (m L:Nat) (t:List (List Nat)):List (List Nat):=(List.range c.is.length).map fun i=>tL u c m L t i
theorem y6 {t:List (List Nat)}{i:Nat}(h:i<c.is.length):(mc u c m L t)[i]? = some (tL u c m L t i):=by
 rw[mc,List.getElem?_map,List.getElem?_eq_getElem RC];simp
theorem u5 {t:List (List Nat)}{i d e:Nat}:eO (mc u c m L t) i d e=true↔Gn u c m L (xv t) i d e:=by
 by_cases hi:i<c.is.length
 ·rw[iQ (y6 hi)];have hw:=kG L (Gn u c m L (xv t) i);constructor
  ·intro h;obtain⟨h1,h2⟩:=kQ hw h;exact (g9 h1 h2).1 h
  ·intro h;obtain⟨_,h1,h2⟩:=vM h;exact (g9 h1 h2).2 h
 ·rw[yk (by simp[mc];omega)];constructor
  ·intro h;cases h
  ·intro h;exact (hi (vM h).1).elim
theorem z0.round {t:List (List Nat)}(h:z0 u c m L t)(h8:L≤8):z0 u c m L (mc u c m L t)∧(t≠mc u c m L t→cL t<cL (mc u c m L t))∧(t=mc u c m L t→t=j3 u c m L):=by
 have hw:qb L c.is.length (mc u c m L t):=⟨by simp[mc],fun r hr=>by
  simp only[mc,List.mem_map] at hr;obtain⟨i,_,rfl⟩:=hr;exact kG L _⟩
 have Qp:∀ i d e,eO t i d e=true→eO (mc u c m L t) i d e=true:=fun i d e hb=>u5.2 (h.pre i d e hb);refine⟨⟨hw,fun i d e hb=>zC.1 ((u5.1 hb).mono fun a b c hx=>h.sound a b c hx),fun i d e hb=>(u5.1 hb).mono fun a b c hx=>Qp a b c hx⟩,fun Pf=>?_,fun he=>?_⟩
 ·have key:∀ (a b:List (List Nat)),a.length=b.length→(∀ r∈a,qc L r)→(∀ r∈b,qc L r)→(∀ i d e,eO a i d e=true→eO b i d e=true)→cL a≤cL b∧(a≠b→cL a<cL b):=by
   intro a
   induction a with
   | nil=>
    intro b hl _ _ _;have:b=[]:=List.length_eq_zero_iff.1 hl.symm;subst this;exact⟨Nat.le_refl _,fun h=>(h rfl).elim⟩
   | cons x a ih=>
    intro b hl ha hb hs
    cases b with
    | nil=>simp at hl
    | cons y b=>
     have hx:=ha x List.mem_cons_self;have hy:=hb y List.mem_cons_self;have VG:∀ d e,bf x d e=true→bf y d e=true:=fun d e hq=>by simpa [eO] using hs 0 d e (by simpa [eO] using hq)
     obtain⟨i1,i2⟩:=ih b (by simpa using hl) (fun r hr=>ha r (List.mem_cons_of_mem _ hr)) (fun r hr=>hb r (List.mem_cons_of_mem _ hr)) fun i d e hq=>by simpa [eO] using hs (i+1) d e (by simpa [eO] using hq)
     have hm:=p5 x y (by rw[hx.len,hy.len]) VG;simp only[cL,List.map_cons,List.sum_cons] at i1 i2 ⊢;refine⟨by omega,fun Pf=>?_⟩;by_cases QL:x=y
     ·have:=i2 fun e=>Pf (by rw[QL,e]);omega
     ·have hex:∃ d e,bf x d e=false∧bf y d e=true:=by
       refine Classical.byContradiction fun hc=>QL (yM hx hy fun d e _ _=>?_)
       cases Si:bf x d e with
       | true=>rw[VG d e Si]
       | false=>
        cases Qz:bf y d e with
        | true=>exact (hc ⟨d,e,Si,Qz⟩).elim
        | false=>rfl
      obtain⟨d,e,h1,h2⟩:=hex;have:=qR x y (by rw[hx.len,hy.len]) VG ⟨d,e,by have:=(kQ hy h2).2;omega,h1,h2⟩;omega
  exact (key t _ (by rw[h.wf.len,hw.len]) h.wf.row hw.row Qp).2 Pf
 ·refine h.fin fun i hi=>?_;rw[he,List.getD_eq_getElem?_getD,y6 hi,← he];rfl
end
section
variable (u:Un)(c:Cl)(m L:Nat)
noncomputable def dh (i:Nat) (x:Is):List (List Nat):=qh L (au u x).length (Rr u c m L i)
noncomputable def iq:List Nat:=(List.range c.is.length).map fun i=>jE L (pf u c m L i)
def ej (E:List Nat)(k s:Nat):List Nat:=E.set k (E.getD k 0 ||| s)
structure B4 (E:List Nat):Prop where
 len:E.length=c.is.length
 lt:∀ s∈E,s<2 ^ (L+1)
 sound:∀ i e,bf E i e=true→pf u c m L i e
 root:∀ r∈c.roots,bf E r 0=true
def NC (E:List Nat)(i:Nat)(x:Is):Prop:=∀ pc z,(au u x)[pc]? = some z→eF z=true→∀ e,(uF ((dh u c m L i x).getD pc []) (E.getD i 0)).testBit e=true→bf E (dH c i pc) e=true
structure Gp:Prop where
 L8:L≤8
 kal:∀ i x pc z,c.is[i]? = some x→(au u x)[pc]? = some z→eF z=true→dH c i pc<c.is.length
 root:∀ r∈c.roots,r<c.is.length
end
section
variable {u:Un}{c:Cl}{m L:Nat}
theorem D9 {i pc:Nat}{x:Is}(h:pc<(au u x).length):(dh u c m L i x)[pc]? = some (tG L (Rr u c m L i pc)):=yR _ h
theorem Lo {i pc d e:Nat}(h:Rr u c m L i pc d e):d≤L∧e≤L:=h.ri.le
theorem wx {E:List Nat}{i pc e:Nat}{x:Is}(h:pc<(au u x).length):(uF ((dh u c m L i x).getD pc []) (E.getD i 0)).testBit e=true↔∃ d,bf E i d=true∧Rr u c m L i pc d e:=by
 have hg:(dh u c m L i x).getD pc []=tG L (Rr u c m L i pc):=by
  rw[List.getD_eq_getElem?_getD,D9 h];rfl
 rw[ES,hg];constructor
 ·rintro⟨d,h1,h2⟩;obtain⟨h3,h4⟩:=kQ (kG L _) h2;exact⟨d,h1,(g9 h3 h4).1 h2⟩
 ·rintro⟨d,h1,h2⟩;obtain⟨h3,h4⟩:=Lo h2;exact⟨d,h1,(g9 h3 h4).2 h2⟩
theorem Jx {E:List Nat}{i pc:Nat}{x:Is}(h:pc<(au u x).length):uF ((dh u c m L i x).getD pc []) (E.getD i 0)<2 ^ (L+1):=by
 rw[List.getD_eq_getElem?_getD,D9 h];exact wy _ _ _ (kG L _).lt
theorem IV (H:Gp u c L){i e:Nat}(h:pf u c m L i e):i<c.is.length∧e≤L:=by
 cases h with
 | root h=>exact⟨H.root _ h,Nat.zero_le _⟩
 | call _ hr hx hz hc=>exact⟨H.kal _ _ _ _ hx hz hc,(Lo hr).2⟩
theorem B4.fin (_H:Gp u c L){E:List Nat}(h:B4 u c m L E)(hc:∀ i x,c.is[i]? = some x→NC u c m L E i x):E=iq u c m L:=by
 have key:∀ i e,pf u c m L i e→bf E i e=true:=by
  intro i e he
  induction he with
  | root hr=>exact h.root _ hr
  | call _ hr hx hz TB ih=>exact hc _ _ hx _ _ hz TB _ ((wx (List.getElem?_eq_some_iff.1 hz).1).2 ⟨_,ih,hr⟩)
 refine List.ext_getElem? fun i=>?_;by_cases hi:i<c.is.length
 ·have h1:i<E.length:=by rw[h.len];exact hi
  rw[List.getElem?_eq_getElem h1,iq,List.getElem?_map,List.getElem?_eq_getElem WA];simp only[List.getElem_range,Option.map_some];congr 1;refine D5 (h.lt _ (List.getElem_mem h1)) fun e _=>?_;have hb:bf E i e=(E[i]).testBit e:=by simp[bf,List.getD_eq_getElem?_getD,List.getElem?_eq_getElem h1]
  rw[← hb];exact⟨h.sound i e,key i e⟩
 ·rw[List.getElem?_eq_none (by rw[h.len];omega),List.getElem?_eq_none (by simp[iq];omega)]
theorem qd {E:List Nat}{k s i e:Nat}(hk:k<E.length):bf (ej E k s) i e=if i=k then (bf E k e || s.testBit e) else bf E i e:=by
 unfold bf ej;rw[List.getD_eq_getElem?_getD,List.getElem?_set];by_cases h:k=i
 ·subst h;simp[hk,Nat.testBit_or]
 ·rw[if_neg h,if_neg (fun e=>h e.symm),List.getD_eq_getElem?_getD]
theorem yj:∀ (t:List Nat) (i a b:Nat),t[i]? = some a→cT (t.set i b)+bits a=cT t+bits b
 | [],i,a,b,h=>by simp at h
 | x::t,0,a,b,h=>by
  simp at h;subst h;simp[cT];omega
 | x::t,i+1,a,b,h=>by
  have:=yj t i a b RC;simp only[cT,List.set_cons_succ,List.map_cons,List.sum_cons] at this ⊢;omega
theorem DB (h8:L≤8){E:List Nat}(h:B4 u c m L E){k s:Nat}(hk:k<c.is.length)(hs:s<2 ^ (L+1))(Ub:∀ e,s.testBit e=true→pf u c m L k e)(Pf:¬ ∀ e,s.testBit e=true→bf E k e=true) :
  B4 u c m L (ej E k s)∧cT E<cT (ej E k s):=by
 have PD:k<E.length:=by rw[h.len];exact hk
 obtain⟨y,hy⟩:∃ y,E[k]? = some y:=⟨_,List.getElem?_eq_getElem PD⟩;have hyd:E.getD k 0=y:=by rw[List.getD_eq_getElem?_getD,hy];rfl
 have hyl:=h.lt y (List.mem_of_getElem? hy);refine⟨⟨by simp[ej,h.len],fun x hx=>?_,fun i e hb=>?_,fun r hr=>?_⟩,?_⟩
 ·unfold ej at hx;rcases List.mem_or_eq_of_mem_set hx with hx | rfl
  ·exact h.lt x hx
  ·rw[hyd];exact Nat.or_lt_two_pow hyl hs
 ·rw[qd PD] at hb;split at hb
  ·rename_i hi;subst hi;rw[Bool.or_eq_true] at hb;rcases hb with hb | hb
   ·exact h.sound i e hb
   ·exact Ub e hb
  ·exact h.sound i e hb
 ·rw[qd PD];split
  ·rename_i hi;rw[← hi,h.root r hr];rfl
  ·exact h.root r hr
 ·have h1:=yj E k y (y ||| s) hy;have h2:bits y<bits (y ||| s):=by
   have hex:∃ e,s.testBit e=true∧bf E k e=false:=by
    refine Classical.byContradiction fun hc=>Pf fun e he=>?_
    cases hb:bf E k e with
    | true=>rfl
    | false=>exact (hc ⟨e,he,hb⟩).elim
   obtain⟨e,he,hb⟩:=hex;have Wu:y.testBit e=false:=by rw[← hb,bf,hyd]
   have:=Da hs he;exact EO (fun a ha=>by rw[Nat.testBit_or,ha];rfl) yA Wu (by rw[Nat.testBit_or,he,Bool.or_true])
  unfold ej;rw[hyd];omega
end
section
variable {u:Un}{c:Cl}{m L:Nat}
def m8 (t:List (List Nat))(E:List Nat)(i pc:Nat):Nat:=uF (t.getD pc []) (E.getD i 0)
def sX (u:Un)(c:Cl)(t:List (List Nat))(i:Nat)(x:Is):Nat→List Nat×List Nat→List Nat×List Nat
 | 0,s=>s
 | pc+1,s=>match (au u x)[pc]? with
  | none=>sX u c t i x pc s
  | some z=>if eF z=true then (if m8 t (sX u c t i x pc s).1 i pc ||| (sX u c t i x pc s).1.getD (dH c i pc) 0=(sX u c t i x pc s).1.getD (dH c i pc) 0 then sX u c t i x pc s
    else (ej (sX u c t i x pc s).1 (dH c i pc) (m8 t (sX u c t i x pc s).1 i pc),(sX u c t i x pc s).2++[dH c i pc])) else sX u c t i x pc s
structure EpI (u:Un)(c:Cl)(m L i:Nat)(x:Is)(E0:List Nat)(td0:List Nat)(k:Nat)(s:List Nat×List Nat):Prop where
 A:B4 u c m L s.1
 mono:∀ p e,bf E0 p e=true→bf s.1 p e=true
 LM:∀ p,p∈s.2∨s.1.getD p 0=E0.getD p 0
 sub:∀ p,p∈td0→p∈s.2
 val:∀ p,p∈s.2→p∈td0∨p<c.is.length
 done:i∈s.2∨∀ pc z,pc<k→(au u x)[pc]? = some z→eF z=true→∀ e,(m8 (dh u c m L i x) s.1 i pc).testBit e=true→bf s.1 (dH c i pc) e=true
 ms:s.2.length+2*cT E0≤td0.length+2*cT s.1
theorem uk {s E k:Nat}{l:List Nat}(h:l.getD k 0=E):s ||| E=E↔∀ e,s.testBit e=true→bf l k e=true:=by
 rw[or_self_iff];simp only[bf,h]
theorem CU (H:Gp u c L){i:Nat}{x:Is}(hx:c.is[i]? = some x){E0 td0:List Nat}(h0:B4 u c m L E0):∀ k,k≤(au u x).length→EpI u c m L i x E0 td0 k (sX u c (dh u c m L i x) i x k (E0,td0))
 | 0,_=>⟨h0,fun _ _ h=>h,fun _=>.inr rfl,fun _ h=>h,fun _ h=>.inl h,.inr fun pc z hp=>by omega,Nat.le_refl _⟩
 | k+1,hk=>by
  have hI:=CU H hx (td0:=td0) h0 k yA;obtain⟨z,hz⟩:∃ z,(au u x)[k]? = some z:=⟨_,List.getElem?_eq_getElem yA⟩;simp only[sX,hz];generalize sX u c (dh u c m L i x) i x k (E0,td0)=s at hI ⊢;obtain⟨E,td⟩:=s;simp only at hI ⊢;by_cases hc:eF z=true
  ·rw[if_pos hc];have PD:=H.kal i x k z hx hz hc;have X1:k<(au u x).length:=by omega
   by_cases ho:m8 (dh u c m L i x) E i k ||| E.getD (dH c i k) 0=E.getD (dH c i k) 0
   ·rw[if_pos ho];refine⟨hI.A,hI.mono,hI.LM,hI.sub,hI.val,?_,hI.ms⟩;rcases hI.done with h | h
    ·exact .inl h
    ·refine .inr fun pc z' hp PZ T1 e he=>?_;by_cases Rw:pc=k
     ·subst Rw;exact (uk rfl).1 ho e he
     ·exact h pc z' yA PZ T1 e he
   ·rw[if_neg ho];have Pf:¬ ∀ e,(m8 (dh u c m L i x) E i k).testBit e=true→bf E (dH c i k) e=true:=fun h=>ho ((uk rfl).2 h);have Uy:=DB H.L8 hI.A PD (Jx (u:=u) (c:=c) (m:=m) (L:=L) (E:=E) (i:=i) X1) (fun e he=>by
     obtain⟨d,h1,h2⟩:=(wx (u:=u) (c:=c) (m:=m) (L:=L) (E:=E) (i:=i) X1).1 he;exact .call (hI.A.sound i d h1) h2 hx hz hc) Pf
    obtain⟨k1,k2⟩:=Uy;have hkE:dH c i k<E.length:=by rw[hI.A.len];exact PD
    have Qp:∀ p e,bf E p e=true→bf (ej E (dH c i k) (m8 (dh u c m L i x) E i k)) p e=true:=fun p e hb=>by
     rw[qd hkE];split
     ·rename_i hp;rw[← hp,hb];rfl
     ·exact hb
    have YY:∀ p,p≠dH c i k→(ej E (dH c i k) (m8 (dh u c m L i x) E i k)).getD p 0=E.getD p 0:=fun p hp=>by
     rw[ej,List.getD_eq_getElem?_getD,List.getElem?_set_ne (fun e=>hp e.symm),List.getD_eq_getElem?_getD]
    refine⟨k1,fun p e h=>Qp p e (hI.mono p e h),fun p=>?_,fun p hp=>List.mem_append_left _ (hI.sub p hp),fun p hp=>?_,?_,?_⟩
    ·by_cases hp:p=dH c i k
     ·exact .inl (by simp[hp])
     ·rcases hI.LM p with h | h
      ·exact .inl (List.mem_append_left _ h)
      ·exact .inr ((YY p hp).trans h)
    ·rcases List.mem_append.1 hp with hp | hp
     ·exact hI.val p hp
     ·rw[List.mem_singleton.1 hp];exact .inr PD
    ·by_cases Uh:i=dH c i k
     ·exact .inl (by rw[List.mem_append,List.mem_singleton];exact .inr Uh)
     ·rcases hI.done with h | h
      ·exact .inl (List.mem_append_left _ h)
      ·refine .inr fun pc z' hp PZ T1 e he=>?_;rw[m8,YY i Uh] at he;by_cases Rw:pc=k
       ·subst Rw;rw[qd hkE,if_pos rfl];rw[show (m8 (dh u c m L i x) E i pc).testBit e=true from he,Bool.or_true]
       ·exact Qp _ e (h pc z' yA PZ T1 e he)
    ·have h1:td.length+2*cT E0≤td0.length+2*cT E:=hI.ms;have h2:cT E<cT (ej E (dH c i k) (m8 (dh u c m L i x) E i k)):=k2;simp only[List.length_append,List.length_singleton];omega
  ·rw[if_neg hc];refine⟨hI.A,hI.mono,hI.LM,hI.sub,hI.val,?_,hI.ms⟩;rcases hI.done with h | h
   ·exact .inl h
   ·refine .inr fun pc z' hp PZ T1 e he=>?_;by_cases Rw:pc=k
    ·subst Rw;rw[hz] at PZ;cases PZ;exact (hc T1).elim
    ·exact h pc z' yA PZ T1 e he
structure Lk (u:Un)(c:Cl)(m L:Nat)(E td:List Nat):Prop where
 A:B4 u c m L E
 val:∀ p∈td,p<c.is.length
 EK:∀ p x,c.is[p]? = some x→p∈td∨NC u c m L E p x
def dO (n:Nat):List Nat→List Nat
 | []=>List.replicate n 0
 | r::l=>(dO n l).set r 1
theorem jX (n:Nat):∀ l,(dO n l).length=n
 | []=>by simp[dO]
 | r::l=>by simp[dO,jX n l]
theorem oH (n:Nat):∀ (l:List Nat) (i e:Nat),(∀ r∈l,r<n)→(bf (dO n l) i e=true↔i∈l∧e=0)
 | [],i,e,_=>by
  unfold bf dO;rw[List.getD_eq_getElem?_getD,List.getElem?_replicate];split<;>simp
 | r::l,i,e,h=>by
  have ih:=oH n l i e fun x hx=>h x (List.mem_cons_of_mem _ hx);have hr:=h r List.mem_cons_self;unfold bf at ih ⊢;rw[dO,List.getD_eq_getElem?_getD,List.getElem?_set];by_cases Vo:r=i
  ·subst Vo;rw[if_pos rfl,if_pos (by rw[jX];exact hr)];simp only[Option.getD_some,List.mem_cons,true_or,true_and];rw[show (1:Nat)=2 ^ 0 from rfl,Nat.testBit_two_pow,decide_eq_true_eq];exact eq_comm
  ·rw[if_neg Vo,← List.getD_eq_getElem?_getD,ih,List.mem_cons];constructor
   ·rintro⟨h1,h2⟩;exact⟨.inr h1,h2⟩
   ·rintro⟨h1 | h1,h2⟩
    ·exact (Vo h1.symm).elim
    ·exact⟨h1,h2⟩
theorem Az (n L:Nat):∀ l:List Nat,∀ s∈dO n l,s<2 ^ (L+1)
 | [],s,h=>by rw[List.eq_of_mem_replicate h];exact Nat.two_pow_pos _
 | r::l,s,h=>by
  rcases List.mem_or_eq_of_mem_set h with h | rfl
  ·exact Az n L l s h
  ·have:2 ^ 1≤2 ^ (L+1):=Nat.pow_le_pow_right yA yA;omega
theorem B4.start (H:Gp u c L):B4 u c m L (dO c.is.length c.roots):=
 ⟨jX _ _,Az _ _ _,fun i e h=>by
  obtain⟨h1,rfl⟩:=(oH _ _ i e H.root).1 h;exact .root h1,fun r hr=>(oH _ _ r 0 H.root).2 ⟨hr,rfl⟩⟩
theorem Lk.start (H:Gp u c L):Lk u c m L (dO c.is.length c.roots) c.roots:=by
 refine⟨B4.start H,H.root,fun p x hx=>?_⟩;by_cases h:p∈c.roots
 ·exact .inl h
 ·refine .inr fun pc z hz hc e he=>?_;obtain⟨d,h1,_⟩:=(wx (List.getElem?_eq_some_iff.1 hz).1).1 he;exact (h ((oH _ _ p d H.root).1 h1).1).elim
def KE (n:Nat)(E td:List Nat):Nat:=2*(9*n-cT E)+td.length
theorem Lk.step (H:Gp u c L){E td:List Nat}{i:Nat}{x:Is}(h:Lk u c m L E (td++[i]))(hx:c.is[i]? = some x) :
  Lk u c m L (sX u c (dh u c m L i x) i x (au u x).length (E,td)).1 (sX u c (dh u c m L i x) i x (au u x).length (E,td)).2∧
  KE c.is.length (sX u c (dh u c m L i x) i x (au u x).length (E,td)).1 (sX u c (dh u c m L i x) i x (au u x).length (E,td)).2<KE c.is.length E (td++[i]):=by
 have hI:=CU H hx (td0:=td) h.A (au u x).length (Nat.le_refl _);generalize sX u c (dh u c m L i x) i x (au u x).length (E,td)=s at hI ⊢;obtain⟨E',td'⟩:=s;simp only at hI ⊢;refine⟨⟨hI.A,fun p hp=>?_,fun p y hy=>?_⟩,?_⟩
 ·rcases hI.val p hp with h1 | h1
  ·exact h.val p (List.mem_append_left _ h1)
  ·exact h1
 ·by_cases XX:p=i
  ·subst XX;rw[hx] at hy;cases hy;rcases hI.done with h1 | h1
   ·exact .inl h1
   ·exact .inr fun pc z hz hc e he=>h1 pc z (List.getElem?_eq_some_iff.1 hz).1 hz hc e he
  ·rcases h.EK p y hy with h1 | h1
   ·rcases List.mem_append.1 h1 with h1 | h1
    ·exact .inl (hI.sub p h1)
    ·exact (XX (List.mem_singleton.1 h1)).elim
   ·rcases hI.LM p with h2 | h2
    ·exact .inl h2
    ·refine .inr fun pc z hz hc e he=>?_;rw[h2] at he;exact hI.mono _ e (h1 pc z hz hc e he)
 ·have h1:td'.length+2*cT E≤td.length+2*cT E':=hI.ms;have h2:=oo E';have h3:E'.length=c.is.length:=hI.A.len;unfold KE;simp only[List.length_append,List.length_singleton];omega
theorem Lk.fin (H:Gp u c L){E:List Nat}(h:Lk u c m L E []):E=iq u c m L:=
 h.A.fin H fun i x hx=>by
  rcases h.EK i x hx with h1 | h1
  ·cases h1
  ·exact h1
def xb (u:Un)(c:Cl)(t:List (List Nat))(i:Nat)(x:Is):Nat→List Nat×Bool→List Nat×Bool
 | 0,s=>s
 | pc+1,s=>match (au u x)[pc]? with
  | none=>xb u c t i x pc s
  | some z=>if eF z=true then (if m8 t (xb u c t i x pc s).1 i pc ||| (xb u c t i x pc s).1.getD (dH c i pc) 0=(xb u c t i x pc s).1.getD (dH c i pc) 0 then xb u c t i x pc s
    else (ej (xb u c t i x pc s).1 (dH c i pc) (m8 t (xb u c t i x pc s).1 i pc),true)) else xb u c t i x pc s
structure EsI (u:Un)(c:Cl)(m L:Nat)(E0:List Nat)(s:List Nat×Bool):Prop where
 A:B4 u c m L s.1
 same:s.2=false→s.1=E0
 le:cT E0≤cT s.1
 lt:s.2=true→cT E0<cT s.1
theorem CT (H:Gp u c L){i:Nat}{x:Is}(hx:c.is[i]? = some x){E0:List Nat}{s0:List Nat×Bool}(h0:EsI u c m L E0 s0):∀ k,k≤(au u x).length→EsI u c m L E0 (xb u c (dh u c m L i x) i x k s0)∧
  ((xb u c (dh u c m L i x) i x k s0).2=false→s0.2=false∧∀ pc z,pc<k→(au u x)[pc]? = some z→eF z=true→∀ e,(m8 (dh u c m L i x) E0 i pc).testBit e=true→bf E0 (dH c i pc) e=true)
 | 0,_=>⟨h0,fun h=>⟨h,fun pc z hp=>by omega⟩⟩
 | k+1,hk=>by
  obtain⟨hI,hd⟩:=CT H hx h0 k yA;obtain⟨z,hz⟩:∃ z,(au u x)[k]? = some z:=⟨_,List.getElem?_eq_getElem yA⟩;simp only[xb,hz];generalize xb u c (dh u c m L i x) i x k s0=s at hI hd ⊢;obtain⟨E,ag⟩:=s;simp only at hI hd ⊢;by_cases hc:eF z=true
  ·rw[if_pos hc];have PD:=H.kal i x k z hx hz hc;have X1:k<(au u x).length:=by omega
   by_cases ho:m8 (dh u c m L i x) E i k ||| E.getD (dH c i k) 0=E.getD (dH c i k) 0
   ·rw[if_pos ho];refine⟨hI,fun h=>?_⟩;obtain⟨h1,h2⟩:=hd h;refine⟨h1,fun pc z' hp PZ T1 e he=>?_⟩;by_cases Rw:pc=k
    ·subst Rw;have hE:E=E0:=hI.same h;rw[hE] at ho;exact (uk rfl).1 ho e he
    ·exact h2 pc z' yA PZ T1 e he
   ·rw[if_neg ho];have Pf:¬ ∀ e,(m8 (dh u c m L i x) E i k).testBit e=true→bf E (dH c i k) e=true:=fun h=>ho ((uk rfl).2 h);obtain⟨k1,k2⟩:=DB H.L8 hI.A PD (Jx (u:=u) (c:=c) (m:=m) (L:=L) (E:=E) (i:=i) X1) (fun e he=>by
     obtain⟨d,h1,h2⟩:=(wx (u:=u) (c:=c) (m:=m) (L:=L) (E:=E) (i:=i) X1).1 he;exact .call (hI.A.sound i d h1) h2 hx hz hc) Pf
    have hle:cT E0≤cT E:=hI.le;have k3:cT E<cT (ej E (dH c i k) (m8 (dh u c m L i x) E i k)):=k2;exact⟨⟨k1,(fun h=>by cases h),by simp only;omega,fun _=>by simp only;omega⟩,fun h=>by cases h⟩
  ·rw[if_neg hc];refine⟨hI,fun h=>?_⟩;obtain⟨h1,h2⟩:=hd h;refine⟨h1,fun pc z' hp PZ T1 e he=>?_⟩;by_cases Rw:pc=k
   ·subst Rw;rw[hz] at PZ;cases PZ;exact (hc T1).elim
   ·exact h2 pc z' yA PZ T1 e he
noncomputable def pX (u:Un) (c:Cl) (m L:Nat) (E0:List Nat):Nat→List Nat×Bool
 | 0=>(E0,false)
 | i+1=>match c.is[i]? with
  | none=>pX u c m L E0 i
  | some x=>xb u c (dh u c m L i x) i x (au u x).length (pX u c m L E0 i)
theorem zE (H:Gp u c L){E0:List Nat}(h0:B4 u c m L E0):∀ k,k≤c.is.length→EsI u c m L E0 (pX u c m L E0 k)∧((pX u c m L E0 k).2=false→∀ i x,i<k→c.is[i]? = some x→NC u c m L E0 i x)
 | 0,_=>⟨⟨h0,fun _=>rfl,Nat.le_refl _,fun h=>by cases h⟩,fun _ i x hi=>by omega⟩
 | k+1,hk=>by
  obtain⟨hI,hd⟩:=zE H h0 k yA;obtain⟨x,hx⟩:∃ x,c.is[k]? = some x:=⟨_,List.getElem?_eq_getElem yA⟩;simp only[pX,hx];obtain⟨k1,k2⟩:=CT H hx hI (au u x).length (Nat.le_refl _);refine⟨k1,fun h i y hi hy=>?_⟩;obtain⟨k3,k4⟩:=k2 h;by_cases Uh:i=k
  ·subst Uh;rw[hx] at hy;cases hy;exact fun pc z hz hc e he=>k4 pc z (List.getElem?_eq_some_iff.1 hz).1 hz hc e he
  ·exact hd k3 i y yA hy
theorem IQ (H:Gp u c L){E0:List Nat}(h0:B4 u c m L E0)(h:(pX u c m L E0 c.is.length).2=false):E0=iq u c m L:=
 h0.fin H fun i x hx=>(zE H h0 _ (Nat.le_refl _)).2 h i x (List.getElem?_eq_some_iff.1 hx).1 hx
end
theorem jO {u:Un}{x:Is}(h:pE u x):∃ q,u.ps[x.proc]? = some q∧au u x=q.code:=by
 obtain⟨⟨q,hq,_⟩,_⟩:=h;exact⟨q,hq,by simp only[au,hq]⟩
theorem F4 {u:Un}(hu:iy u){x:Is}(h:pE u x){pc:Nat}{z:In}(hz:(au u x)[pc]? = some z)(hr:z≠.ret):pc+1<(au u x).length:=by
 obtain⟨q,hq,hc⟩:=jO h;obtain⟨⟨c,TB⟩,_⟩:=hu.pc q (List.mem_of_getElem? hq);rw[hc,TB] at hz ⊢;have h1:=(List.getElem?_eq_some_iff.1 hz).1;simp only[List.length_append,List.length_singleton] at h1 ⊢;by_cases h:pc=c.length
 ·rw[h] at hz;simp at hz;exact (hr hz.symm).elim
 ·omega
theorem vT {u:Un}(hu:iy u){x:Is}(h:pE u x):0<(au u x).length:=by
 obtain⟨q,hq,hc⟩:=jO h;obtain⟨⟨c,TB⟩,_⟩:=hu.pc q (List.mem_of_getElem? hq);rw[hc,TB];simp
theorem oa {u:Un}(hu:iy u){x:Is}(h:pE u x){pc:Nat}{z:In}(hz:(au u x)[pc]? = some z):∃ q,u.ps[x.proc]? = some q∧au u x=q.code∧x.bH.length=q.bH∧Gz (u.ps.map fun q=>(q.ints,q.bH)) u.ms u.gs.length q.locals q.bH ((au u x).length-1) z:=by
 obtain⟨⟨q,hq,hl⟩,_⟩:=h;have hc:au u x=q.code:=by simp only[au,hq]
 rw[hc] at hz ⊢;exact⟨q,hq,rfl,hl,(hu.pc q (List.mem_of_getElem? hq)).2 z (List.mem_of_getElem? hz)⟩
theorem CF {u:Un}(hu:iy u){x:Is}(h:pE u x){pc:Nat}{z:In}(hz:(au u x)[pc]? = some z){q:Nat}(hq:q∈eM z pc):q<(au u x).length:=by
 have hp:=vT hu h;obtain⟨_,_,_,_,hi⟩:=oa hu h hz;have hn:z≠.ret→pc+1<(au u x).length:=F4 hu h hz
 cases z with
 | ret=>cases hq
 | jump g=>
  have:g≤(au u x).length-1:=hi;simp only[eM,List.mem_singleton] at hq;omega
 | branch g e=>
  have h1:g≤(au u x).length-1:=hi.1;have h2:=hn OU;simp only[eM] at hq;split at hq
  ·simp only[List.mem_singleton] at hq;omega
  ·simp only[List.mem_cons,List.not_mem_nil,or_false] at hq;omega
 | set t g e=>
  have h2:=hn OU;simp only[eM,List.mem_singleton] at hq;omega
 | call g t l ps=>
  have h2:=hn OU;simp only[eM,List.mem_singleton] at hq;omega
 | lock un p=>
  have h2:=hn OU;simp only[eM,List.mem_singleton] at hq;omega
theorem Na {u:Un}(hu:iy u){i:Nat}{x:Is}(hx:(aj u).is[i]? = some x){pc:Nat}{z:In}(hz:(au u x)[pc]? = some z){y:Is}(hy:jS x z=some y):((aj u).calls.getD i []).getD pc (-1)=(gA (aj u).is y:Int)∧y∈(aj u).is:=by
 have ci:=zM hu;have hi:=(List.getElem?_eq_some_iff.1 hx).1;have h1:=ci.row i x hi hx;refine⟨?_,ci.mem i x hi hx z (List.mem_of_getElem? hz) y hy⟩;have hg:(aj u).calls.getD i []=y5 (aj u).is x (au u x):=by
  rw[List.getD_eq_getElem?_getD,h1];rfl
 rw[hg,y5,List.getD_eq_getElem?_getD,List.getElem?_map,hz];simp only[Option.map_some,Option.getD_some,hy]
theorem Gf {x:Is}{z:In}(h:eF z=true):∃ y,jS x z=some y:=by
 cases z with
 | call g t l ps=>exact⟨_,rfl⟩
 | _=>simp[eF] at h
theorem zr {u:Un}(hu:iy u){i:Nat}{x:Is}(hx:(aj u).is[i]? = some x){pc:Nat}{z:In}(hz:(au u x)[pc]? = some z)(hc:eF z=true):dH (aj u) i pc<(aj u).is.length∧((aj u).calls.getD i []).getD pc (-1)=(dH (aj u) i pc:Int):=by
 obtain⟨y,hy⟩:=Gf (x:=x) hc;obtain⟨h1,h2⟩:=Na hu hx hz hy;have h3:dH (aj u) i pc=gA (aj u).is y:=by
  rw[dH,h1];simp
 rw[h3];exact⟨Eb h2,h1⟩
theorem tV {u:Un}(hu:iy u){L:Nat}(h8:L≤8):Gp u (aj u) L:=by
 refine⟨h8,fun i x pc z hx hz hc=>(zr hu hx hz hc).1,fun r hr=>?_⟩;have ci:=zM hu;rcases (ci.root r).1 hr with rfl | ⟨j,x,hj,hx,z,hz,_,y,hy,rfl⟩
 ·exact ci.pos
 ·exact Eb (ci.mem j x hj hx z hz y hy)
theorem Jg {u:Un}(hu:iy u):∀ (f i:Nat) (l:List Is) (cs:List (List Int)) (r:List Nat),l.Nodup→(∀ y∈l,pE u y)→∀ y∈(mC u f i l cs r).is,pE u y
 | 0,_,_,_,_,_,h=>h
 | f+1,i,l,cs,r,hn,h=>by
  simp only[mC];split
  ·exact h
  ·rename_i x hx;obtain⟨h1,h2⟩:=qn hu (h x (List.mem_of_getElem? hx)) (au u x) l r (fun _ h=>h) hn h;exact Jg hu f (i+1) _ _ _ h1 h2
theorem Je {u:Un}(hu:iy u):∀ y∈(aj u).is,pE u y:=by
 refine Jg hu 100 0 [⟨u.main,[]⟩] [] [0] OU fun x hx=>?_;rw[List.mem_singleton.1 hx];have hp:=hu.np.1;obtain⟨q,hq⟩:∃ q,u.ps[0]? = some q:=⟨_,List.getElem?_eq_getElem yA⟩;exact⟨⟨q,by rw[hu.main];exact hq,by rw[(hu.p0 q hq).2];rfl⟩,fun l hl=>by cases hl⟩
theorem DC {u:Un}(hu:iy u){L:Nat}(h8:L≤8){i:Nat}{x:Is}(hx:(aj u).is[i]? = some x){sm:List (List Nat)}(hs:qb L (aj u).is.length sm):InH u (aj u) L i x sm:=by
 have hv:=Je hu x (List.mem_of_getElem? hx);exact⟨hx,h8,hs,fun pc z hz q hq=>CF hu hv hz hq,fun pc z hz hc=>(zr hu hx hz hc).1,vT hu hv⟩
end Go.aP
