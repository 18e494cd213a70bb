/- The reference's rounds: everything is gone through again and -/
import Derived.Test.YtnecpnjdonibmaaGreatZ18
namespace Go.aP
open Go.Can
def OJ (a:List Nat):List Nat→List (List Nat)×Bool→List (List Nat)×Bool
 | [],s=>s
 | q::r,s=>OJ a r (if uX a (s.1.getD q [])=true then s else (s.1.set q (jK (s.1.getD q []) a),true))
theorem OQ (a:List Nat):∀ (l:List Nat) (q:Nat) (s:List (List Nat)×Bool),OJ a (l++[q]) s=(if uX a ((OJ a l s).1.getD q [])=true then OJ a l s else ((OJ a l s).1.set q (jK ((OJ a l s).1.getD q []) a),true))
 | [],q,s=>by
  simp only[List.nil_append,OJ];rfl
 | x::l,q,s=>by
  simp only[List.cons_append,OJ];exact OQ a l q _
def swp (u:Un)(c:Cl)(L m i:Nat)(x:Is)(sm t0:List (List Nat)):Nat→List (List Nat)×Bool
 | 0=>(t0,false)
 | pc+1=>match (aq u x)[pc]? with
  | none=>swp u c L m i x sm t0 pc
  | some z=>OJ (nK ((swp u c L m i x sm t0 pc).1.getD pc []) (jL c L m sm i x z pc)) (jS z pc) (swp u c L m i x sm t0 pc)
structure SwI (u:Un)(c:Cl)(L m i:Nat)(x:Is)(sm t0:List (List Nat))(s:List (List Nat)×Bool):Prop where
 A:IJ u c L m i x sm s.1
 same:s.2=false→s.1=t0
 le:eD t0≤eD s.1
 lt:s.2=true→eD t0<eD s.1
section
variable {u:Un}{c:Cl}{L m i:Nat}{x:Is}{sm:List (List Nat)}(H:InH u c L i x sm)
include H
theorem Pc {t0:List (List Nat)}{a:List Nat}(ha:sI L a){s:List (List Nat)×Bool}(h0:SwI u c L m i x sm t0 s):∀ (qs:List Nat),(∀ q∈qs,q<(aq u x).length∧∀ d e,bm a d e=true→Ri u c m L (yJ sm) i q d e)→∀ n,n≤qs.length→SwI u c L m i x sm t0 (OJ a (qs.take n) s)∧((OJ a (qs.take n) s).2=false→s.2=false∧∀ q∈qs.take n,uX a (t0.getD q [])=true):=by
 intro qs hqs n
 induction n with
 | zero=>intro _;exact⟨h0,fun h=>⟨h,fun q hq=>by simp at hq⟩⟩
 | succ n ih=>
  intro hn;obtain⟨hI,hd⟩:=ih yA;obtain⟨q,Uk⟩:∃ q,qs[n]? = some q:=⟨_,List.getElem?_eq_getElem yA⟩;obtain⟨hq,hs⟩:=hqs q (List.mem_of_getElem? Uk);have PY:qs.take (n+1)=qs.take n++[q]:=by rw[List.take_add_one,Uk];rfl
  rw[PY];generalize qs.take n=l at hI hd ⊢;rw[OQ];generalize OJ a l s=s' at hI hd ⊢;obtain⟨t,ag⟩:=s';simp only at hI hd ⊢;obtain⟨k1,k2,k3,k4,k5,k6⟩:=I5 H hI.A hq ha hs;by_cases P4:uX a (t.getD q [])=true
  ·rw[if_pos P4];refine⟨hI,fun h=>?_⟩;obtain⟨h1,h2⟩:=hd h;refine⟨h1,fun p hp=>?_⟩;rcases List.mem_append.1 hp with hp | hp
   ·exact h2 p hp
   ·rw[List.mem_singleton.1 hp,← hI.same h];exact P4
  ·rw[if_neg P4];rw[yT P4] at k1 k6;have hb:eD t<_:=k6 (by simpa using P4);have hle:eD t0≤eD t:=hI.le;exact⟨⟨k1,(fun h=>by cases h),by simp only;omega,fun _=>by simp only;omega⟩,fun h=>by cases h⟩
theorem OP {t0:List (List Nat)}(h0:IJ u c L m i x sm t0):∀ k,k≤(aq u x).length→SwI u c L m i x sm t0 (swp u c L m i x sm t0 k)∧((swp u c L m i x sm t0 k).2=false→∀ p,p<k→Ik u c L m i x sm t0 p)
 | 0,_=>⟨⟨h0,fun _=>rfl,Nat.le_refl _,fun h=>by cases h⟩,fun _ p hp=>by omega⟩
 | k+1,hk=>by
  obtain⟨hI,hd⟩:=OP h0 k yA;obtain⟨z,hz⟩:∃ z,(aq u x)[k]? = some z:=⟨_,List.getElem?_eq_getElem yA⟩;simp only[swp,hz];obtain⟨w,g⟩:=x9 H hI.A.wf (show k<_ by omega);have ha:=uC w (mS H (m:=m) hz);obtain⟨k1,k2⟩:=Pc H ha hI (jS z k) (fun q hq=>⟨H.nx k z hz q hq,fun d e hb=>by
   obtain⟨y,y1,y2⟩:=(sB _ _ d e).1 hb;exact Cy H hz hq (hI.A.sound k d y y1) y2⟩) (jS z k).length (Nat.le_refl _)
  rw[List.take_length] at k1 k2;refine⟨k1,fun h p hp=>?_⟩;obtain⟨k3,k4⟩:=k2 h;by_cases Si:p=k
  ·subst Si;intro z' Qt q hq;rw[hz] at Qt;cases Qt;have hs:=hI.same k3;have:=k4 q hq;rw[hs] at this;exact this
  ·exact hd k3 p yA
theorem Pq {t0:List (List Nat)}(h0:IJ u c L m i x sm t0)(h:(swp u c L m i x sm t0 (aq u x).length).2=false):t0=p8 L (aq u x).length (Ri u c m L (yJ sm) i):=
 h0.fin H ((OP H h0 _ (Nat.le_refl _)).2 h)
theorem Pz {a b:List Nat}(h:a.length=b.length):jK b a=b↔uX a b=true:=by
 have _:=H;rw[nh h];constructor
 ·intro he d e hb;rw[← he,Cu h.symm,hb,Bool.or_true]
 ·intro hs;refine List.ext_getElem? fun d=>?_;rw[jK,List.getElem?_zipWith];by_cases hd:d<b.length
  ·rw[List.getElem?_eq_getElem hd,List.getElem?_eq_getElem yA];simp only;congr 1;refine Nat.eq_of_testBit_eq fun e=>?_;rw[Nat.testBit_or];have h1:=hs d e;simp only[bm,List.getD_eq_getElem?_getD,List.getElem?_eq_getElem hd,List.getElem?_eq_getElem (show d<a.length by omega),Option.getD_some] at h1;cases hx:(b[d]).testBit e<;>cases hy:(a[d]'yA).testBit e<;>simp_all
  ·rw[List.getElem?_eq_none yA,List.getElem?_eq_none yA]
end
section
variable {u:Un}{c:Cl}{m L:Nat}
noncomputable def ss (u:Un) (c:Cl) (m L:Nat) (sm:List (List Nat)) (i:Nat):List Nat:=rv L (Fo u c m L (yJ sm) i)
noncomputable def qa (u:Un) (c:Cl) (m L:Nat):List (List Nat):=p8 L c.is.length (rM u c m L)
structure Fj (u:Un)(c:Cl)(m L:Nat)(t:List (List Nat)):Prop where
 wf:uS L c.is.length t
 sound:∀ i d e,fG t i d e=true→rM u c m L i d e
 pre:∀ i d e,fG t i d e=true→Fo u c m L (yJ t) i d e
theorem Fj.start:Fj u c m L (List.replicate c.is.length (oJ L)):=by
 have hb:∀ pc d e,fG (List.replicate c.is.length (oJ L)) pc d e=false:=fun pc d e=>by
  unfold fG;rw[List.getD_eq_getElem?_getD,List.getElem?_replicate];split
  ·exact rN L d e
  ·simp[bm]
 exact⟨⟨by simp,fun r hr=>by rw[List.eq_of_mem_replicate hr];exact AW L⟩,(fun i d e h=>by rw[hb] at h;cases h),fun i d e h=>by rw[hb] at h;cases h⟩
theorem ux {S:Nat→Nat→Nat→Prop}{i d e:Nat}(h:Fo u c m L S i d e):i<c.is.length∧d≤L∧e≤L:=by
 obtain⟨pc,x,h1,_,h3⟩:=h;exact⟨(List.getElem?_eq_some_iff.1 h1).1,h3.le⟩
theorem Fj.fin {t:List (List Nat)}(h:Fj u c m L t)(hc:∀ i,i<c.is.length→t.getD i []=ss u c m L t i):t=qa u c m L:=by
 refine Cw h.wf fun i d e _ _ _=>⟨h.sound i d e,fun hs=>?_⟩;refine hs.least (S:=yJ t) fun i d e he=>?_;obtain⟨h1,h2,h3⟩:=ux he;show bm (t.getD i []) d e=true;rw[hc i h1];exact (gC h2 h3).2 he
theorem Fj.step {t:List (List Nat)}(h:Fj u c m L t)(h8:L≤8){i:Nat}(hi:i<c.is.length):Fj u c m L (t.set i (ss u c m L t i))∧(t.getD i []≠ss u c m L t i→eD t<eD (t.set i (ss u c m L t i))):=by
 have QA:i<t.length:=by rw[h.wf.len];exact hi
 have hex:=lq L (Fo u c m L (yJ t) i);have Q5:∀ p d e,fG t p d e=true→fG (t.set i (ss u c m L t i)) p d e=true:=fun p d e hb=>by
  rw[jH QA];split
  ·rename_i hp;subst hp;have h1:=h.pre p d e hb;obtain⟨_,h2,h3⟩:=ux h1;exact (gC h2 h3).2 h1
  ·exact hb
 have P4:∀ p d e,fG (t.set i (ss u c m L t i)) p d e=true→Fo u c m L (yJ t) p d e:=fun p d e hb=>by
  rw[jH QA] at hb;split at hb
  ·rename_i hp;subst hp;obtain⟨h2,h3⟩:=lI hex hb;exact (gC h2 h3).1 hb
  ·exact h.pre p d e hb
 refine⟨⟨h.wf.set hex,fun p d e hb=>?_,fun p d e hb=>(P4 p d e hb).mono fun a b c hx=>Q5 a b c hx⟩,fun P3=>?_⟩
 ·exact Dl.1 ((P4 p d e hb).mono fun a b c hx=>h.sound a b c hx)
 ·obtain⟨r,hr,hw⟩:=h.wf.get hi;have hg:t.getD i []=r:=by rw[List.getD_eq_getElem?_getD,hr];rfl
  have h1:=qA t i r (ss u c m L t i) hr;rw[hg] at P3;have QT:∀ d e,bm r d e=true→bm (ss u c m L t i) d e=true:=fun d e hb=>by
   have:=Q5 i d e (by rw[ij hr];exact hb);rwa [jH QA,if_pos rfl] at this
  have hx:∃ d e,bm r d e=false∧bm (ss u c m L t i) d e=true:=by
   refine Classical.byContradiction fun hc=>P3 (Cq hw hex fun d e _ _=>?_)
   cases hb:bm r d e with
   | true=>rw[QT d e hb]
   | false=>
    cases Re:bm (ss u c m L t i) d e with
    | true=>exact (hc ⟨d,e,hb,Re⟩).elim
    | false=>rfl
  obtain⟨d,e,hb,Re⟩:=hx;have hle:=(lI hex Re).2;have:=uM r (ss u c m L t i) (hw.len.trans hex.len.symm) QT ⟨d,e,by omega,hb,Re⟩;omega
end
section
variable {u:Un}{c:Cl}{m L:Nat}
noncomputable def Jo (u:Un) (c:Cl) (m L:Nat) (t:List (List Nat)):List (List Nat):=(List.range c.is.length).map fun i=>ss u c m L t i
theorem Jn {t:List (List Nat)}{i:Nat}(h:i<c.is.length):(Jo u c m L t)[i]? = some (ss u c m L t i):=by
 rw[Jo,List.getElem?_map,List.getElem?_eq_getElem Sr];simp
theorem OM {t:List (List Nat)}{i d e:Nat}:fG (Jo u c m L t) i d e=true↔Fo u c m L (yJ t) i d e:=by
 by_cases hi:i<c.is.length
 ·rw[ij (Jn hi)];have hw:=lq L (Fo u c m L (yJ t) i);constructor
  ·intro h;obtain⟨h1,h2⟩:=lI hw h;exact (gC h1 h2).1 h
  ·intro h;obtain⟨_,h1,h2⟩:=ux h;exact (gC h1 h2).2 h
 ·rw[wQ (by simp[Jo];omega)];constructor
  ·intro h;cases h
  ·intro h;exact (hi (ux h).1).elim
theorem Fj.round {t:List (List Nat)}(h:Fj u c m L t)(h8:L≤8):Fj u c m L (Jo u c m L t)∧(t≠Jo u c m L t→eD t<eD (Jo u c m L t))∧(t=Jo u c m L t→t=qa u c m L):=by
 have hw:uS L c.is.length (Jo u c m L t):=⟨by simp[Jo],fun r hr=>by
  simp only[Jo,List.mem_map] at hr;obtain⟨i,_,rfl⟩:=hr;exact lq L _⟩
 have Q5:∀ i d e,fG t i d e=true→fG (Jo u c m L t) i d e=true:=fun i d e hb=>OM.2 (h.pre i d e hb);refine⟨⟨hw,fun i d e hb=>Dl.1 ((OM.1 hb).mono fun a b c hx=>h.sound a b c hx),fun i d e hb=>(OM.1 hb).mono fun a b c hx=>Q5 a b c hx⟩,fun P3=>?_,fun he=>?_⟩
 ·have key:∀ (a b:List (List Nat)),a.length=b.length→(∀ r∈a,sI L r)→(∀ r∈b,sI L r)→(∀ i d e,fG a i d e=true→fG b i d e=true)→eD a≤eD b∧(a≠b→eD a<eD b):=by
   intro a
   induction a with
   | nil=>
    intro b hl _ _ _;have:b=[]:=List.length_eq_zero_iff.1 hl.symm;subst this;exact⟨Nat.le_refl _,fun h=>(h rfl).elim⟩
   | cons x a ih=>
    intro b hl ha hb hs
    cases b with
    | nil=>simp at hl
    | cons y b=>
     have hx:=ha x List.mem_cons_self;have hy:=hb y List.mem_cons_self;have Wp:∀ d e,bm x d e=true→bm y d e=true:=fun d e hq=>by simpa [fG] using hs 0 d e (by simpa [fG] using hq)
     obtain⟨i1,i2⟩:=ih b (by simpa using hl) (fun r hr=>ha r (List.mem_cons_of_mem _ hr)) (fun r hr=>hb r (List.mem_cons_of_mem _ hr)) fun i d e hq=>by simpa [fG] using hs (i+1) d e (by simpa [fG] using hq)
     have hm:=uL x y (by rw[hx.len,hy.len]) Wp;simp only[eD,List.map_cons,List.sum_cons] at i1 i2 ⊢;refine⟨by omega,fun P3=>?_⟩;by_cases Rn:x=y
     ·have:=i2 fun e=>P3 (by rw[Rn,e]);omega
     ·have hex:∃ d e,bm x d e=false∧bm y d e=true:=by
       refine Classical.byContradiction fun hc=>Rn (Cq hx hy fun d e _ _=>?_)
       cases S8:bm x d e with
       | true=>rw[Wp d e S8]
       | false=>
        cases Re:bm y d e with
        | true=>exact (hc ⟨d,e,S8,Re⟩).elim
        | false=>rfl
      obtain⟨d,e,h1,h2⟩:=hex;have:=uM x y (by rw[hx.len,hy.len]) Wp ⟨d,e,by have:=(lI hy h2).2;omega,h1,h2⟩;omega
  exact (key t _ (by rw[h.wf.len,hw.len]) h.wf.row hw.row Q5).2 P3
 ·refine h.fin fun i hi=>?_;rw[he,List.getD_eq_getElem?_getD,Jn hi,← he];rfl
end
section
variable (u:Un)(c:Cl)(m L:Nat)
noncomputable def eM (i:Nat) (x:Is):List (List Nat):=p8 L (aq u x).length (Rr u c m L i)
noncomputable def kZ:List Nat:=(List.range c.is.length).map fun i=>jB L (nw u c m L i)
def iT (E:List Nat)(k s:Nat):List Nat:=E.set k (E.getD k 0 ||| s)
structure IK (E:List Nat):Prop where
 len:E.length=c.is.length
 lt:∀ s∈E,s<2 ^ (L+1)
 sound:∀ i e,bm E i e=true→nw u c m L i e
 root:∀ r∈c.roots,bm E r 0=true
def PE (E:List Nat)(i:Nat)(x:Is):Prop:=∀ pc z,(aq u x)[pc]? = some z→fy z=true→∀ e,(wT ((eM u c m L i x).getD pc []) (E.getD i 0)).testBit e=true→bm E (eQ c i pc) e=true
structure I1:Prop where
 L8:L≤8
 kal:∀ i x pc z,c.is[i]? = some x→(aq u x)[pc]? = some z→fy z=true→eQ c i pc<c.is.length
 root:∀ r∈c.roots,r<c.is.length
end
section
variable {u:Un}{c:Cl}{m L:Nat}
theorem Dc {i pc:Nat}{x:Is}(h:pc<(aq u x).length):(eM u c m L i x)[pc]? = some (rv L (Rr u c m L i pc)):=xv _ h
theorem KN {i pc d e:Nat}(h:Rr u c m L i pc d e):d≤L∧e≤L:=h.ri.le
theorem yE {E:List Nat}{i pc e:Nat}{x:Is}(h:pc<(aq u x).length):(wT ((eM u c m L i x).getD pc []) (E.getD i 0)).testBit e=true↔∃ d,bm E i d=true∧Rr u c m L i pc d e:=by
 have hg:(eM u c m L i x).getD pc []=rv L (Rr u c m L i pc):=by
  rw[List.getD_eq_getElem?_getD,Dc h];rfl
 rw[DH,hg];constructor
 ·rintro⟨d,h1,h2⟩;obtain⟨h3,h4⟩:=lI (lq L _) h2;exact⟨d,h1,(gC h3 h4).1 h2⟩
 ·rintro⟨d,h1,h2⟩;obtain⟨h3,h4⟩:=KN h2;exact⟨d,h1,(gC h3 h4).2 h2⟩
theorem Ll {E:List Nat}{i pc:Nat}{x:Is}(h:pc<(aq u x).length):wT ((eM u c m L i x).getD pc []) (E.getD i 0)<2 ^ (L+1):=by
 rw[List.getD_eq_getElem?_getD,Dc h];exact yF _ _ _ (lq L _).lt
theorem HT (H:I1 u c L){i e:Nat}(h:nw u c m L i e):i<c.is.length∧e≤L:=by
 cases h with
 | root h=>exact⟨H.root _ h,Nat.zero_le _⟩
 | call _ hr hx hz hc=>exact⟨H.kal _ _ _ _ hx hz hc,(KN hr).2⟩
theorem IK.fin (_H:I1 u c L){E:List Nat}(h:IK u c m L E)(hc:∀ i x,c.is[i]? = some x→PE u c m L E i x):E=kZ u c m L:=by
 have key:∀ i e,nw u c m L i e→bm E i e=true:=by
  intro i e he
  induction he with
  | root hr=>exact h.root _ hr
  | call _ hr hx hz Ut ih=>exact hc _ _ hx _ _ hz Ut _ ((yE (List.getElem?_eq_some_iff.1 hz).1).2 ⟨_,ih,hr⟩)
 refine List.ext_getElem? fun i=>?_;by_cases hi:i<c.is.length
 ·have h1:i<E.length:=by rw[h.len];exact hi
  rw[List.getElem?_eq_getElem h1,kZ,List.getElem?_map,List.getElem?_eq_getElem WV];simp only[List.getElem_range,Option.map_some];congr 1;refine C8 (h.lt _ (List.getElem_mem h1)) fun e _=>?_;have hb:bm E i e=(E[i]).testBit e:=by simp[bm,List.getD_eq_getElem?_getD,List.getElem?_eq_getElem h1]
  rw[← hb];exact⟨h.sound i e,key i e⟩
 ·rw[List.getElem?_eq_none (by rw[h.len];omega),List.getElem?_eq_none (by simp[kZ];omega)]
theorem oL {E:List Nat}{k s i e:Nat}(hk:k<E.length):bm (iT E k s) i e=if i=k then (bm E k e || s.testBit e) else bm E i e:=by
 unfold bm iT;rw[List.getD_eq_getElem?_getD,List.getElem?_set];by_cases h:k=i
 ·subst h;simp[hk,Nat.testBit_or]
 ·rw[if_neg h,if_neg (fun e=>h e.symm),List.getD_eq_getElem?_getD]
theorem wP:∀ (t:List Nat) (i a b:Nat),t[i]? = some a→dF (t.set i b)+bits a=dF t+bits b
 | [],i,a,b,h=>by simp at h
 | x::t,0,a,b,h=>by
  simp at h;subst h;simp[dF];omega
 | x::t,i+1,a,b,h=>by
  have:=wP t i a b Sr;simp only[dF,List.set_cons_succ,List.map_cons,List.sum_cons] at this ⊢;omega
theorem I6 (h8:L≤8){E:List Nat}(h:IK u c m L E){k s:Nat}(hk:k<c.is.length)(hs:s<2 ^ (L+1))(Rb:∀ e,s.testBit e=true→nw u c m L k e)(P3:¬ ∀ e,s.testBit e=true→bm E k e=true) :
  IK u c m L (iT E k s)∧dF E<dF (iT E k s):=by
 have Qh:k<E.length:=by rw[h.len];exact hk
 obtain⟨y,hy⟩:∃ y,E[k]? = some y:=⟨_,List.getElem?_eq_getElem Qh⟩;have hyd:E.getD k 0=y:=by rw[List.getD_eq_getElem?_getD,hy];rfl
 have hyl:=h.lt y (List.mem_of_getElem? hy);refine⟨⟨by simp[iT,h.len],fun x hx=>?_,fun i e hb=>?_,fun r hr=>?_⟩,?_⟩
 ·unfold iT at hx;rcases List.mem_or_eq_of_mem_set hx with hx | rfl
  ·exact h.lt x hx
  ·rw[hyd];exact Nat.or_lt_two_pow hyl hs
 ·rw[oL Qh] at hb;split at hb
  ·rename_i hi;subst hi;rw[Bool.or_eq_true] at hb;rcases hb with hb | hb
   ·exact h.sound i e hb
   ·exact Rb e hb
  ·exact h.sound i e hb
 ·rw[oL Qh];split
  ·rename_i hi;rw[← hi,h.root r hr];rfl
  ·exact h.root r hr
 ·have h1:=wP E k y (y ||| s) hy;have h2:bits y<bits (y ||| s):=by
   have hex:∃ e,s.testBit e=true∧bm E k e=false:=by
    refine Classical.byContradiction fun hc=>P3 fun e he=>?_
    cases hb:bm E k e with
    | true=>rfl
    | false=>exact (hc ⟨e,he,hb⟩).elim
   obtain⟨e,he,hb⟩:=hex;have Xi:y.testBit e=false:=by rw[← hb,bm,hyd]
   have:=BZ hs he;exact DE (fun a ha=>by rw[Nat.testBit_or,ha];rfl) yA Xi (by rw[Nat.testBit_or,he,Bool.or_true])
  unfold iT;rw[hyd];omega
end
section
variable {u:Un}{c:Cl}{m L:Nat}
def sZ (t:List (List Nat))(E:List Nat)(i pc:Nat):Nat:=wT (t.getD pc []) (E.getD i 0)
def qS (u:Un)(c:Cl)(t:List (List Nat))(i:Nat)(x:Is):Nat→List Nat×List Nat→List Nat×List Nat
 | 0,s=>s
 | pc+1,s=>match (aq u x)[pc]? with
  | none=>qS u c t i x pc s
  | some z=>if fy z=true then (if sZ t (qS u c t i x pc s).1 i pc ||| (qS u c t i x pc s).1.getD (eQ c i pc) 0=(qS u c t i x pc s).1.getD (eQ c i pc) 0 then qS u c t i x pc s
    else (iT (qS u c t i x pc s).1 (eQ c i pc) (sZ t (qS u c t i x pc s).1 i pc),(qS u c t i x pc s).2++[eQ c i pc])) else qS u c t i x pc s
structure EpI (u:Un)(c:Cl)(m L i:Nat)(x:Is)(E0:List Nat)(td0:List Nat)(k:Nat)(s:List Nat×List Nat):Prop where
 A:IK u c m L s.1
 mono:∀ p e,bm E0 p e=true→bm s.1 p e=true
 K9:∀ p,p∈s.2∨s.1.getD p 0=E0.getD p 0
 sub:∀ p,p∈td0→p∈s.2
 val:∀ p,p∈s.2→p∈td0∨p<c.is.length
 done:i∈s.2∨∀ pc z,pc<k→(aq u x)[pc]? = some z→fy z=true→∀ e,(sZ (eM u c m L i x) s.1 i pc).testBit e=true→bm s.1 (eQ c i pc) e=true
 ms:s.2.length+2*dF E0≤td0.length+2*dF s.1
theorem CP {s E k:Nat}{l:List Nat}(h:l.getD k 0=E):s ||| E=E↔∀ e,s.testBit e=true→bm l k e=true:=by
 rw[or_self_iff];simp only[bm,h]
theorem BN (H:I1 u c L){i:Nat}{x:Is}(hx:c.is[i]? = some x){E0 td0:List Nat}(h0:IK u c m L E0):∀ k,k≤(aq u x).length→EpI u c m L i x E0 td0 k (qS u c (eM u c m L i x) i x k (E0,td0))
 | 0,_=>⟨h0,fun _ _ h=>h,fun _=>.inr rfl,fun _ h=>h,fun _ h=>.inl h,.inr fun pc z hp=>by omega,Nat.le_refl _⟩
 | k+1,hk=>by
  have hI:=BN H hx (td0:=td0) h0 k yA;obtain⟨z,hz⟩:∃ z,(aq u x)[k]? = some z:=⟨_,List.getElem?_eq_getElem yA⟩;simp only[qS,hz];generalize qS u c (eM u c m L i x) i x k (E0,td0)=s at hI ⊢;obtain⟨E,td⟩:=s;simp only at hI ⊢;by_cases hc:fy z=true
  ·rw[if_pos hc];have Qh:=H.kal i x k z hx hz hc;have YH:k<(aq u x).length:=by omega
   by_cases ho:sZ (eM u c m L i x) E i k ||| E.getD (eQ c i k) 0=E.getD (eQ c i k) 0
   ·rw[if_pos ho];refine⟨hI.A,hI.mono,hI.K9,hI.sub,hI.val,?_,hI.ms⟩;rcases hI.done with h | h
    ·exact .inl h
    ·refine .inr fun pc z' hp Qt UM e he=>?_;by_cases Si:pc=k
     ·subst Si;exact (CP rfl).1 ho e he
     ·exact h pc z' yA Qt UM e he
   ·rw[if_neg ho];have P3:¬ ∀ e,(sZ (eM u c m L i x) E i k).testBit e=true→bm E (eQ c i k) e=true:=fun h=>ho ((CP rfl).2 h);have Vj:=I6 H.L8 hI.A Qh (Ll (u:=u) (c:=c) (m:=m) (L:=L) (E:=E) (i:=i) YH) (fun e he=>by
     obtain⟨d,h1,h2⟩:=(yE (u:=u) (c:=c) (m:=m) (L:=L) (E:=E) (i:=i) YH).1 he;exact .call (hI.A.sound i d h1) h2 hx hz hc) P3
    obtain⟨k1,k2⟩:=Vj;have hkE:eQ c i k<E.length:=by rw[hI.A.len];exact Qh
    have Q5:∀ p e,bm E p e=true→bm (iT E (eQ c i k) (sZ (eM u c m L i x) E i k)) p e=true:=fun p e hb=>by
     rw[oL hkE];split
     ·rename_i hp;rw[← hp,hb];rfl
     ·exact hb
    have ZF:∀ p,p≠eQ c i k→(iT E (eQ c i k) (sZ (eM u c m L i x) E i k)).getD p 0=E.getD p 0:=fun p hp=>by
     rw[iT,List.getD_eq_getElem?_getD,List.getElem?_set_ne (fun e=>hp e.symm),List.getD_eq_getElem?_getD]
    refine⟨k1,fun p e h=>Q5 p e (hI.mono p e h),fun p=>?_,fun p hp=>List.mem_append_left _ (hI.sub p hp),fun p hp=>?_,?_,?_⟩
    ·by_cases hp:p=eQ c i k
     ·exact .inl (by simp[hp])
     ·rcases hI.K9 p with h | h
      ·exact .inl (List.mem_append_left _ h)
      ·exact .inr ((ZF p hp).trans h)
    ·rcases List.mem_append.1 hp with hp | hp
     ·exact hI.val p hp
     ·rw[List.mem_singleton.1 hp];exact .inr Qh
    ·by_cases Wa:i=eQ c i k
     ·exact .inl (by rw[List.mem_append,List.mem_singleton];exact .inr Wa)
     ·rcases hI.done with h | h
      ·exact .inl (List.mem_append_left _ h)
      ·refine .inr fun pc z' hp Qt UM e he=>?_;rw[sZ,ZF i Wa] at he;by_cases Si:pc=k
       ·subst Si;rw[oL hkE,if_pos rfl];rw[show (sZ (eM u c m L i x) E i pc).testBit e=true from he,Bool.or_true]
       ·exact Q5 _ e (h pc z' yA Qt UM e he)
    ·have h1:td.length+2*dF E0≤td0.length+2*dF E:=hI.ms;have h2:dF E<dF (iT E (eQ c i k) (sZ (eM u c m L i x) E i k)):=k2;simp only[List.length_append,List.length_singleton];omega
  ·rw[if_neg hc];refine⟨hI.A,hI.mono,hI.K9,hI.sub,hI.val,?_,hI.ms⟩;rcases hI.done with h | h
   ·exact .inl h
   ·refine .inr fun pc z' hp Qt UM e he=>?_;by_cases Si:pc=k
    ·subst Si;rw[hz] at Qt;cases Qt;exact (hc UM).elim
    ·exact h pc z' yA Qt UM e he
structure KH (u:Un)(c:Cl)(m L:Nat)(E td:List Nat):Prop where
 A:IK u c m L E
 val:∀ p∈td,p<c.is.length
 Dz:∀ p x,c.is[p]? = some x→p∈td∨PE u c m L E p x
def eB (n:Nat):List Nat→List Nat
 | []=>List.replicate n 0
 | r::l=>(eB n l).set r 1
theorem kN (n:Nat):∀ l,(eB n l).length=n
 | []=>by simp[eB]
 | r::l=>by simp[eB,kN n l]
theorem mW (n:Nat):∀ (l:List Nat) (i e:Nat),(∀ r∈l,r<n)→(bm (eB n l) i e=true↔i∈l∧e=0)
 | [],i,e,_=>by
  unfold bm eB;rw[List.getD_eq_getElem?_getD,List.getElem?_replicate];split<;>simp
 | r::l,i,e,h=>by
  have ih:=mW n l i e fun x hx=>h x (List.mem_cons_of_mem _ hx);have hr:=h r List.mem_cons_self;unfold bm at ih ⊢;rw[eB,List.getD_eq_getElem?_getD,List.getElem?_set];by_cases V4:r=i
  ·subst V4;rw[if_pos rfl,if_pos (by rw[kN];exact hr)];simp only[Option.getD_some,List.mem_cons,true_or,true_and];rw[show (1:Nat)=2 ^ 0 from rfl,Nat.testBit_two_pow,decide_eq_true_eq];exact eq_comm
  ·rw[if_neg V4,← List.getD_eq_getElem?_getD,ih,List.mem_cons];constructor
   ·rintro⟨h1,h2⟩;exact⟨.inr h1,h2⟩
   ·rintro⟨h1 | h1,h2⟩
    ·exact (V4 h1.symm).elim
    ·exact⟨h1,h2⟩
theorem zf (n L:Nat):∀ l:List Nat,∀ s∈eB n l,s<2 ^ (L+1)
 | [],s,h=>by rw[List.eq_of_mem_replicate h];exact Nat.two_pow_pos _
 | r::l,s,h=>by
  rcases List.mem_or_eq_of_mem_set h with h | rfl
  ·exact zf n L l s h
  ·have:2 ^ 1≤2 ^ (L+1):=Nat.pow_le_pow_right yA yA;omega
theorem IK.start (H:I1 u c L):IK u c m L (eB c.is.length c.roots):=
 ⟨kN _ _,zf _ _ _,fun i e h=>by
  obtain⟨h1,rfl⟩:=(mW _ _ i e H.root).1 h;exact .root h1,fun r hr=>(mW _ _ r 0 H.root).2 ⟨hr,rfl⟩⟩
theorem KH.start (H:I1 u c L):KH u c m L (eB c.is.length c.roots) c.roots:=by
 refine⟨IK.start H,H.root,fun p x hx=>?_⟩;by_cases h:p∈c.roots
 ·exact .inl h
 ·refine .inr fun pc z hz hc e he=>?_;obtain⟨d,h1,_⟩:=(yE (List.getElem?_eq_some_iff.1 hz).1).1 he;exact (h ((mW _ _ p d H.root).1 h1).1).elim
def JU (n:Nat)(E td:List Nat):Nat:=2*(9*n-dF E)+td.length
theorem KH.step (H:I1 u c L){E td:List Nat}{i:Nat}{x:Is}(h:KH u c m L E (td++[i]))(hx:c.is[i]? = some x) :
  KH u c m L (qS u c (eM u c m L i x) i x (aq u x).length (E,td)).1 (qS u c (eM u c m L i x) i x (aq u x).length (E,td)).2∧
  JU c.is.length (qS u c (eM u c m L i x) i x (aq u x).length (E,td)).1 (qS u c (eM u c m L i x) i x (aq u x).length (E,td)).2<JU c.is.length E (td++[i]):=by
 have hI:=BN H hx (td0:=td) h.A (aq u x).length (Nat.le_refl _);generalize qS u c (eM u c m L i x) i x (aq u x).length (E,td)=s at hI ⊢;obtain⟨E',td'⟩:=s;simp only at hI ⊢;refine⟨⟨hI.A,fun p hp=>?_,fun p y hy=>?_⟩,?_⟩
 ·rcases hI.val p hp with h1 | h1
  ·exact h.val p (List.mem_append_left _ h1)
  ·exact h1
 ·by_cases YF:p=i
  ·subst YF;rw[hx] at hy;cases hy;rcases hI.done with h1 | h1
   ·exact .inl h1
   ·exact .inr fun pc z hz hc e he=>h1 pc z (List.getElem?_eq_some_iff.1 hz).1 hz hc e he
  ·rcases h.Dz p y hy with h1 | h1
   ·rcases List.mem_append.1 h1 with h1 | h1
    ·exact .inl (hI.sub p h1)
    ·exact (YF (List.mem_singleton.1 h1)).elim
   ·rcases hI.K9 p with h2 | h2
    ·exact .inl h2
    ·refine .inr fun pc z hz hc e he=>?_;rw[h2] at he;exact hI.mono _ e (h1 pc z hz hc e he)
 ·have h1:td'.length+2*dF E≤td.length+2*dF E':=hI.ms;have h2:=pH E';have h3:E'.length=c.is.length:=hI.A.len;unfold JU;simp only[List.length_append,List.length_singleton];omega
theorem KH.fin (H:I1 u c L){E:List Nat}(h:KH u c m L E []):E=kZ u c m L:=
 h.A.fin H fun i x hx=>by
  rcases h.Dz i x hx with h1 | h1
  ·cases h1
  ·exact h1
def OO (u:Un)(c:Cl)(t:List (List Nat))(i:Nat)(x:Is):Nat→List Nat×Bool→List Nat×Bool
 | 0,s=>s
 | pc+1,s=>match (aq u x)[pc]? with
  | none=>OO u c t i x pc s
  | some z=>if fy z=true then (if sZ t (OO u c t i x pc s).1 i pc ||| (OO u c t i x pc s).1.getD (eQ c i pc) 0=(OO u c t i x pc s).1.getD (eQ c i pc) 0 then OO u c t i x pc s
    else (iT (OO u c t i x pc s).1 (eQ c i pc) (sZ t (OO u c t i x pc s).1 i pc),true)) else OO u c t i x pc s
structure EsI (u:Un)(c:Cl)(m L:Nat)(E0:List Nat)(s:List Nat×Bool):Prop where
 A:IK u c m L s.1
 same:s.2=false→s.1=E0
 le:dF E0≤dF s.1
 lt:s.2=true→dF E0<dF s.1
theorem O5 (H:I1 u c L){i:Nat}{x:Is}(hx:c.is[i]? = some x){E0:List Nat}{s0:List Nat×Bool}(h0:EsI u c m L E0 s0):∀ k,k≤(aq u x).length→EsI u c m L E0 (OO u c (eM u c m L i x) i x k s0)∧
  ((OO u c (eM u c m L i x) i x k s0).2=false→s0.2=false∧∀ pc z,pc<k→(aq u x)[pc]? = some z→fy z=true→∀ e,(sZ (eM u c m L i x) E0 i pc).testBit e=true→bm E0 (eQ c i pc) e=true)
 | 0,_=>⟨h0,fun h=>⟨h,fun pc z hp=>by omega⟩⟩
 | k+1,hk=>by
  obtain⟨hI,hd⟩:=O5 H hx h0 k yA;obtain⟨z,hz⟩:∃ z,(aq u x)[k]? = some z:=⟨_,List.getElem?_eq_getElem yA⟩;simp only[OO,hz];generalize OO u c (eM u c m L i x) i x k s0=s at hI hd ⊢;obtain⟨E,ag⟩:=s;simp only at hI hd ⊢;by_cases hc:fy z=true
  ·rw[if_pos hc];have Qh:=H.kal i x k z hx hz hc;have YH:k<(aq u x).length:=by omega
   by_cases ho:sZ (eM u c m L i x) E i k ||| E.getD (eQ c i k) 0=E.getD (eQ c i k) 0
   ·rw[if_pos ho];refine⟨hI,fun h=>?_⟩;obtain⟨h1,h2⟩:=hd h;refine⟨h1,fun pc z' hp Qt UM e he=>?_⟩;by_cases Si:pc=k
    ·subst Si;have hE:E=E0:=hI.same h;rw[hE] at ho;exact (CP rfl).1 ho e he
    ·exact h2 pc z' yA Qt UM e he
   ·rw[if_neg ho];have P3:¬ ∀ e,(sZ (eM u c m L i x) E i k).testBit e=true→bm E (eQ c i k) e=true:=fun h=>ho ((CP rfl).2 h);obtain⟨k1,k2⟩:=I6 H.L8 hI.A Qh (Ll (u:=u) (c:=c) (m:=m) (L:=L) (E:=E) (i:=i) YH) (fun e he=>by
     obtain⟨d,h1,h2⟩:=(yE (u:=u) (c:=c) (m:=m) (L:=L) (E:=E) (i:=i) YH).1 he;exact .call (hI.A.sound i d h1) h2 hx hz hc) P3
    have hle:dF E0≤dF E:=hI.le;have k3:dF E<dF (iT E (eQ c i k) (sZ (eM u c m L i x) E i k)):=k2;exact⟨⟨k1,(fun h=>by cases h),by simp only;omega,fun _=>by simp only;omega⟩,fun h=>by cases h⟩
  ·rw[if_neg hc];refine⟨hI,fun h=>?_⟩;obtain⟨h1,h2⟩:=hd h;refine⟨h1,fun pc z' hp Qt UM e he=>?_⟩;by_cases Si:pc=k
   ·subst Si;rw[hz] at Qt;cases Qt;exact (hc UM).elim
   ·exact h2 pc z' yA Qt UM e he
noncomputable def OF (u:Un) (c:Cl) (m L:Nat) (E0:List Nat):Nat→List Nat×Bool
 | 0=>(E0,false)
 | i+1=>match c.is[i]? with
  | none=>OF u c m L E0 i
  | some x=>OO u c (eM u c m L i x) i x (aq u x).length (OF u c m L E0 i)
theorem OT (H:I1 u c L){E0:List Nat}(h0:IK u c m L E0):∀ k,k≤c.is.length→EsI u c m L E0 (OF u c m L E0 k)∧((OF u c m L E0 k).2=false→∀ i x,i<k→c.is[i]? = some x→PE u c m L E0 i x)
 | 0,_=>⟨⟨h0,fun _=>rfl,Nat.le_refl _,fun h=>by cases h⟩,fun _ i x hi=>by omega⟩
 | k+1,hk=>by
  obtain⟨hI,hd⟩:=OT H h0 k yA;obtain⟨x,hx⟩:∃ x,c.is[k]? = some x:=⟨_,List.getElem?_eq_getElem yA⟩;simp only[OF,hx];obtain⟨k1,k2⟩:=O5 H hx hI (aq u x).length (Nat.le_refl _);refine⟨k1,fun h i y hi hy=>?_⟩;obtain⟨k3,k4⟩:=k2 h;by_cases Wa:i=k
  ·subst Wa;rw[hx] at hy;cases hy;exact fun pc z hz hc e he=>k4 pc z (List.getElem?_eq_some_iff.1 hz).1 hz hc e he
  ·exact hd k3 i y yA hy
theorem Pn (H:I1 u c L){E0:List Nat}(h0:IK u c m L E0)(h:(OF u c m L E0 c.is.length).2=false):E0=kZ u c m L:=
 h0.fin H fun i x hx=>(OT H h0 _ (Nat.le_refl _)).2 h i x (List.getElem?_eq_some_iff.1 hx).1 hx
end
theorem jZ {u:Un}{x:Is}(h:pV u x):∃ q,u.ps[x.proc]? = some q∧aq u x=q.code:=by
 obtain⟨⟨q,hq,_⟩,_⟩:=h;exact⟨q,hq,by simp only[aq,hq]⟩
theorem EX {u:Un}(hu:ik u){x:Is}(h:pV u x){pc:Nat}{z:In}(hz:(aq u x)[pc]? = some z)(hr:z≠.ret):pc+1<(aq u x).length:=by
 obtain⟨q,hq,hc⟩:=jZ h;obtain⟨⟨c,Ut⟩,_⟩:=hu.pc q (List.mem_of_getElem? hq);rw[hc,Ut] at hz ⊢;have h1:=(List.getElem?_eq_some_iff.1 hz).1;simp only[List.length_append,List.length_singleton] at h1 ⊢;by_cases h:pc=c.length
 ·rw[h] at hz;simp at hz;exact (hr hz.symm).elim
 ·omega
theorem Ap {u:Un}(hu:ik u){x:Is}(h:pV u x):0<(aq u x).length:=by
 obtain⟨q,hq,hc⟩:=jZ h;obtain⟨⟨c,Ut⟩,_⟩:=hu.pc q (List.mem_of_getElem? hq);rw[hc,Ut];simp
theorem lh {u:Un}(hu:ik u){x:Is}(h:pV u x){pc:Nat}{z:In}(hz:(aq u x)[pc]? = some z):∃ q,u.ps[x.proc]? = some q∧aq u x=q.code∧x.bx.length=q.bx∧FD (u.ps.map fun q=>(q.ints,q.bx)) u.ms u.gs.length q.locals q.bx ((aq u x).length-1) z:=by
 obtain⟨⟨q,hq,hl⟩,_⟩:=h;have hc:aq u x=q.code:=by simp only[aq,hq]
 rw[hc] at hz ⊢;exact⟨q,hq,rfl,hl,(hu.pc q (List.mem_of_getElem? hq)).2 z (List.mem_of_getElem? hz)⟩
theorem G4 {u:Un}(hu:ik u){x:Is}(h:pV u x){pc:Nat}{z:In}(hz:(aq u x)[pc]? = some z){q:Nat}(hq:q∈jS z pc):q<(aq u x).length:=by
 have hp:=Ap hu h;obtain⟨_,_,_,_,hi⟩:=lh hu h hz;have hn:z≠.ret→pc+1<(aq u x).length:=EX hu h hz
 cases z with
 | ret=>cases hq
 | jump g=>
  have:g≤(aq u x).length-1:=hi;simp only[jS,List.mem_singleton] at hq;omega
 | branch g e=>
  have h1:g≤(aq u x).length-1:=hi.1;have h2:=hn zX;simp only[jS] at hq;split at hq
  ·simp only[List.mem_singleton] at hq;omega
  ·simp only[List.mem_cons,List.not_mem_nil,or_false] at hq;omega
 | set t g e=>
  have h2:=hn zX;simp only[jS,List.mem_singleton] at hq;omega
 | call g t l ps=>
  have h2:=hn zX;simp only[jS,List.mem_singleton] at hq;omega
 | lock un p=>
  have h2:=hn zX;simp only[jS,List.mem_singleton] at hq;omega
theorem MB {u:Un}(hu:ik u){i:Nat}{x:Is}(hx:(ak u).is[i]? = some x){pc:Nat}{z:In}(hz:(aq u x)[pc]? = some z){y:Is}(hy:jn x z=some y):((ak u).calls.getD i []).getD pc (-1)=(fJ (ak u).is y:Int)∧y∈(ak u).is:=by
 have ci:=sC hu;have hi:=(List.getElem?_eq_some_iff.1 hx).1;have h1:=ci.row i x hi hx;refine⟨?_,ci.mem i x hi hx z (List.mem_of_getElem? hz) y hy⟩;have hg:(ak u).calls.getD i []=u5 (ak u).is x (aq u x):=by
  rw[List.getD_eq_getElem?_getD,h1];rfl
 rw[hg,u5,List.getD_eq_getElem?_getD,List.getElem?_map,hz];simp only[Option.map_some,Option.getD_some,hy]
theorem Fe {x:Is}{z:In}(h:fy z=true):∃ y,jn x z=some y:=by
 cases z with
 | call g t l ps=>exact⟨_,rfl⟩
 | _=>simp[fy] at h
theorem xZ {u:Un}(hu:ik u){i:Nat}{x:Is}(hx:(ak u).is[i]? = some x){pc:Nat}{z:In}(hz:(aq u x)[pc]? = some z)(hc:fy z=true):eQ (ak u) i pc<(ak u).is.length∧((ak u).calls.getD i []).getD pc (-1)=(eQ (ak u) i pc:Int):=by
 obtain⟨y,hy⟩:=Fe (x:=x) hc;obtain⟨h1,h2⟩:=MB hu hx hz hy;have h3:eQ (ak u) i pc=fJ (ak u).is y:=by
  rw[eQ,h1];simp
 rw[h3];exact⟨De h2,h1⟩
theorem Ct {u:Un}(hu:ik u){L:Nat}(h8:L≤8):I1 u (ak u) L:=by
 refine⟨h8,fun i x pc z hx hz hc=>(xZ hu hx hz hc).1,fun r hr=>?_⟩;have ci:=sC hu;rcases (ci.root r).1 hr with rfl | ⟨j,x,hj,hx,z,hz,_,y,hy,rfl⟩
 ·exact ci.pos
 ·exact De (ci.mem j x hj hx z hz y hy)
theorem Ij {u:Un}(hu:ik u):∀ (f i:Nat) (l:List Is) (cs:List (List Int)) (r:List Nat),l.Nodup→(∀ y∈l,pV u y)→∀ y∈(lE u f i l cs r).is,pV u y
 | 0,_,_,_,_,_,h=>h
 | f+1,i,l,cs,r,hn,h=>by
  simp only[lE];split
  ·exact h
  ·rename_i x hx;obtain⟨h1,h2⟩:=oV hu (h x (List.mem_of_getElem? hx)) (aq u x) l r (fun _ h=>h) hn h;exact Ij hu f (i+1) _ _ _ h1 h2
theorem Ih {u:Un}(hu:ik u):∀ y∈(ak u).is,pV u y:=by
 refine Ij hu 100 0 [⟨u.main,[]⟩] [] [0] zX fun x hx=>?_;rw[List.mem_singleton.1 hx];have hp:=hu.np.1;obtain⟨q,hq⟩:∃ q,u.ps[0]? = some q:=⟨_,List.getElem?_eq_getElem yA⟩;exact⟨⟨q,by rw[hu.main];exact hq,by rw[(hu.p0 q hq).2];rfl⟩,fun l hl=>by cases hl⟩
theorem I7 {u:Un}(hu:ik u){L:Nat}(h8:L≤8){i:Nat}{x:Is}(hx:(ak u).is[i]? = some x){sm:List (List Nat)}(hs:uS L (ak u).is.length sm):InH u (ak u) L i x sm:=by
 have hv:=Ih hu x (List.mem_of_getElem? hx);exact⟨hx,h8,hs,fun pc z hz q hq=>G4 hu hv hz hq,fun pc z hz hc=>(xZ hu hx hz hc).1,Ap hu hv⟩
end Go.aP
