/- block. | declared. -/
import Derived.Test.YtmnglemlimfpbaaGreatZ39
import Derived.Test.YtmnglemlimfpbaaGreatZ40
namespace Go.Proofs.YtmnglemlimfpbaaGreat
open Go.Can Go.bg
theorem qT:(∀ x:Sm,∀ E k b n,(tH x n).length=(dJ x E k b).1.length)∧(∀ l:List Sm,∀ E k b n,(gU l n).length=(bI l E k b).1.length):=by
 let M1:Sm→Prop:=fun x=>∀ E k b n,(tH x n).length=(dJ x E k b).1.length
 let M2:List Sm→Prop:=fun l=>∀ E k b n,(gU l n).length=(bI l E k b).1.length
 have A1:∀ (s:ByteArray) (e:Ex),M1 (.gr s e):=fun s e E k b n=>by simp[tH,dJ]
 have A2:∀ (s:ByteArray) (e:Ex),M1 (.gV s e):=fun s e E k b n=>by simp[tH,dJ]
 have A3:∀ (g:Bool) (s:ByteArray) (l:List Ar),M1 (.dI g s l):=fun g s l E k b n=>by simp[tH,dJ]
 have A4:∀ (u:Bool) (r:Rf),M1 (.dg u r):=fun u r E k b n=>by simp[tH,dJ]
 have A5:∀ (e:Ex) (th el:List Sm),M2 th→M2 el→M1 (.ku e th el):=fun e th el h1 h2 E k b n=>by
  simp only[tH,dJ]
  split
  ·simp[h1 E k (b+1) (n+1)]
  ·simp[h1 E k (b+1) (n+1),h2 E (bI th E k (b+1)).2 (b+2+(bI th E k (b+1)).1.length) (n+1+eR th)]
 have A6:∀ (e:Ex) (th:List Sm),M2 th→M1 (.cj e th):=fun e th h1 E k b n=>by
  simp[tH,dJ,h1 E k (b+1) (n+1)]
 have A7:M1 .iU:=fun E k b n=>by simp[tH,dJ]
 have A0:M2 []:=fun E k b n=>by simp[gU,bI]
 have A8:∀ (s:Sm) (r:List Sm),M1 s→M2 r→M2 (s::r):=fun s r h1 h2 E k b n=>by
  simp only[gU,bI,List.length_append]
  rw[h1 E k b n,h2 (E++eW k s) (dJ s E k b).2 (b+(dJ s E k b).1.length) (n+mP s)]
 exact⟨fun s=>Sm.rec (motive_1:=M1) (motive_2:=M2) A1 A2 A3 A4 A5 A6 A7 A0 A8 s,fun l=>Sm.rec_1 (motive_1:=M1) (motive_2:=M2) A1 A2 A3 A4 A5 A6 A7 A0 A8 l⟩
theorem HN (x:Sm):∃ cs,gI x=I (D6 x)::cs∧cs.length=10:=by
 have h:∃ cs,gI x=I (D6 x)::cs:=by cases x<;>exact⟨_,rfl⟩
 obtain⟨cs,h⟩:=h
 have:=jK x
 rw[h] at this
 exact⟨cs,h,by simpa using this⟩
theorem T.cutL {P:Program}{C:Cx}{s:St}{c:Code}{Q:Exit→St→Prop}(J:St→Prop)(h:T P C c s (thenS (ae C J) Q))(hJ:∀ s',J s'→Q .normal s'):T P C c s Q:=by
 refine T.post h fun e s' q=>?_
 cases e with
 | normal=>
  obtain⟨s'',hj,hl⟩:=q
  exact⟨s'',hJ s'' hj,hl⟩
 | _=>exact⟨s',q,Le.refl _⟩
structure PgB (p:Pg):Prop where
 m:p.ms.length≤1000
 f:p.fs.length≤1000
 p:∀ f∈p.fs,f.params.length≤1000
theorem FO {C:Cx}{Q:Exit→St→Prop}(hC:C.nt=253)(hC0:C.n0=3){p:Pg}(hp:PgB p)(E0:List En)(l:List Sm)(i:Nat){g:Nat}{ps:List Pm}{d:Nat}{V:List ByteArray}{E:List En}{k:Nat}{c:List In}{s:List Nat}{n:Nat}{x:Sm}
  (hE:EW g p.ms (p.fs.map fun f=>(f.name,f.params)) ps V E k) (hx:dC p.ms (p.fs.map fun f=>(f.name,f.params)) ps d V x) (hl:E.length+dT x≤5000) (hk:k+dT x≤5000) (hc:c.length+dT x≤5000) (hs:s.length+dT x≤5000) (hst:n+dT x≤1000000)
  (rec:∀ d' < d,∀ (l:List Sm) (V:List ByteArray) (E:List En) (k st:Nat) (c:List In) (s:List Nat),EW g p.ms (p.fs.map fun f=>(f.name,f.params)) ps V E k→cB p.ms (p.fs.map fun f=>(f.name,f.params)) ps d' V l→E.length+bz l≤5000→k+bz l≤5000→c.length+bz l≤5000→s.length+bz l≤5000→st+bz l≤1000000→CM p l E k st c s) :
  T Tryz.prog C (gK Tryz.f92 2) (MS p E0 l i E k (n+1) c s x n) (thenS (ae C (fun z=>z=NS p E0 l i (E++eW k x) (dJ x E k c.length).2 (n+mP x) (c++(dJ x E k c.length).1) (s++tH x n))) Q):=by
 cases x with
 | gr nm e=>
  simp only[dC] at hx
  obtain⟨⟨j,hj,rfl⟩,hv,he⟩:=hx
  simp only[dT] at hl hk hc hs hst
  exact IT hC hC0 p E0 l i E k (n+1) c s n hE (by omega) (by omega) (by omega) (by omega) _ e (hE.o _ hv (uu j hj)) he
 | gV nm e=>
  simp only[dC] at hx
  simp only[dT] at hl hk hc hs hst
  simpa only[eW,dJ,mP,tH,List.append_nil] using IW (Q:=Q) hC hC0 p E0 l i E k (n+1) c s n hE (by omega) (by omega) (by omega) nm e hx.1 hx.2
 | dI go nm al=>
  simp only[dC] at hx
  obtain⟨gp,h1,h2⟩:=hx
  simp only[dT] at hl hk hc hs hst
  have hgl:gp.length≤1000:=by
   obtain⟨f,hf,he⟩:=List.mem_map.1 h1
   have:=hp.p f hf
   simp only[Prod.mk.injEq] at he
   rw[← he.2]
   exact this
  simpa only[eW,dJ,mP,tH,List.append_nil] using GH (Q:=Q) hC hC0 p E0 l i E k (n+1) c s n hE (by omega) hp.m hp.f (by omega) (by omega) go nm gp al h1 h2 hgl
 | dg u r=>
  simp only[dC] at hx
  simp only[dT] at hl hk hc hs hst
  simpa only[eW,dJ,mP,tH,List.append_nil] using GG (Q:=Q) hC hC0 p E0 l i E k (n+1) c s n hE (by omega) hp.m (by omega) (by omega) u r hx
 | iU=>
  simp only[dT] at hl hk hc hs hst
  simpa only[eW,dJ,mP,tH,List.append_nil] using IU (Q:=Q) hC hC0 p E0 l i E k (n+1) c s n (by omega) (by omega)
 | ku e th el=>
  cases d with
  | zero=>simp only[dC] at hx
  | succ d=>
   simp only[dC] at hx
   simp only[dT] at hl hk hc hs hst
   obtain⟨v1,_,v3,v4⟩:=xz.2 th d V E k (c.length+1) hE hx.2.1
   have v5:=qT.2 th E k (c.length+1) (n+1)
   have v6:=vB.2 th
   have h1:=rec d (by omega) th V E k (n+1) (c++[.branch 0 (dB E e)]) (s++[n]) hE hx.2.1 (by omega) (by omega) (by simp;omega) (by simp;omega) (by omega)
   by_cases hel:el.length=0
   ·have hel2:el=[]:=List.eq_nil_of_length_eq_zero hel
    have:=cs_if (Q:=Q) hC hC0 p E0 l i E k (n+1) c s n hE (by omega) (by omega) (by omega) (by omega) e th el hx.1 rfl h1 hel
    subst hel2
    have e1:n+mP (.ku e th [])=n+1+eR th:=by simp only[mP,eR];omega
    have e2:(dJ (.ku e th []) E k c.length).2=(bI th E k (c.length+1)).2:=by simp[dJ]
    rw[e1,e2]
    simpa only[eW,List.append_nil] using this
   ·have h2:=rec d (by omega) el V E (bI th E k (c.length+1)).2 (n+1+eR th) (c++.branch (c.length+2+(bI th E k (c.length+1)).1.length) (dB E e)::((bI th E k (c.length+1)).1++[.jump 0])) (s++n::(gU th (n+1)++[n])) (hE.up v1) hx.2.2 (by omega) (by omega) (by simp;omega) (by simp;omega) (by omega)
    have:=IV (Q:=Q) hC hC0 p E0 l i E k (n+1) c s n hE (by omega) (by omega) (by omega) (by omega) e th el hx.1 rfl h1 h2 (by omega) (by omega) (by omega)
    have e1:n+mP (.ku e th el)=n+1+eR th+eR el:=by simp only[mP];omega
    have e2:(dJ (.ku e th el) E k c.length).2=(bI el E (bI th E k (c.length+1)).2 (c.length+2+(bI th E k (c.length+1)).1.length)).2:=by simp[dJ,hel]
    rw[e1,e2]
    simpa only[eW,List.append_nil] using this
 | cj e th=>
  cases d with
  | zero=>simp only[dC] at hx
  | succ d=>
   simp only[dC] at hx
   simp only[dT] at hl hk hc hs hst
   obtain⟨v1,_,v3,v4⟩:=xz.2 th d V E k (c.length+1) hE hx.2
   have v5:=qT.2 th E k (c.length+1) (n+1)
   have h1:=rec d (by omega) th V E k (n+1) (c++[.branch 0 (dB E e)]) (s++[n]) hE hx.2 (by omega) (by omega) (by simp;omega) (by simp;omega) (by omega)
   have:=ES (Q:=Q) hC hC0 p E0 l i E k (n+1) c s n hE (by omega) (by omega) (by omega) (by omega) e th hx.1 rfl h1 (by omega) (by omega)
   have e1:n+mP (.cj e th)=n+1+eR th:=by simp only[mP];omega
   have e2:(dJ (.cj e th) E k c.length).2=(bI th E k (c.length+1)).2:=by simp[dJ]
   rw[e1,e2]
   simpa only[eW,List.append_nil] using this
theorem xZ:∀ l:List Sm,l.length≤bz l
 | []=>Nat.le_refl _
 | x::r=>by
  have:=xZ r
  have h:1≤dT x:=by cases x<;>simp only[dT]<;>omega
  simp only[List.length_cons,bz]
  omega
theorem Ii {c:CV}(h:okW c=true){m:List (Nat×Nat)}(h0:(assoc m 0).isSome=true):lN m c=true:=by
 cases c with
 | aq q f=>
  cases f with
  | zero=>
   simp only[okW,beq_iff_eq] at h
   subst h
   exact h0
  | succ f=>simp[okW,tree] at h
 | agg cs=>simp only[okW,tree] at h;exact aA h m
 | df cs=>simp only[okW,tree] at h;exact aA h m
 | _=>first | exact h | simp[okW,tree] at h
theorem Az {m:List (Nat×Nat)}{n:Nat}(h0:fx m n 0=0):∀ {e:List (Nat×CV)},(e.all fun x=>okW x.2)=true→cW (fx m n) e=e
 | [],_=>rfl
 | (t,c)::e,h=>by
  simp only[List.all_cons,Bool.and_eq_true] at h
  rw[cW,DJ h.1 _ h0,Az h0 h.2]
theorem ms_le {C:Cx}{s:St}{p:Pg}(hC0:C.n0=3)(ks:List Nat)(o:Nat)(ho:5<o){kd:Int}{e:List (Nat×CV)}{E:List En}{k st cl sl:Nat}{cs:List CV}{c':List In}{s':List Nat}(he:pick s.env (41::6::ks)=(41,I kd)::(6,.aq o 0)::e)(hok:(e.all fun x=>okW x.2)=true)
  (h0:assoc s.heap 0=some (fw p E k st 3 cl 4 sl)) (h3:assoc s.heap 3=some (eN c')) (h4:assoc s.heap 4=some (fA s')) (h5:assoc s.heap o=some ⟨188,0,cs⟩) (hcs:trees cs=true) :
  Le C s ⟨(41,I kd)::(6,.aq 5 0)::e,[(0,fw p E k st 3 cl 4 sl),(3,eN c'),(4,fA s'),(5,⟨188,0,cs⟩)],6⟩:=by
 have n0:¬ 0=o:=by omega
 have n3:¬ 3=o:=by omega
 have n4:¬ 4=o:=by omega
 have r0:fx [(0,0),(3,3),(4,4),(o,5)] 6 0=0:=rfl
 have r3:fx [(0,0),(3,3),(4,4),(o,5)] 6 3=3:=rfl
 have r4:fx [(0,0),(3,3),(4,4),(o,5)] 6 4=4:=rfl
 have ro:fx [(0,0),(3,3),(4,4),(o,5)] 6 o=5:=by simp[fx,assoc,n0,n3,n4]
 have ao:(assoc [(0,0),(3,3),(4,4),(o,5)] o).isSome=true:=by simp[assoc,n0,n3,n4]
 have hnorm:=Le.norm (C:=C) (s:=s) (41::6::ks) [(0,0),(3,3),(4,4),(o,5)] 3 6 (by simp[sy,n0,n3,n4]) (by simp only[List.all_cons,List.all_nil,h0,h3,h4,h5];rfl) ?_ (by omega)
 ·rw[he] at hnorm
  simp only[List.map_cons,List.map_nil,pick,h0,h3,h4,h5,bF,cW] at hnorm
  rw[Az r0 hok,r0,r3,r4,ro,pN,r3,r4,eN,fA,cD _ _ _ (aP c'),cD _ _ _ (aU s'),cD _ _ _ hcs] at hnorm
  simp only[dr,ro] at hnorm
  exact hnorm
 ·unfold ca
  rw[he]
  simp only[List.map_cons,List.map_nil,pick,h0,h3,h4,h5,List.all_cons,List.all_nil,Bool.and_true,Bool.and_eq_true,List.all_eq_true (l:=e)]
  refine⟨⟨rfl,ao,fun x hx=>Ii ((List.all_eq_true.1 hok) x hx) rfl⟩,zl E k st 3 _ 4 _ _ rfl rfl,aA (aP c') _,aA (aU s') _,aA hcs _⟩
structure InvB (p:Pg)(g:Nat)(ps:List Pm)(d:Nat)(l:List Sm)(E:List En)(k st:Nat)(c:List In)(s:List Nat)(i:Nat)(V:List ByteArray)(Ei:List En)(ki sti:Nat)(ci:List In)(si:List Nat):Prop where
 hi:i≤l.length
 he:EW g p.ms (p.fs.map fun f=>(f.name,f.params)) ps V Ei ki
 w:cB p.ms (p.fs.map fun f=>(f.name,f.params)) ps d V (l.drop i)
 l1:Ei.length+bz (l.drop i)≤5000
 l2:ki+bz (l.drop i)≤5000
 l3:ci.length+bz (l.drop i)≤5000
 l4:si.length+bz (l.drop i)≤5000
 l5:sti+bz (l.drop i)≤1000000
 r1:(bI l E k c.length).2=(bI (l.drop i) Ei ki ci.length).2
 r2:c++(bI l E k c.length).1=ci++(bI (l.drop i) Ei ki ci.length).1
 r3:s++gU l st=si++gU (l.drop i) sti
 r4:st+eR l=sti+eR (l.drop i)
def JB (p:Pg)(g:Nat)(ps:List Pm)(d:Nat)(l:List Sm)(E:List En)(k st:Nat)(c:List In)(s:List Nat)(m:Nat)(z:St):Prop:=
 ∃ i V Ei ki sti ci si,m=l.length-i∧InvB p g ps d l E k st c s i V Ei ki sti ci si∧z=NS p E l i Ei ki sti ci si
theorem Fa {p:Pg}(hp:PgB p){g:Nat}{ps:List Pm}:∀ (d:Nat) (l:List Sm) (V:List ByteArray) (E:List En) (k st:Nat) (c:List In) (s:List Nat),
  EW g p.ms (p.fs.map fun f=>(f.name,f.params)) ps V E k→cB p.ms (p.fs.map fun f=>(f.name,f.params)) ps d V l→E.length+bz l≤5000→k+bz l≤5000→c.length+bz l≤5000→s.length+bz l≤5000→st+bz l≤1000000→CM p l E k st c s:=by
 intro d
 induction d using Nat.strongRecOn with
 | _ d ih=>
 intro l V E k st c s hE hw hl hk hc hs hst
 unfold CM
 refine Body.iN Tryz.func92 rfl (by kernel_rfl) (by simp[Tryz.ntmps92]) fun C hC hC0=>?_
 rw[Tryz.ntmps92] at hC
 simp only[T3]
 have q1:=af (iu p.gs)
 have q2:=af (eJ p.ms)
 have q3:=af (cu p.fs)
 have q4:=af (bY E)
 have q6:=af (bk l)
 refine T.seq (T.go' aa ?_)
 simp[hC,fw]
 refine T.seq (T.seq (T.go' aa ?_))
 simp[hC]
 refine T.block ?_
 refine T.aS (JB p g ps d l E k st c s) (n:=l.length) ?_ ?_
 ·refine ae.le (Le.up 5 (by simp)) ?_
  refine ae.le (j6 (p:=p) (E:=E) (k:=k) (st:=st) hC0 [5,4,0,1] 1 2 (e:=bE E l 0) (c':=c) (s':=s) rfl (nC _ _ _) (nD _ _ _) rfl rfl rfl rfl (oQ _) rfl rfl rfl) (ae.here ?_)
  exact⟨0,V,E,k,st,c,s,by omega,⟨by omega,hE,hw,hl,hk,hc,hs,hst,rfl,rfl,rfl,rfl⟩,rfl⟩
 ·rintro m z ⟨i,Vi,Ei,ki,sti,ci,si,rfl,hI,rfl⟩
  by_cases hil:i<l.length
  ·obtain⟨x,hix⟩:∃ x,l[i]? = some x:=⟨l[i],List.getElem?_eq_getElem hil⟩
   have hdl:l.drop i=x::l.drop (i+1):=by
    rw[List.drop_eq_getElem_cons hil,(List.getElem?_eq_some_iff.1 hix).2]
   obtain⟨i1,i2,i3,i4,i5,i6,i7,i8,i9,i10,i11,i12⟩:=hI
   rw[hdl] at i3 i4 i5 i6 i7 i8 i9 i10 i11 i12
   simp only[cB,bz,bI,gU,eR] at i3 i4 i5 i6 i7 i8 i9 i10 i11 i12
   obtain⟨hx1,hx2⟩:=i3
   have fz:=fun Q C hC hC0=>FO (C:=C) (Q:=Q) hC hC0 hp E l i (n:=sti) (c:=ci) (s:=si) i2 hx1 (by omega) (by omega) (by omega) (by omega) (by omega) (fun d' hd' l V E k st c s=>ih d' hd' l V E k st c s)
   obtain⟨v1,_,v3,v4,v5⟩:=xz.1 x d Vi Ei ki ci.length i2 hx1
   have v6:=qT.1 x Ei ki ci.length sti
   have v7:=vB.1 x
   obtain⟨xc,hxc,hxl⟩:=HN x
   have hdr:List.drop (i*11) (bt l)=gI x++bt (l.drop (i+1)):=by rw[mO,mO];exact aV (f:=gI) (n:=11) jK hix
   have hll:=xZ l
   have wi:=db ((i:Int)+1) (by omega) (by omega)
   have wst:=db ((sti:Int)+1) (by omega) (by omega)
   have txc:trees xc=true:=by
    have:=gS x
    rw[hxc,trees] at this
    exact (Bool.and_eq_true _ _ ▸ this).2
   have htk:List.take 10 (xc++bt (l.drop (i+1)))=xc:=by rw[← hxl,List.take_left]
   rw[hxc] at hdr
   simp only[NS,bE]
   refine T.seq (T.seq (T.go' aa ?_))
   simp[hC,hil]
   refine T.cond (b:=true) rfl (T.skip ?_)
   simp
   refine T.seq (T.block ?_)
   refine T.seq ?_
   refine T.rx aa follows [0,1,2,3,4,5,6,7,8,9,10] [(3,8),(7,8),(7,9)] (by kernel_rfl) ?_
   simp[hC,hil,hdr,fw,hxl,htk]
   refine T.seq (T.go' aa ?_)
   simp[hC,wst]
   refine T.seq (T.go' aa ?_)
   simp[hC]
   refine T.le (ms_le (p:=p) (E:=Ei) (k:=ki) (st:=sti+1) (cl:=ci.length) (sl:=si.length) (e:=[(7,I sti),(5,I i),(4,.ax (E.flatMap gJ) E.length),(0,.aq 0 0),(1,.ax (bt l) l.length)]) hC0 [7,5,4,0,1] 13 (by omega) rfl (by simp[okW,tree]) rfl rfl rfl rfl (by rw[trees,txc];rfl)) ?_
   rw[← hxc]
   refine T.cutL _ (fz _ C hC hC0) ?_
   rintro z rfl
   simp only[oc,thenS,NS,bE]
   refine T.go' aa ?_
   simp[hC,wi]
   have hde:(Ei++eW ki x).length≤Ei.length+1:=by cases x<;>simp[eW]
   have hde2:1≤dT x:=by cases x<;>simp only[dT]<;>omega
   refine⟨l.length-(i+1),by omega,ae.trim [5,4,0,1] [0,3,4] 5 (by simp[-List.all_eq_true,-List.all_flatMap]) (by omega) ⟨i+1,Vi++dH x,Ei++eW ki x,(dJ x Ei ki ci.length).2,sti+mP x,ci++(dJ x Ei ki ci.length).1,si++tH x sti,rfl,⟨by omega,v3,hx2,by omega,by omega,by simp only[List.length_append];omega,by simp only[List.length_append];omega,by omega,?_,?_,?_,?_⟩,?_⟩⟩
   ·rw[i9,List.length_append]
   ·rw[i10,List.length_append,List.append_assoc]
   ·rw[i11,List.append_assoc]
   ·rw[i12];omega
   ·simp[NS,bE]
  ·have hie:i=l.length:=by have:=hI.hi;omega
   obtain⟨i1,i2,i3,i4,i5,i6,i7,i8,i9,i10,i11,i12⟩:=hI
   rw[hie,List.drop_length] at i9 i10 i11 i12
   simp only[bI,gU,eR,List.append_nil,Nat.add_zero] at i9 i10 i11 i12
   simp only[NS,bE]
   refine T.seq (T.seq (T.go' aa ?_))
   simp[hC,hil]
   refine T.cond (b:=false) rfl ?_
   simp
   refine T.exit ?_
   simp
   refine T.go' aa ?_
   simp[hC,fw]
   refine ae.trim [] [0,3,4] 5 (by simp[-List.all_eq_true,-List.all_flatMap]) (by omega) ⟨_,rfl,rfl,?_,rfl⟩
   have e1:c.length+(bI l E k c.length).1.length=ci.length:=by rw[← i10,List.length_append]
   have e2:s.length+(gU l st).length=si.length:=by rw[← i11,List.length_append]
   rw[e1,e2,i9,i10,i11,i12]
   simp[T4,fw]
end Go.Proofs.YtmnglemlimfpbaaGreat
namespace Go.bg
open Go.Can
theorem ik (c:Nat):∀ (l:List ByteArray) (i:Nat),(AU c i l).length=l.length
 | [],_=>rfl
 | s::r,i=>by simp[AU,ik c r]
theorem wB {c:Nat}:∀ {l:List ByteArray} {i j:Nat} {s:ByteArray},l[j]? = some s→(AU c i l)[j]? = some ⟨s,c,i+j⟩
 | [],_,_,_,h=>by simp at h
 | x::r,i,0,s,h=>by
  simp only[List.getElem?_cons_zero,Option.some.injEq] at h
  subst h
  rfl
 | x::r,i,j+1,s,h=>by
  simp only[List.getElem?_cons_succ] at h
  simp only[AU,List.getElem?_cons_succ]
  rw[wB h]
  congr 2
  omega
theorem yw (p:Pg):(cT p).length=p.gs.length+p.ms.length+p.fs.length:=by simp[cT,ik];omega
theorem IJ {p:Pg}{i:Nat}{x:Gl}(h:p.gs[i]? = some x):(cT p)[i]? = some ⟨x.name,1,i⟩:=by
 have hl:=(List.getElem?_eq_some_iff.1 h).1
 have h2:(p.gs.map (·.name))[i]? = some x.name:=by rw[List.getElem?_map,h];rfl
 rw[cT,List.append_assoc,List.getElem?_append_left (by rw[ik,List.length_map];exact hl),wB h2,Nat.zero_add]
theorem II {p:Pg}{i:Nat}{x:Mx}(h:p.ms[i]? = some x):(cT p)[p.gs.length+i]? = some ⟨x.name,2,i⟩:=by
 have hl:=(List.getElem?_eq_some_iff.1 h).1
 have h2:(p.ms.map (·.name))[i]? = some x.name:=by rw[List.getElem?_map,h];rfl
 rw[cT,List.append_assoc,List.getElem?_append_right (by rw[ik,List.length_map];omega),ik,List.length_map,Nat.add_sub_cancel_left,List.getElem?_append_left (by rw[ik,List.length_map];exact hl),wB h2,Nat.zero_add]
theorem IK {p:Pg}{i:Nat}{x:Fu}(h:p.fs[i]? = some x):(cT p)[p.gs.length+p.ms.length+i]? = some ⟨x.name,3,i⟩:=by
 have h2:(p.fs.map (·.name))[i]? = some x.name:=by rw[List.getElem?_map,h];rfl
 rw[cT,List.getElem?_append_right (by rw[List.length_append,ik,ik,List.length_map,List.length_map];omega),List.length_append,ik,ik,List.length_map,List.length_map,Nat.add_sub_cancel_left,wB h2,Nat.zero_add]
theorem GF {p:Pg}(h:jJ p):((cT p).map (·.name)).Nodup:=by
 obtain⟨a1,a2,_,_⟩:=fZ
 obtain⟨s1,s2,s3,_⟩:=h.sub
 obtain⟨d1,d2,d3,_⟩:=h.nd
 rw[cT,List.map_append,List.map_append,kM,kM,kM]
 refine List.nodup_append.2 ⟨List.nodup_append.2 ⟨d1,d2,fun a ha b hb e=>?_⟩,d3,fun a ha b hb e=>?_⟩
 ·subst e
  exact a1 _ (s2 _ hb) (s1 _ ha)
 ·subst e
  rcases List.mem_append.1 ha with ha | ha
  ·exact (a2 _ (s3 _ hb)).1 (s1 _ ha)
  ·exact (a2 _ (s3 _ hb)).2 (s2 _ ha)
theorem ED {E:List En}(h:(E.map (·.name)).Nodup){i:Nat}{x:En}(hx:E[i]? = some x):ig (E.take i) x.name=none:=by
 obtain⟨hl,hx'⟩:=List.getElem?_eq_some_iff.1 hx
 have e:E=E.take i++x::E.drop (i+1):=by rw[← hx',← List.drop_eq_getElem_cons hl,List.take_append_drop]
 have h2:((E.take i++x::E.drop (i+1)).map (·.name)).Nodup:=by rw[← e];exact h
 rw[List.map_append,List.map_cons,List.nodup_append] at h2
 rw[oX]
 exact fun hm=>h2.2.2 _ hm _ List.mem_cons_self rfl
end Go.bg
namespace Go.Proofs.YtmnglemlimfpbaaGreat
open Go.Can Go.bg
def gO (E:List En):Ob:=⟨146,3,E.flatMap gJ⟩
@[simp] theorem EK (E:List En)(n:Nat):(gO E).cells.all (aG n)=true:=af (bY E) n
@[simp] theorem enOb_ltS (E:List En)(n:Nat):aC n (gO E).cells=true:=by rw[aD];exact EK E n
@[simp] theorem enOb_frz (E:List En)(o:Nat)(cs:List CV)(n:Nat):(gO E).cells.map (cm o cs n)=(gO E).cells:=cw (bY E) o cs n
@[simp] theorem enOb_eta (E:List En):(⟨(gO E).elem,(gO E).sz,(gO E).cells⟩:Ob)=gO E:=rfl
@[simp] theorem Jm (ρ:Nat→Nat)(E:List En):bD ρ (gO E)=gO E:=cD _ _ _ (bY E)
def J59B (E:List En)(s:ByteArray)(n:Nat)(st:St):Prop:=∃ i:Nat,n=E.length-i∧i≤E.length∧ig E s=ig (E.drop i) s∧st=⟨[(6,I i),(5,.bool false),(4,.aq 1 0),(0,.bw 0 0 E.length),(1,.str s)],[(1,⟨146,0,[.str ⟨#[]⟩,I 0,I 0]⟩),(0,gO E)],2⟩
theorem yk (E:List En)(s:ByteArray)(hl:E.length≤100000):Body Tryz.prog aj 59 [.bw 0 0 E.length,.str s] [(0,gO E)] 1 (iR (o0 (ig E s)) [(0,gO E)] 1):=by
 have hfl:=fun (i:Nat) (x:En) (h:E[i]? = some x)=>aV (f:=gJ) (n:=3) jR (m:=E) h
 refine Body.iN Tryz.func59 rfl (by kernel_rfl) (by simp[Tryz.ntmps59]) fun C hC hC0=>?_
 rw[Tryz.ntmps59] at hC
 refine T.seq (T.go' aa ?_)
 simp[hC]
 refine T.seq (T.seq (T.go' aa ?_))
 simp[hC]
 refine T.block ?_
 refine T.aS (J59B E s) (n:=E.length) ?_ ?_
 ·refine ae.here ⟨0,by omega,by omega,rfl,?_⟩
  simp
 ·rintro n st ⟨i,rfl,hi,hf,rfl⟩
  by_cases hil:i<E.length
  ·obtain⟨a,hia⟩:∃ a,E[i]? = some a:=⟨E[i],List.getElem?_eq_getElem hil⟩
   have hdr:=hfl i a hia
   have wi:=db ((i:Int)+1) (by omega) (by omega)
   have hd:E.drop i=a::E.drop (i+1):=by
    rw[List.drop_eq_getElem_cons hil,(List.getElem?_eq_some_iff.1 hia).2]
   rw[hd,ig] at hf
   refine T.seq (T.seq (T.go' aa ?_))
   simp[hC,hil]
   refine T.cond (b:=true) rfl (T.skip ?_)
   simp
   refine T.seq (T.block ?_)
   refine T.seq (T.go' aa ?_)
   simp[hC,hil,hdr,gJ,gT,gO]
   by_cases hn:a.name=s
   ·rw[if_pos hn] at hf
    simp only[hn,decide_true]
    refine T.cond (b:=true) rfl ?_
    simp
    refine T.seq (T.go' aa ?_)
    simp[hC,hil,hdr,gJ]
    refine T.ret ?_
    refine ae.le (Le.eM (o:=1) rfl rfl) ?_
    simp[cw (bY E)]
    refine ae.trim [4,5] [0] 1 (by simp[-List.all_eq_true,-List.all_flatMap,af (bY E)]) (by omega) ⟨_,?_,rfl,?_,rfl⟩
    ·simp[hf,o0,gJ]
    ·simp
   ·rw[if_neg hn] at hf
    simp only[hn,decide_false]
    refine T.cond (b:=false) rfl (T.skip ?_)
    simp
    refine T.go' aa ?_
    simp[hC,wi]
    refine⟨E.length-(i+1),by omega,?_⟩
    refine ae.trim [6,5,4,0,1] [1,0] 2 (by simp[-List.all_eq_true,-List.all_flatMap,af (bY E)]) (by omega) ⟨i+1,rfl,by omega,hf,?_⟩
    simp[gO]
  ·have hie:i=E.length:=by omega
   rw[hie,List.drop_length,ig] at hf
   refine T.seq (T.seq (T.go' aa ?_))
   simp[hC,hil]
   refine T.cond (b:=false) rfl ?_
   simp
   refine T.exit ?_
   simp
   refine T.seq (T.go' aa ?_)
   simp[hC]
   refine T.ret ?_
   refine ae.le (Le.eM (o:=1) rfl rfl) ?_
   simp
   refine ae.trim [4,5] [0] 1 (by simp[-List.all_eq_true,-List.all_flatMap]) (by omega) ⟨_,?_,rfl,?_,rfl⟩
   ·simp[hf,o0]
   ·simp
def J58 (p:Pg)(m:Nat)(s:St):Prop:=∃ i:Nat,m=(cT p).length-i∧i≤(cT p).length∧
 s=⟨[(7,I i),(6,I (cT p).length),(5,I (-1)),(4,.bw 1 0 i),(1,.aq 0 0)],[(0,⟨27,0,dq p⟩),(1,gO ((cT p).take i))],2⟩
theorem yv (p:Pg)(h:jJ p)(hm:p.ms.length≤1000)(hf:p.fs.length≤1000)(hg:p.gs.length≤1000):ah Tryz.prog 58 [qX p] (.df [.ax ((cT p).flatMap gJ) (cT p).length,I (-1)]):=by
 have hdl:=yw p
 have hnd:=GF h
 obtain⟨t1,t2,t3⟩:=iq p
 refine ah.bl aa Tryz.func58 rfl (by kernel_rfl) (by simp[Tryz.ntmps58]) rfl fun C hC hC0=>?_
 rw[Tryz.ntmps58] at hC
 have hw1:=db ((p.gs.length:Int)+p.ms.length) (by omega) (by omega)
 have hw2:=db ((p.gs.length:Int)+p.ms.length+p.fs.length) (by omega) (by omega)
 simp only[qX,dq]
 refine T.seq (T.go' aa ?_)
 simp[hC]
 refine T.seq (T.go' aa ?_)
 simp[hC]
 refine T.seq (T.go' aa ?_)
 simp[hC]
 refine T.seq (T.go' aa ?_)
 simp[hC,hw1,hw2]
 refine T.seq (T.seq (T.go' aa ?_))
 simp[hC]
 refine T.block ?_
 refine T.aS (J58 p) (n:=(cT p).length) ?_ ?_
 ·refine ae.le (Le.own 4 146 3 rfl) ?_
  simp
  refine ae.trim [7,6,5,4,1] [0,1] 2 (by simp[-List.all_eq_true,-List.all_flatMap]) (by omega) ⟨0,by omega,by omega,?_⟩
  simp[dq,hdl,gO]
 ·rintro n s ⟨i,rfl,hi,rfl⟩
  by_cases hil:i<(cT p).length
  ·obtain⟨x,hix⟩:∃ x,(cT p)[i]? = some x:=⟨(cT p)[i],List.getElem?_eq_getElem hil⟩
   have wi:=db ((i:Int)+1) (by omega) (by omega)
   have wd:=db ((i:Int)-(p.gs.length:Int)) (by omega) (by omega)
   refine T.seq (T.seq (T.go' aa ?_))
   simp[hC,hil]
   refine T.cond (b:=true) rfl (T.skip ?_)
   simp
   refine T.seq (T.block ?_)
   refine T.seq (T.go' aa ?_)
   simp[hC]
   refine T.cut (fun z=>z=⟨[(8,.aq 2 0),(7,I i),(6,I (cT p).length),(5,I (-1)),(4,.bw 1 0 i),(1,.aq 0 0)],[(0,⟨27,0,dq p⟩),(1,gO ((cT p).take i)),(2,⟨146,0,gJ x⟩)],3⟩) ?_ ?_
   ·simp only[dq]
    by_cases c1:i<p.gs.length
    ·obtain⟨y,hy⟩:∃ y,p.gs[i]? = some y:=⟨p.gs[i],List.getElem?_eq_getElem c1⟩
     have hx:=IJ hy
     rw[hix] at hx
     cases hx
     have hdr:=aV (f:=ny) (n:=2) (fun _=>rfl) hy
     have hneg:(i:Int)-(p.gs.length:Int)<0:=by omega
     refine T.seq (T.go' aa ?_)
     simp[hC,wd]
     refine T.block ?_
     refine T.seq (T.go' aa ?_)
     simp[hC,hneg]
     refine T.cond (b:=true) rfl ?_
     simp
     refine T.go' aa ?_
     simp[hC,c1,hdr,ny]
     refine ae.trim [8,7,6,5,4,1] [0,1,2] 3 (by simp[-List.all_eq_true,-List.all_flatMap]) (by omega) ?_
     simp[gJ]
    ·by_cases c2:i<p.gs.length+p.ms.length
     ·obtain⟨j,rfl⟩:∃ j,i=p.gs.length+j:=⟨i-p.gs.length,by omega⟩
      have c3:j<p.ms.length:=by omega
      obtain⟨y,hy⟩:∃ y,p.ms[j]? = some y:=⟨p.ms[j],List.getElem?_eq_getElem c3⟩
      have hx:=II hy
      rw[hix] at hx
      cases hx
      have hdr:=aV (f:=js) (n:=3) (fun _=>rfl) hy
      have hsub:(p.gs.length:Int)+(j:Int)-(p.gs.length:Int)=(j:Int):=by omega
      have wj:=db (j:Int) (by omega) (by omega)
      refine T.seq (T.go' aa ?_)
      simp[hC,hsub,wj]
      refine T.block ?_
      refine T.seq (T.go' aa ?_)
      simp[hC]
      refine T.cond (b:=false) rfl ?_
      simp
      refine T.seq (T.go' aa ?_)
      simp[hC,c3]
      refine T.cond (b:=true) rfl ?_
      simp
      refine T.go' aa ?_
      simp[hC,c3,hdr,js]
      refine ae.trim [8,7,6,5,4,1] [0,1,2] 3 (by simp[-List.all_eq_true,-List.all_flatMap]) (by omega) ?_
      simp[gJ]
     ·obtain⟨j,rfl⟩:∃ j,i=p.gs.length+p.ms.length+j:=⟨i-p.gs.length-p.ms.length,by omega⟩
      have c3:j<p.fs.length:=by omega
      obtain⟨y,hy⟩:∃ y,p.fs[j]? = some y:=⟨p.fs[j],List.getElem?_eq_getElem c3⟩
      have hx:=IK hy
      rw[hix] at hx
      cases hx
      have hdr:=aV (f:=eP) (n:=3) (fun _=>rfl) hy
      have hsub:(p.gs.length:Int)+(p.ms.length:Int)+(j:Int)-(p.gs.length:Int)=(p.ms.length:Int)+(j:Int):=by omega
      have hsub2:(p.ms.length:Int)+(j:Int)-(p.ms.length:Int)=(j:Int):=by omega
      have wj:=db (j:Int) (by omega) (by omega)
      have wmj:=db ((p.ms.length:Int)+(j:Int)) (by omega) (by omega)
      have hnn:¬ (p.ms.length:Int)+(j:Int)<0:=by omega
      have hnm:¬ (p.ms.length:Int)+(j:Int)<(p.ms.length:Int):=by omega
      refine T.seq (T.go' aa ?_)
      simp[hC,hsub,wmj]
      refine T.block ?_
      refine T.seq (T.go' aa ?_)
      simp[hC,hnn]
      refine T.cond (b:=false) rfl ?_
      simp
      refine T.seq (T.go' aa ?_)
      simp[hC,hnm]
      refine T.cond (b:=false) rfl ?_
      simp
      refine T.rx aa follows [0,1,2,3,4,5,6,7,8,9,10,11,12,13,14,15,16] [] (by kernel_rfl) ?_
      simp[hC,hsub2,wj,c3,hdr,eP]
      refine ae.trim [8,7,6,5,4,1] [0,1,2] 3 (by simp[-List.all_eq_true,-List.all_flatMap]) (by omega) ?_
      simp[gJ]
   ·rintro z rfl
    simp only[dq]
    have hfd:=yk ((cT p).take i) x.name (by rw[List.length_take];omega)
    rw[ED hnd hix,List.length_take,Nat.min_eq_left (by omega)] at hfd
    have f1:=bu (f:=gJ) (n:=3) jR ((cT p).take i)
    rw[List.length_take,Nat.min_eq_left (by omega)] at f1
    have bd1:(i+1)*32≤140737488355328:=by omega
    refine T.seq (T.seq (T.go' aa ?_))
    simp[hC,gJ]
    refine TL.iF aa 0 1 [1] 1 hfd (by simp[hC]) rfl rfl (by simp[bJ,dr,aK,ev,assoc]) (by simp) (by omega) (by simp) (by simp) (by simp[aC,aG]) (by simp) rfl (by simp[bJ,dr,aG]) (by simp) (by simp) (TL.go' aa ?_)
    simp[hC,o0]
    refine T.seq (T.go' aa ?_)
    simp[hC]
    refine T.cond (b:=false) rfl (T.skip ?_)
    simp
    refine T.go' aa ?_
    simp[hC,f1,bd1,aX,gO]
    refine T.go' aa ?_
    simp[hC,wi]
    have htk:(cT p).take (i+1)=(cT p).take i++[x]:=by rw[List.take_add_one,hix];rfl
    refine⟨(cT p).length-(i+1),by omega,?_⟩
    refine ae.le (Le.trim [7,6,5,4,1] [0,5] 6 (by simp[-List.all_eq_true,-List.all_flatMap,af (bY _)]) (by omega)) ?_
    simp
    refine ae.le (Le.na 5 1 rfl rfl (by omega) (by simp) (by simp) (by simp[-List.all_eq_true,-List.all_flatMap,a6 (bY _),oP 5 1 _ t1,oP 5 1 _ t2,oP 5 1 _ t3])) ?_
    simp[aY (bY _)]
    refine ae.trim [7,6,5,4,1] [0,1] 2 (by simp[-List.all_eq_true,-List.all_flatMap,af (bY _)]) (by omega) ⟨i+1,rfl,by omega,?_⟩
    simp[gO,htk,dq,gJ]
  ·have hie:i=(cT p).length:=by omega
   refine T.seq (T.seq (T.go' aa ?_))
   simp[hC,hil]
   refine T.cond (b:=false) rfl ?_
   simp
   refine T.exit ?_
   simp
   refine T.seq (T.go' aa ?_)
   simp[hC]
   refine T.ret ?_
   subst hie
   have tk:List.take ((cT p).length*3) ((cT p).flatMap gJ)=(cT p).flatMap gJ:=List.take_of_length_le (by rw[bu (f:=gJ) (n:=3) jR];omega)
   refine ae.le (Le.trim [2,3] [1] 2 (by simp[-List.all_eq_true,-List.all_flatMap]) (by omega)) ?_
   simp[List.take_length]
   refine ae.le (Le.eM (o:=1) rfl (bY _)) ?_
   refine ae.here ?_
   simp[gO,tk]
end Go.Proofs.YtmnglemlimfpbaaGreat
