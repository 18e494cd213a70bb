/- Calls that may turn maps and leave new objects, on a part of -/
import Derived.Test.YtlkmbdfhdknlgaaGreatDoorZ48
import Derived.Test.YtlkmbdfhdknlgaaGreatDoorZ44
import Derived.Test.YtlkmbdfhdknlgaaGreatDoorRows
import Derived.Deep.Matrix
import Derived.Deep.Fields
import Derived.OpenShut
namespace Go.Can
open Go.RowKit
section
variable {P:Program}{C:Cx}{σ:Nat→Option OB}{s:St}{a:Act}{w:World}{ops:Array Oper}{av:List (Nat×TI)}
theorem IN.ret {f:FuncId}{args:List CV}{H:List (Nat×Ob)}{n:Nat}{ks:List Nat}{R R':CV→St→Prop}(h:IN P av f args H n ks R)(hR:∀ r s,R r s→R' r s):IN P av f args H n ks R':=by
 obtain⟨fn,c,hf,hb,Pp,hl,hT⟩:=h;refine⟨fn,c,hf,hb,Pp,hl,fun C hC N8 hM=>T.mono (hT C hC N8 hM) fun e s q=>?_⟩;have key:∀ (C:Cx) s,aa C (fun s'=>∃ r,bm av fn s'=some r∧R r s') s→aa C (fun s'=>∃ r,bm av fn s'=some r∧R' r s') s:=fun C s ⟨s',⟨r,q1,q2⟩,hl⟩=>⟨s',⟨r,q1,hR r s' q2⟩,hl⟩
 cases e with
 | normal=>exact key C s q
 | ret=>exact key C s q
 | _=>exact q
end
end Go.Can
namespace Go.Can
mutual
def mT:CV→CV
 | .aj=>.az [] 0
 | .agg cs=>.agg (pw cs)
 | .az cs n=>.az (pw cs) n
 | .dI cs=>.dI (pw cs)
 | .int k n=>.int k n
 | .bool b=>.bool b
 | .str s=>.str s
 | .cF cs=>.cF cs
 | .bw=>.bw
 | .fn f cs=>.fn f cs
 | .iface f cs=>.iface f cs
 | .cr=>.cr
 | .iter k s p=>.iter k s p
 | .mp k es=>.mp k es
 | .bp o f n=>.bp o f n
 | .aq o f=>.aq o f
 | .any=>.any
def pw:List CV→List CV
 | []=>[]
 | c::cs=>mT c::pw cs
end
theorem Di (c:CV):one (mT c)=one c:=by cases c<;>simp only[mT,one]
theorem Aa:∀ cs:List CV,(pw cs).all one=cs.all one
 | []=>by simp only[pw]
 | c::cs=>by simp only[pw,List.all_cons,Di,Aa cs]
theorem G2 {cs:List CV}(h:cs=[]):pw cs=[]:=by rw[h,pw]
mutual
theorem bZ.mT {w:World}{F:Nat→Prop}:∀ (c:CV) (v:Value),bZ w F c v→bZ w F (mT c) v
 | .aj,v,h=>by
  simp only[bZ] at h;subst h;simp only[Can.mT,bZ];exact⟨none,0,rfl,Nat.le_refl _,Nat.zero_le _,.inl ⟨trivial,trivial⟩⟩
 | .agg cs,v,h=>by
  simp only[bZ] at h;obtain⟨vs,h1,h2,h3⟩:=h;simp only[Can.mT,bZ];exact⟨vs,h1,bP.mT cs vs h2,by rw[Aa];exact h3⟩
 | .az cs n,v,h=>by
  simp only[bZ] at h;obtain⟨A,cap,h1,h2,h3,h4⟩:=h;simp only[Can.mT,bZ];refine⟨A,cap,h1,h2,h3,?_⟩;rcases h4 with ⟨h4,h5⟩ | ⟨ad,h4,h5⟩
  ·exact .inl ⟨h4,G2 h5⟩
  ·exact .inr ⟨ad,h4,fa.mT cs ad h5⟩
 | .dI cs,v,h=>by
  simp only[bZ] at h;obtain⟨vs,h1,h2⟩:=h;simp only[Can.mT,bZ];exact⟨vs,h1,bP.mT cs vs h2⟩
 | .int _ _,_,h=>by simpa only[Can.mT] using h
 | .bool _,_,h=>by simpa only[Can.mT] using h
 | .str _,_,h=>by simpa only[Can.mT] using h
 | .cF _,_,h=>by simpa only[Can.mT] using h
 | .bw,_,h=>by simpa only[Can.mT] using h
 | .fn _ _,_,h=>by simpa only[Can.mT] using h
 | .iface _ _,_,h=>by simpa only[Can.mT] using h
 | .cr,_,h=>by simpa only[Can.mT] using h
 | .iter _ _ _,_,h=>by simpa only[Can.mT] using h
 | .mp _ _,_,h=>by simpa only[Can.mT] using h
 | .bp _ _ _,_,h=>by simpa only[Can.mT] using h
 | .aq _ _,_,h=>by simpa only[Can.mT] using h
 | .any,_,h=>by simpa only[Can.mT] using h
theorem bP.mT {w:World}{F:Nat→Prop}:∀ (cs:List CV) (vs:List Value),bP w F cs vs→bP w F (pw cs) vs
 | [],_,h=>by simpa only[pw] using h
 | c::cs,vs,h=>by
  simp only[bP] at h;obtain⟨v,r,h1,h2,h3⟩:=h;simp only[pw,bP];exact⟨v,r,h1,bZ.mT c v h2,bP.mT cs r h3⟩
theorem fa.mT {w:World}{F:Nat→Prop}:∀ (cs:List CV) (ad:Addr),fa w F cs ad→fa w F (pw cs) ad
 | [],_,_=>by simp only[pw,fa]
 | c::cs,ad,h=>by
  simp only[fa] at h;obtain⟨⟨u,h1,h2,h3⟩,h4,h5⟩:=h;simp only[pw,fa];exact⟨⟨u,h1,h2,bZ.mT c u h3⟩,by rw[Di];exact h4,fa.mT cs _ h5⟩
end
theorem ae.mT {P:Program}{f:FuncId}{args:List CV}{r:CV}(h:ae P f args r):ae P f args (Can.mT r):=
 ⟨h.1,fun F vs w hF hv=>(h.2 F vs w hF hv).mono fun _e _w' ⟨v,h1,h2,h3⟩=>⟨v,h1,h2,bZ.mT r v h3⟩⟩
end Go.Can
namespace Go.Proofs.YtlkmbdfhdknlgaaGreatDoor
open Go.Can Go.aN
def ye:Un:=⟨[],[⟨⟨#[97]⟩,false,0⟩],[⟨⟨#[109,97,105,110]⟩,0,0,0,[.lock false ⟨false,0,none⟩,.lock true ⟨false,0,none⟩,.ret]⟩],0⟩
theorem Da:im ye:=by
 refine⟨by decide,by decide,by decide,(fun g hg=>by cases hg),?_,rfl,?_,?_,?_⟩
 ·intro m hm;simp only[ye,List.mem_cons,List.not_mem_nil,or_false] at hm;subst hm;simp
 ·intro q hq;simp only[ye,List.getElem?_cons_zero,Option.some.injEq] at hq;subst hq;simp
 ·intro q hq;simp only[ye,List.mem_cons,List.not_mem_nil,or_false] at hq;subst hq;simp
 ·intro q hq;simp only[ye,List.mem_cons,List.not_mem_nil,or_false] at hq;subst hq;refine⟨⟨[.lock false ⟨false,0,none⟩,.lock true ⟨false,0,none⟩],rfl⟩,fun i hi=>?_⟩;simp only[List.mem_cons,List.not_mem_nil,or_false] at hi;rcases hi with rfl | rfl | rfl
  ·exact .inr ⟨rfl,_,rfl,.inl ⟨rfl,rfl⟩⟩
  ·exact .inr ⟨rfl,_,rfl,.inl ⟨rfl,rfl⟩⟩
  ·trivial
theorem LA:ae Tryz.prog 19 BM (.dI [cK ye,I 0,I 0,I 0]):=by
 have h:=Li.mT;have e:mT F1=.dI [cK ye,I 0,I 0,I 0]:=by rfl
 rwa [e] at h
def FL (d:Int):Ce:=⟨0,0,1,d,[⟨0,true,[⟨0,-1⟩]⟩]⟩
def Jh:Ce:=⟨0,0,0,0,[]⟩
theorem GA (d:Int):MY (FL d)∧MX (FL d):=⟨⟨by simp[FL],fun r hr=>by
 rw[List.mem_singleton.1 hr];simp⟩,by simp[MX,i64,FL]⟩
theorem Lz:MY Jh∧MX Jh:=⟨⟨by simp[Jh],fun r hr=>by cases hr⟩,by simp[MX,i64,Jh]⟩
theorem rp_1:qk ye (FL 1)=(1,0):=by kernel_rfl
theorem rp_2:qk ye (FL 0)=(1,12):=by kernel_rfl
theorem rp_3:qk ye Jh=(0,10):=by kernel_rfl
set_option maxRecDepth 100000 in
theorem rp_ok:ae Tryz.prog 13 [] (.bool true):=by
 obtain⟨ga,gb,hg1,hg2,tga,tgb⟩:∃ ga gb:List CV,F0=.dI [.agg [.aj,.az ga 1,.az gb 1],I 42,I 0]∧BM=[.agg [.aj,.az ga 1,.az gb 1]]∧trees ga=true∧trees gb=true:=⟨_,_,rfl,rfl,rfl,rfl⟩;have hte:=Lh;have SG:=LA;rw[hg1] at hte;rw[hg2] at SG;have tpg:trees [.agg [.aj,.az ga 1,.az gb 1]]=true:=by simp only[trees,tree,Bool.and_self]
 have Og:=wY ye Da;have h1:=om Da (FL 1) (GA 1).1 (GA 1).2;have h2:=om Da (FL 0) (GA 0).1 (GA 0).2;have h3:=om Da Jh Lz.1 Lz.2;rw[rp_1] at h1;rw[rp_2] at h2;rw[rp_3] at h3;have h4:=uL (FL 0) (GA 0).1.1;have h5:=uL Jh Lz.1.1;have Oj:=aP ye;have X9:=aO bD (ak ye).is;have Ql:=p7 (ak ye).calls;have trs:=bj (ak ye).roots;have Z2:trees [cK ye]=true:=by simp only[trees,tree,cK,Oj,Bool.and_self]
 have Xv:∀ c:Ce,trees [cK ye,eP (ak ye),pX c]=true:=fun c=>by simp only[trees,tree,cK,eP,pX,aP,bL,jD,Bool.and_self]
 have Xu:=Xv (FL 1);have ta4:=Xv (FL 0);have ta5:=Xv Jh;generalize ye=u at *;simp only[cK,bX,eP,cD,ints,aB] at SG Og h1 h2 h3 Z2 Xu ta4 ta5;simp only[FL,Jh,pX,qL,df,cj,di,eX,List.flatMap_cons,List.flatMap_nil,List.append_nil,List.length_cons,List.length_nil] at h1 h2 h3 h4 h5 Xu ta4 ta5;refine ae.aH af Tryz.func13 rfl N4 (by simp[Tryz.ntmps13]) rfl fun C hC N8=>?_;rw[Tryz.ntmps13] at hC;apply ai;simp[hC];refine T.seq (T.region (TL.some af 1 ?_));simp[hC];refine kA rfl (Dx af Oc rfl rfl yA rfl rfl rfl rfl) ?_;simp[HN];refine dc rfl hte ?_;simp[hC];refine T.le (Le.trim [0,1] [1] 2 QA yA) ?_;simp;apply ai;simp[hC];refine dc tpg SG ?_;simp[hC];apply ai;simp[hC];refine dc Z2 Og ?_;simp[hC];apply ai;simp[hC,aS];refine T.le (Le.trim [10,8,4,0] [6,5,4,3,2] 7 Qt yA) ?_;simp;refine T.le (Le.cV (o:=4) rfl rfl) ?_;simp;refine T.le (Le.cV (o:=5) rfl rfl) ?_;simp;apply ai;simp[hC];refine dc Xu h1 ?_;simp[hC];apply ai;simp[hC];apply ai;simp[hC];refine dc ta4 h2 ?_;simp[hC];refine T.seq (T.region (TL.some af 3 ?_));simp[hC];refine TL.le (Le.nz [59] []) ?_;simp;refine dc ta5 h3 ?_;simp[hC];apply ai;simp[hC];refine TL.bY Oc rfl rfl rfl rfl (bH.of rfl rfl h4) (TL.some af 4 ?_);simp[hC,nj];refine TL.le (Le.nz [83] []) ?_;simp;refine TL.bY Oc rfl rfl rfl rfl (bH.of rfl rfl h5) (TL.go' af ?_);simp[hC,nj];apply T.ret;apply aa.here;simp[Tryz.results13]
theorem CeK.b {n k:Nat}{x:Ce}(h:CeK n k x)(hn:n≤1000)(hk:k≤1000):MY x:=⟨Nat.le_trans h.1 hn,fun r hr=>Nat.le_trans (h.2.1 r hr) hk⟩
theorem xB (u:Un)(c:Cl)(l:List Ru)(m:Nat):∀ (t:List Ru) (out:List Et),(eA u c l m t out).1.length≤out.length+t.length
 | [],out=>by simp[eA]
 | r::t,out=>by
  simp only[eA];split
  ·have:=xB u c l m t (out++[te u c m out r]);simp at this ⊢;omega
  ·simp only[List.length_cons,List.length_nil];omega
theorem HY {u:Un}{x:Ce}{n:Nat}(h:x.rules.length≤n):(er u x).1.length≤n:=by
 unfold er;split
 ·simp
 ·have:=xB u (ak u) x.rules x.lock.toNat x.rules [];simp at this;omega
def JW (u:Un)(x:Ce):List (Nat×Ob):=[(3,⟨39,0,qL x⟩),(2,⟨34,0,cD (ak u)⟩),(1,⟨30,0,bX u⟩)]
theorem p8 {a b:Et}(h:(gk a b).ok=true):a.ok=true∧b.ok=true∧gk a b=⟨min a.lo (a.fo+b.lo),max a.hi (a.fo+b.hi),a.fo+b.fo⟩:=by
 unfold gk at h ⊢;split at h
 ·rename_i Tv;rw[if_pos Tv];split at h
  ·rename_i he;rw[if_pos he];exact⟨Tv.1,Tv.2,rfl⟩
  ·cases h
 ·cases h
theorem AP {u:Un}{x:Is}{m:Nat}{P2:List Et}:∀ (t:List It) (e:Et),(lg u x m P2 t e).ok=true→e.ok=true∧(lg u x m P2 t e).lo≤e.lo∧e.hi≤(lg u x m P2 t e).hi
 | [],e,h=>by
  rw[j3] at h ⊢;exact⟨h,by omega,by omega⟩
 | it::t,e,h=>by
  rw[jH] at h ⊢;obtain⟨h1,h2,h3⟩:=AP t _ h;obtain⟨k1,_,k3⟩:=p8 h1;refine⟨k1,Int.le_trans h2 ?_,Int.le_trans ?_ h3⟩
  ·rw[k3];exact Int.min_le_left _ _
  ·rw[k3];exact Int.le_max_left _ _
section
variable {u:Un}{c:Cl}{m L:Nat}{l:List Ru}{es:List Et}
structure RpV (u:Un)(c:Cl)(m:Nat)(l:List Ru)(es:List Et):Prop where
 r:∀ k q,l[k]? = some q→dm u c l k q=true
 e:∀ k q,l[k]? = some q→es[k]? = some (te u c m (es.take k) q)
theorem Ch {x:Is}{k:Nat}{p:Int}{rn:Nat}(h:rn<k){e:Et}(he:es[rn]? = some e):je u x m (es.take k) ⟨p,rn⟩=e:=by
 have:¬ (rn:Int)=-1:=by omega
 simp[je,this,List.getD_eq_getElem?_getD,h,he]
theorem u9 {k ii d:Nat}{ct:Bool}{x:Is}(hx:c.is[ii]? = some x)
  (ih:∀ rn q e,rn<k→l[rn]? = some q→q.ct=false→es[rn]? = some e→e.ok=true→∀ d:Nat,0≤d+e.lo→d+e.hi≤L→∃ (j e':Nat),q.inst=j∧(e':Int)=d+e.fo∧lX u c m L j d e') (Ou:es.length=l.length) (Ot:k≤l.length) :
  ∀ (t:List It) (ws:List Nat) (e0:Et) (e:Nat),t≠[]→lL u c l k ii ct x t ws=true→(∀ q∈ws,Rr u c m L ii q d e)→(e:Int)=d+e0.fo→(lg u x m (es.take k) t e0).ok=true→0≤d+(lg u x m (es.take k) t e0).lo→d+(lg u x m (es.take k) t e0).hi≤L →
   ∃ (e1:Et) (f p:Nat) (rl:Int) (z:In),t.getLast? = some ⟨p,rl⟩∧(au u x)[p]? = some z∧fV u x p=some z∧Rr u c m L ii p d f∧(f:Int)=d+e1.fo∧lg u x m (es.take k) t e0=gk e1 (je u x m (es.take k) ⟨p,rl⟩)∧dH c l k ii z p rl ct=true∧gM z=!ct
 | [],_,_,_,h,_,_,_,_,_,_=>(h rfl).elim
 | it::t,ws,e0,e,_,hi,hw,he,Om,h1,h2=>by
  rw[lL] at hi
  cases hz:fV u x it.pc with
  | none=>rw[hz] at hi;cases hi
  | some z=>
   rw[hz] at hi;simp only[Bool.and_eq_true,decide_eq_true_eq] at hi;obtain⟨⟨⟨hm,hr⟩,hc⟩,Qp⟩:=hi;have O0:=hz;unfold fV at O0;split at O0
   ·cases O0
   rename_i R0;obtain⟨p,rl⟩:=it;obtain⟨pn,rfl⟩:∃ pn:Nat,p=pn:=⟨p.toNat,by simp only at R0;omega⟩;simp only[Int.toNat_natCast] at O0 hm hr hc Qp;have ZN:=hw pn hm;rw[jH] at Om h1 h2
   cases t with
   | nil=>
    rw[j3] at Om h1 h2;refine⟨e0,e,pn,rl,z,rfl,O0,hz,ZN,he,by rw[jH,j3],?_,?_⟩
    ·simpa using hc
    ·have:=hr
     simpa using this
   | cons it2 t=>
    obtain⟨k1,k2,k3⟩:=AP _ _ Om;obtain⟨a1,a2,a3⟩:=p8 k1;have kU:=(iB _).1 k1;have Ye:=(iB _).1 a2;generalize hF:lg u x m (es.take k) (it2::t) (gk e0 (je u x m (es.take k) ⟨pn,rl⟩))=F at *;rw[a3] at k2 k3 kU;simp only at k2 k3 kU;simp only[List.isEmpty_cons,Bool.false_and] at hc hr;have hnr:gM z=false:=by simpa using hr
    obtain⟨e',hE⟩:∃ e':Nat,(e':Int)=d+(e0.fo+(je u x m (es.take k) ⟨pn,rl⟩).fo):=⟨(d+(e0.fo+(je u x m (es.take k) ⟨pn,rl⟩).fo)).toNat,by omega⟩;have Uo:∀ q∈dJ z pn,Rr u c m L ii q d e':=fun q hq=>by
     cases Sn:cN z with
     | false=>
      have O5:rl=-1:=by simpa [dH,Sn] using hc
      subst O5;have PY:je u x m (es.take k) ⟨pn,-1⟩=xg (dw x m z):=by simp[je,hz]
      rw[PY] at hE k3 k2 kU Ye;have QO:(xg (dw x m z)).fo=dw x m z:=by
       have hcb : -1≤dw x m z∧dw x m z≤1:=by
        cases z with
        | lock un p=>
         simp only[dw];split
         ·split<;>omega
         ·omega
        | _=>simp[dw]
       rw[xg,if_neg yA]
      rw[QO] at hE kU;exact .step ZN hx O0 Sn yA yA hq
     | true=>
      unfold dH at hc;rw[if_pos Sn] at hc;split at hc
      ·cases hc
      rename_i Vh;obtain⟨rn,rfl⟩:∃ rn:Nat,rl=rn:=⟨rl.toNat,by omega⟩;rw[Int.toNat_natCast] at hc;split at hc
      ·rename_i q' PE;simp only[Bool.and_eq_true,decide_eq_true_eq,Bool.or_false,Bool.not_eq_true'] at hc;have Pd:rn<k:=by omega
       obtain⟨ow,PY⟩:∃ ow,es[rn]? = some ow:=⟨_,List.getElem?_eq_getElem yA⟩;rw[Ch Pd PY] at hE k2 k3 kU Ye a2;obtain⟨j,f,hj,hf,hS⟩:=ih rn q' ow Pd PE hc.2 PY a2 e yA yA;have V0:f=e':=by omega
       subst V0;have WL:dn c ii pn=j:=by
        unfold dn;rw[← hc.1,hj,Int.toNat_natCast]
       obtain⟨pk,y,hy,Ym,Tx⟩:=hS;rw[← WL] at hy Tx;have hq1:q=pn+1:=by
        cases z with
        | call g t is ps=>simpa [dJ] using hq
        | _=>simp[cN] at Sn
       subst hq1;exact .call ZN hx O0 Sn Tx hy Ym yA
      ·cases hc
    obtain⟨e1,f,p',rl',z',g1,g2,g3,g4,g5,g6,g7,g8⟩:=u9 hx ih Ou Ot (it2::t) (dJ z pn) (gk e0 (je u x m (es.take k) ⟨pn,rl⟩)) e' N3 Qp Uo (by rw[a3];exact hE) (by rw[hF];exact Om) (by rw[hF];exact h1) (by rw[hF];exact h2);exact⟨e1,f,p',rl',z',by rw[List.getLast?_cons_cons];exact g1,g2,g3,g4,g5,by rw[jH];exact g6,g7,g8⟩
theorem chg_b (x:Is)(m:Nat)(z:In) : -1≤dw x m z∧dw x m z≤1:=by
 cases z with
 | lock un p=>
  simp only[dw];split
  ·split<;>omega
  ·omega
 | _=>simp[dw]
theorem KU (hV:RpV u c m l es){k:Nat}{q:Ru}{e:Et}(hq:l[k]? = some q)(he:es[k]? = some e):∃ (ii:Nat) (x:Is),q.inst=ii∧c.is[ii]? = some x∧Fc c q.inst=x∧lL u c l k ii q.ct x q.items [0]=true∧e=lg u x m (es.take k) q.items ⟨0,0,0⟩:=by
 obtain⟨ii,x,h1,h2,h3,h4⟩:=od (hV.r k q hq);have:=hV.e k q hq;rw[he,Option.some.injEq,te,h3] at this;exact⟨ii,x,h1,h2,h3,h4,this⟩
theorem pN (hV:RpV u c m l es)(Ou:es.length=l.length):∀ (k:Nat) (q:Ru) (e:Et),l[k]? = some q→q.ct=false→es[k]? = some e→e.ok=true→∀ d:Nat,0≤d+e.lo→d+e.hi≤L→∃ (j e':Nat),q.inst=j∧(e':Int)=d+e.fo∧lX u c m L j d e':=by
 intro k
 induction k using Nat.strongRecOn with
 | _ k ih=>
  intro q e hq ho he Om d h1 h2;obtain⟨ii,x,a1,a2,a3,a4,rfl⟩:=KU hV hq he;have Ok:q.items≠[]:=fun h=>by
   have:=hV.r k q hq;simp only[dm,ho,h] at this;split at this
   ·cases this
   ·split at this
    ·cases this
    ·simp at this
  have Ot:=(List.getElem?_eq_some_iff.1 hq).1;have YW:=(iB _).1 Om;obtain⟨e1,f,p,rl,z,g1,g2,g3,g4,g5,g6,g7,g8⟩:=u9 (L:=L) (d:=d) a2 (fun rn q' e' Pd PE OI W0 WN d' XR Q4=>ih rn Pd q' e' PE OI W0 WN d' XR Q4) Ou yA q.items [0] ⟨0,0,0⟩ d Ok a4 (fun r hr=>by
   rw[List.mem_singleton.1 hr];exact .base yA) N3 Om h1 h2
  rw[ho] at g8
  cases z with
  | ret=>
   have O5:rl=-1:=by simpa [dH,cN] using g7
   subst O5;have PY:je u x m (es.take k) ⟨p,-1⟩=⟨0,0,0⟩:=by simp[je,g3,dw,xg]
   rw[PY] at g6;rw[g6] at Om ⊢;obtain⟨_,_,b3⟩:=p8 Om;rw[b3];exact⟨ii,f,a1,by simpa using g5,p,x,a2,g2,g4⟩
  | _=>simp[gM] at g8
theorem Dh (hV:RpV u c m l es)(Ou:es.length=l.length){inst pc:Int}:∀ (f k:Nat) (q:Ru) (e:Et) (d:Nat),l[k]? = some q→es[k]? = some e→e.ok=true→0≤d+e.lo→d+e.hi≤L→(∀ j:Nat,q.inst=j→pf u c m L j d)→pK u c l inst pc f k=true→∃ (j p e':Nat),inst=j∧pc=p∧(e':Int)=d+e.fo∧Be u c m L j p e'
 | 0,_,_,_,_,_,_,_,_,_,_,h=>by cases h
 | f+1,k,q,e,d,hq,he,Om,h1,h2,Xc,h=>by
  obtain⟨ii,x,a1,a2,a3,a4,rfl⟩:=KU hV hq he;have Ot:=(List.getElem?_eq_some_iff.1 hq).1;have YW:=(iB _).1 Om;have hE:=Xc ii a1;by_cases Ok:q.items=[]
  ·rw[AL hq Ok,vn,Hz] at h;simp only[Bool.and_eq_true,decide_eq_true_eq] at h;rw[Ok,j3] at YW ⊢;exact⟨ii,0,d,by rw[← h.1.2,a1],h.2,by simp,d,hE,.base (by rw[Ok,j3] at h2;simp at h2;omega)⟩
  ·obtain⟨e1,g,p,rl,z,g1,g2,g3,g4,g5,g6,g7,g8⟩:=u9 (L:=L) (d:=d) a2 (fun rn q' e' _ PE OI W0 WN d' XR Q4=>pN hV Ou rn q' e' PE OI W0 WN d' XR Q4) Ou yA q.items [0] ⟨0,0,0⟩ d Ok a4 (fun r hr=>by
    rw[List.mem_singleton.1 hr];exact .base yA) N3 Om h1 h2
   rw[g6] at Om h1 h2 ⊢;obtain⟨b1,b2,b3⟩:=p8 Om;have KD:=(iB _).1 Om;rw[b3] at h1 h2 KD ⊢;simp only at h1 h2 KD ⊢;have Ye:=(iB _).1 b2;by_cases Sc:0≤rl∧(l[rl.toNat]?).any (·.ct)=true
   ·obtain⟨rn,rfl⟩:∃ rn:Nat,rl=rn:=⟨rl.toNat,by omega⟩;obtain⟨_,Ww⟩:=Sc;rw[Int.toNat_natCast] at Ww
    cases PE:l[rn]? with
    | none=>rw[PE] at Ww;cases Ww
    | some q'=>
     rw[PE] at Ww;have OI:q'.ct=true:=by simpa using Ww
     rw[DM hq g1 rfl PE OI] at h;have Sn:cN z=true:=by
      cases Sn:cN z with
      | true=>rfl
      | false=>
       simp[dH,Sn] at g7
     have Se:=g7;unfold dH at Se;rw[if_pos Sn] at Se;split at Se
     ·cases Se
     rename_i Vh;rw[Int.toNat_natCast,PE] at Se;simp only[Bool.and_eq_true,decide_eq_true_eq] at Se;have Pd:rn<k:=by omega
     obtain⟨ow,PY⟩:∃ ow,es[rn]? = some ow:=⟨_,List.getElem?_eq_getElem yA⟩;rw[Ch Pd PY] at h1 h2 KD b2 Ye ⊢;obtain⟨j,p',e',c1,c2,c3,c4⟩:=Dh hV Ou f rn q' ow g PE PY b2 yA yA (fun j hj=>by
      have WL:dn c ii p=j:=by
       unfold dn;rw[← Se.1,hj,Int.toNat_natCast]
      rw[← WL];exact .call hE g4 a2 g2 Sn) h
     exact⟨j,p',e',c1,c2,by omega,c4⟩
   ·rw[DL hq g1 Sc (by rw[a3];exact g3),vn,Hy] at h;simp only[Bool.and_eq_true,decide_eq_true_eq,Int.toNat_natCast] at h;obtain⟨⟨_,Oo⟩,hpc0,ji⟩:=h;obtain⟨e',hE'⟩:∃ e':Nat,(e':Int)=d+(e1.fo+(je u x m (es.take k) ⟨p,rl⟩).fo):=⟨(d+(e1.fo+(je u x m (es.take k) ⟨p,rl⟩).fo)).toNat,by omega⟩;refine⟨ii,pc.toNat,e',by rw[← Oo,a1],by omega,hE',d,hE,?_⟩
    cases Sn:cN z with
    | false=>
     have O5:rl=-1:=by simpa [dH,Sn] using g7
     subst O5;have PY:je u x m (es.take k) ⟨p,-1⟩=xg (dw x m z):=by simp[je,g3]
     have hcb:=chg_b x m z;have QO:(xg (dw x m z)).fo=dw x m z:=by rw[xg,if_neg yA]
     rw[PY,QO] at hE';rw[PY] at KD;rw[QO] at KD;rw[PY] at h2;exact .step g4 a2 g2 Sn yA yA ji
    | true=>
     have Se:=g7;unfold dH at Se;rw[if_pos Sn] at Se;split at Se
     ·cases Se
     rename_i Vh;obtain⟨rn,rfl⟩:∃ rn:Nat,rl=rn:=⟨rl.toNat,by omega⟩;rw[Int.toNat_natCast] at Se Sc;split at Se
     ·rename_i q' PE;rw[PE] at Sc;have OI:q'.ct=false:=by
       cases ho:q'.ct with
       | false=>rfl
       | true=>exact (Sc ⟨by omega,by simp[ho]⟩).elim
      simp only[Bool.and_eq_true,decide_eq_true_eq] at Se;have Pd:rn<k:=by omega
      obtain⟨ow,PY⟩:∃ ow,es[rn]? = some ow:=⟨_,List.getElem?_eq_getElem yA⟩;rw[Ch Pd PY] at h1 h2 KD b2 Ye hE';obtain⟨j,f',hj,V1,pk,y,hy,Ym,Tx⟩:=pN hV Ou (L:=L) rn q' ow PE OI PY b2 g yA yA;have V0:f'=e':=by omega
      subst V0;have WL:dn c ii p=j:=by
       unfold dn;rw[← Se.1,hj,Int.toNat_natCast]
      rw[← WL] at hy Tx;have hq1:pc.toNat=p+1:=by
       cases z with
       | call gg t is ps=>simpa [dJ] using ji
       | _=>simp[cN] at Sn
      rw[hq1];exact .call g4 a2 g2 Sn Tx hy Ym yA
     ·cases Se
end
theorem DP {u:Un}{c:Cl}{l:List Ru}{m:Nat}:∀ (rest:List Ru) (out:List Et),(eA u c l m rest out).2.2=0→(∃ tl,(eA u c l m rest out).1=out++tl)∧∀ k q,rest[k]? = some q→(eA u c l m rest out).1[out.length+k]? = some (te u c m ((eA u c l m rest out).1.take (out.length+k)) q)
 | [],out,_=>⟨⟨[],by simp[eA]⟩,fun k q h=>by simp at h⟩
 | r::t,out,h=>by
  rw[eA] at h ⊢;by_cases hr:dm u c l out.length r=true
  ·rw[if_pos hr] at h ⊢;obtain⟨⟨tl,h1⟩,h2⟩:=DP t (out++[te u c m out r]) h;refine⟨⟨te u c m out r::tl,by rw[h1];simp⟩,fun k q hq=>?_⟩
   cases k with
   | zero=>
    simp only[List.getElem?_cons_zero,Option.some.injEq] at hq;subst hq;rw[h1];simp
   | succ k=>
    have:=h2 k q (by simpa using hq);rw[List.length_append,List.length_singleton,show out.length+1+k=out.length+(k+1) by omega] at this;exact this
  ·rw[if_neg hr] at h;cases h
theorem EK {u:Un}{x:Ce}(h:(qk u x).2=0):∃ (m:Nat) (xm:Mx) (j d:Nat),x.lock=m∧u.ms[m]? = some xm∧x.inst=j∧x.depth=d∧d≤aG xm∧((x.pc=-1∧lX u (ak u) m (aG xm) j 0 d)∨(x.pc≠-1∧∃ p:Nat,x.pc=p∧Be u (ak u) m (aG xm) j p d)):=by
 unfold qk at h;by_cases h0:(er u x).2.2≠0
 ·rw[if_pos h0] at h;exact (h0 h).elim
 rw[if_neg h0] at h;have h0:(er u x).2.2=0:=Classical.not_not.1 h0;obtain⟨⟨m,xm,hm,VI,he,Pw⟩,_,Ou,hr⟩:=AO h0
 cases S0:x.rules.getLast? with
 | none=>rw[S0] at h;cases h
 | some r=>
  rw[S0] at h;simp only at h;split at h
  ·cases h
  rename_i YJ;split at h
  ·cases h
  rename_i UF;split at h
  ·cases h
  rename_i dt;rw[List.getLast?_eq_getElem?] at S0;have hV:RpV u (ak u) m x.rules (er u x).1:=⟨hr,fun k q hq=>by
   have:=(DP (l:=x.rules) x.rules [] (by rw[← he];exact h0)).2 k q hq;rw[← he] at this
   simpa using this⟩
  have hn:=(List.getElem?_eq_some_iff.1 S0).1;obtain⟨e,Ts⟩:∃ e,(er u x).1[x.rules.length-1]? = some e:=⟨_,List.getElem?_eq_getElem yA⟩;have Qy:(er u x).1.getD (x.rules.length-1) za=e:=by rw[List.getD_eq_getElem?_getD,Ts];rfl
  simp only[zG,Qy,Pw,Bool.or_eq_true,Bool.not_eq_true',decide_eq_true_eq,not_or,Bool.not_eq_false,Classical.not_not] at dt;obtain⟨SL,QO⟩:=dt;simp only[qC,Bool.and_eq_true,decide_eq_true_eq] at SL;obtain⟨⟨⟨⟨⟨Om,_⟩,_⟩,h8⟩,SG⟩,hhi⟩:=SL;have hokb:=(iB _).1 Om;by_cases ji:x.pc=-1
  ·simp only[zb,if_pos ji,Bool.or_eq_true,decide_eq_true_eq,not_or,Classical.not_not,Bool.not_eq_true] at UF;obtain⟨j,e',hj,W0,hs⟩:=pN (L:=aG xm) hV Ou _ r e S0 UF.1 Ts Om 0 (by simpa using SG) (by simpa using hhi);exact⟨m,xm,j,e',hm,VI,by rw[← UF.2,hj],by rw[← QO];omega,by omega,.inl ⟨ji,hs⟩⟩
  ·simp only[zb,if_neg ji,Bool.not_eq_true',Bool.not_eq_false] at UF;have Ue:qZ (ak u).roots r.inst=true:=by simpa using YJ
   simp only[qZ,List.any_eq_true,decide_eq_true_eq] at Ue;obtain⟨a,ha,haj⟩:=Ue;obtain⟨j,p,e',hj,hp,W0,hb⟩:=Dh (L:=aG xm) hV Ou (inst:=x.inst) (pc:=x.pc) _ _ r e 0 S0 Ts Om (by simpa using SG) (by simpa using hhi) (fun j hj=>by
    have:j=a:=by omega
    rw[this];exact .root ha) UF
   exact⟨m,xm,j,e',hm,VI,hj,by rw[← QO];omega,by omega,.inr ⟨ji,p,hp,hb⟩⟩
theorem rr_lt {u:Un}(hu:im u){L m i pc d e:Nat}(h:Rr u (ak u) m L i pc d e):∀ {x:Is},(ak u).is[i]? = some x→pc<(au u x).length:=by
 induction h with
 | base h=>exact fun hx=>qJ hu (kH hu hx)
 | step h O9 hz hc he hl hq ih=>
  intro x hx;rw[hx,Option.some.injEq] at O9;subst O9;exact rQ hu (kH hu hx) hz hq
 | call h O9 hz hc hk hy hr hl ih ih2=>
  intro x hx;rw[hx,Option.some.injEq] at O9;subst O9;refine rQ hu (kH hu hx) hz ?_;rename_i z;cases z<;>simp[cN] at hc<;>simp[dJ]
def S18 (u:Un)(s:St):Prop:=∃ x:Ce,MY x∧MX x∧s=⟨[(16,.aq 3 0),(15,.aq 2 0),(14,.aq 1 0)],JW u x,4⟩
set_option maxRecDepth 100000 in
set_option maxHeartbeats 4000000 in
theorem zV (l l2:List Int)(hl:l.length≤9223372036854775807)(O7:l2.length≤9223372036854775807)(a b c d:Int):ae Tryz.prog 5 [ints l,ints l2,I a,I b,I c,I d] (.bool true):=by
 have aw:=rp_ok;have TC:=IZ l hl;have Va:=Ai l;generalize lA (Dt l)=u at TC Va;have Oj:=aP u;have Ox:=bL (ak u);have t1:trees [ints l]=true:=by simp only[ints,trees,tree,Bool.and_self]
 have Pp:=Va.nm;have hwa:=cJ a u.ms.length yA yA;obtain⟨m,hm⟩:∃ m:Nat,a % (u.ms.length:Int)=m:=⟨_,(Int.toNat_of_nonneg (Int.emod_nonneg _ yA)).symm⟩;have Qx:m<u.ms.length:=by
  have:=Int.emod_lt_of_pos a (b:=(u.ms.length:Int)) yA;omega
 rw[hm] at hwa;have Vu:=Kc Va l2 O7 m yA;have tce:trees [cK u,eP (ak u),ints l2,I m]=true:=by simp only[ints,trees,tree,cK,eP,aP,bL,Bool.and_self]
 have X8:=aE (ak u).roots;have rU:=fun ρ=>ay ρ _ Oj;have rC:=fun ρ=>ay ρ _ Ox;have rR:∀ ρ (l:List Ru),bV ρ (l.flatMap cj)=l.flatMap cj:=fun ρ l=>ay ρ _ (cQ l);refine ae.aH af Tryz.func5 rfl N4 (by simp[Tryz.ntmps5]) rfl fun C hC N8=>?_;rw[Tryz.ntmps5] at hC;simp only[cK,eP,bX,cD,ints] at Oj Ox Vu tce rU rC;apply ai;simp[hC];apply ai;simp[hC];refine dc t1 TC ?_;simp[hC,xb,eC,cK,bX,eP,cD];apply T.seq;refine T.rx af follows [0,1,2,3,4,5,6,9,10,11,13,7,8,12,14] [(0,13),(0,7),(1,13),(1,7),(5,13),(13,7),(13,8),(13,12)] N4 ?_;simp[hC,ints];refine RX.call rfl N3 rfl rfl rfl Od (hwa) ?_;simp;refine RX.Bl rfl N3 rfl rfl rfl tce Vu fun v hv=>?_;obtain⟨x0,rfl,Wf⟩:=hv;simp[pX,qL];have YD:=EA x0 6 20 yA yA Wf b c d;have tsp:trees [pX x0,I b,I c,I d]=true:=by simp only[trees,tree,pX,jD,Bool.and_self]
 simp only[pX,qL] at YD tsp;refine RX.Bl rfl N3 rfl rfl rfl tsp YD fun v hv=>?_;obtain⟨x,rfl,hx⟩:=hv;simp;have Zu:=hx.b yA yA;have TM:=zT Va x Zu;have VB:trees [cK u,eP (ak u),pX x]=true:=by simp only[trees,tree,cK,eP,pX,aP,bL,jD,Bool.and_self]
 simp only[cK,eP,bX,cD,ints,pX,qL] at TM VB;have Xd:(er u x).1.length≤7:=HY hx.1;generalize er u x=EQ at TM Xd;obtain⟨E,p,q⟩:=EQ;simp only at TM Xd;refine T.cut (S18 u) ?_ ?_
 ·apply ai;simp[hC];refine dc VB TM ?_;simp[hC,lS];by_cases h0:0<E.length
  ·apply ai;simp[hC,h0];obtain⟨k,hk⟩:∃ k,E.length=k+1:=⟨E.length-1,by omega⟩;obtain⟨y,hy⟩:∃ y,E[k]? = some y:=⟨_,List.getElem?_eq_getElem yA⟩;have hdy:=a8 (f:=eE) (n:=3) gX hy 2 yA;have hdy0:=aD (f:=eE) (n:=3) gX hy;have SK:(k:Int)<k+1:=by omega
   have wk:IntKind.i64.wrap (k:Int)=k:=cf _ yA yA;refine cB ?_;simp;apply aY;simp[hC,hk,hdy0,eE,SK,wk];refine aa.le (Le.norm [16,15,14] [(16,3),(2,2),(1,1)] 0 4 Pn Pk yCx yA) ?_;simp[cT,cc,bV,dT,fc,assoc,fy,df];refine aa.here ⟨⟨x.lock,x.inst,x.pc,y.fo,x.rules⟩,Zu,hx.2.2,?_⟩;simp[JW,bX,cD,ints,qL,aB,df]
  ·apply ai;simp[hC,h0];refine dv ?_;simp;refine aa.le (Le.norm [16,15,14] [(16,3),(2,2),(1,1)] 0 4 Pn Pk yCx yA) ?_;simp[cT,cc,bV,dT,fc,assoc,fy,df];refine aa.here ⟨x,Zu,hx.2.2,?_⟩;simp[JW,bX,cD,ints,qL,aB,df]
 rintro s ⟨x,Zu,her,rfl⟩;have hck:=om Va x Zu her;have VB:trees [cK u,eP (ak u),pX x]=true:=by simp only[trees,tree,cK,eP,pX,aP,bL,jD,Bool.and_self]
 have YI:=EK (u:=u) (x:=x);generalize qk u x=Q at hck YI;obtain⟨p,q⟩:=Q;simp only[JW,cK,eP,bX,cD,ints,pX,qL] at hck VB YI ⊢;apply aL;simp[hC];refine dc VB hck ?_;simp[hC];by_cases hq:q=0
 ·subst hq;have YI:=YI rfl;apply ai;simp[hC];refine dv ?_;simp;obtain⟨m,xm,j,d,VU,VI,Oo,Uz,Tb,OJ⟩:=YI;have Pw:=jy xm;have SE:=B5 Va VI;have hbf:=Ca Va VI;have tmm:trees [cK u,eP (ak u),I (m:Int)]=true:=by simp only[trees,tree,cK,eP,aP,bL,Bool.and_self]
  simp only[cK,eP,bX,cD,ints] at SE hbf tmm;rcases OJ with ⟨ji,hs⟩ | ⟨ji,p',R1,hb⟩
  ·rw[ji];have OD:j<(ak u).is.length:=by
    obtain⟨_,_,h,_⟩:=hs;exact (List.getElem?_eq_some_iff.1 h).1
   have SB:(oH u (ak u) m (aG xm))[j]? = some (ql (aG xm) (lX u (ak u) m (aG xm) j)):=tv _ OD;have RK:(oH u (ak u) m (aG xm)).length=(ak u).is.length:=(iG _ _ _).len;have UE:=(gr (L:=aG xm) (p:=lX u (ak u) m (aG xm) j) (d:=0) (e:=d) (Nat.zero_le _) Tb).2 hs;have Wg:=kq (aG xm) (lX u (ak u) m (aG xm) j);generalize ql (aG xm) (lX u (ak u) m (aG xm) j)=row at SB UE Wg;generalize oH u (ak u) m (aG xm)=TT at SB RK SE;obtain⟨s0,tl,rfl⟩:∃ s0 tl,row=s0::tl:=by
    cases row with
    | nil=>exact absurd Wg.1 N3
    | cons s0 tl=>exact⟨s0,tl,rfl⟩
   have SX:s0<2 ^ 63:=by
    have:=Wg.2 s0 N3;exact Nat.lt_of_lt_of_le this (Nat.pow_le_pow_right yA yA)
   have Vc:s0.testBit d=true:=by simpa [bb] using UE
   have PZ:=fe aB SB;have R8:j<TT.length:=by omega
   have VP:=B7 s0 d SX yA;simp only[Vc,Bool.and_true,show decide (d≤8)=true from decide_eq_true yA] at VP;simp only[aQ] at SE;apply aL;simp[hC];refine cB ?_;simp;apply T.seq;refine T.rx af follows [0,1,2,3,5,6,11,12,4,7,8,9,10,13,14,15,16,17] [(6,4),(12,4)] N4 ?_;simp[hC,VU,Oo,Uz];refine RX.call rfl N3 rfl rfl rfl tmm SE ?_;simp[R8,PZ,aB];refine RX.call rfl N3 rfl rfl rfl Od (VP) ?_;simp;refine RX.call rfl N3 rfl rfl rfl Od (aw) ?_;simp;apply T.ret;apply aa.here;simp[Tryz.results5]
  ·obtain⟨d0,Xc,ZN⟩:=id hb;have OD:=(Cz (tt Va Pw) Xc).1;obtain⟨y,hy⟩:∃ y,(ak u).is[j]? = some y:=⟨_,List.getElem?_eq_getElem OD⟩;have Po:=rr_lt Va ZN hy;have SB:=D7 (u:=u) (m:=m) (L:=aG xm) hy;have RK:=Bm u (ak u) m (aG xm);have OW:=D8 (c:=ak u) (m:=m) (L:=aG xm) (i:=j) Po;have O5:(wz u (ak u) m (aG xm) j y).length=(au u y).length:=by simp[wz]
   have Vc:(lJ (aG xm) (Be u (ak u) m (aG xm) j p')).testBit d=true:=(ot Tb).2 hb;have SX:lJ (aG xm) (Be u (ak u) m (aG xm) j p')<2 ^ 63:=Nat.lt_of_lt_of_le (nu _ _) (Nat.pow_le_pow_right yA yA);generalize lJ (aG xm) (Be u (ak u) m (aG xm) j p')=s0 at OW Vc SX;generalize wz u (ak u) m (aG xm) j y=row at SB OW O5;generalize CO u (ak u) m (aG xm)=TT at SB RK hbf;have PZ:=fe aB SB;have QS:=fA OW;have R8:j<TT.length:=by omega
   have Ra:p' < row.length:=by omega
   have VP:=B7 s0 d SX yA;simp only[Vc,Bool.and_true,show decide (d≤8)=true from decide_eq_true yA] at VP;simp only[aQ] at hbf;apply aL;simp[hC];refine T.cond (b:=false) (by first | rfl | simp[ev,assoc,ji]) (T.skip ?_);simp;apply T.seq;refine T.rx af follows [0,1,2,3,5,6,9,10,13,14,4,7,8,11,12,15,16,17,18,19] [(6,4),(10,4),(14,4)] N4 ?_;simp[hC,VU,Oo,Uz,R1];refine RX.call rfl N3 rfl rfl rfl tmm hbf ?_;simp[R8,PZ,aB,Ra,QS];refine RX.call rfl N3 rfl rfl rfl Od (VP) ?_;simp;refine RX.call rfl N3 rfl rfl rfl Od (aw) ?_;simp;apply T.ret;apply aa.here;simp[Tryz.results5]
 ·apply ai;simp[hC];refine T.cond (b:=true) (by first | rfl | simp[ev,assoc,hq]) ?_;simp;apply ai;simp;refine dc rfl aw ?_;simp[hC];apply T.ret;apply aa.here;simp[Tryz.results5]
end Go.Proofs.YtlkmbdfhdknlgaaGreatDoor
namespace Go.Can
open Go.ChangeShapes Go.WideShapes Go.ChangeAt Go.RowKit
section
variable {P:Program}{H:Type}{enc:TypeId×Value→H}{w:World}
theorem G8 {F:Nat→Prop}(hF:∀ b,¬ F b):∀ (cs:List CV) (ad:Addr),cs.all one=true→(∀ i c,cs[i]? = some c→∃ u,w.cell? (ad.add i)=some u∧bZ w F c u)→fa w F cs ad
 | [],_,_,_=>by simp[fa]
 | c::cs,ad,h1,h=>by
  simp only[List.all_cons,Bool.and_eq_true] at h1;obtain⟨u,k1,k2⟩:=h 0 c rfl;rw[add_zero] at k1;simp only[fa];refine⟨⟨u,k1,hF _,k2⟩,h1.1,G8 hF cs _ h1.2 fun i d hi=>?_⟩;obtain⟨v,m1,m2⟩:=h (i+1) d Wa;refine⟨v,?_,m2⟩;rw[add_add,Nat.add_comm];exact m1
theorem Jx {α:Type}(f:α→CV)(h:∀ x,one (f x)=true)(l:List α):(l.map f).all one=true:=by
 rw[List.all_eq_true];intro x hx;obtain⟨y,_,rfl⟩:=List.mem_map.1 hx;exact h y
theorem IG {F:Nat→Prop}(cs:List CV)(h:cs=[]):bZ w F (.az cs 0) (.slice none 0 0):=by
 subst h;simp only[bZ];exact⟨none,0,rfl,Nat.le_refl _,Nat.zero_le _,.inl ⟨trivial,by simp⟩⟩
theorem oY {F:Nat→Prop}(hF:∀ b,¬ F b){t e:TypeId}{r:Reach}{b0:Nat}{v:Value}{d:DataW H}{ps:List MemPlace}(ht:P.underlying t=some (.slice e))(he:P.underlying e=some (.int .i64))(hc:P.cellsOf e=1)
  (PI:Value.okWide P w r b0 t v) (h:DataW.Trod enc P w 0 (fun _=>true) true t v d ps):∃ l:List Int,bZ w F (ints l) v∧l.length≤9223372036854775807:=by
 obtain⟨a,n,cap,rfl⟩:=okWide_slice ht PI;obtain⟨fuel,hf⟩:=h;rcases open_ints ht he hc hf with ⟨OJ,_⟩ | ⟨a',len,cap',zs,OJ,_,hl,hm,hz,_,OW,_⟩
 ·simp[Value.cells] at OJ;obtain⟨rfl,rfl,rfl⟩:=OJ;exact⟨[],IG _ rfl,by simp⟩
 ·simp[Value.cells] at OJ;obtain⟨rfl,rfl,rfl⟩:=OJ;simp only[if_true] at hz;have hlen:(zs.take n).length=n:=by simp;omega
  refine⟨zs.take n,?_,by rw[hlen];simp only[maxLen] at hm;omega⟩;unfold ints;rw[hlen];simp only[bZ];refine⟨_,cap,rfl,hl,hm,.inr ⟨a',rfl,G8 hF _ _ (Jx _ (fun _=>rfl) _) fun i c hi=>?_⟩⟩;rw[List.getElem?_map] at hi;obtain⟨z,Su,rfl⟩:=Option.map_eq_some_iff.1 hi;rw[List.getElem?_take] at Su;split at Su
  ·rename_i Oo;have Oa:i<zs.length:=by omega
   refine⟨_,OW i Oa,?_⟩;have:zs.getD i 0=z:=by simp[List.getD,Su]
   rw[this];simp[bZ]
  ·cases Su
theorem ae.calls {f:FuncId}{args:List CV}{b:Bool}(h:ae P f args (.bool b)){vs:List Value}(hv:bP w (fun _=>False) args vs)(hg:Lb w (fun _=>False):=by simp[Lb,IM]):Calls P f vs.toArray w fun e w'=>e=.returned (.bool b)∧Below w.heap.size w w':=
 (h.2 (fun _=>False) vs w ⟨fun _ hb=>hb.elim,hg.mono fun _ hb=>hb.elim id id⟩ hv).mono fun e w' ⟨v,h1,h2,h3⟩=>by
  simp only[bZ] at h3;subst h3;exact⟨h1,h2⟩
end
end Go.Can
/- Arguments as the contracts read them: a slice of structs of four integers. No function of the program is mentioned here. -/
namespace Go.Can
open Go.ChangeShapes Go.WideShapes Go.ChangeAt Go.RowKit
section
variable {P:Program}{H:Type}{enc:TypeId×Value→H}{w:World}
def q4 (e:Int×Int×Int×Int):List CV:=[.int .i64 e.1,.int .i64 e.2.1,.int .i64 e.2.2.1,.int .i64 e.2.2.2]
end
end Go.Can
namespace Go.Proofs.YtlkmbdfhdknlgaaGreatDoor
open Go.Can Go.aN Go.ChangeShapes Go.WideShapes Go.ChangeAt Go.RowKit
instance : Inhabited It := ⟨⟨0, 0⟩⟩
instance : Inhabited Ru := ⟨⟨0, false, []⟩⟩
end Go.Proofs.YtlkmbdfhdknlgaaGreatDoor
