/- Lemmas. -/
import Derived.Test.YtlkmbdfhdknlgaaGreatW28
import Derived.Test.YtlkmbdfhdknlgaaGreatW33
import Derived.Test.YtlkmbdfhdknlgaaGreatRows
import Derived.Deep.Matrix
import Derived.Deep.Fields
set_option maxRecDepth 1000000
namespace Go.Proofs.YtlkmbdfhdknlgaaGreat
open Go.Can Go.aK List
def E1 (u:Un)(m L d:Nat)(st:List (Nat×Nat)):List (Nat×List (Nat×Nat)):=match st.getLast? with
 | none=>[]
 | some p=>match (aw u).is[p.1]? with
  | none=>[]
  | some x=>match (ay u x)[p.2]? with
   | none=>[]
   | some z=>if vL z=true then [(d,st.dropLast)] else if fk z=true then [(d,st.dropLast++[(p.1,p.2+1),(fx (aw u) p.1 p.2,0)])]
    else if 0<=(d:Int)+eT x m z/\(d:Int)+eT x m z<=L then (jn z p.2).map λ q=>(((d:Int)+eT x m z).toNat,st.dropLast++[(p.1,q)]) else []
theorem ry (m th:Nat):∀ (os:List Nat) (tb:List Ho) (e mm:Nat) (x y:Ho),os[e]? = some mm->tb[e]? = some x ->
  fe m th os (tb.set e y)+(if mm=m/\x.o=th+1 then x.d else 0)=fe m th os tb+(if mm=m/\y.o=th+1 then y.d else 0)
 | [],_,e,mm,x,y,h,_=>by simp at h
 | o::os,[],e,mm,x,y,_,h=>by simp at h
 | o::os,h::tb,0,mm,x,y,h1,h2=>by
  simp only[getElem?_cons_zero,Option.some.injEq] at h1 h2;subst h1 h2;simp only[set_cons_zero,fe];omega
 | o::os,h::tb,e+1,mm,x,y,h1,h2=>by
  have:=ry m th os tb e mm x y (by simpa using h1) yC;simp only[set_cons_succ,fe];omega
theorem E5 {ms:List Mx}{tb:List Ho}{e th m:Nat}(hz:∀ h∈tb,h.o=0->h.d=0)(h:(fM ms tb e th).2=true):ck ms (fM ms tb e th).1 m th=ck ms tb m th+if lg ms e=m then 1 else 0:=by
 unfold fM at h |-;split
 .rename_i hf;unfold xW at hf;split at hf
  .rename_i mm x hm hx;rw[hx];have hs:=ry m th (bT ms) tb e mm x ⟨th+1,x.d+1⟩ hm hx;have U4:lg ms e=mm:=by rw[lg,getD_eq_getElem?_getD,hm];rfl
   have h0:=hz x (mem_of_getElem? hx);simp only[ck] at hs |-;rw[U4];have Zp:x.o=0\/x.o=th+1:=by
    simp only[Bool.or_eq_true,Bool.and_eq_true,decide_eq_true_eq] at hf;rcases hf with hf | hf
    .exact .inl hf
    .exact .inr hf.1
   by_cases TF:mm=m
   .simp only[TF,true_and,if_true] at hs |-;rcases Zp with h1 | h1
    .rw[if_neg yA,h0 h1] at hs;rw[h0 h1];omega
    .rw[if_pos h1] at hs;omega
   .simp only[TF,false_and,if_false] at hs |-;omega
  .cases hf
 .rename_i hf;rw[if_neg hf] at h;cases h
theorem Aj {ms:List Mx}{tb:List Ho}{e th m:Nat}(hz:∀ h∈tb,h.o≠0->0<h.d)(h:(dt ms tb e th).2=true):ck ms (dt ms tb e th).1 m th+(if lg ms e=m then 1 else 0)=ck ms tb m th:=by
 unfold dt at h |-;split
 .rename_i mm x hm hx;rw[hm,hx] at h;simp only at h;split
  .rename_i ho;have hs:=ry m th (bT ms) tb e mm x (if x.d=1 then ⟨0,0⟩ else ⟨th+1,x.d-1⟩) hm hx;have U4:lg ms e=mm:=by rw[lg,getD_eq_getElem?_getD,hm];rfl
   have h0:=hz x (mem_of_getElem? hx) yA;simp only[ck] at hs |-;rw[U4];by_cases TF:mm=m
   .simp only[TF,true_and,if_true,ho] at hs |-;by_cases h1:x.d=1
    .simp only[h1,if_true] at hs |-;rw[if_neg yA] at hs;omega
    .simp only[h1,if_false,if_true] at hs |-;omega
   .simp only[TF,false_and,if_false] at hs |-;omega
  .rename_i ho;rw[if_neg ho] at h;cases h
 .rename_i hn;split at h
  .rename_i a b ha hb;exact (hn a b ha hb).elim
  .cases h
theorem Fg {u:Un}(hu:gg u){k:Nat}{s:Sy}(hs:pK u k s)(ho:Ss s){t m:Nat}{x:Mx}(hx:u.ms[m]? = some x){s':Sy}(Sz:gr u s t=(s',true))(Tq:s'.fault=0)(he:(Di u s t).1=0\/(Di u s t).2≠m)(hd:ck u.ms s.tb m t<=aH x) :
  ∃ a b,fL u s t m=some a/\fL u s' t m=some b/\ck u.ms s'.tb m t<=aH x/\b∈E1 u m (aH x) a.1 a.2:=by
 have hst':=Sz;unfold gr at Sz;split at Sz
 .cases Sz
 rename_i f hf;split at Sz
 .cases Sz
 rename_i i hi;have⟨n,l0,hnt,hl,hsf,UX⟩:=nH hf;have hnt2:t=n:=by omega
 subst hnt2;rw[Int.toNat_natCast,UX] at Sz;have⟨o1,o2,o3,o4⟩:=hs.gH hl;obtain⟨q,hq,gQ,W0,SK⟩:=o2.q;have hii:=hi;simp only[j8,hf,hq] at hi;have SM:=(List.getElem?_eq_some_iff.1 hl).1;have Uc:=Ba o2.ic;have Sw:(ay u (gv u.ms f))[f.pc]? = some i:=by simp only[ay,gv,hq];exact hi
 have Ws:fL u s t m=some (ck u.ms s.tb m t,(l0++[f]).map (p6 u)):=by
  simp only[fL,Int.toNat_natCast,hl,hx];rw[if_neg yA,Nat.min_eq_left hd]
 have Yq:∀ {l':List Fr} {s2:Sy},s2.ts[t]? = some l'->fL u s2 t m=some (min (ck u.ms s2.tb m t) (aH x),l'.map (p6 u)):=λ h=>by
  simp only[fL,Int.toNat_natCast,h,hx];rw[if_neg yA]
 have SQ:∀ l':List Fr,(s.ts.set t l')[t]? = some l':=λ l'=>getElem?_set_self SM;have hmd:∀ d,E1 u m (aH x) d ((l0++[f]).map (p6 u))=(if vL i=true then [(d,l0.map (p6 u))] else if fk i=true then [(d,l0.map (p6 u)++[(eC (aw u).is (gv u.ms f),f.pc+1),(fx (aw u) (eC (aw u).is (gv u.ms f)) f.pc,0)])]
    else if 0<=(d:Int)+eT (gv u.ms f) m i/\(d:Int)+eT (gv u.ms f) m i<=aH x then (jn i f.pc).map λ q=>(((d:Int)+eT (gv u.ms f) m i).toNat,l0.map (p6 u)++[(eC (aw u).is (gv u.ms f),q)]) else []):=λ d=>by
  simp only[E1,map_append,map_cons,map_nil,getLast?_append,getLast?_singleton,Option.some_or,p6,Uc,Sw,dropLast_concat]
 suffices hh:∃ b,fL u s' t m=some b/\ck u.ms s'.tb m t<=aH x/\b∈E1 u m (aH x) (ck u.ms s.tb m t) ((l0++[f]).map (p6 u)) by
  obtain⟨b,hb⟩:=hh;exact⟨_,b,Ws,hb⟩
 -- a step that changes no table and goes on within the frame
 have go1:∀ {s2:Sy} {g:Nat} {vs:List Int},s2.tb=s.tb->s2.ts[t]? = some (l0++[⟨f.proc,g,vs,f.eD⟩])->vL i=false->fk i=false->eT (gv u.ms f) m i=0->g∈jn i f.pc ->
   ∃ b,fL u s2 t m=some b/\ck u.ms s2.tb m t<=aH x/\b∈E1 u m (aH x) (ck u.ms s.tb m t) ((l0++[f]).map (p6 u)):=λ {s2 g vs} r0 r5 r1 r2 r3 r4=>by
  refine⟨_,Yq r5,by rw[r0];exact hd,?_⟩;rw[hmd,r1,r2,r3,if_neg SC,if_neg SC,if_pos yA];simp only[mem_map];refine⟨g,r4,?_⟩;rw[r0,Nat.min_eq_left hd];simp[p6,gv]
 have Uw:=(hu.pc q (mem_of_getElem? hq)).2 i (mem_of_getElem? hi);rw[<- hs.gs,<- W0,<- SK] at Uw
 cases i with
 | set k' gl e=>
  have T6:f.pc+1∈jn (.set k' gl e) f.pc:=by simp[jn]
  simp only[fj,OO,Prod.mk.injEq,and_true] at Sz;split at Sz
  .split at Sz
   .subst Sz;exact go1 rfl (SQ _) rfl rfl rfl T6
   .subst Sz;exact go1 rfl (SQ _) rfl rfl rfl T6
  .rename_i h;subst Sz;exact (h Tq).elim
 | branch g e=>
  simp only[fj,Pp,Prod.mk.injEq,and_true] at Sz;split at Sz
  .subst Sz;refine go1 rfl (SQ _) rfl rfl rfl ?_;simp only[jn];split<;>split<;>simp<;>omega
  .rename_i h;subst Sz;exact (h Tq).elim
 | jump g=>
  simp only[fj,Prod.mk.injEq,and_true] at Sz;subst Sz;exact go1 rfl (SQ _) rfl rfl rfl (by simp[jn])
 | ret=>
  simp only[fj,Prod.mk.injEq,and_true] at Sz;subst Sz;refine⟨_,Yq (SQ _),hd,?_⟩;rw[hmd,if_pos (show vL In.ret=true from rfl)];simp[Nat.min_eq_left hd]
 | lock un p=>
  have UC:wM u.ms s.gs.length f.aV.length f.eD.length p:=Uw;have⟨n,hn⟩:=kB u s t p (nC hu) f hf UC;have hmd2:=hmd (ck u.ms s.tb m t);rw[if_neg (by simp[vL]),if_neg (by simp[fk])] at hmd2;rw[hmd2];have To:jl (gv u.ms f) p=m->xZ un (ck u.ms s.tb m t) (aH x)=0:=λ TF=>by
   by_cases hk:xZ un (ck u.ms s.tb m t) (aH x)=0
   .exact hk
   .simp only[Di,hf,hii,TF,hx,Int.toNat_natCast,if_neg hk] at he;rcases he with he | he
    .exact he
    .exact (he rfl).elim
  cases un with
  | true=>
   simp only[fj,if_true,OL] at Sz;split at Sz
   .rename_i h0;obtain⟨_,SR⟩:=kA hu hf o2 UC (n:=n) (Prod.ext hn h0);have hz:(bV u s t p).1.toNat=n:=by omega
    rw[hz] at Sz;split at Sz
    .rename_i hul;simp only[Prod.mk.injEq,and_true] at Sz;subst Sz;have UQ:=Aj (m:=m) (λ h hh=>(hs.hd h hh).2) hul;rw[SR] at UQ;have hc:eT (gv u.ms f) m (.lock true p)=if jl (gv u.ms f) p=m then -1 else 0:=by simp[eT]
     have hle:ck u.ms (dt u.ms s.tb n t).1 m t<=aH x:=by
      split at UQ<;>omega
     refine⟨_,Yq (SQ _),hle,?_⟩;rw[hc];simp only;by_cases TF:jl (gv u.ms f) p=m
     .rw[if_pos TF] at UQ |-;rw[if_pos yA];simp only[mem_map];refine⟨f.pc+1,by simp[jn],?_⟩;rw[Nat.min_eq_left yA];simp only[Prod.mk.injEq];exact⟨yA,by simp[p6,gv]⟩
     .rw[if_neg TF] at UQ |-;rw[if_pos yA];simp only[mem_map];refine⟨f.pc+1,by simp[jn],?_⟩;rw[Nat.min_eq_left yA];simp only[Prod.mk.injEq];exact⟨yA,by simp[p6,gv]⟩
    .simp only[Prod.mk.injEq,and_true] at Sz;subst Sz;cases Tq
   .rename_i h;simp only[Prod.mk.injEq,and_true] at Sz;subst Sz;exact (h Tq).elim
  | false=>
   simp only[fj,Bool.false_eq_true,if_false,OY] at Sz;split at Sz
   .rename_i h0;obtain⟨_,SR⟩:=kA hu hf o2 UC (n:=n) (Prod.ext hn h0);have hz:(bV u s t p).1.toNat=n:=by omega
    rw[hz] at Sz;split at Sz
    .rename_i TY;simp only[Prod.mk.injEq,and_true] at Sz;subst Sz;have UQ:=E5 (m:=m) (λ h hh=>(ho h hh).2) TY;rw[SR] at UQ;have hc:eT (gv u.ms f) m (.lock false p)=if jl (gv u.ms f) p=m then 1 else 0:=by simp[eT]
     have P1:jl (gv u.ms f) p=m->ck u.ms s.tb m t<aH x:=λ TF=>by
      have h5:=To TF;simp only[xZ,Bool.false_eq_true,if_false] at h5;split at h5
      .split at h5<;>cases h5
      .omega
     have hle:ck u.ms (fM u.ms s.tb n t).1 m t<=aH x:=by
      by_cases TF:jl (gv u.ms f) p=m
      .have:=P1 TF;rw[if_pos TF] at UQ;omega
      .rw[if_neg TF] at UQ;omega
     refine⟨_,Yq (SQ _),hle,?_⟩;rw[hc];simp only;by_cases TF:jl (gv u.ms f) p=m
     .have P1:=P1 TF;rw[if_pos TF] at UQ |-;rw[if_pos yA];simp only[mem_map];refine⟨f.pc+1,by simp[jn],?_⟩;rw[Nat.min_eq_left yA];simp only[Prod.mk.injEq];exact⟨yA,by simp[p6,gv]⟩
     .rw[if_neg TF] at UQ |-;rw[if_pos yA];simp only[mem_map];refine⟨f.pc+1,by simp[jn],?_⟩;rw[Nat.min_eq_left yA];simp only[Prod.mk.injEq];exact⟨yA,by simp[p6,gv]⟩
    .cases Sz
   .rename_i h;simp only[Prod.mk.injEq,and_true] at Sz;subst Sz;exact (h Tq).elim
 | call go tg es ps=>
  obtain⟨c1,c2,c3⟩:=Uw
  cases go with
  | true=>
   simp only[fj,if_true,O8,Prod.mk.injEq,and_true] at Sz;split at Sz
   .split at Sz
    .subst Sz;cases Tq
    .subst Sz;refine go1 rfl ?_ rfl rfl rfl (g:=f.pc+1) (vs:=f.aV) (by simp[jn]);simp only;rw[getElem?_append_left (by rw[length_set];exact SM)];exact SQ _
   .rename_i h;subst Sz;exact (h Tq).elim
  | false=>
   simp only[fj,Bool.false_eq_true,if_false,Po,Prod.mk.injEq,and_true] at Sz;split at Sz
   .rename_i h0;subst Sz;refine⟨_,Yq (SQ _),hd,?_⟩;rw[hmd,if_neg (by simp[vL]),if_pos (show fk (In.call false tg es ps)=true from rfl),mem_singleton];have Te:gv u.ms (ny u s t f tg (uI u tg) es ps).1=⟨tg,ps.map (jl (gv u.ms f))⟩/\(ny u s t f tg (uI u tg) es ps).1.pc=0:=by
     unfold ny at h0 |-;split
     .rename_i h1;rw[if_pos h1] at h0;split
      .rename_i h2;have⟨k1,k2⟩:=n7 hu hf o2 ps c3 h2;exact⟨by simp only[gv,k2],rfl⟩
      .rename_i h2;rw[if_neg h2] at h0;exact (h2 h0).elim
     .rename_i h1;rw[if_neg h1] at h0;exact (h1 h0).elim
    obtain⟨hk,_⟩:=KP hu Uc Sw (y:=⟨tg,ps.map (jl (gv u.ms f))⟩) rfl;have hkn:fx (aw u) (eC (aw u).is (gv u.ms f)) f.pc=eC (aw u).is ⟨tg,ps.map (jl (gv u.ms f))⟩:=by rw[fx,hk];rfl
    rw[hkn,Nat.min_eq_left hd];simp only[map_append,map_cons,map_nil,p6,Te.1,Te.2];simp[gv]
   .rename_i h;subst Sz;exact (h Tq).elim
end Go.Proofs.YtlkmbdfhdknlgaaGreat
namespace Go.aK
open Go.Can
section
variable (u:Un)(c:Cl)(m L:Nat)
inductive OH:List (Nat×Nat)->Nat->Nat->Prop
 | root {r:Nat} (h:r∈c.roots):OH [] r 0
 | call {l:List (Nat×Nat)} {i e pc e' k:Nat} {x:Is} {z:In} (h:OH l i e) (hr:Rr u c m L i pc e e') (hx:c.is[i]? = some x) (hz:(ay u x)[pc]? = some z) (hc:fk z=true) (hk:k=fx c i pc):OH ((i,pc+1)::l) k e'
def BC (l:List (Nat×Nat))(d:Nat):Prop:=match l with
 | []=>d<=L
 | p::r=>∃ e,OH u c m L r p.1 e/\Rr u c m L p.1 p.2 e d
end
section
variable {u:Un}{c:Cl}{m L:Nat}
theorem OH.I1 {l:List (Nat×Nat)}{i e:Nat}(h:OH u c m L l i e):ql u c m L i e:=by
 induction h with
 | root h=>exact .root h
 | call h hr hx hz hc hk ih=>rw[hk];exact .call ih hr hx hz hc
theorem BC.be {p:Nat×Nat}{r:List (Nat×Nat)}{d:Nat}(h:BC u c m L (p::r) d):Be u c m L p.1 p.2 d:=by
 obtain⟨e,h1,h2⟩:=h;exact⟨e,h1.I1,h2⟩
theorem BC.le {l:List (Nat×Nat)}{d:Nat}(h:BC u c m L l d):d<=L:=by
 cases l with
 | nil=>exact h
 | cons p r=>
  obtain⟨e,_,h2⟩:=h;exact (h2.ri.le).2
end
end Go.aK
namespace Go.Proofs.YtlkmbdfhdknlgaaGreat
open Go.Can Go.aK List Go.Proofs.Tryz
theorem KG {u:Un}{m L d:Nat}{st:List (Nat×Nat)}(h:BC u (aw u) m L st.reverse d){b:Nat×List (Nat×Nat)}(hb:b∈E1 u m L d st):BC u (aw u) m L b.2.reverse b.1:=by
 unfold E1 at hb;split at hb
 .cases hb
 .rename_i p hp;obtain⟨l0,rfl⟩:=getLast?_eq_some_iff.1 hp;simp only[reverse_append,reverse_cons,reverse_nil,nil_append,cons_append] at h;obtain⟨e,h1,h2⟩:=h;split at hb
  .cases hb
  .rename_i x hx;split at hb
   .cases hb
   .rename_i z hz;simp only[dropLast_concat] at hb;split at hb
    .rename_i hr;rw[mem_singleton.1 hb];simp only;have hzr:z=.ret:=by
      cases z<;>first | rfl | cases hr
     subst hzr
     cases hl:l0.reverse with
     | nil=>exact (h2.ri.le).2
     | cons q r=>
      rw[hl] at h1
      cases h1 with
      | call g1 g2 g3 g4 g5 g6=>
       rw[g6] at h2 hx;exact⟨_,g1,Rr.call g2 g3 g4 g5 h2 hx hz (h2.ri.le).2⟩
    .split at hb
     .rename_i hr hc;rw[mem_singleton.1 hb];simp only[reverse_append,reverse_cons,reverse_nil,nil_append,cons_append];exact⟨d,OH.call h1 h2 hx hz hc rfl,Rr.base (h2.ri.le).2⟩
     .split at hb
      .rename_i hr hc Xr;simp only[mem_map] at hb;obtain⟨q,hq,rfl⟩:=hb;simp only[reverse_append,reverse_cons,reverse_nil,nil_append,cons_append];exact⟨e,h1,Rr.step h2 hx hz (by simpa using hc) yA yA hq⟩
      .cases hb
def OG (u:Un)(m L:Nat)(s:Sy):Prop:=∀ (t:Nat) (l:List Fr),s.ts[t]? = some l->ck u.ms s.tb m t<=L/\BC u (aw u) m L (l.map (p6 u)).reverse (ck u.ms s.tb m t)
theorem Fq {u:Un}{m:Nat}{x:Mx}{s:Sy}{t:Nat}{l:List Fr}(hx:u.ms[m]? = some x)(hl:s.ts[t]? = some l):fL u s t m=some (min (ck u.ms s.tb m t) (aH x),l.map (p6 u)):=by
 simp only[fL,Int.toNat_natCast,hl,hx];rw[if_neg yA]
theorem Iw {u:Un}(hu:gg u){k:Nat}{s:Sy}(hs:pK u k s)(ho:Ss s){t:Nat}{m:Nat}{x:Mx}(hx:u.ms[m]? = some x)(hc:OG u m (aH x) s){s':Sy}(Sz:gr u s t=(s',true))(Tq:s'.fault=0)(he:(Di u s t).1=0\/(Di u s t).2≠m):OG u m (aH x) s':=by
 intro i l hl;have hO:=FZ hu hs t;rw[Sz,Int.toNat_natCast] at hO;simp only at hO;by_cases SW:i=t
 .subst SW;obtain⟨l1,Uo⟩:∃ l1,s.ts[i]? = some l1:=by
   by_cases h:i<s.ts.length
   .exact⟨_,getElem?_eq_getElem h⟩
   .obtain⟨h1,h2,_⟩:=hO.new i l yA hl;omega
  have⟨h1,h2⟩:=hc i l1 Uo;have⟨a,b,ha,hb,hle,hm⟩:=Fg hu hs ho hx Sz Tq he h1;rw[Fq hx Uo,Nat.min_eq_left h1] at ha;rw[Fq hx hl,Nat.min_eq_left hle] at hb;cases ha;cases hb;exact⟨hle,KG h2 hm⟩
 .by_cases h:i<s.ts.length
  .rw[hO.ts i SW h] at hl;have UQ:ck u.ms s'.tb m i=ck u.ms s.tb m i:=oa m i _ _ _ hO.tbl.symm (hO.tb i SW);rw[UQ];exact hc i l hl
  .obtain⟨rfl,SM,g,rfl,gQ,hic,hr⟩:=hO.new i l yA hl;have hz:ck u.ms s'.tb m s.ts.length=0:=by
    rw[ck,oa m s.ts.length _ s.tb s'.tb hO.tbl.symm (hO.tb _ yA),pD m s.ts.length _ s.tb λ x hx=>(ho x hx).1]
   rw[hz];refine⟨Nat.zero_le _,?_⟩;simp only[map_cons,map_nil,reverse_cons,reverse_nil,nil_append,BC,p6,gQ];exact⟨0,OH.root hr,Rr.base (Nat.zero_le _)⟩
theorem Kt {u:Un}(hu:gg u)(m L:Nat):OG u m L (qv u):=by
 intro t l hl;have hz:ck u.ms (qv u).tb m t=0:=pD m t _ _ λ h hh=>by
  have:=eq_of_mem_replicate hh;rw[this];exact Nat.zero_le _
 rw[hz];refine⟨Nat.zero_le _,?_⟩;have UT:t=0:=by
  have:=(List.getElem?_eq_some_iff.1 hl).1;simp[qv] at this;exact this
 subst UT;simp only[qv,getElem?_cons_zero,Option.some.injEq] at hl;subst hl;have hroot:0∈(aw u).roots:=((qh hu).root 0).2 (.inl rfl);have hh:=uU u 100 0 [⟨u.main,[]⟩] [] [0] ⟨u.main,[]⟩ rfl;have hidx:eC (aw u).is ⟨u.main,[]⟩=0:=by
  cases SA:(aw u).is with
  | nil=>
   rw[show (lz u 100 0 [⟨u.main,[]⟩] [] [0]).is=(aw u).is from rfl,SA] at hh;cases hh
  | cons y r=>
   rw[show (lz u 100 0 [⟨u.main,[]⟩] [] [0]).is=(aw u).is from rfl,SA] at hh;cases hh;simp[eC,findIdx_cons]
 simp only[map_cons,map_nil,reverse_cons,reverse_nil,nil_append,BC,p6,gv];rw[hidx];exact⟨0,OH.root hroot,Rr.base (Nat.zero_le _)⟩
theorem Jx (u:Un)(s:Sy)(t:Nat)(l0:List Fr)(f:Fr)(i:In):(fj u s t l0 f i).2=false->(fj u s t l0 f i).1=s:=by
 cases i<;>simp only[fj,OL,OY]
 case lock=>((repeat' split);all_goals (intro h;first | rfl | cases h))
 all_goals intro h;cases h
theorem Jw {u:Un}{s:Sy}{t:Int}:(gr u s t).2=false->(gr u s t).1=s:=by
 unfold gr;split
 .intro _;rfl
 .split
  .intro _;rfl
  .exact Jx _ _ _ _ _ _
structure Sv (u:Un)(m:Nat)(x:Mx)(k:Nat)(s:Sy):Prop where
 v:pK u k s
 o:Ss s
 c:s.fault=0->OG u m (aH x) s
theorem Oc {u:Un}(hu:gg u)(m:Nat)(x:Mx):Sv u m x 0 (qv u):=⟨Ks hu,Qz u,λ _=>Kt hu m _⟩
theorem LA {u:Un}(hu:gg u){k:Nat}{s:Sy}{m:Nat}{x:Mx}(h:Sv u m x k s)(hx:u.ms[m]? = some x)(t:Int)(he:(Di u s t).1=0\/(Di u s t).2≠m):Sv u m x (k+1) (gr u s t).1:=by
 refine⟨FY hu h.v t,(FZ hu h.v t).ow h.o,λ hf=>?_⟩
 cases ho:(gr u s t).2 with
 | false=>rw[Jw ho] at hf |-;exact h.c hf
 | true=>
  have ht:∃ f,eX s t=some f:=by
   cases ht:eX s t with
   | none=>simp[gr,ht] at ho
   | some f=>exact⟨f,rfl⟩
  obtain⟨f,VX⟩:=ht;obtain⟨n,l0,rfl,hl,Tq,_⟩:=nH VX;exact Iw hu h.v h.o hx (h.c Tq) (Prod.ext rfl ho) hf he
theorem Od {u:Un}{k:Nat}{s:Sy}{m:Nat}{x:Mx}(h:Sv u m x k s)(hx:u.ms[m]? = some x)(hf:s.fault=0){t:Nat}(ht:t<s.ts.length):∃ (d:Nat) (P:List (Nat×Nat)),fL u s t m=some (d,P)/\d=ck u.ms s.tb m t/\
  (P=[]\/∃ (l0:List (Nat×Nat)) (i pc:Nat) (y:Is),P=l0++[(i,pc)]/\(aw u).is[i]? = some y/\pc<(ay u y).length/\d<=aH x/\(lU (aH x) (Be u (aw u) m (aH x) i pc)).testBit d=true):=by
 obtain⟨l,hl⟩:∃ l,s.ts[t]? = some l:=⟨_,getElem?_eq_getElem ht⟩;have⟨h1,h2⟩:=h.c hf t l hl;refine⟨_,_,Fq hx hl,Nat.min_eq_left h1,?_⟩;rw[Nat.min_eq_left h1];rcases eq_nil_or_concat l with rfl | ⟨L,b,rfl⟩
 .exact .inl rfl
 .rw[concat_eq_append] at hl h2 |-;have hb:=h.v.fr _ (mem_of_getElem? hl) b xr;obtain⟨q,hq,gQ,_⟩:=hb.q;simp only[map_append,map_cons,map_nil,reverse_append,reverse_cons,reverse_nil,nil_append,cons_append] at h2 |-;exact .inr ⟨_,_,_,_,rfl,Ba hb.ic,by simp only[ay,gv,hq];exact gQ,h1,(p7 h1).2 h2.be⟩
theorem Dm (x:Int)(n:Nat)(h:0<n):∃ i:Nat,x % (n:Int)=i/\i<n:=by
 have h1:=Int.emod_nonneg x (show (n:Int)≠0 by omega);have h2:=Int.emod_lt_of_pos x (show (0:Int)<n by omega);exact⟨(x % n).toNat,yA,yA⟩
theorem J5 {u:Un}(hu:gg u){k:Nat}(hk:k<=1000){s:Sy}(hs:pK u k s){t:Int}{m:Nat}{d:Nat}{l:List (Nat×Nat)}(h:fL u s t m=some (d,l)):l.length<=1000000/\∀ p∈l,p.1<=1000000/\p.2<=1000000:=by
 obtain⟨_,_,_,h4,h5⟩:=hs.bounds hu hk;unfold fL at h;split at h
 .cases h
 .split at h
  .cases h
  .rename_i fs TZ;split at h
   .cases h
   .simp only[Option.some.injEq,Prod.mk.injEq] at h;obtain⟨_,rfl⟩:=h;have hm:=mem_of_getElem? TZ;refine⟨by rw[length_map];exact h4 _ hm,λ p hp=>?_⟩;rw[mem_map] at hp;obtain⟨f,hf,rfl⟩:=hp;have h6:=wx (hs.fr _ hm f hf).ic;have h7:=(G3 hu).1;have h8:=(h5 _ hm f hf).2;exact⟨by simp only[p6];omega,h8⟩
theorem Qi:zV prog 3 2 54=true:=by kernel_rfl
theorem ptEq:EqT prog 54 (qR 2):=Dk yA Qi Bw
theorem ptEI:Mh prog [⟨54,qR 2⟩]:=λ x hx=>by
 simp only[mem_cons,not_mem_nil,or_false] at hx;subst hx;exact ptEq
def RL (p:Nat×Nat):Value:=.agg #[.int .i64 p.1,.int .i64 p.2]
end Go.Proofs.YtlkmbdfhdknlgaaGreat
namespace Go.Can
open Go.RowKit
section
variable {P:Program}{C:Cx}{U:Nat->Option OB}{s:St}{a:Act}{w:World}{ops:Array Oper}{av:List (Nat×TI)}
theorem Mi.ret {f:FuncId}{args:List CV}{H:List (Nat×Ob)}{n:Nat}{ks:List Nat}{R R':CV->St->Prop}(h:Mi P av f args H n ks R)(hR:∀ r s,R r s->R' r s):Mi P av f args H n ks R':=by
 obtain⟨fn,c,hf,hb,Tu,hl,hT⟩:=h;refine⟨fn,c,hf,hb,Tu,hl,λ C hC M0 hM=>T.mono (hT C hC M0 hM) λ e s q=>?_⟩;have key:∀ (C:Cx) s,aa C (λ s'=>∃ r,bJ av fn s'=some r/\R r s') s->aa C (λ s'=>∃ r,bJ av fn s'=some r/\R' r s') s:=λ C s ⟨s',⟨r,q1,q2⟩,hl⟩=>⟨s',⟨r,q1,hR r s' q2⟩,hl⟩
 cases e with
 | normal=>exact key C s q
 | ret=>exact key C s q
 | _=>exact q
end
end Go.Can
namespace Go.Can
mutual
def oF:CV->CV
 | .aj=>.az [] 0
 | .agg cs=>.agg (qV cs)
 | .az cs n=>.az (qV cs) n
 | .cF cs=>.cF (qV cs)
 | .int k n=>.int k n
 | .bool b=>.bool b
 | .str s=>.str s
 | .cM cs=>.cM cs
 | .bL=>.bL
 | .fn f cs=>.fn f cs
 | .iface f cs=>.iface f cs
 | .cH=>.cH
 | .iter k s p=>.iter k s p
 | .mp k es=>.mp k es
 | .a7 o f n=>.a7 o f n
 | .ax o f=>.ax o f
 | .any=>.any
def qV:List CV->List CV
 | []=>[]
 | c::cs=>oF c::qV cs
end
theorem Gj (c:CV):one (oF c)=one c:=by cases c<;>simp only[oF,one]
theorem Cy:∀ cs:List CV,(qV cs).all one=cs.all one
 | []=>by simp only[qV]
 | c::cs=>by simp only[qV,List.all_cons,Gj,Cy cs]
theorem Ko {cs:List CV}(h:cs=[]):qV cs=[]:=by rw[h,qV]
mutual
theorem cj.oF {w:World}{F:Nat->Prop}:∀ (c:CV) (v:Value),cj w F c v->cj w F (oF c) v
 | .aj,v,h=>by
  simp only[cj] at h;subst h;simp only[Can.oF,cj];exact⟨none,0,rfl,Nat.le_refl _,Nat.zero_le _,.inl ⟨trivial,trivial⟩⟩
 | .agg cs,v,h=>by
  simp only[cj] at h;obtain⟨vs,h1,h2,h3⟩:=h;simp only[Can.oF,cj];exact⟨vs,h1,bX.oF cs vs h2,by rw[Cy];exact h3⟩
 | .az cs n,v,h=>by
  simp only[cj] at h;obtain⟨A,cap,h1,h2,h3,h4⟩:=h;simp only[Can.oF,cj];refine⟨A,cap,h1,h2,h3,?_⟩;rcases h4 with ⟨h4,h5⟩ | ⟨ad,h4,h5⟩
  .exact .inl ⟨h4,Ko h5⟩
  .exact .inr ⟨ad,h4,fH.oF cs ad h5⟩
 | .cF cs,v,h=>by
  simp only[cj] at h;obtain⟨vs,h1,h2⟩:=h;simp only[Can.oF,cj];exact⟨vs,h1,bX.oF cs vs h2⟩
 | .int _ _,_,h=>by simpa only[Can.oF] using h
 | .bool _,_,h=>by simpa only[Can.oF] using h
 | .str _,_,h=>by simpa only[Can.oF] using h
 | .cM _,_,h=>by simpa only[Can.oF] using h
 | .bL,_,h=>by simpa only[Can.oF] using h
 | .fn _ _,_,h=>by simpa only[Can.oF] using h
 | .iface _ _,_,h=>by simpa only[Can.oF] using h
 | .cH,_,h=>by simpa only[Can.oF] using h
 | .iter _ _ _,_,h=>by simpa only[Can.oF] using h
 | .mp _ _,_,h=>by simpa only[Can.oF] using h
 | .a7 _ _ _,_,h=>by simpa only[Can.oF] using h
 | .ax _ _,_,h=>by simpa only[Can.oF] using h
 | .any,_,h=>by simpa only[Can.oF] using h
theorem bX.oF {w:World}{F:Nat->Prop}:∀ (cs:List CV) (vs:List Value),bX w F cs vs->bX w F (qV cs) vs
 | [],_,h=>by simpa only[qV] using h
 | c::cs,vs,h=>by
  simp only[bX] at h;obtain⟨v,r,h1,h2,h3⟩:=h;simp only[qV,bX];exact⟨v,r,h1,cj.oF c v h2,bX.oF cs r h3⟩
theorem fH.oF {w:World}{F:Nat->Prop}:∀ (cs:List CV) (ad:Addr),fH w F cs ad->fH w F (qV cs) ad
 | [],_,_=>by simp only[qV,fH]
 | c::cs,ad,h=>by
  simp only[fH] at h;obtain⟨⟨u,h1,h2,h3⟩,h4,h5⟩:=h;simp only[qV,fH];exact⟨⟨u,h1,h2,cj.oF c u h3⟩,by rw[Gj];exact h4,fH.oF cs _ h5⟩
end
theorem ae.oF {P:Program}{f:FuncId}{args:List CV}{r:CV}(h:ae P f args r):ae P f args (Can.oF r):=
 ⟨h.1,λ F vs w hF hv=>(h.2 F vs w hF hv).mono λ _e _w' ⟨v,h1,h2,h3⟩=>⟨v,h1,h2,cj.oF r v h3⟩⟩
end Go.Can
namespace Go.Proofs.YtlkmbdfhdknlgaaGreat
open Go.Can Go.aK List Go.Proofs.Tryz
def uZ:Un:=⟨[],[⟨⟨#[97]⟩,false,0⟩],[⟨⟨#[109,97,105,110]⟩,0,0,0,[.call false 1 [] [⟨false,0,none⟩],.ret]⟩,⟨⟨#[102]⟩,0,1,0,[.lock false ⟨true,0,none⟩,.lock false ⟨true,0,none⟩,.ret]⟩],0⟩
theorem DL:gg uZ:=by
 refine⟨by decide,by decide,by decide,(λ g hg=>by cases hg),?_,rfl,?_,?_,?_⟩
 .intro m hm;simp only[uZ,mem_cons,not_mem_nil,or_false] at hm;subst hm;simp
 .intro q hq;simp only[uZ,getElem?_cons_zero,Option.some.injEq] at hq;subst hq;simp
 .intro q hq;simp only[uZ,mem_cons,not_mem_nil,or_false] at hq;rcases hq with rfl | rfl<;>simp
 .intro q hq;simp only[uZ,mem_cons,not_mem_nil,or_false] at hq;rcases hq with rfl | rfl
  .refine⟨⟨[.call false 1 [] [⟨false,0,none⟩]],rfl⟩,λ i hi=>?_⟩;simp only[mem_cons,not_mem_nil,or_false] at hi;rcases hi with rfl | rfl
   .exact⟨rfl,(λ e he=>by cases he),λ p hp=>by rw[mem_singleton.1 hp];exact .inr ⟨rfl,_,rfl,.inl ⟨rfl,rfl⟩⟩⟩
   .trivial
  .refine⟨⟨[.lock false ⟨true,0,none⟩,.lock false ⟨true,0,none⟩],rfl⟩,λ i hi=>?_⟩;simp only[mem_cons,not_mem_nil,or_false] at hi;rcases hi with rfl | rfl | rfl
   .exact .inl ⟨rfl,by decide,rfl⟩
   .exact .inl ⟨rfl,by decide,rfl⟩
   .trivial
theorem Rd:ae prog 27 Ee (.cF [cf uZ,I 0,I 0,I 0]):=by
 have h:=PI.oF;have e:oF I9=.cF [cf uZ,I 0,I 0,I 0]:=by rfl
 rwa [e] at h
def Pt:Sy:=MX uZ [0,0] (qv uZ)
theorem Ps:pK uZ 2 Pt:=JQ DL [0,0] (Ks DL)
theorem as_pr:fL uZ Pt (0:Int) 0=some (1,[(0,1),(1,1)]):=by kernel_rfl
theorem as_ev:Di uZ Pt (0:Int)=(3,0):=by kernel_rfl
theorem N5 {C:Cx}{s:St}{o:Oper}{x y:Operand}{q:TypeId}{p:Nat×Nat}(hd:bj C.nt o.dst=true)(ho:o.op=.binOp .eql 54 x y q)(hx:ev s x=some (.agg (yI p)))(hy:ev s y=some (.agg (yI p)))(h1:p.1<=1000000)(h2:p.2<=1000000):rO prog C o s (s.put o.dst (.bool true)):=by
 have hc:lu (.agg (yI p))=some (RL p):=rfl;have hk:qR 2 (RL p)=true:=by
  simp[qR,RL,wI,C5];omega
 have hv:BE (RL p) (RL p)=true:=by simp[RL,BE,wO,BS]
 refine x5 ptEI hd ?_;simp only[Dj,ho,hx,hy,hc,QR,if_true,hk,and_self,hv]
noncomputable def asR:CV:=(qS (Ja []) (Go.Can.aM prog (Ja []) 300) 47 [cf uZ,ints [0,0]]).getD (I 0)
theorem as_run:ae prog 47 [cf uZ,ints [0,0]] (.cF [cU Pt,I 2]):=by
 have h:ae prog 47 [cf uZ,ints [0,0]] asR:=eN (I:=Ja []) (PJ (by simp)) 300 (by kernel_rfl);have h:=h.oF;have e:oF asR=.cF [cU Pt,I 2]:=by kernel_rfl
 rwa [e] at h
theorem as_ok:ae prog 15 [] (.bool true):=by
 obtain⟨ga,gb,hg1,WE,tga,tgb⟩:∃ ga gb:List CV,I8=.cF [.agg [.aj,.az ga 1,.az gb 2],I 72,I 0]/\Ee=[.agg [.aj,.az ga 1,.az gb 2]]/\trees ga=true/\trees gb=true:=⟨_,_,rfl,rfl,rfl,rfl⟩;have UB:=PH;have Z0:=Rd;rw[hg1] at UB;rw[WE] at Z0;have tpg:trees [.agg [.aj,.az ga 1,.az gb 2]]=true:=by simp only[trees,tree,Bool.and_self]
 have SA:=zn uZ DL;have hru:=as_run;have Ws:=vj DL (yA) Ps 0 0 (by decide);have To:=zu DL (yA) Ps 0;rw[as_pr] at Ws;rw[as_ev] at To;have SH:=bm uZ;have XR:=ak bS (aw uZ).is;have T8:=jP (aw uZ).calls;have YT:=aC (aw uZ).roots;have ta1:trees [cf uZ]=true:=by simp only[trees,tree,cf,SH,Bool.and_self]
 have ZM:trees [cf uZ,ints [0,0]]=true:=by simp only[trees,tree,cf,SH,de,Bool.and_self]
 have ZL:trees [cf uZ,ib (aw uZ),cU Pt,I 0,I 0]=true:=by
  simp only[trees,tree,cf,SH,ib,gE,aA,cU,lJ,ints,Bool.and_self]
 have ta4:trees [cf uZ,ib (aw uZ),cU Pt,I 0]=true:=by
  simp only[trees,tree,cf,SH,ib,gE,aA,cU,lJ,ints,Bool.and_self]
 simp only[Q7,DD] at Ws;generalize uZ=u at *;generalize Pt=y at *;simp only[cf,dk,ib,gE,cU,lJ,ints,aA] at Z0 SA hru Ws To ta1 ZM ZL ta4;refine ae.aD af Tryz.func15 rfl (by kernel_rfl) (by simp[Tryz.ntmps15]) rfl λ C hC M0=>?_;rw[Tryz.ntmps15] at hC;refine T.seq (T.go' af ?_);simp[hC];refine T.seq (T.region (TL.some af 1 ?_));simp[hC];refine gW rfl (GA af (by simp[hC]) rfl rfl (yA) rfl rfl rfl rfl) ?_;simp[Lh];refine TL.call (by simp[hC]) rfl rfl (bW.of rfl rfl UB) (TL.go' af ?_);simp[hC];refine T.le (Le.trim [0,1] [1] 2 (by simp[-all_eq_true]) (yA)) ?_;simp;refine T.seq (T.go' af ?_);simp[hC];refine TL.call (by simp[hC]) rfl rfl (bW.of rfl tpg Z0) (TL.go' af ?_);simp[hC];refine T.seq (T.go' af ?_);simp[hC];refine TL.call (by simp[hC]) rfl rfl (bW.of rfl ta1 SA) (TL.go' af ?_);simp[hC];refine T.seq (T.region (TL.some af 2 ?_));simp[hC,aY];refine TL.le (Le.di (o:=4) rfl rfl) ?_;simp;refine TL.call (by simp[hC]) rfl rfl (bW.of rfl ZM hru) (TL.go' af ?_);simp[hC];refine T.seq (T.go' af ?_);simp[hC];refine TL.call (by simp[hC]) rfl rfl (bW.of rfl ZL Ws) (TL.go' af ?_);simp[hC,yI];refine T.seq (T.go' af ?_);simp[hC];refine TL.call (by simp[hC]) rfl rfl (bW.of rfl ta4 To) (TL.go' af ?_);simp[hC];refine T.seq (T.region (TL.some af 18 ?_));simp[hC];refine gW rfl (N5 (p:=(1,1)) (by simp[hC]) rfl (by simp[yI]) (by simp[yI]) (by simp) (by simp)) (TL.go' af ?_);simp[hC];refine T.ret ?_;refine aa.here ?_;simp[Tryz.results15]
def Mo (u:Un)(y:Sy):List (Nat×Ob):=[(3,⟨40,0,lJ y⟩),(2,⟨34,0,gE (aw u)⟩),(1,⟨30,0,dk u⟩)]
def J6 (u:Un)(xm:Mx)(mi:Nat)(t:Int)(P:List Int)(n:Nat)(s:St):Prop:=∃ (i:Nat) (y:Sy),n=P.length-i/\i<=P.length/\Sv u mi xm i y/\D7 y/\
 s=⟨[(14,I i),(13,.az (P.map dg) P.length),(12,.ax 3 0),(11,.ax 2 0),(10,.ax 1 0),(3,I mi),(2,I t)],Mo u y,4⟩
def S6 (u:Un)(xm:Mx)(mi:Nat)(t:Int)(s:St):Prop:=∃ (k:Nat) (y:Sy),k<=60/\Sv u mi xm k y/\D7 y/\
 s=⟨[(12,.ax 3 0),(11,.ax 2 0),(10,.ax 1 0),(3,I mi),(2,I t)],Mo u y,4⟩
set_option maxHeartbeats 4000000 in
theorem c6_ok (l pk:List Int)(hl:l.length<=9223372036854775807)(VO:pk.length<=9223372036854775807)(t m:Int):ae prog 6 [ints l,ints pk,I t,I m] (.bool true):=by
 have haw:=as_ok;have Xj:=MC l hl;have V4:=CK l;generalize mN (D0 l)=u at Xj V4;have Tu:=V4.nm;have VQ:=Ig u yA yA m;have⟨mi,Wy,hmil⟩:=Dm m u.ms.length yA;rw[Wy] at VQ;obtain⟨xm,XU⟩:∃ x,u.ms[mi]? = some x:=⟨_,getElem?_eq_getElem hmil⟩;obtain⟨q0,hq0⟩:∃ q,u.ps[u.main]? = some q:=⟨_,getElem?_eq_getElem (by have:=V4.np;rw[V4.main];omega)⟩;have hq0v:=V4.pr q0 (mem_of_getElem? hq0);have VS:=nC V4;have SL:=Nd u VS (by have:=V4.ng;omega) q0 hq0 yA;have V5:=Kb pk VO 60 yA;have hPl:(dL pk 60).length<=60:=by rw[jz];omega
 generalize dL pk 60=P at V5 hPl;have SH:=bm u;have TM:=fI (aw u);have XR:=ak bS (aw u).is;have T8:=jP (aw u).calls;have YT:=aC (aw u).roots;have⟨t1,t2,t3⟩:=iS (D0 l);have tP:trees (P.map dg)=true:=aP P;have ta1:trees [ints l]=true:=by simp only[trees,de,Bool.and_self]
 have ZM:trees [cf u]=true:=by simp only[trees,tree,cf,SH,Bool.and_self]
 have ZL:trees [ints pk,I (60:Nat)]=true:=by simp only[trees,tree,de,Bool.and_self]
 have ta6:trees [cf u,I m]=true:=by simp only[trees,tree,cf,SH,Bool.and_self]
 have TK:∀ y:Sy,trees (lJ y)=true:=λ y=>by simp only[lJ,trees,tree,ints,Bool.and_self]
 have ta4:∀ (y:Sy) (t:Int),trees [cf u,ib (aw u),cU y,I t]=true:=λ y t=>by
  simp only[trees,tree,cf,SH,ib,TM,cU,TK,Bool.and_self]
 have ta5:∀ (y:Sy) (t m:Int),trees [cf u,ib (aw u),cU y,I t,I m]=true:=λ y t m=>by
  simp only[trees,tree,cf,SH,ib,TM,cU,TK,Bool.and_self]
 have ta7:∀ (y:Sy) (t:Int),trees [cf u,cU y,I t]=true:=λ y t=>by
  simp only[trees,tree,cf,SH,cU,TK,Bool.and_self]
 generalize D0 l=pg at Xj t1 t2 t3;have hc0:=Oc V4 mi xm;have hr0:=Qy V4;have YS:trees (u.gs.map dg)=true:=aP u.gs;have YR:=dw u.ms;have cF:trees (u.ps.flatMap nA)=true:=ak fS u.ps;have tG:∀ y:Sy,trees (y.gs.map dg)=true:=λ y=>aP y.gs;have tT:∀ y:Sy,trees (y.tb.flatMap dN)=true:=λ y=>ak cm _;have tS:∀ y:Sy,trees (y.ts.flatMap ez)=true:=λ y=>ak b9 _;generalize qv u=y0 at SL hc0 hr0;refine ae.aD af Tryz.func6 rfl Bw (by simp[Tryz.ntmps6]) rfl λ C hC M0=>?_;rw[Tryz.ntmps6] at hC;simp only[zt,fp,cf,dk,ib,gE,cU,lJ,ints,aA] at Xj ta1 ZM ZL ta6 VQ SL V5 |-;apply aq;simp[hC];apply aq;simp[hC];refine cS ta1 Xj ?_;simp[hC];apply aq;simp[hC];refine cS ta6 VQ ?_;simp[hC];apply aq;simp[hC];refine cS ZM SL ?_;simp[hC];apply aq;simp[hC];refine cS ZL V5 ?_;simp[hC];refine T.cut (S6 u xm mi t) ?_ ?_
 .apply aq;simp[hC];apply T.block;refine T.aI (J6 u xm mi t P) (n:=P.length) ?_ ?_
  .refine aa.trim [14,13,12,11,10,3,2] [3,2,1] 4 Vn yA ⟨0,y0,yA,yA,hc0,hr0,?_⟩;simp[Mo,dk,gE,lJ,ints,aA]
  .rintro n s ⟨i,y,rfl,hi,hy,hyr,rfl⟩;have To:=zu V4 yA hy.v;have Sz:=HS V4 yA hy.v hyr;by_cases Jz:i<P.length
   .obtain⟨x,hx⟩:∃ x,P[i]? = some x:=⟨_,getElem?_eq_getElem Jz⟩;have UD:(P.map dg).drop i=I x::(P.map dg).drop (i+1):=by
     rw[drop_eq_getElem_cons (by simpa using Jz)];simp[(List.getElem?_eq_some_iff.1 hx).2]
    have wi:=cr ((i:Int)+1) yA yA;have To:=To x;have Sz:=Sz x;have S8:=λ he=>LA V4 hy XU x he;have hsr:=MM V4 hy.v hyr x;have tb4:=ta4 y x;have tb7:=ta7 y x;generalize Di u y x=e at To S8;generalize gr u y x=r at Sz S8 hsr;obtain⟨k,n⟩:=e;obtain⟨z,ok⟩:=r;simp only[Mo,cf,dk,ib,gE,cU,lJ,ints,aA] at To Sz tb4 tb7 S8 hsr |-;apply aW;simp[hC,Jz];refine jk ?_;simp;apply eE;refine T.seq (T.seq ?_);refine T.rx af follows [0,1,2,3,4,5,6,7,8,9,10,11,12] [] Bw ?_;simp[hC,Jz,UD];refine RX.call rfl xr rfl rfl rfl tb4 To ?_;simp;by_cases hk0:k=0
    .subst hk0;apply aq;simp[hC];refine gk ?_;simp;refine T.rx af follows [0,1,2,3,4,5,6,7,8,9,10] [] Bw ?_;simp[hC,Jz,UD];refine RX.call rfl xr rfl rfl rfl tb7 Sz ?_;simp;apply aM;simp[hC,wi];refine⟨P.length-(i+1),yA,aa.trim [14,13,12,11,10,3,2] [3,2,1] 4 Vn yA ⟨i+1,z,rfl,yA,S8 (.inl rfl),hsr,?_⟩⟩;simp[Mo,dk,gE,lJ,ints,aA]
    .have WQ:((k:Int) != 0)=true:=by rw[bne_iff_ne];omega
     by_cases Tu:n=mi
     .subst Tu;apply aq;simp[hC,WQ];refine T.cond (b:=true) rfl (T.exit ?_);simp;refine aa.trim [12,11,10,3,2] [3,2,1] 4 Vn yA ⟨i,y,yA,hy,hyr,?_⟩;simp[Mo,dk,gE,lJ,ints,aA]
     .have Wx:((n:Int) == mi)=false:=by rw[beq_eq_false_iff_ne];omega
      apply aq;simp[hC,WQ,Wx];refine gk ?_;simp;refine T.rx af follows [0,1,2,3,4,5,6,7,8,9,10] [] Bw ?_;simp[hC,Jz,UD];refine RX.call rfl xr rfl rfl rfl tb7 Sz ?_;simp;apply aM;simp[hC,wi];refine⟨P.length-(i+1),yA,aa.trim [14,13,12,11,10,3,2] [3,2,1] 4 Vn yA ⟨i+1,z,rfl,yA,S8 (.inr Tu),hsr,?_⟩⟩;simp[Mo,dk,gE,lJ,ints,aA]
   .simp only[Mo,dk,gE,lJ,ints,aA];apply aW;simp[hC,Jz];refine T.cond (b:=false) Tt ?_;simp;apply T.exit;simp;refine aa.trim [12,11,10,3,2] [3,2,1] 4 Vn yA ⟨i,y,yA,hy,hyr,?_⟩;simp[Mo,dk,gE,lJ,ints,aA]
 rintro s ⟨k,y,hk,hy,hyr,rfl⟩;have TS:=hy.v.ts;have hbd:=hy.v.bounds V4 yA;have WO:=Hv y TS.1 yA t;have⟨tj,htj,htjl⟩:=Dm t y.ts.length yA;rw[htj] at WO;have tb3:trees [cU y,I t]=true:=by simp only[trees,tree,cU,TK,Bool.and_self]
 have tb5:=ta5 y tj mi;have XC:=vj V4 yA hy.v (tj:Int) mi hmil;have YL:=λ hf=>Od hy XU hf htjl;have hpb:=λ d l h=>J5 V4 yA hy.v (t:=(tj:Int)) (m:=mi) (d:=d) (l:=l) h;have UQ:=uD u.ms VS y.tb mi tj xm XU hy.v.tb yA λ h hh=>⟨by have:=(hy.v.hd h hh).1;omega,by have:=hy.v.ho h hh;omega⟩;have tms:trees [.az (u.ms.flatMap cP) u.ms.length,.az (y.tb.flatMap dN) y.tb.length,I mi,I tj]=true:=by simp only[trees,tree,Bool.and_self]
 have hcn:=Cr u (aw u) mi;have tcfg:∀ (d:Nat) (l:List (Nat×Nat)),trees [cf u,ib (aw u),I mi,.agg (DD d l)]=true:=λ d l=>by
  simp only[trees,tree,cf,SH,ib,TM,DD,Bool.and_self]
 have WT:=λ d l hl i pc x hx hp=>Ge V4 XU d l hl i pc (x:=x) hx hp;simp only[Mo,cf,dk,ib,gE,cU,lJ,ints,aA] at WO tb3 tb5 XC UQ tms hcn tcfg WT |-;by_cases hf:y.fault=0
 .have VX:((y.fault:Int) != 0)=false:=by rw[hf];rfl
  have hts1:((y.ts.length:Int) == 0)=false:=by rw[beq_eq_false_iff_ne];omega
  apply aW;simp[hC,VX,hts1];refine gk ?_;simp;have⟨d,P',ho,hd,hP⟩:=YL hf;have UY:ae prog 24 [cf u,ib (aw u),I mi,.agg (DD d P')] (.bool true):=by
   rcases hP with rfl | ⟨l0,i,pc,x,rfl,hx,hp,Vf,hb⟩
   .exact Cr u (aw u) mi d
   .have h8:=ig xm;have:=Ge V4 XU d l0 (by have:=(hpb _ _ ho).1;simp at this;omega) i pc hx hp;rw[hb,show decide (d<=8)=true from decide_eq_true yA] at this;exact this
  have tcf:=tcfg d P';rw[ho] at XC;rw[<- hd] at UQ;simp only[Q7,DD,cf,dk,ib,gE,ints,aA] at XC UY tcf;apply aq;simp[hC];refine cS tb3 WO ?_;simp[hC];apply aq;simp[hC];refine cS tb5 XC ?_;simp[hC];apply T.seq;refine T.rx af follows [0,1,2,3,4,5,6,7,8,9,10,11,12,13,14,15,16,17,18,19,20,21,22,23] [(10,17)] Bw ?_;simp[hC];refine RX.call rfl xr rfl rfl rfl tcf UY ?_;simp;refine RX.call rfl xr rfl rfl rfl tms UQ ?_;simp;refine RX.call rfl xr rfl rfl rfl rfl haw ?_;simp;apply T.ret;apply aa.here;simp[Tryz.results6]
 .have VX:((y.fault:Int) != 0)=true:=by rw[bne_iff_ne];omega
  apply aW;simp[hC,VX];refine du ?_;simp;apply aq;simp[hC,VX];refine TL.cN Rg rfl rfl rfl rfl (bW.of rfl SD (haw)) (TL.go' af ?_);simp[hC];apply T.ret;apply aa.here;simp[Tryz.results6]
end Go.Proofs.YtlkmbdfhdknlgaaGreat
namespace Go.Can
open Go.ChangeShapes Go.WideShapes Go.ChangeAt Go.RowKit List
section
variable {P:Program}{H:Type}{enc:TypeId×Value->H}{w:World}
theorem KB {F:Nat->Prop}(hF:∀ b,¬ F b):∀ (cs:List CV) (ad:Addr),cs.all one=true->(∀ i c,cs[i]? = some c->∃ u,w.cell? (ad.add i)=some u/\cj w F c u)->fH w F cs ad
 | [],_,_,_=>by simp[fH]
 | c::cs,ad,h1,h=>by
  simp only[all_cons,Bool.and_eq_true] at h1;have⟨u,k1,k2⟩:=h 0 c rfl;rw[add_zero] at k1;simp only[fH];refine⟨⟨u,k1,hF _,k2⟩,h1.1,KB hF cs _ h1.2 λ i d hi=>?_⟩;have⟨v,m1,m2⟩:=h (i+1) d yBy;refine⟨v,?_,m2⟩;rw[add_add,Nat.add_comm];exact m1
theorem Nr {α:Type}(f:α->CV)(h:∀ x,one (f x)=true)(l:List α):(l.map f).all one=true:=by
 rw[all_eq_true];intro x hx;obtain⟨y,_,rfl⟩:=mem_map.1 hx;exact h y
theorem L7 {F:Nat->Prop}(cs:List CV)(h:cs=[]):cj w F (.az cs 0) (.slice none 0 0):=by
 subst h;simp only[cj];exact⟨none,0,rfl,Nat.le_refl _,Nat.zero_le _,.inl ⟨trivial,by simp⟩⟩
theorem qG {F:Nat->Prop}(hF:∀ b,¬ F b){t e:TypeId}{r:Reach}{b0:Nat}{v:Value}{d:DataW H}{ps:List MemPlace}(ht:P.underlying t=some (.slice e))(he:P.underlying e=some (.int .i64))(hc:P.cellsOf e=1)
  (Us:Value.okWide P w r b0 t v) (h:DataW.Trod enc P w 0 (λ _=>true) true t v d ps):∃ l:List Int,cj w F (ints l) v/\l.length<=9223372036854775807:=by
 obtain⟨a,n,cap,rfl⟩:=okWide_slice ht Us;obtain⟨fuel,hf⟩:=h;rcases open_ints ht he hc hf with ⟨S8,_⟩ | ⟨a',len,cap',zs,S8,_,hl,hm,hz,_,UR,_⟩
 .simp[Value.cells] at S8;obtain⟨rfl,rfl,rfl⟩:=S8;exact⟨[],L7 _ rfl,by simp⟩
 .simp[Value.cells] at S8;obtain⟨rfl,rfl,rfl⟩:=S8;simp only[if_true] at hz;have hlen:(zs.take n).length=n:=by simp;omega
  refine⟨zs.take n,?_,by rw[hlen];simp only[maxLen] at hm;omega⟩;unfold ints;rw[hlen];simp only[cj];refine⟨_,cap,rfl,hl,hm,.inr ⟨a',rfl,KB hF _ _ (Nr _ (λ _=>rfl) _) λ i c hi=>?_⟩⟩;rw[getElem?_map] at hi;obtain⟨z,Wh,rfl⟩:=Option.map_eq_some_iff.1 hi;rw[getElem?_take] at Wh;split at Wh
  .rename_i SF;have P1:i<zs.length:=by omega
   refine⟨_,UR i P1,?_⟩;have:zs.getD i 0=z:=by simp[getD,Wh]
   rw[this];simp[cj]
  .cases Wh
theorem ae.calls {f:FuncId}{args:List CV}{b:Bool}(h:ae P f args (.bool b)){vs:List Value}(hv:bX w (λ _=>False) args vs)(hg:Rp w (λ _=>False):=by simp[Rp,Ro]):Calls P f vs.toArray w λ e w'=>e=.returned (.bool b)/\Below w.heap.size w w':=
 (h.2 (λ _=>False) vs w ⟨λ _ hb=>hb.elim,hg.mono λ _ hb=>hb.elim id id⟩ hv).mono λ e w' ⟨v,h1,h2,h3⟩=>by
  simp only[cj] at h3;subst h3;exact⟨h1,h2⟩
end
end Go.Can
/- Arguments as the contracts read them: a slice of structs of four integers. No function of the program is mentioned here. -/
