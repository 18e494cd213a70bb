/- Programs of the right form -/
import Derived.Test.YtlkmbdfhdknlgaaGreatV19
namespace Go.aV
open Go.Can List
def Gc (ms:List Mx)(ps:List Pm)(vars:List ByteArray)(r:Rf):Prop:=
 (∃ m∈ms,r.name=m.name/\((r.index=none/\m.size=0)\/∃ e,r.index=some e/\0<m.size/\fV vars 1 e))\/(∃ p∈ps,p.mutex=true/\r.name=p.name/\r.index=none)
def ArW (ms:List Mx)(ps:List Pm)(vars:List ByteArray):Pm->Ar->Prop
 | p,.vw r=>p.mutex=true/\Gc ms ps vars r
 | p,.exp e=>p.mutex=false/\fV vars 2 e
def jy (ms:List Mx)(ps:List Pm)(vars:List ByteArray):List Pm->List Ar->Prop
 | [],[]=>True
 | p::gp,a::l=>ArW ms ps vars p a/\jy ms ps vars gp l
 | _,_=>False
def ek:Sm->List ByteArray
 | .ia s _=>[s]
 | _=>[]
mutual
def ef (ms:List Mx)(fs:List (ByteArray×List Pm))(ps:List Pm):Nat->List ByteArray->Sm->Prop
 | _,V,.ia s e=>(∃ k,k<24/\s=fJ k)/\s∉V/\fV V 2 e
 | _,V,.iX s e=>s∈V/\fV V 2 e
 | _,V,.en _ s l=>∃ gp,(s,gp)∈fs/\jy ms ps V gp l
 | _,V,.dP _ r=>Gc ms ps V r
 | 0,_,.lO _ _ _=>False
 | d+1,V,.lO e th el=>fV V 2 e/\dn ms fs ps d V th/\dn ms fs ps d V el
 | 0,_,.dh _ _=>False
 | d+1,V,.dh e th=>fV V 2 e/\dn ms fs ps d V th
 | _,_,.jJ=>True
def dn (ms:List Mx)(fs:List (ByteArray×List Pm))(ps:List Pm):Nat->List ByteArray->List Sm->Prop
 | _,_,[]=>True
 | d,V,s::r=>ef ms fs ps d V s/\dn ms fs ps d (V++ek s) r
end
mutual
def eN:Sm->Nat
 | .ia _ _=>24
 | .iX _ _=>24
 | .en _ _ l=>8+20*l.length
 | .dP _ _=>12
 | .lO _ th el=>25+bZ th+bZ el
 | .dh _ th=>25+bZ th
 | .jJ=>8
def bZ:List Sm->Nat
 | []=>0
 | s::r=>eN s+bZ r
end
theorem fV.mono {ns ns':List ByteArray}(h:∀ s∈ns,s∈ns'):∀ {d d':Nat} {e:Ex},d<=d'->fV ns d e->fV ns' d' e
 | _,_,.num n,_,hx=>by simpa [fV] using hx
 | _,_,.nm s,_,hx=>by simp only[fV] at hx |-;exact h s hx
 | d+1,d' + 1,.un k e,hd,hx=>by
  simp only[fV] at hx |-;exact⟨hx.1,fV.mono h (Nat.le_of_succ_le_succ hd) hx.2⟩
 | d+1,d' + 1,.bin k a b,hd,hx=>by
  simp only[fV] at hx |-;exact⟨hx.1,fV.mono h (Nat.le_of_succ_le_succ hd) hx.2.1,fV.mono h (Nat.le_of_succ_le_succ hd) hx.2.2⟩
 | d+1,0,.un k e,hd,_=>absurd hd yA
 | d+1,0,.bin k a b,hd,_=>absurd hd yA
 | 0,_,.un _ _,_,hx=>hx.elim
 | 0,_,.bin _ _ _,_,hx=>hx.elim
 | 0,_,.zero,_,hx=>hx.elim
 | 0,_,.loc _,_,hx=>hx.elim
 | 0,_,.iK _,_,hx=>hx.elim
 | _+1,_,.zero,_,hx=>hx.elim
 | _+1,_,.loc _,_,hx=>hx.elim
 | _+1,_,.iK _,_,hx=>hx.elim
theorem Gc.mono {ms:List Mx}{ps:List Pm}{V V':List ByteArray}(h:∀ s∈V,s∈V'){r:Rf}(hr:Gc ms ps V r):Gc ms ps V' r:=by
 rcases hr with ⟨m,h1,h2,h3 | ⟨e,h3,h4,h5⟩⟩ | hr
 ·exact .inl ⟨m,h1,h2,.inl h3⟩
 ·exact .inl ⟨m,h1,h2,.inr ⟨e,h3,h4,h5.mono h (Nat.le_refl _)⟩⟩
 ·exact .inr hr
theorem jy.mono {ms:List Mx}{ps:List Pm}{V V':List ByteArray}(h:∀ s∈V,s∈V'):∀ {gp:List Pm} {l:List Ar},jy ms ps V gp l->jy ms ps V' gp l
 | [],[],_=>trivial
 | p::gp,a::l,hx=>by
  simp only[jy] at hx |-;refine⟨?_,jy.mono h hx.2⟩
  cases a with
  | vw r=>exact⟨hx.1.1,hx.1.2.mono h⟩
  | exp e=>exact⟨hx.1.1,hx.1.2.mono h (Nat.le_refl _)⟩
 | [],_::_,hx=>hx.elim
 | _::_,[],hx=>hx.elim
theorem jy.len {ms:List Mx}{ps:List Pm}{V:List ByteArray}:∀ {gp:List Pm} {l:List Ar},jy ms ps V gp l->l.length=gp.length
 | [],[],_=>rfl
 | p::gp,a::l,hx=>by
  simp only[jy] at hx;simp[jy.len hx.2]
 | [],_::_,hx=>hx.elim
 | _::_,[],hx=>hx.elim
def dO (l:List Sm):List ByteArray:=l.flatMap ek
theorem dn.app {ms:List Mx}{fs:List (ByteArray×List Pm)}{ps:List Pm}{d:Nat}:∀ {a b:List Sm} {V:List ByteArray},dn ms fs ps d V a->dn ms fs ps d (V++dO a) b->dn ms fs ps d V (a++b)
 | [],b,V,_,hb=>by simpa [dO] using hb
 | s::r,b,V,ha,hb=>by
  simp only[dn,cons_append] at ha |-;refine⟨ha.1,dn.app ha.2 ?_⟩
  simpa [dO,append_assoc] using hb
theorem dn.up {ms:List Mx}{fs:List (ByteArray×List Pm)}{ps:List Pm}{a:List Sm}{V:List ByteArray}:∀ {d d':Nat},d<=d'->dn ms fs ps d V a->dn ms fs ps d' V a:=by
 suffices h:(∀ s:Sm,∀ V d d',d<=d'->ef ms fs ps d V s->ef ms fs ps d' V s)/\(∀ l:List Sm,∀ V d d',d<=d'->dn ms fs ps d V l->dn ms fs ps d' V l) from λ {d d'} hd hx=>h.2 a V d d' hd hx
 refine⟨λ s=>?_,λ l=>?_⟩
 ·exact Sm.rec (motive_1:=λ s=>∀ V d d',d<=d'->ef ms fs ps d V s->ef ms fs ps d' V s) (motive_2:=λ l=>∀ V d d',d<=d'->dn ms fs ps d V l->dn ms fs ps d' V l)
   (λ s e V d d' _ hx=>by simpa [ef] using hx) (λ s e V d d' _ hx=>by simpa [ef] using hx) (λ g s l V d d' _ hx=>by simpa [ef] using hx) (λ u r V d d' _ hx=>by simpa [ef] using hx)
   (λ e th el h1 h2 V d d' hd hx=>by
    cases d with
    | zero=>simp[ef] at hx
    | succ d=>
     obtain⟨d',rfl⟩:∃ k,d'=k+1:=⟨d' - 1,by omega⟩;simp only[ef] at hx |-;exact⟨hx.1,h1 _ _ _ yA hx.2.1,h2 _ _ _ yA hx.2.2⟩)
   (λ e th h1 V d d' hd hx=>by
    cases d with
    | zero=>simp[ef] at hx
    | succ d=>
     obtain⟨d',rfl⟩:∃ k,d'=k+1:=⟨d' - 1,by omega⟩;simp only[ef] at hx |-;exact⟨hx.1,h1 _ _ _ yA hx.2⟩)
   (λ V d d' _ hx=>by simp[ef]) (λ V d d' _ hx=>by simp[dn])
   (λ s r h1 h2 V d d' hd hx=>by
    simp only[dn] at hx |-;exact⟨h1 _ _ _ hd hx.1,h2 _ _ _ hd hx.2⟩) s
 ·exact Sm.rec_1 (motive_1:=λ s=>∀ V d d',d<=d'->ef ms fs ps d V s->ef ms fs ps d' V s) (motive_2:=λ l=>∀ V d d',d<=d'->dn ms fs ps d V l->dn ms fs ps d' V l)
   (λ s e V d d' _ hx=>by simpa [ef] using hx) (λ s e V d d' _ hx=>by simpa [ef] using hx) (λ g s l V d d' _ hx=>by simpa [ef] using hx) (λ u r V d d' _ hx=>by simpa [ef] using hx)
   (λ e th el h1 h2 V d d' hd hx=>by
    cases d with
    | zero=>simp[ef] at hx
    | succ d=>
     obtain⟨d',rfl⟩:∃ k,d'=k+1:=⟨d' - 1,by omega⟩;simp only[ef] at hx |-;exact⟨hx.1,h1 _ _ _ yA hx.2.1,h2 _ _ _ yA hx.2.2⟩)
   (λ e th h1 V d d' hd hx=>by
    cases d with
    | zero=>simp[ef] at hx
    | succ d=>
     obtain⟨d',rfl⟩:∃ k,d'=k+1:=⟨d' - 1,by omega⟩;simp only[ef] at hx |-;exact⟨hx.1,h1 _ _ _ yA hx.2⟩)
   (λ V d d' _ hx=>by simp[ef]) (λ V d d' _ hx=>by simp[dn])
   (λ s r h1 h2 V d d' hd hx=>by
    simp only[dn] at hx |-;exact⟨h1 _ _ _ hd hx.1,h2 _ _ _ hd hx.2⟩) l
theorem uV:∀ a b:List Sm,bZ (a++b)=bZ a+bZ b
 | [],b=>by simp[bZ]
 | s::r,b=>by simp only[cons_append,bZ,uV r b];omega
theorem C7 (a b:List Sm):dO (a++b)=dO a++dO b:=by simp[dO]
theorem jt {α:Type}{l:List α}{i:Nat}(h:i<l.length)(d:α):l.getD i d∈l:=by
 simp[getD,getElem?_eq_getElem h]
theorem DZ (L:List Int)(ns:List ByteArray)(d i:Nat):fV ns d (qL L ns i).1:=by
 unfold qL;split
 ·rename_i h;simp only[fV];exact jt (dF _ _ h.1) _
 ·simp only[fV];exact JZ _ _
theorem xZ (L:List Int)(ns:List ByteArray):∀ d i:Nat,fV ns d (qT L ns d i).1
 | 0,i=>DZ L ns 0 _
 | d+1,i=>by
  rw[qT];split
  ·exact DZ L ns _ _
  ·split
   ·simp only[fV];exact⟨Nat.mod_lt _ yA,xZ L ns d _⟩
   ·simp only[fV];exact⟨dF _ _ yA,xZ L ns d _,xZ L ns d _⟩
theorem qS (L:List Int)(ar:Bool)(vars:List ByteArray)(i:Nat):fV vars 2 (dH L ar vars i).1:=by
 unfold dH;split
 ·refine (xZ L vars _ _).mono (λ _ h=>h) ?_;have:=dF L i (show 0<2 by omega);omega
 ·exact (xZ L vars _ _).mono (λ _ h=>h) yA
theorem M4 (L:List Int)(ar:Bool)(vars:List ByteArray)(size i:Nat)(hs:0<size)(WZ:size<=1000):fV vars 1 (pt L ar vars size i).1:=by
 unfold pt;split
 ·exact xZ _ _ _ _
 ·simp only[fV];exact Nat.lt_of_lt_of_le (dF _ _ hs) yA
theorem yS (L:List Int)(ar:Bool)(ms:List Mx)(ps:List Pm)(vars:List ByteArray)(i:Nat)(hm:0<ms.length)(hz:∀ m∈ms,m.size<=1000):Gc ms ps vars (jB L ar ms ps vars i).1:=by
 have hl:0<(cj ms ps).length:=by simp[cj];omega
 have hk:=dF L i hl;unfold jB;generalize cA L i (cj ms ps).length=k at hk;have QX:∀ h:k.1<ms.length,(cj ms ps).getD k.1 eS=(ms[k.1]).name/\lb ms k.1=(ms[k.1]).size:=λ h=>by
  simp[cj,getD,lb,getElem?_append,h]
 split
 ·rename_i h;obtain⟨e1,e2⟩:=QX h.1;refine .inl ⟨ms[k.1],getElem_mem _,e1,.inr ⟨_,rfl,?_,?_⟩⟩
  ·rw[<- e2];exact h.2
  ·exact M4 _ _ _ _ _ h.2 (by rw[e2];exact hz _ (getElem_mem _))
 ·rename_i h;by_cases h1:k.1<ms.length
  ·obtain⟨e1,e2⟩:=QX h1;exact .inl ⟨ms[k.1],getElem_mem _,e1,.inl ⟨rfl,by omega⟩⟩
  ·have h2:(cj ms ps).getD k.1 eS∈ps.flatMap F8:=by
    have h3:(cj ms ps).getD k.1 eS=(ps.flatMap F8).getD (k.1-ms.length) eS:=by
     simp only[cj,getD];rw[getElem?_append_right PA];simp
    rw[h3];refine jt ?_ _;simp only[cj,length_append,length_map] at hk;omega
   rw[mem_flatMap] at h2;obtain⟨p,Ws,BZ⟩:=h2;unfold F8 at BZ;split at BZ
   ·rename_i hp;refine .inr ⟨p,Ws,hp,?_,rfl⟩
    simpa using BZ
   ·simp at BZ
theorem zF (L:List Int)(ar:Bool)(ms:List Mx)(ps:List Pm)(vars:List ByteArray)(hm:0<ms.length)(hz:∀ m∈ms,m.size<=1000):∀ (gp:List Pm) (i:Nat),jy ms ps vars gp (dB L ar ms ps vars gp i).1
 | [],_=>trivial
 | p::r,i=>by
  rw[dB];split
  ·rename_i h;exact⟨⟨h,yS L ar ms ps vars i hm hz⟩,zF L ar ms ps vars hm hz r _⟩
  ·rename_i h;exact⟨⟨by simpa using h,qS L ar vars i⟩,zF L ar ms ps vars hm hz r _⟩
def BU (V:List ByteArray)(left:Nat):Prop:=∀ k,k<left->fJ k∉V
theorem gx (k:Nat):bs (fJ k)=[118,UInt8.ofNat (97+k % 26),UInt8.ofNat (97+k / 26 % 26)]:=rfl
theorem EB {j k:Nat}(hj:j<26)(hk:k<26)(h:fJ j=fJ k):j=k:=by
 have h1:=congrArg bs h;rw[gx,gx,Nat.mod_eq_of_lt hj,Nat.mod_eq_of_lt hk] at h1;simp only[cons.injEq,true_and] at h1;have h2:=congrArg UInt8.toNat h1.1;simp only[UInt8.toNat_ofNat'] at h2;omega
def F4 (w:Wr)(ps:List Pm)(N:Nat)(rec:Rec):Prop:=∀ vars deep most i left V,left<=N->left<=24->(∀ s∈vars,s∈V)->BU V left ->
 dn w.ms w.fs ps deep V (rec vars deep most i left).1/\BU (V++dO (rec vars deep most i left).1) (rec vars deep most i left).2.2/\(rec vars deep most i left).2.2<=left/\
 bZ (rec vars deep most i left).1+48*(rec vars deep most i left).2.2<=48*left
structure OO (w:Wr)(ps:List Pm)(deep left:Nat)(V:List ByteArray)(b:LR):Prop where
 w:dn w.ms w.fs ps deep V b.out
 v:∀ s∈b.vars,s∈V++dO b.out
 l:BU (V++dO b.out) b.left
 n:b.left<=left
 k:bZ b.out+48*b.left<=48*(left+1)
section
variable {w:Wr}{ps:List Pm}{rec:Rec}(hm:0<w.ms.length)(hz:∀ m∈w.ms,m.size<=1000)(hf:0<w.fs.length)(SE:∀ f∈w.fs,f.2.length<=2)
include hm hz
omit hm hz in
theorem Ax {s:Sm}{vars V:List ByteArray}{deep i left:Nat}(hv:∀ x∈vars,x∈V)(hl:BU V left)(hs:ef w.ms w.fs ps deep V s)(hd:ek s=[])(hk:eN s<=48):OO w ps deep left V ⟨[s],vars,i,left⟩:=by
 refine⟨⟨hs,trivial⟩,?_,?_,Nat.le_refl _,?_⟩
 ·simpa [dO,hd] using hv
 ·simpa [dO,hd] using hl
 ·simp only[bZ];omega
theorem Ik {N:Nat}(h:F4 w ps N rec){vars V:List ByteArray}(hv:∀ s∈vars,s∈V){deep i left:Nat}(hN:left<=N)(Us:left<=24)(hl:BU V left):OO w ps deep left V (Bt w rec ps vars i left):=by
 have hr:=yS w.L w.ar w.ms ps vars i hm hz;obtain⟨h1,h2,h3,h4⟩:=h vars 0 2 (jB w.L w.ar w.ms ps vars i).2 left V hN Us hv hl;unfold Bt;refine⟨?_,?_,?_,h3,?_⟩
 ·simp only[cons_append,dn,ek,append_nil];refine⟨by simp only[ef];exact hr.mono hv,dn.app (h1.up (Nat.zero_le _)) ?_⟩;simp only[dn,ef,and_true];exact hr.mono λ s hs=>mem_append_left _ (hv s hs)
 ·intro s hs;exact mem_append_left _ (hv s hs)
 ·simpa [dO,ek] using h2
 ·simp only[cons_append,bZ,eN,uV];omega
include hf SE in
theorem Ep {vars V:List ByteArray}(hv:∀ s∈vars,s∈V){deep i left:Nat}(go:Bool)(hl:BU V left):OO w ps deep left V (gY w ps vars go i left):=by
 have OT:=dF w.L i hf;have hg:=jt OT (eS,[]);unfold gY;generalize hgg:w.fs.getD (cA w.L i w.fs.length).1 (eS,[])=g at hg;have ha:=zF w.L w.ar w.ms ps vars hm hz g.2 (cA w.L i w.fs.length).2;refine Ax hv hl ?_ rfl ?_
 ·simp only[ef];exact⟨g.2,hg,ha.mono hv⟩
 ·simp only[eN,ha.len];have:=SE g hg;omega
omit hm hz in
theorem ifS_w {N:Nat}(h:F4 w ps N rec){vars V:List ByteArray}(hv:∀ s∈vars,s∈V){deep i left:Nat}(Wz:0<deep)(hN:left<=N)(Us:left<=24)(hl:BU V left):OO w ps deep left V (Oz w rec vars deep i left):=by
 have he:=qS w.L w.ar vars i;obtain⟨d,rfl⟩:∃ d,deep=d+1:=⟨deep-1,by omega⟩;unfold Oz;simp only[Nat.add_sub_cancel];obtain⟨h1,h2,h3,h4⟩:=h vars d 3 (dH w.L w.ar vars i).2 left V hN Us hv hl;generalize rec vars d 3 (dH w.L w.ar vars i).2 left=th at h1 h2 h3 h4;have P3:BU V th.2.2:=λ k hk=>hl k yA;split
 ·obtain⟨g1,g2,g3,g4⟩:=h vars d 3 (cA w.L th.2.1 2).2 th.2.2 V yA yA hv P3;generalize rec vars d 3 (cA w.L th.2.1 2).2 th.2.2=el at g1 g2 g3 g4;have hl3:BU V el.2.2:=λ k hk=>hl k yA;refine⟨?_,?_,?_,Nat.le_trans g3 h3,?_⟩
  ·simp only[dn,ef,and_true];exact⟨he.mono hv (Nat.le_refl _),h1,g1⟩
  ·simpa [dO,ek] using hv
  ·simpa [dO,ek] using hl3
  ·simp only[bZ,eN];omega
 ·refine⟨?_,?_,?_,by omega,?_⟩
  ·simp only[dn,ef,and_true];exact⟨he.mono hv (Nat.le_refl _),h1⟩
  ·simpa [dO,ek] using hv
  ·simpa [dO,ek] using P3
  ·simp only[bZ,eN];omega
omit hm hz in
theorem whS_w {N:Nat}(h:F4 w ps N rec){vars V:List ByteArray}(hv:∀ s∈vars,s∈V){deep i left:Nat}(Wz:0<deep)(hN:left<=N)(Us:left<=24)(hl:BU V left):OO w ps deep left V (NJ w rec vars deep i left):=by
 have he:=qS w.L w.ar vars i;obtain⟨d,rfl⟩:∃ d,deep=d+1:=⟨deep-1,by omega⟩;unfold NJ;simp only[Nat.add_sub_cancel];obtain⟨h1,h2,h3,h4⟩:=h vars d 3 (dH w.L w.ar vars i).2 left V hN Us hv hl;generalize rec vars d 3 (dH w.L w.ar vars i).2 left=th at h1 h2 h3 h4;have hl3:BU V th.2.2:=λ k hk=>hl k yA;refine⟨?_,?_,?_,by omega,?_⟩
 ·simp only[dn,ef,and_true];exact⟨he.mono hv (Nat.le_refl _),h1⟩
 ·simpa [dO,ek] using hv
 ·simpa [dO,ek] using hl3
 ·simp only[bZ,eN];omega
include hf SE in
theorem stS_w {N:Nat}(h:F4 w ps N rec){vars V:List ByteArray}(hv:∀ s∈vars,s∈V){deep i left:Nat}(hN:left<=N)(Us:left<24)(hl:BU V (left+1)):OO w ps deep left V (zK w rec ps vars deep i left):=by
 have P3:BU V left:=λ k hk=>hl k yA;unfold zK;simp only;split
 ·exact Ax hv P3 ((yS _ _ _ ps _ _ hm hz).mono hv) rfl (by simp[eN])
 split
 ·exact Ax hv P3 ((yS _ _ _ ps _ _ hm hz).mono hv) rfl (by simp[eN])
 split
 ·refine⟨?_,?_,?_,Nat.le_refl _,?_⟩
  ·simp only[dn,ef,and_true];exact⟨⟨left,Us,rfl⟩,hl left yA,(qS _ _ _ _).mono hv (Nat.le_refl _)⟩
  ·intro s hs;simp only[mem_append,mem_singleton] at hs;simp only[dO,flatMap_cons,flatMap_nil,ek,append_nil,mem_append,mem_singleton];exact hs.imp (hv s) id
  ·intro k hk hc;simp only[dO,flatMap_cons,flatMap_nil,ek,append_nil,mem_append,mem_singleton] at hc;rcases hc with hc | hc
   ·exact P3 k hk hc
   ·have Uo:k<left:=hk;have:=EB yA yA hc;omega
  ·simp only[bZ,eN];omega
 split
 ·rename_i h8;refine Ax hv P3 ?_ rfl (by simp[eN]);simp only[ef];exact⟨hv _ (jt (dF _ _ h8.2) _),(qS _ _ _ _).mono hv (Nat.le_refl _)⟩
 split
 ·exact Ep hm hz hf SE hv _ P3
 split
 ·exact Ep hm hz hf SE hv _ P3
 split
 ·rename_i h9;exact ifS_w h hv h9.2 hN yA P3
 split
 ·rename_i h9;exact whS_w h hv h9.2 hN yA P3
 split
 ·exact Ax hv P3 (by simp[ef]) rfl (by simp[eN])
 split
 ·exact Ik hm hz h hv hN yA P3
 ·exact Ik hm hz h hv hN yA P3
include hf SE in
theorem Lc {N:Nat}(h:F4 w ps N rec)(deep:Nat):∀ (n:Nat) (vars:List ByteArray) (i left:Nat) (V:List ByteArray),left<=N+1->left<=24->(∀ s∈vars,s∈V)->BU V left ->
  dn w.ms w.fs ps deep V (sZ w rec ps deep n vars i left).1/\BU (V++dO (sZ w rec ps deep n vars i left).1) (sZ w rec ps deep n vars i left).2.2/\(sZ w rec ps deep n vars i left).2.2<=left/\
  bZ (sZ w rec ps deep n vars i left).1+48*(sZ w rec ps deep n vars i left).2.2<=48*left
 | 0,vars,i,left,V,hN,Us,hv,hl=>by
  simp only[sZ,dn,bZ];exact⟨trivial,by simpa [dO] using hl,Nat.le_refl _,by omega⟩
 | n+1,vars,i,left,V,hN,Us,hv,hl=>by
  rw[sZ];split
  ·simp only[dn,bZ];exact⟨trivial,by simpa [dO] using hl,Nat.le_refl _,by omega⟩
  ·obtain⟨lf,rfl⟩:∃ lf,left=lf+1:=⟨left-1,by omega⟩;have hs:=stS_w hm hz hf SE h (deep:=deep) (i:=i) hv yA yA hl;simp only[Nat.add_sub_cancel];generalize zK w rec ps vars deep i lf=b at hs;have:=hs.n;obtain⟨g1,g2,g3,g4⟩:=Lc h deep n b.vars b.i b.left (V++dO b.out) yA yA hs.v hs.l;refine⟨dn.app hs.w g1,?_,by omega,?_⟩
   ·rw[C7,<- append_assoc];exact g2
   ·rw[uV];have:=hs.k;omega
include hf SE in
theorem IC:∀ f:Nat,F4 w ps f (nJ w ps f)
 | 0=>λ vars deep most i left V hN Us hv hl=>by
  obtain rfl:left=0:=by omega
  simp only[nJ,dn,bZ];exact⟨trivial,by simpa [dO] using hl,Nat.le_refl _,by omega⟩
 | f+1=>λ vars deep most i left V hN Us hv hl=>Lc hm hz hf SE (IC f) deep _ vars _ left V yA Us hv hl
end
def nG:List ByteArray:=[⟨#[103,48]⟩,⟨#[103,49]⟩]
def nM:List ByteArray:=[⟨#[97]⟩,⟨#[98]⟩,⟨#[99]⟩,⟨#[100]⟩]
def nF:List ByteArray:=[⟨#[109,97,105,110]⟩,⟨#[102,49]⟩,⟨#[102,50]⟩,⟨#[102,51]⟩]
def nP:List ByteArray:=[⟨#[112,49]⟩,⟨#[112,50]⟩]
structure kM (p:Pg):Prop where
 gn:∃ k,k<=2/\p.gs.map (·.name)=nG.take k
 gi:∀ g∈p.gs,-2<=g.init/\g.init<=2
 mn:∃ k,1<=k/\k<=4/\p.ms.map (·.name)=nM.take k
 mz:∀ m∈p.ms,m.size<=3/\(m.re=true->m.size=0)
 fn:∃ k,1<=k/\k<=4/\p.fs.map (·.name)=nF.take k
 f0:∀ f,p.fs[0]? = some f->f.params=[]
 pn:∀ f∈p.fs,∃ k,k<=2/\f.params.map (·.name)=(nP.take k).reverse
 bd:∀ f∈p.fs,dn p.ms (p.fs.map λ f=>(f.name,f.params)) f.params 2 (jO p.gs f.params) f.body
 wt:(p.fs.map λ f=>bZ f.body).sum<=1152
theorem AE (L:List Int):∀ (n j i:Nat),j+n<=4->(rH L n j i).1.map (·.name)=(nM.drop j).take n/\(rH L n j i).1.length=n/\(∀ m∈(rH L n j i).1,m.size<=3/\(m.re=true->m.size=0))/\(i<=L.length->(rH L n j i).2<=L.length)
 | 0,j,i,h=>⟨by simp[rH],by simp[rH],by simp[rH],λ h=>h⟩
 | n+1,j,i,h=>by
  have hd:nM.drop j=eC (97+j)::nM.drop (j+1):=by
   match j,h with
   | 0,_=>rfl
   | 1,_=>rfl
   | 2,_=>rfl
   | 3,_=>rfl
   | j+4,h=>omega
  rw[hd,take_succ_cons,rH];have h3:=dF L (cA L i 5).2 (show 0<3 by omega);split
  ·obtain⟨i1,i2,i3,i4⟩:=AE L n (j+1) (cA L i 5).2 yA;refine⟨by simp[i1],by simp[i2],?_,λ h=>i4 (bu _ _ h)⟩;intro m hm;rcases mem_cons.1 hm with rfl | hm
   ·exact⟨by simp,λ _=>rfl⟩
   ·exact i3 m hm
  split
  ·obtain⟨i1,i2,i3,i4⟩:=AE L n (j+1) (cA L (cA L i 5).2 3).2 yA;refine⟨by simp[i1],by simp[i2],?_,λ h=>i4 (bu _ _ (bu _ _ h))⟩;intro m hm;rcases mem_cons.1 hm with rfl | hm
   ·exact⟨by simp only;omega,λ h=>by cases h⟩
   ·exact i3 m hm
  ·obtain⟨i1,i2,i3,i4⟩:=AE L n (j+1) (cA L i 5).2 yA;refine⟨by simp[i1],by simp[i2],?_,λ h=>i4 (bu _ _ h)⟩;intro m hm;rcases mem_cons.1 hm with rfl | hm
   ·exact⟨by simp,λ _=>rfl⟩
   ·exact i3 m hm
theorem H0 (L:List Int):∀ (n j i:Nat),j+n<=2->(wS L n j i).1.map (·.name)=(nG.drop j).take n/\(wS L n j i).1.length=n/\(∀ g∈(wS L n j i).1,-2<=g.init/\g.init<=2)/\(i<=L.length->(wS L n j i).2<=L.length)
 | 0,j,i,h=>⟨by simp[wS],by simp[wS],by simp[wS],λ h=>h⟩
 | n+1,j,i,h=>by
  have hd:nG.drop j=(⟨#[103]⟩++eC (48+j))::nG.drop (j+1):=by
   match j,h with
   | 0,_=>rfl
   | 1,_=>rfl
   | j+2,h=>omega
  rw[hd,take_succ_cons,wS];have h3:=dF L i (show 0<5 by omega);obtain⟨i1,i2,i3,i4⟩:=H0 L n (j+1) (cA L i 5).2 yA;refine⟨by simp[i1],by simp[i2],?_,λ h=>i4 (bu _ _ h)⟩;intro m hm;rcases mem_cons.1 hm with rfl | hm
  ·simp only;omega
  ·exact i3 m hm
theorem G6 (L:List Int):∀ (n i:Nat),n<=2->(DG L n i).1.map (·.name)=(nP.take n).reverse/\(DG L n i).1.length=n/\(i<=L.length->(DG L n i).2<=L.length)
 | 0,i,_=>⟨rfl,rfl,λ h=>h⟩
 | n+1,i,h=>by
  have hd:(nP.take (n+1)).reverse=(⟨#[112]⟩++eC (48+(n+1)))::(nP.take n).reverse:=by
   match n,h with
   | 0,_=>rfl
   | 1,_=>rfl
   | n+2,h=>omega
  obtain⟨i1,i2,i3⟩:=G6 L n (cA L i 3).2 yA;rw[hd,DG];exact⟨by simp[i1],by simp[i2],λ h=>i3 (bu _ _ h)⟩
theorem H3 (L:List Int):∀ (n j i:Nat),j+n<=4->(vN L n j i).1.map (·.name)=(nF.drop j).take n/\(vN L n j i).1.length=n/\(∀ f∈(vN L n j i).1,f.body=[]/\∃ k,k<=2/\f.params.map (·.name)=(nP.take k).reverse)/\(j=0->∀ f,(vN L n j i).1[0]? = some f->f.params=[])/\(i<=L.length->(vN L n j i).2<=L.length)
 | 0,j,i,h=>⟨by simp[vN],by simp[vN],by simp[vN],by simp[vN],λ h=>h⟩
 | n+1,j,i,h=>by
  have hd:nF.drop j=(if j=0 then ⟨#[109,97,105,110]⟩ else ⟨#[102]⟩++eC (48+j))::nF.drop (j+1):=by
   match j,h with
   | 0,_=>rfl
   | 1,_=>rfl
   | 2,_=>rfl
   | 3,_=>rfl
   | j+4,h=>omega
  rw[hd,take_succ_cons,vN];simp only;have hk:(if j=0 then 0 else (cA L i 3).1)<=2:=by
   have:=dF L i (show 0<3 by omega);split<;>omega
  obtain⟨p1,p2,p3⟩:=G6 L (if j=0 then 0 else (cA L i 3).1) (cA L i 3).2 hk;obtain⟨i1,i2,i3,i4,i5⟩:=H3 L n (j+1) (DG L (if j=0 then 0 else (cA L i 3).1) (cA L i 3).2).2 yA;refine⟨by simp only[map_cons,i1],by simp[i2],?_,?_,λ h=>i5 (p3 (bu _ _ h))⟩
  ·intro f hf;rcases mem_cons.1 hf with rfl | hf
   ·exact⟨rfl,_,hk,p1⟩
   ·exact i3 f hf
  ·intro hj f hf;simp only[getElem?_cons_zero,Option.some.injEq] at hf;subst hf;simp[hj,DG]
theorem vn {gs:List Gl}{ps:List Pm}{s:ByteArray}(h:s∈jO gs ps):s∈gs.map (·.name)\/s∈ps.map (·.name):=by
 simp only[jO,mem_append,mem_flatMap] at h;rcases h with h | ⟨p,h1,h2⟩
 ·exact .inl h
 ·split at h2
  ·simp at h2
  ·simp only[mem_singleton] at h2;exact .inr (h2 ▸ mem_map_of_mem h1)
theorem sK:∀ k,k<24->fJ k∉nG/\fJ k∉nM/\fJ k∉nF/\fJ k∉nP:=by
 intro k hk;have h:∀ s∈nG++nM++nF++nP,(bs s).length≠3\/(bs s)[0]?≠some 118:=by decide
 have h2:∀ s∈nG++nM++nF++nP,fJ k≠s:=by
  rintro s hs rfl;have:=h _ hs;rw[gx] at this;simp at this
 refine⟨λ h=>h2 _ (by simp[h]) rfl,λ h=>h2 _ (by simp[h]) rfl,λ h=>h2 _ (by simp[h]) rfl,λ h=>h2 _ (by simp[h]) rfl⟩
theorem Jv {l:List Fu}{j:Nat}{f:Fu}(hf:l[j]? = some f)(f':Fu)(hb:f.body=[]):((l.set j f').map λ f=>bZ f.body).sum=(l.map λ f=>bZ f.body).sum+bZ f'.body:=by
 induction l generalizing j with
 | nil=>simp at hf
 | cons a r ih=>
  cases j with
  | zero=>
   simp only[getElem?_cons_zero,Option.some.injEq] at hf;subst hf;simp[hb,bZ];omega
  | succ j=>
   simp only[getElem?_cons_succ] at hf;simp only[set_cons_succ,map_cons,sum_cons,ih hf];omega
def sg (f:Fu):ByteArray×List Pm:=(f.name,f.params)
theorem GU {l:List Fu}{j:Nat}{f f':Fu}(hf:l[j]? = some f)(h:sg f'=sg f):(l.set j f').map sg=l.map sg:=by
 rw[map_set,h];refine ext_getElem? λ i=>?_;rw[getElem?_set];split
 ·rename_i e;subst e;have hl:j<l.length:=(List.getElem?_eq_some_iff.1 hf).1;simp[hl,(List.getElem?_eq_some_iff.1 hf).2]
 ·rfl
theorem LD (w:Wr)(gs:List Gl)(hm:0<w.ms.length)(hz:∀ m∈w.ms,m.size<=1000)(hf:0<w.fs.length)(SE:∀ f∈w.fs,f.2.length<=2)(SX:∀ ps:List Pm,(∃ nm,(nm,ps)∈w.fs)->BU (jO gs ps) 24) :
  ∀ (n j:Nat) (fs:List Fu) (i left:Nat),fs.map sg=w.fs->(∀ k f,fs[k]? = some f->j<=k->f.body=[])->left<=24->i<=w.L.length ->
  (KO w gs n j fs i left).map sg=w.fs/\(∀ k f,(KO w gs n j fs i left)[k]? = some f->(j<=k->k<j+n->dn w.ms w.fs f.params 2 (jO gs f.params) f.body)/\(k<j\/j+n<=k->fs[k]? = some f))/\
  ((KO w gs n j fs i left).map λ f=>bZ f.body).sum<=(fs.map λ f=>bZ f.body).sum+48*left
 | 0,j,fs,i,left,h1,h2,h3,h4=>⟨h1,λ k f hk=>⟨λ a b=>absurd a yA,λ _=>hk⟩,Nat.le_add_right _ _⟩
 | n+1,j,fs,i,left,h1,h2,h3,h4=>by
  rw[KO];split
  ·rename_i hn;refine⟨h1,λ k f hk=>⟨λ a b=>?_,λ _=>hk⟩,Nat.le_add_right _ _⟩;rw[List.getElem?_eq_none_iff] at hn;have:=(List.getElem?_eq_some_iff.1 hk).1;omega
  ·rename_i f Ww;simp only;have QA:(f.name,f.params)∈w.fs:=by
    rw[<- h1];exact mem_map_of_mem (f:=sg) (mem_of_getElem? Ww)
   have hb:=IC (w:=w) (ps:=f.params) hm hz hf SE left (jO gs f.params) 2 6 i left (jO gs f.params) (Nat.le_refl _) h3 (λ _ h=>h) (λ k hk=>SX _ ⟨_,QA⟩ k yA);obtain⟨Yb,_⟩:=uK w f.params left (jO gs f.params) 2 6 i left h4;generalize nJ w f.params left (jO gs f.params) 2 6 i left=b at hb Yb;obtain⟨b1,b2,b3,b4⟩:=hb;have hs1:(fs.set j ⟨f.name,f.params,b.1⟩).map sg=w.fs:=by rw[GU (f':=⟨f.name,f.params,b.1⟩) Ww rfl,h1]
   have hlj:j<fs.length:=(List.getElem?_eq_some_iff.1 Ww).1;obtain⟨r1,r2,r3⟩:=LD w gs hm hz hf SE SX n (j+1) (fs.set j ⟨f.name,f.params,b.1⟩) b.2.1 b.2.2 hs1 (λ k f' hk hjk=>by
    rw[getElem?_set,if_neg yA] at hk;exact h2 k f' hk yA) yA Yb
   refine⟨r1,λ k f' hk=>?_,?_⟩
   ·obtain⟨q1,q2⟩:=r2 k f' hk;refine⟨λ a c=>?_,λ a=>?_⟩
    ·by_cases hkj:k=j
     ·subst hkj;have:=q2 (.inl yA);rw[getElem?_set,if_pos rfl,if_pos hlj] at this;simp only[Option.some.injEq] at this;subst this;exact b1
     ·exact q1 yA yA
    ·have:=q2 yA;rw[getElem?_set,if_neg yA] at this;exact this
   ·have hs:=Jv Ww ⟨f.name,f.params,b.1⟩ (h2 j f Ww (Nat.le_refl _));rw[hs] at r3;simp only at r3;omega
theorem Lb (l:List Int):kM (BX l):=by
 unfold BX;simp only;generalize l.take 400=L;have ha:=bu L 3 (Nat.zero_le L.length);generalize cA L 0 3=a at ha;have P5:=bu L 4 ha;have hnm2:=dF L a.2 (show 0<4 by omega);generalize cA L a.2 4=nm at P5 hnm2;obtain⟨m1,m2,m3,m4⟩:=AE L (1+nm.1) 0 nm.2 yA;generalize rH L (1+nm.1) 0 nm.2=ms at m1 m2 m3 m4;have QE:=bu L 3 (m4 P5);have VU:=dF L ms.2 (show 0<3 by omega);generalize cA L ms.2 3=ng at QE VU;obtain⟨g1,g2,g3,g4⟩:=H0 L ng.1 0 ng.2 yA;generalize wS L ng.1 0 ng.2=gs at g1 g2 g3 g4;have Zb:=bu L 4 (g4 QE);have hnf2:=dF L gs.2 (show 0<4 by omega);generalize cA L gs.2 4=nf at Zb hnf2;obtain⟨f1,f2,f3,f4,f5⟩:=H3 L (nf.1+1) 0 nf.2 yA;generalize vN L (nf.1+1) 0 nf.2=fs at f1 f2 f3 f4 f5;have Qx:∀ f∈fs.1,f.params.length<=2:=λ f hf=>by
  obtain⟨_,k,h1,h2⟩:=f3 f hf;have:=congrArg length h2;simp[nP] at this;omega
 have SX:∀ ps:List Pm,(∃ nm,(nm,ps)∈fs.1.map sg)->BU (jO gs.1 ps) 24:=by
  rintro ps ⟨x,hx⟩ k hk hc;obtain⟨v1,_,_,v4⟩:=sK k hk;rw[mem_map] at hx;obtain⟨f,hf,he⟩:=hx;rcases vn hc with h | h
  ·rw[g1] at h;exact v1 (mem_of_mem_take Sa)
  ·have Qp:ps=f.params:=by
    simp only[sg,Prod.mk.injEq] at he;exact he.2.symm
   obtain⟨_,q,_,h2⟩:=f3 f hf;rw[Qp,h2] at h;exact v4 (mem_of_mem_take Sa)
 obtain⟨r1,r2,r3⟩:=LD ⟨L,decide (a.1=1),ms.1,fs.1.map λ f=>(f.name,f.params)⟩ gs.1 WG (λ m hm=>by have:=(m3 m hm).1;omega) PA
  (λ f hf=>by
   simp only[mem_map] at hf;obtain⟨f',h1,rfl⟩:=hf;exact Qx f' h1) SX (nf.1+1) 0 fs.1 fs.2 24 rfl (λ k f hk _=>(f3 f (mem_of_getElem? hk)).1) (Nat.le_refl _) (f5 Zb)
 generalize KO ⟨L,decide (a.1=1),ms.1,fs.1.map λ f=>(f.name,f.params)⟩ gs.1 (nf.1+1) 0 fs.1 fs.2 24=F at r1 r2 r3;have QX:∀ (k:Nat) (f:Fu),F[k]? = some f->∃ f0:Fu,fs.1[k]? = some f0/\f0.name=f.name/\f0.params=f.params:=by
  intro k f hk;have h1:(F.map sg)[k]? = some (sg f):=by simp[hk]
  rw[r1] at h1;simp only[getElem?_map,Option.map_eq_some_iff] at h1;obtain⟨f0,h2,h3⟩:=h1;simp only[sg,Prod.mk.injEq] at h3;exact⟨f0,h2,h3.1,h3.2⟩
 have hlenF:F.length=nf.1+1:=by
  have:=congrArg length r1;simp at this;omega
 refine⟨⟨ng.1,by omega,by simpa using g1⟩,g3,⟨1+nm.1,by omega,by omega,by simpa using m1⟩,m3,⟨nf.1+1,by omega,by omega,?_⟩,?_,?_,?_,?_⟩
 ·have h1:=congrArg (map Prod.fst) r1;have h2:(F.map sg).map Prod.fst=F.map (·.name):=by simp[sg]
  rw[h2] at h1;show F.map (·.name)=_;rw[h1]
  simpa [Function.comp_def] using f1
 ·intro f hf;obtain⟨f0,h1,h2,h3⟩:=QX 0 f hf;rw[<- h3];exact f4 rfl f0 h1
 ·intro f hf;obtain⟨k,hk⟩:=getElem?_of_mem hf;obtain⟨f0,h1,h2,h3⟩:=QX k f hk;rw[<- h3];exact (f3 f0 (mem_of_getElem? h1)).2
 ·intro f hf;obtain⟨k,hk⟩:=getElem?_of_mem hf;have Pa:k<F.length:=(List.getElem?_eq_some_iff.1 hk).1;have:=(r2 k f hk).1 (Nat.zero_le _) yA;show dn ms.1 (F.map sg) _ _ _ _;rw[r1];exact this
 ·have h0:(fs.1.map λ f=>bZ f.body).sum=0:=by
   have hz:∀ l:List Fu,(∀ f∈l,f.body=[])->(l.map λ f=>bZ f.body).sum=0:=by
    intro l
    induction l with
    | nil=>intro _;rfl
    | cons a r ih=>
     intro h;simp only[map_cons,sum_cons,h a mem_cons_self,ih λ f hf=>h f (mem_cons_of_mem _ hf),bZ]
   exact hz _ λ f hf=>(f3 f hf).1
  rw[h0] at r3;omega
end Go.aV
