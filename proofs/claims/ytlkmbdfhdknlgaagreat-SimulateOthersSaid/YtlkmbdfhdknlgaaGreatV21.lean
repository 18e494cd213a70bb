/- The text of a program of t -/
import Derived.Test.YtlkmbdfhdknlgaaGreatV20
import Derived.Laws.Strings
namespace Go.aV
open Go.Can List
section
variable {ms:List Mx}{fs:List (ByteArray×List Pm)}{ps:List Pm}(Qm:∀ m∈ms,dG m.name)(Qq:∀ f∈fs,dG f.1)(Qp:∀ p∈ps,dG p.name)
theorem jg (c:UInt8)(h:c∈mB/\c≠60/\c≠62/\c≠61/\c≠33/\c≠47):cu Any ⟨#[c]⟩ 1 1:=cu.sign h.1 h.2
theorem cu.K0 {s:ByteArray}(h:(bs s).all jc=true):cu Any s 0 (bs s).length:=by
 refine⟨Nat.le_refl _,λ r n _ hl=>?_⟩;generalize bs s=l at h
 induction l with
 | nil=>exact hl
 | cons c t ih=>
  simp only[all_cons,Bool.and_eq_true] at h;exact Lx.sp h.1 (ih h.2)
include Qm Qp in
theorem cu.rf {V:List ByteArray}(hV:∀ s∈V,dG s){r:Rf}(h:Gc ms ps V r):cu Stop (Cw r) 10 186:=by
 have hn:dG r.name:=by
  rcases h with ⟨m,h1,h2,_⟩ | ⟨p,h1,_,h2,_⟩
  ·rw[h2];exact Qm m h1
  ·rw[h2];exact Qp p h1
 have h0:=cu.nm hn;unfold Cw
 cases hi:r.index with
 | none=>exact h0.mono yA yA
 | some e=>
  have he:fV V 1 e:=by
   rcases h with ⟨m,_,_,h3 | ⟨e',h3,_,h5⟩⟩ | ⟨_,_,_,_,h3⟩
   ·rw[h3.1] at hi;cases hi
   ·rw[h3] at hi;cases hi;exact h5
   ·rw[h3] at hi;cases hi
  have h1:=(h0.app (jg 91 O3) λ r _=>Stop.cons _ O3).app (cu.ex hV 1 e he) λ _ _=>trivial;have h2:=h1.app (jg 93 O3) λ r _=>Stop.cons _ O3;exact (h2.any Stop).mono (by simp[B3]) (by simp[B3])
theorem pz (l:List UInt8)(s:ByteArray)(hs:bs s=l++[32])(h:(∃ c t,l=c::t/\isLet c=true)/\l.all fM=true/\l.length<=16):cu Any s 1 17:=cu.word h.1 h.2.1 h.2.2 s hs
theorem xf:cu Any ⟨#[109,117,116,101,120,32]⟩ 1 17:=pz [109,117,116,101,120] _ rfl ⟨⟨_,_,rfl,by decide⟩,by decide,by decide⟩
include Qm Qp in
theorem cu.ar {V:List ByteArray}(hV:∀ s∈V,dG s){p:Pm}{a:Ar}(h:ArW ms ps V p a):cu Stop (OL a) 19 456:=by
 cases a with
 | vw r=>
  simp only[ArW] at h;exact (xf.app (cu.rf Qm Qp hV h.2) λ _ _=>trivial).mono yA yA
 | exp e=>
  simp only[ArW] at h;exact (cu.ex hV 2 e h.2).mono (by simp[B3]) (by simp[B3])
theorem BC:cu Any ⟨#[44,32]⟩ 1 2:=⟨Nat.le_refl _,λ _ _ _ hl=>Lx.yY O3 O3 (Lx.sp O3 hl)⟩
theorem F1 (l:List Ar)(r:List UInt8)(hr:Stop r):Stop (bs (wz false l)++r):=by
 cases l with
 | nil=>exact hr
 | cons a t=>
  rw[wz];simp only[Bool.false_eq_true,if_false,gL];exact Stop.cons _ O3
include Qm Qp in
theorem cu.aR {V:List ByteArray}(hV:∀ s∈V,dG s):∀ (first:Bool) {gp:List Pm} {l:List Ar},jy ms ps V gp l->cu Stop (wz first l) (20*l.length) (458*l.length)
 | _,[],[],_=>cu.nil _
 | first,p::gp,a::l,h=>by
  simp only[jy] at h;have h1:=(cu.ar Qm Qp hV h.1).app (cu.aR hV false h.2) λ r hr=>F1 l r hr;rw[Go.aV.wz,ByteArray.append_assoc]
  cases first with
  | true=>exact (((cu.nil Any).app h1 λ _ _=>trivial)).mono Xy Xy
  | false=>exact ((BC.app h1 λ _ _=>trivial)).mono Xy Xy
 | _,[],_::_,h=>h.elim
 | _,_::_,[],h=>h.elim
include Qm Qp in
theorem cu.ars {V:List ByteArray}(hV:∀ s∈V,dG s){gp:List Pm}{l:List Ar}(h:jy ms ps V gp l):cu Any (uq l) (2+20*l.length) (2+458*l.length):=by
 have h1:=(jg 40 O3).app (cu.aR Qm Qp hV true h) λ _ _=>trivial;have h2:=h1.app (jg 41 O3) λ r _=>Stop.cons _ O3;exact h2.mono yA yA
theorem yF:cu Any z0 1 17:=pz [118,97,114] _ rfl ⟨⟨_,_,rfl,by decide⟩,by decide,by decide⟩
theorem L4:cu Any NL 1 17:=pz [103,111] _ rfl ⟨⟨_,_,rfl,by decide⟩,by decide,by decide⟩
theorem GB:cu Any xg 1 17:=pz [108,111,99,107] _ rfl ⟨⟨_,_,rfl,by decide⟩,by decide,by decide⟩
theorem Ci:cu Any oM 1 17:=pz [117,110,108,111,99,107] _ rfl ⟨⟨_,_,rfl,by decide⟩,by decide,by decide⟩
theorem L3:cu Any NK 1 17:=pz [105,102] _ rfl ⟨⟨_,_,rfl,by decide⟩,by decide,by decide⟩
theorem EM:cu Any yz 1 17:=pz [119,104,105,108,101] _ rfl ⟨⟨_,_,rfl,by decide⟩,by decide,by decide⟩
theorem Cj:cu Any GC 1 3:=⟨Nat.le_refl _,λ _ _ _ hl=>Lx.sp O3 (Lx.one O3 xr (Lx.sp O3 hl))⟩
theorem qv:cu Any jo 1 1:=jg 59 O3
theorem z4:cu Any qw 1 3:=⟨Nat.le_refl _,λ _ _ _ hl=>Lx.sp O3 (Lx.yY O3 O3 (Lx.sp O3 hl))⟩
theorem rP:cu Any k9 1 1:=jg 125 O3
theorem GD:cu Any z5 2 8:=⟨Nat.le_refl _,λ r n _ hl=>by
 refine Lx.sp O3 ?_;have h:=KW.name (s:=[101,108,115,101]) ⟨_,_,rfl,by decide⟩ O3 (.inl O3) (32::123::10::r) (n+1) (Stop.cons _ O3) (Lx.sp O3 (Lx.yY O3 O3 (Lx.sp O3 hl)));exact h⟩
theorem Jl:cu Any Jm 2 7:=⟨Nat.le_refl _,λ r n _ hl=>by
 have h:=KW.name (s:=[114,101,116,117,114,110]) ⟨_,_,rfl,by decide⟩ O3 (.inl O3) (59::r) (n+1) (Stop.cons _ O3) (Lx.yY O3 O3 hl);exact h⟩
theorem cu.st {S:List UInt8->Prop}{a b:ByteArray}{k k' m m':Nat}(h:cu Stop a k m)(h':cu S b k' m')(c:UInt8)(t:List UInt8)(hb:bs b=c::t)(hc:fM c=false/\c≠61/\c≠47):cu S (a++b) (k' + k) (m+m'):=
 h.app h' λ r _=>by rw[hb];exact Stop.cons _ hc
theorem cu.an {S:List UInt8->Prop}{a b:ByteArray}{k k' m m':Nat}(h:cu Any a k m)(h':cu S b k' m'):cu S (a++b) (k' + k) (m+m'):=h.app h' λ _ _=>trivial
def gM (d:Nat)(s:ByteArray):Prop:=(bs s).all jc=true/\(bs s).length+d<=3
theorem gM.Fq {d:Nat}{s:ByteArray}(h:gM (d+1) s):gM d (s++qu):=by
 refine⟨by rw[gL,all_append,h.1];rfl,?_⟩;rw[gL,length_append];have:=h.2;show _+1+d<=3;omega
theorem gM.seg {d:Nat}{s:ByteArray}(h:gM d s):cu Any s 0 3:=(cu.K0 h.1).mono (Nat.le_refl _) (by have:=h.2;omega)
include Qm Qp Qq
theorem cu.lines:(∀ s:Sm,∀ d V Lf,(∀ x∈V,dG x)->gM d Lf->ef ms fs ps d V s->(∀ x,ek s=[x]->dG x)->cu Any (la Lf s) (eN s) (64*eN s-10))/\
  (∀ l:List Sm,∀ d V Lf,(∀ x∈V,dG x)->gM d Lf->dn ms fs ps d V l->cu Any (jz Lf l) (bZ l) (64*bZ l)):=by
 have Vf:∀ k,k<24->dG (fJ k):=by
  intro k hk;refine⟨⟨118,_,gx k,by decide⟩,?_,by rw[gx];simp⟩;rw[gx];have:∀ k,k<24->all [118,UInt8.ofNat (97+k % 26),UInt8.ofNat (97+k / 26 % 26)] fM=true:=by decide
  exact this k hk
 have VN:∀ s:Sm,2<=eN s:=by intro s;cases s<;>simp only[eN]<;>omega
 have A1:∀ (s:ByteArray) (e:Ex) d V Lf,(∀ x∈V,dG x)->gM d Lf->ef ms fs ps d V (.ia s e)->cu Any (la Lf (.ia s e)) (eN (.ia s e)) (64*eN (.ia s e)-10):=by
  intro s e d V Lf hV ht hw;simp only[ef] at hw;obtain⟨⟨k,hk,rfl⟩,_,he⟩:=hw;simp only[la,eN];exact ((((yF.an (cu.nm (Vf k hk))).st Cj 32 _ rfl O3).an (cu.ex hV 2 e he)).st qv 59 _ rfl O3).mono (by simp[B3]) (by simp[B3])
 have A2:∀ (s:ByteArray) (e:Ex) d V Lf,(∀ x∈V,dG x)->gM d Lf->ef ms fs ps d V (.iX s e)->cu Any (la Lf (.iX s e)) (eN (.iX s e)) (64*eN (.iX s e)-10):=by
  intro s e d V Lf hV ht hw;simp only[ef] at hw;simp only[la,eN];exact ((((cu.nm (hV s hw.1)).st Cj 32 _ rfl O3).an (cu.ex hV 2 e hw.2)).st qv 59 _ rfl O3).mono (by simp[B3]) (by simp[B3])
 have A3:∀ (g:Bool) (s:ByteArray) (l:List Ar) d V Lf,(∀ x∈V,dG x)->gM d Lf->ef ms fs ps d V (.en g s l)->cu Any (la Lf (.en g s l)) (eN (.en g s l)) (64*eN (.en g s l)-10):=by
  intro g s l d V Lf hV ht hw;simp only[ef] at hw;obtain⟨gp,h1,h2⟩:=hw;have hn:=cu.nm (Qq _ h1);have ha:=cu.ars Qm Qp hV h2;have hb:bs (uq l)=40::(bs (wz true l)++[41]):=by simp only[uq,gL];rfl
  have hg:cu Stop (if g=true then NL++s else s) 2 33:=by
   cases g with
   | true=>exact (L4.an hn).mono yA yA
   | false=>exact hn.mono yA yA
  simp only[la,eN];exact ((hg.st ha 40 _ hb O3).an qv).mono yA yA
 have A4:∀ (u:Bool) (r:Rf) d V Lf,(∀ x∈V,dG x)->gM d Lf->ef ms fs ps d V (.dP u r)->cu Any (la Lf (.dP u r)) (eN (.dP u r)) (64*eN (.dP u r)-10):=by
  intro u r d V Lf hV ht hw;simp only[ef] at hw;have hr:=cu.rf Qm Qp hV hw;have hg:cu Any (if u=true then oM else xg) 1 17:=by
   cases u with
   | true=>exact Ci
   | false=>exact GB
  simp only[la,eN];exact ((hg.an hr).st qv 59 _ rfl O3).mono yA yA
 have A5:∀ (e:Ex) (th el:List Sm),(∀ d V Lf,(∀ x∈V,dG x)->gM d Lf->dn ms fs ps d V th->cu Any (jz Lf th) (bZ th) (64*bZ th))->(∀ d V Lf,(∀ x∈V,dG x)->gM d Lf->dn ms fs ps d V el->cu Any (jz Lf el) (bZ el) (64*bZ el))->∀ d V Lf,(∀ x∈V,dG x)->gM d Lf->ef ms fs ps d V (.lO e th el)->cu Any (la Lf (.lO e th el)) (eN (.lO e th el)) (64*eN (.lO e th el)-10):=by
  intro e th el i1 i2 d V Lf hV ht hw
  cases d with
  | zero=>simp[ef] at hw
  | succ d=>
   simp only[ef] at hw;have h1:=i1 d V _ hV ht.Fq hw.2.1;have h2:=i2 d V _ hV ht.Fq hw.2.2;have h3:=((((L3.an (cu.ex hV 2 e hw.1)).st z4 32 _ rfl O3).an h1).an ht.seg).an rP;simp only[la,eN];split
   ·exact (h3.an (cu.nil Any)).mono Ut Ut
   ·exact (h3.an (((GD.an h2).an ht.seg).an rP)).mono Ut Ut
 have A6:∀ (e:Ex) (th:List Sm),(∀ d V Lf,(∀ x∈V,dG x)->gM d Lf->dn ms fs ps d V th->cu Any (jz Lf th) (bZ th) (64*bZ th))->∀ d V Lf,(∀ x∈V,dG x)->gM d Lf->ef ms fs ps d V (.dh e th)->cu Any (la Lf (.dh e th)) (eN (.dh e th)) (64*eN (.dh e th)-10):=by
  intro e th i1 d V Lf hV ht hw
  cases d with
  | zero=>simp[ef] at hw
  | succ d=>
   simp only[ef] at hw;have h1:=i1 d V _ hV ht.Fq hw.2;have h3:=((((EM.an (cu.ex hV 2 e hw.1)).st z4 32 _ rfl O3).an h1).an ht.seg).an rP;simp only[la,eN];exact h3.mono Ut Ut
 have A8:∀ (s:Sm) (r:List Sm),(∀ d V Lf,(∀ x∈V,dG x)->gM d Lf->ef ms fs ps d V s->cu Any (la Lf s) (eN s) (64*eN s-10))->(∀ d V Lf,(∀ x∈V,dG x)->gM d Lf->dn ms fs ps d V r->cu Any (jz Lf r) (bZ r) (64*bZ r))->∀ d V Lf,(∀ x∈V,dG x)->gM d Lf->dn ms fs ps d V (s::r)->cu Any (jz Lf (s::r)) (bZ (s::r)) (64*bZ (s::r)):=by
  intro s r i1 i2 d V Lf hV ht hw;simp only[dn] at hw;have ZY:∀ x∈V++ek s,dG x:=by
   intro x hx;rcases mem_append.1 hx with hx | hx
   ·exact hV x hx
   ·cases s<;>simp only[ek,mem_singleton,not_mem_nil] at hx;subst hx;have:=hw.1;simp only[ef] at this;obtain⟨⟨k,hk,rfl⟩,_⟩:=this;exact Vf k hk
  have h1:=i1 d V Lf hV ht hw.1;have h2:=i2 d _ Lf ZY ht hw.2;have hp:=VN s;have Vl:cu Any tNl 0 1:=cu.K0 O3;simp only[jz,bZ];exact (((ht.seg.an h1).an Vl).an h2).mono yA yA
 have A7:∀ d V Lf,(∀ x∈V,dG x)->gM d Lf->ef ms fs ps d V .jJ->cu Any (la Lf .jJ) (eN .jJ) (64*eN .jJ-10):=by
  intro d V Lf _ _ _;simp only[la,eN];exact Jl.mono yA yA
 have A0:∀ d V Lf,(∀ x∈V,dG x)->gM d Lf->dn ms fs ps d V []->cu Any (jz Lf []) (bZ []) (64*bZ []):=by
  intro d V Lf _ _ _;simp only[jz,bZ];exact cu.nil _
 refine⟨λ s d V Lf h1 h2 h3 _=>?_,λ l=>?_⟩
 ·exact Sm.rec (motive_1:=λ s=>∀ d V Lf,(∀ x∈V,dG x)->gM d Lf->ef ms fs ps d V s->cu Any (la Lf s) (eN s) (64*eN s-10)) (motive_2:=λ l=>∀ d V Lf,(∀ x∈V,dG x)->gM d Lf->dn ms fs ps d V l->cu Any (jz Lf l) (bZ l) (64*bZ l)) A1 A2 A3 A4 A5 A6 A7 A0 A8 s d V Lf h1 h2 h3
 ·exact Sm.rec_1 (motive_1:=λ s=>∀ d V Lf,(∀ x∈V,dG x)->gM d Lf->ef ms fs ps d V s->cu Any (la Lf s) (eN s) (64*eN s-10)) (motive_2:=λ l=>∀ d V Lf,(∀ x∈V,dG x)->gM d Lf->dn ms fs ps d V l->cu Any (jz Lf l) (bZ l) (64*bZ l)) A1 A2 A3 A4 A5 A6 A7 A0 A8 l
end
theorem cu.nT {n:Int}(h : -9223372036854775807<=n/\n<=9223372036854775807):cu Stop (lu n) 2 20:=by
 unfold Go.aV.lu;split
 ·exact ((jg 45 O3).an (cu.dig (n:=(-n).toNat) yA)).mono yA yA
 ·exact (cu.dig (n:=n.toNat) yA).mono yA yA
theorem oQ:cu Any ⟨#[59,10]⟩ 1 2:=⟨Nat.le_refl _,λ _ _ _ hl=>Lx.yY O3 O3 (Lx.sp O3 hl)⟩
theorem cu.gl {g:Gl}(h:dG g.name)(hi : -2<=g.init/\g.init<=2):cu Any (Lq g) 6 64:=by
 unfold Lq;split
 ·exact (((yF.an (cu.nm h)).app (cu.nil Stop) λ r hr=>hr).st oQ 59 _ rfl O3).mono yA yA
 ·have h1:cu Stop (GC++lu g.init) 3 23:=(Cj.an (cu.nT yA)).mono yA yA;exact (((yF.an (cu.nm h)).st h1 32 _ rfl O3).st oQ 59 _ rfl O3).mono yA yA
theorem cu.mx {m:Mx}(h:dG m.name)(hi:m.size<=3):cu Any (J2 m) 7 64:=by
 unfold J2;have h0:cu Any ((if m.re=true then ⟨#[114]⟩ else ⟨#[]⟩)++⟨#[109,117,116,101,120,32]⟩) 1 17:=by
  cases m.re with
  | true=>exact pz [114,109,117,116,101,120] _ O3 ⟨⟨_,_,rfl,by decide⟩,by decide,by decide⟩
  | false=>exact pz [109,117,116,101,120] _ O3 ⟨⟨_,_,rfl,by decide⟩,by decide,by decide⟩
 generalize (if m.re=true then (⟨#[114]⟩:ByteArray) else ⟨#[]⟩)++⟨#[109,117,116,101,120,32]⟩=pre at h0 |-;split
 ·exact (((h0.an (cu.nm h)).app (cu.nil Stop) λ r hr=>hr).st oQ 59 _ rfl O3).mono yA yA
 ·have h1:cu Any (⟨#[91]⟩++lu m.size++⟨#[93]⟩) 4 22:=(((jg 91 O3).an (cu.nT yA)).st (jg 93 O3) 93 _ rfl O3).mono yA yA;exact (((h0.an (cu.nm h)).st h1 91 _ (by rw[gL,gL];rfl) O3).an oQ).mono yA yA
theorem Fa (l:List Pm)(r:List UInt8)(hr:Stop r):Stop (bs (vf false l)++r):=by
 cases l with
 | nil=>exact hr
 | cons a t=>
  rw[vf];simp only[Bool.false_eq_true,if_false,gL];exact Stop.cons _ O3
theorem cu.pR:∀ (first:Bool) {l:List Pm},(∀ p∈l,dG p.name)->cu Stop (vf first l) (3*l.length) (40*l.length)
 | _,[],_=>cu.nil _
 | first,p::l,h=>by
  have hn:=(cu.nm (h p mem_cons_self)).app (cu.pR false λ q hq=>h q (mem_cons_of_mem _ hq)) λ r hr=>Fa l r hr;have hm:cu Any (if p.mutex=true then ⟨#[109,117,116,101,120,32]⟩ else ⟨#[]⟩) 1 17:=by
   cases p.mutex with
   | true=>exact xf
   | false=>exact (cu.nil Any).mono yA yA
  have hf:cu Any (if first=true then ⟨#[]⟩ else ⟨#[44,32]⟩) 1 2:=by
   cases first with
   | true=>exact (cu.nil Any).mono yA yA
   | false=>exact BC
  rw[Go.aV.vf];have h1:=(hf.an hm).an hn;rw[<- ByteArray.append_assoc] at h1;exact h1.mono Xy Xy
theorem cu.cat {α:Type}(f:α->ByteArray)(k:α->Nat):∀ {l:List α},(∀ a∈l,cu Any (f a) (k a) (64*k a))->cu Any (jY f l) (l.map k).sum (64*(l.map k).sum)
 | [],_=>cu.nil _
 | a::r,h=>by
  rw[jY];have h1:=(h a mem_cons_self).an (cu.cat f k λ b hb=>h b (mem_cons_of_mem _ hb));exact h1.mono PA PA
theorem DR (s:ByteArray)(h:(match bs s with | c::_=>isLet c | []=>false)=true/\(bs s).all fM=true/\(bs s).length<=16):dG s:=by
 refine⟨?_,h.2⟩;have h1:=h.1
 cases hb:bs s with
 | nil=>rw[hb] at h1;cases h1
 | cons c t=>
  rw[hb] at h1;exact⟨c,t,rfl,h1⟩
theorem nG_ok:∀ s∈nG,dG s:=λ s hs=>DR s ((by decide:∀ s∈nG,(match bs s with | c::_=>isLet c | []=>false)=true/\(bs s).all fM=true/\(bs s).length<=16) s hs)
theorem nM_ok:∀ s∈nM,dG s:=λ s hs=>DR s ((by decide:∀ s∈nM,(match bs s with | c::_=>isLet c | []=>false)=true/\(bs s).all fM=true/\(bs s).length<=16) s hs)
theorem nF_ok:∀ s∈nF,dG s:=λ s hs=>DR s ((by decide:∀ s∈nF,(match bs s with | c::_=>isLet c | []=>false)=true/\(bs s).all fM=true/\(bs s).length<=16) s hs)
theorem nP_ok:∀ s∈nP,dG s:=λ s hs=>DR s ((by decide:∀ s∈nP,(match bs s with | c::_=>isLet c | []=>false)=true/\(bs s).all fM=true/\(bs s).length<=16) s hs)
theorem y8 {α:Type}{f:α->ByteArray}{l:List α}{ns:List ByteArray}(h:∀ s∈l.map f,s∈ns)(hn:∀ s∈ns,dG s):∀ a∈l,dG (f a):=λ _a ha=>hn _ (h _ (mem_map_of_mem ha))
theorem kM.ng {p:Pg}(h:kM p):∀ g∈p.gs,dG g.name:=by
 obtain⟨k,_,hk⟩:=h.gn;exact y8 (λ s hs=>by rw[hk] at hs;exact mem_of_mem_take hs) nG_ok
theorem kM.nm {p:Pg}(h:kM p):∀ g∈p.ms,dG g.name:=by
 obtain⟨k,_,_,hk⟩:=h.mn;exact y8 (λ s hs=>by rw[hk] at hs;exact mem_of_mem_take hs) nM_ok
theorem kM.nf {p:Pg}(h:kM p):∀ g∈p.fs,dG g.name:=by
 obtain⟨k,_,_,hk⟩:=h.fn;exact y8 (λ s hs=>by rw[hk] at hs;exact mem_of_mem_take hs) nF_ok
theorem kM.np {p:Pg}(h:kM p):∀ f∈p.fs,∀ q∈f.params,dG q.name:=λ f hf=>by
 obtain⟨k,_,hk⟩:=h.pn f hf;exact y8 (λ s hs=>by rw[hk,mem_reverse] at hs;exact mem_of_mem_take hs) nP_ok
theorem kM.nv {p:Pg}(h:kM p):∀ f∈p.fs,∀ s∈jO p.gs f.params,dG s:=λ f hf s hs=>by
 rcases vn hs with hs | hs
 ·rw[mem_map] at hs;obtain⟨g,hg,rfl⟩:=hs;exact h.ng g hg
 ·rw[mem_map] at hs;obtain⟨g,hg,rfl⟩:=hs;exact h.np f hf g hg
theorem cu.fu {p:Pg}(h:kM p){f:Fu}(hf:f∈p.fs):cu Any (Ga f) (12+bZ f.body) (64*(12+bZ f.body)):=by
 have hb:=(cu.lines (ms:=p.ms) (fs:=p.fs.map λ f=>(f.name,f.params)) (ps:=f.params) h.nm (λ x hx=>by
  rw[mem_map] at hx;obtain⟨g,hg,rfl⟩:=hx;exact h.nf g hg) (h.np f hf)).2 f.body 2 (jO p.gs f.params) qu (h.nv f hf) ⟨by decide,by decide⟩ (h.bd f hf)
 obtain⟨k,hk,T5⟩:=h.pn f hf;have hlen:f.params.length<=2:=by
  have:=congrArg length T5;simp[nP] at this;omega
 have Tt:cu Any ⟨#[102,117,110,99,32]⟩ 1 17:=pz [102,117,110,99] _ rfl ⟨⟨_,_,rfl,by decide⟩,by decide,by decide⟩;have ho:cu Any ⟨#[41,32,123,10]⟩ 2 4:=⟨Nat.le_refl _,λ _ _ _ hl=>Lx.yY O3 O3 (Lx.sp O3 (Lx.yY O3 O3 (Lx.sp O3 hl)))⟩;have hc:cu Any ⟨#[125,10]⟩ 1 2:=⟨Nat.le_refl _,λ _ _ _ hl=>Lx.yY O3 O3 (Lx.sp O3 hl)⟩;unfold Ga;exact ((((((Tt.an (cu.nm (h.nf f hf))).st (jg 40 O3) 40 _ rfl O3).an (cu.pR true (h.np f hf))).st ho 41 _ rfl O3).an hb).an hc).mono yA yA
theorem EN {α:Type}(l:List α)(c:Nat):(l.map λ _=>c).sum=c*l.length:=by
 induction l with
 | nil=>simp
 | cons _ r ih=>simp[ih,Nat.mul_add];omega
theorem sum_add {α:Type}(l:List α)(c:Nat)(f:α->Nat):(l.map λ a=>c+f a).sum=c*l.length+(l.map f).sum:=by
 induction l with
 | nil=>simp
 | cons a r ih=>simp[ih,Nat.mul_add];omega
theorem Mw {p:Pg}(h:kM p):Lx (bs (Fc p)) 4000/\(bs (Fc p)).length<=262144:=by
 have h1:=cu.cat Lq (λ _=>6) (l:=p.gs) λ g hg=>(cu.gl (h.ng g hg) (h.gi g hg)).mono (Nat.le_refl _) yA;have h2:=cu.cat J2 (λ _=>7) (l:=p.ms) λ g hg=>(cu.mx (h.nm g hg) (h.mz g hg).1).mono (Nat.le_refl _) yA;have h3:=cu.cat Ga (λ f=>12+bZ f.body) (l:=p.fs) λ g hg=>cu.fu h hg;rw[EN] at h1 h2;rw[sum_add] at h3;have hw:=h.wt;obtain⟨k1,RU,e1⟩:=h.gn;obtain⟨k2,_,Uo,e2⟩:=h.mn;obtain⟨k3,_,hk3,e3⟩:=h.fn;have l1:=congrArg length e1;have l2:=congrArg length e2;have l3:=congrArg length e3;simp[nG] at l1;simp[nM] at l2;simp[nF] at l3;obtain⟨hb,hl⟩:=(h1.an h2).an h3;refine⟨?_,?_⟩
 ·have:=hl [] 0 trivial (.nil 0);rw[append_nil] at this;exact this.mono yA
 ·unfold Fc;omega
end Go.aV
namespace Go.Proofs.YtlkmbdfhdknlgaaGreat
open Go.Can Go.aV List Tryz
theorem iV (x y:ByteArray):lW .eql x y=some (.bool (decide (x=y))):=by
 have h:(x.toList == y.toList)=decide (x=y):=by
  rw[ByteArray.toList_eq,ByteArray.toList_eq,Bool.eq_iff_iff];simp only[beq_iff_eq,decide_eq_true_eq,Array.toList_inj];exact⟨λ h=>ByteArray.ext h,λ h=>by rw[h]⟩
 simp only[lW,h]
theorem j4 (x y:ByteArray):lW .neq x y=some (.bool (!decide (x=y))):=by
 have h:=iV x y;simp only[lW,Option.some.injEq,CV.bool.injEq] at h |-;rw[h]
theorem az (x y:ByteArray)(h:x.size+y.size<=9223372036854775807):lW .add x y=some (.str (x++y)):=by
 simp only[lW,if_pos h]
theorem HK (c:UInt8):isLet c=((decide ((97:Int)<=c.toNat) && decide ((c.toNat:Int)<=122)) || (decide ((65:Int)<=c.toNat) && decide ((c.toNat:Int)<=90)) || ((c.toNat:Int) == 95)):=by
 rw[Bool.eq_iff_iff];simp only[isLet,Bool.or_eq_true,Bool.and_eq_true,decide_eq_true_eq,beq_iff_eq];omega
theorem HL (c:UInt8):dw c=(decide ((48:Int)<=c.toNat) && decide ((c.toNat:Int)<=57)):=by
 rw[Bool.eq_iff_iff];simp only[dw,Bool.and_eq_true,decide_eq_true_eq];omega
theorem lZ (c:UInt8):af prog 138 [.int .u8 c.toNat] (.bool (isLet c)):=by
 rw[HK];generalize (c.toNat:Int)=n;refine af.aC ag Tryz.func138 rfl GK (by simp[Tryz.ntmps138]) rfl λ C hC OR=>?_;rw[Tryz.ntmps138] at hC;apply aq;simp[hC];by_cases h1:97<=n
 ·by_cases h2:n<=122
  ·apply aq;simp[hC,h1,h2];apply T.ret;apply aa.here;simp[Tryz.results138]
  ·have h3:65<=n:=by omega
   have h4:¬ n<=90:=by omega
   apply aq;simp[hC,h1,h2,h3,h4];apply T.ret;apply aa.here;simp[Tryz.results138]
 ·by_cases h3:65<=n
  ·by_cases h4:n<=90
   ·apply aq;simp[hC,h1,h3,h4];apply T.ret;apply aa.here;simp[Tryz.results138]
   ·apply aq;simp[hC,h1,h3,h4];apply T.ret;apply aa.here;simp[Tryz.results138]
  ·apply aq;simp[hC,h1,h3];apply T.ret;apply aa.here;simp[Tryz.results138]
theorem mc (c:UInt8):af prog 139 [.int .u8 c.toNat] (.bool (dw c)):=by
 rw[HL];generalize (c.toNat:Int)=n;refine af.aC ag Tryz.func139 rfl GK (by simp[Tryz.ntmps139]) rfl λ C hC OR=>?_;rw[Tryz.ntmps139] at hC;apply aq;simp[hC];by_cases h1:48<=n
 ·apply aq;simp[hC,h1];apply T.ret;apply aa.here;simp[Tryz.results139]
 ·apply aq;simp[hC,h1];apply T.ret;apply aa.here;simp[Tryz.results139]
def hasB (l:List ByteArray)(s:ByteArray):Bool:=l.any λ x=>decide (x=s)
theorem zj (l:List ByteArray)(s:ByteArray)(hl:l.length<=1000):af prog 173 [strs l,.str s] (.bool (hasB l s)):=by
 refine af.aC ag Tryz.func173 rfl GK (by simp[Tryz.ntmps173]) rfl λ C hC OR=>?_;rw[Tryz.ntmps173] at hC;apply aq;simp[hC];apply aT;simp[hC];apply T.block;refine T.aQ (λ m st=>∃ i:Nat,m=l.length-i/\i<=l.length/\hasB l s=hasB (l.drop i) s/\st=⟨[(5,I i),(0,strs l),(1,.str s)],[],0⟩) (n:=l.length) ?_ ?_
 ·refine aa.le (Le.env [5,0,1]) (aa.here ⟨0,by omega,by omega,by simp,?_⟩);simp
 ·rintro n st ⟨i,rfl,hi,hni,rfl⟩;by_cases OP:i<l.length
  ·have OS:=jq OP;have hw:=cw ((i:Int)+1) yA yA;apply aT;simp[hC,strs,OP];refine iI ?_;simp;apply eZ;apply aq;simp[hC,OP,OS,iV];refine T.bB rfl (λ h=>?_) (λ h=>?_)
   ·have he:l.getD i eS=s:=by simpa [OP] using h
    apply aq;simp[hC];apply T.ret;apply aa.here;have hb:hasB l s=true:=by
     unfold hasB;rw[any_eq_true];exact⟨s,he ▸ jt OP eS,by simp⟩
    simp[Tryz.results173,hb]
   ·have he:¬ l.getD i eS=s:=by simpa [OP] using h
    apply T.skip;simp;apply aG;simp[hC,hw];refine⟨l.length-(i+1),by omega,?_⟩;refine aa.le (Le.env [5,0,1]) (aa.here ⟨i+1,rfl,by omega,?_,?_⟩)
    ·rw[hni,drop_eq_getElem_cons OP];have e2:l[i]=l.getD i eS:=by simp[OP]
     simp only[hasB,any_cons,e2,he,decide_false,Bool.false_or]
    ·simp
  ·have OV:i=l.length:=by omega
   have hb:hasB l s=false:=by rw[hni,OV,drop_length];rfl
   apply aT;simp[hC,strs,OP];refine bh ?_;simp;apply T.exit;simp;apply aq;simp[hC];apply T.ret;apply aa.here;simp[Tryz.results173,hb]
def Mh:List ByteArray:=[⟨#[118,97,114]⟩,⟨#[109,117,116,101,120]⟩,⟨#[114,109,117,116,101,120]⟩,⟨#[102,117,110,99]⟩,⟨#[108,111,99,107]⟩,⟨#[117,110,108,111,99,107]⟩,⟨#[103,111]⟩,⟨#[105,102]⟩,⟨#[101,108,115,101]⟩,⟨#[119,104,105,108,101]⟩,⟨#[114,101,116,117,114,110]⟩]
theorem JD:Mh.map bs=r8:=rfl
theorem Nt {a b:ByteArray}(h:bs a=bs b):a=b:=by
 unfold bs at h;exact ByteArray.ext (Array.toList_inj.1 h)
theorem HW (s:ByteArray):hasB Mh s=decide (bs s∈r8):=by
 rw[Bool.eq_iff_iff,decide_eq_true_eq,<- JD];unfold hasB;rw[any_eq_true,mem_map];constructor
 ·rintro⟨x,h1,h2⟩;exact⟨x,h1,by rw[of_decide_eq_true h2]⟩
 ·rintro⟨x,h1,h2⟩;exact⟨x,h1,by rw[Nt h2];simp⟩
theorem sQ (s:ByteArray):af prog 140 [.str s] (.bool (decide (bs s∈r8))):=by
 refine af.aC ag Tryz.func140 rfl GK (by simp[Tryz.ntmps140]) rfl λ C hC OR=>?_;rw[Tryz.ntmps140] at hC;apply aq;simp[hC];apply aq;simp[hC];refine TL.le (Le.cF (o:=0) rfl rfl) ?_;simp[cK];have h:=zj Mh s O3;rw[HW] at h;refine ct O4 (h) ?_;simp[hC];apply T.ret;apply aa.here;simp[Tryz.results140]
def dS (l:List UInt8):CV:=.au (l.map λ x=>.int .u8 (x.toNat:Int)) l.length
theorem lL {l:List UInt8}{i:Nat}{c:UInt8}(h:l[i]? = some c):(l.map λ x=>CV.int .u8 (x.toNat:Int)).drop i=.int .u8 (c.toNat:Int)::(l.map λ x=>CV.int .u8 (x.toNat:Int)).drop (i+1):=by
 obtain⟨h1,h2⟩:=List.getElem?_eq_some_iff.1 h;rw[drop_eq_getElem_cons (by simpa using h1)];simp[h2]
theorem Kj (c:UInt8):jc c=((c.toNat:Int) == 32 || (c.toNat:Int) == 9 || (c.toNat:Int) == 10 || (c.toNat:Int) == 13):=by
 have h:∀ k:UInt8,(c == k)=((c.toNat:Int) == (k.toNat:Int)):=λ k=>by
  rw[Bool.eq_iff_iff,beq_iff_eq,beq_iff_eq];constructor
  ·intro h;rw[h]
  ·intro h;exact UInt8.toNat_inj.1 yA
 simp only[jc,h];rfl
theorem GO {c:UInt8}{r:List UInt8}:rF (c::r)=if jc c=true then rF r+1 else 0:=by
 unfold rF;rw[takeWhile_cons];split<;>simp
theorem iw {l:List UInt8}{i:Nat}{c:UInt8}(h:l[i]? = some c):l.drop i=c::l.drop (i+1):=by
 obtain⟨h1,h2⟩:=List.getElem?_eq_some_iff.1 h;rw[drop_eq_getElem_cons h1,h2]
theorem DA (l:List UInt8)(Vs:Nat)(Th:Vs<=l.length)(hl:l.length<=1000000)(Vq:∀ r,l.drop (Vs+rF (l.drop Vs))=47::r->r.head?≠some 47):af prog 137 [dS l,I Vs] (I ((Vs+rF (l.drop Vs):Nat))):=by
 obtain⟨e,he⟩:∃ e,Vs+rF (l.drop Vs)=e:=⟨_,rfl⟩;rw[he] at Vq |-;refine af.aC ag Tryz.func137 rfl GK (by simp[Tryz.ntmps137]) rfl λ C hC OR=>?_;rw[Tryz.ntmps137] at hC;apply aq;simp[hC];apply eZ;refine T.aQ (λ m st=>∃ i:Nat,m=l.length-i/\i<=l.length/\i+rF (l.drop i)=e/\st=⟨[(0,dS l),(1,I i)],[],0⟩) (n:=l.length-Vs) ?_ ?_
 ·refine aa.le (Le.env [0,1]) (aa.here ⟨Vs,rfl,Th,he,?_⟩);simp
 ·rintro n st ⟨i,rfl,hi,OV,rfl⟩;by_cases OP:i<l.length
  ·obtain⟨c,hc⟩:∃ c,l[i]? = some c:=⟨l[i],getElem?_eq_getElem OP⟩;have OS:=lL hc;have hd:=iw hc;rw[hd,GO] at OV;have hw:=cw ((i:Int)+1) yA yA;apply aT;simp[hC,dS,OP];refine iI ?_;simp;refine T.block (T.block ?_);refine T.cut (λ st=>st=⟨[(10,.bool (jc c)),(0,dS l),(1,I i)],[],0⟩) ?_ ?_
   ·rw[Kj];generalize (c.toNat:Int)=n at OS;by_cases h1:n=32
    ·apply aG;simp[hC,h1,OP,OS];refine aa.le (Le.env [10,0,1]) (aa.here ?_);simp[dS]
    have h1:(n == 32)=false:=by simp[h1]
    by_cases h2:n=9
    ·apply aG;simp[hC,h2,OP,OS];refine aa.le (Le.env [10,0,1]) (aa.here ?_);simp[dS]
    have h2:(n == 9)=false:=by simp[h2]
    by_cases h3:n=10
    ·apply aG;simp[hC,h3,OP,OS];refine aa.le (Le.env [10,0,1]) (aa.here ?_);simp[dS]
    have h3:(n == 10)=false:=by simp[h3]
    apply aG;simp[hC,h1,h2,h3,OP,OS];refine aa.le (Le.env [10,0,1]) (aa.here ?_);simp[dS]
   ·rintro st rfl;refine T.bB rfl (λ h=>?_) (λ h=>?_)
    ·rw[h,if_pos rfl] at OV;apply aG;simp[hC,hw];refine⟨l.length-(i+1),by omega,?_⟩;refine aa.le (Le.env [0,1]) (aa.here ⟨i+1,rfl,by omega,by omega,?_⟩);simp[dS]
    ·have h':jc c=false:=by simpa using h
     rw[h',if_neg xr] at OV;have V2:e=i:=by omega
     subst V2;rw[hd] at Vq
          /- no comment -/
     refine T.cut (λ st=>st=⟨[(39,.bool false),(0,dS l),(1,I e)],[],0⟩) ?_ ?_
     ·by_cases h2:e+1<l.length
      ·obtain⟨c2,Qk⟩:∃ c2,l[e+1]? = some c2:=⟨l[e+1],getElem?_eq_getElem h2⟩;have QY:=lL Qk;have Td:=iw Qk;have SH:(e:Int)+1<l.length:=by omega
       by_cases h4:(c.toNat:Int)=47
       ·have h5:¬ (c2.toNat:Int)=47:=by
         have hc47:c=47:=UInt8.toNat_inj.1 (by have:(47:UInt8).toNat=47:=rfl;omega);subst hc47;have Vq:=Vq _ rfl;rw[Td] at Vq;have:c2≠47:=λ h=>Vq (by simp[h]);intro h;exact this (UInt8.toNat_inj.1 (by have:(47:UInt8).toNat=47:=rfl;omega))
        apply aG;simp[hC,h4,OP,OS,hw,SH,QY,dS];refine aa.le (Le.env [39,0,1]) (aa.here ?_);simp[h5]
       ·have h4:((c.toNat:Int) == 47)=false:=by simp[h4]
        apply aG;simp[hC,h4,OP,OS,hw,SH,dS];refine aa.le (Le.env [39,0,1]) (aa.here ?_);simp
      ·have SH:¬ (e:Int)+1<l.length:=by omega
       apply aG;simp[hC,hw,SH,dS];refine aa.le (Le.env [39,0,1]) (aa.here ?_);simp
     ·rintro st rfl;refine bh ?_;simp;apply aq;simp[hC];apply T.ret;apply aa.here;simp[Tryz.results137]
  ·have hie':i=l.length:=by omega
   have X6:e=i:=by
    rw[hie',drop_length] at OV;have:rF ([]:List UInt8)=0:=rfl;omega
   apply aT;simp[hC,dS,OP];refine bh ?_;simp;apply T.exit;simp;apply aq;simp[hC];apply T.ret;apply aa.here;simp[Tryz.results137,X6]
theorem sB (w:List UInt8)(c:UInt8):lI (w++[c])=10*lI w+(c.toNat-48):=by simp[lI]
theorem Kz (w:List UInt8)(r:List UInt8):lI w<=lI (w++r):=by
 induction r generalizing w with
 | nil=>simp
 | cons c r ih=>
  have h1:=ih (w++[c]);rw[sB] at h1;rw[append_assoc] at h1;have:lI w<=10*lI w+(c.toNat-48):=by omega
  exact Nat.le_trans this h1
theorem wO (l:List UInt8)(hl:l.length<=1000000)(hd:l.all dw=true)(hv:lI l<9223372036854775808):af prog 141 [dS l] (I (lI l)):=by
 refine af.aC ag Tryz.func141 rfl GK (by simp[Tryz.ntmps141]) rfl λ C hC OR=>?_;rw[Tryz.ntmps141] at hC;apply aq;simp[hC];apply aq;simp[hC];apply aT;simp[hC];apply T.block;refine T.aQ (λ m st=>∃ i:Nat,m=l.length-i/\i<=l.length/\st=⟨[(4,I i),(3,I (lI (l.take i))),(0,dS l)],[],0⟩) (n:=l.length) ?_ ?_
 ·refine aa.le (Le.env [4,3,0]) (aa.here ⟨0,by omega,by omega,?_⟩);simp[lI]
 ·rintro n st ⟨i,rfl,hi,rfl⟩;by_cases OP:i<l.length
  ·obtain⟨c,hc⟩:∃ c,l[i]? = some c:=⟨l[i],getElem?_eq_getElem OP⟩;have OS:=lL hc;have Pb:l.take (i+1)=l.take i++[c]:=by rw[take_add_one,hc];rfl
   have V7:48<=c.toNat/\c.toNat<=57:=by
    have:=all_eq_true.1 hd c (mem_of_getElem? hc)
    simpa [dw] using this
   have hle:=Kz (l.take (i+1)) (l.drop (i+1));rw[take_append_drop,Pb,sB] at hle;have hw:=cw ((i:Int)+1) yA yA;generalize hdv:lI (l.take i)=d at hle;have w1:IntKind.u8.wrap ((c.toNat:Int)-48)=(c.toNat:Int)-48:=IntWalk.u8_in _ yA;have w2:=cw ((c.toNat:Int)-48) yA yA;have w3:=cw (9223372036854775807-((c.toNat:Int)-48)) yA yA;have w4:(9223372036854775807-((c.toNat:Int)-48)).tdiv 10=(9223372036854775807-((c.toNat:Int)-48)) / 10:=Int.tdiv_eq_ediv_of_nonneg yA;have w5:=cw ((9223372036854775807-((c.toNat:Int)-48)) / 10) yA yA;have w6:=cw (10*(d:Int)) yA yA;have w7:=cw (10*(d:Int)+((c.toNat:Int)-48)) yA yA;have w8:¬ (9223372036854775807-((c.toNat:Int)-48)) / 10<(d:Int):=by omega
   apply aT;simp[hC,dS,OP];refine iI ?_;simp;apply eZ;refine T.seq (T.B1 ag ?_);simp[hC,OP,OS,w1,w2];apply aT;simp[hC,w3,w4,w5];refine T.bB rfl (λ h=>?_) (λ h=>?_)
   ·simp at h;omega
   apply T.skip;simp;apply aG;simp[hC,w6,w7];apply aG;simp[hC,hw];refine⟨l.length-(i+1),by omega,?_⟩;refine aa.le (Le.env [4,3,0]) (aa.here ⟨i+1,rfl,by omega,?_⟩);rw[Pb,sB,hdv];simp;omega
  ·have OV:i=l.length:=by omega
   apply aT;simp[hC,dS,OP];refine bh ?_;simp;apply T.exit;simp;apply aq;simp[hC];apply T.ret;apply aa.here;simp[Tryz.results141,OV]
def L2:List ByteArray:=[⟨#[60,61]⟩,⟨#[62,61]⟩,⟨#[61,61]⟩,⟨#[33,61]⟩,⟨#[38,38]⟩,⟨#[124,124]⟩]
def JV:List ByteArray:=[⟨#[40]⟩,⟨#[41]⟩,⟨#[123]⟩,⟨#[125]⟩,⟨#[91]⟩,⟨#[93]⟩,⟨#[44]⟩,⟨#[59]⟩,⟨#[61]⟩,⟨#[43]⟩,⟨#[45]⟩,⟨#[42]⟩,⟨#[47]⟩,⟨#[37]⟩,⟨#[60]⟩,⟨#[62]⟩,⟨#[33]⟩]
theorem HV (a b:UInt8):hasB L2 ⟨#[a,b]⟩=decide ((a,b)∈rM):=by
 rw[Bool.eq_iff_iff,decide_eq_true_eq];simp only[hasB,L2,rM,any_cons,any_nil,Bool.or_eq_true,decide_eq_true_eq,ByteArray.mk.injEq,mem_cons,not_mem_nil,Prod.mk.injEq,Bool.false_eq_true];simp only[Array.mk.injEq,cons.injEq,and_true];constructor
 ·rintro (⟨rfl,rfl⟩ | ⟨rfl,rfl⟩ | ⟨rfl,rfl⟩ | ⟨rfl,rfl⟩ | ⟨rfl,rfl⟩ | ⟨rfl,rfl⟩ | h)<;>first | exact h.elim | simp
 ·rintro (⟨rfl,rfl⟩ | ⟨rfl,rfl⟩ | ⟨rfl,rfl⟩ | ⟨rfl,rfl⟩ | ⟨rfl,rfl⟩ | ⟨rfl,rfl⟩ | h)<;>first | exact h.elim | simp
theorem Ba (a:UInt8):hasB JV ⟨#[a]⟩=decide (a∈mB):=by
 rw[Bool.eq_iff_iff,decide_eq_true_eq];simp only[hasB,JV,mB,any_cons,any_nil,Bool.or_eq_true,decide_eq_true_eq,ByteArray.mk.injEq,mem_cons,not_mem_nil,Bool.false_eq_true];simp only[Array.mk.injEq,cons.injEq,and_true];simp only[eq_comm]
theorem Jk (c:UInt8):(c.toNat:Int)<256:=by
 have:=c.toNat_lt;omega
theorem oC:∀ l:List UInt8,bytesOf (l.map λ x=>CV.int .u8 (x.toNat:Int))=some l
 | []=>rfl
 | c::r=>by
  have h:=Jk c;simp[bytesOf,oC r,h]
theorem Ju (l:List UInt8)(i:Nat)(OP:i<l.length)(hl:l.length<=1000000):af prog 142 [dS l,I i] (I (uy (l.drop i))):=by
 obtain⟨c,hc⟩:∃ c,l[i]? = some c:=⟨l[i],getElem?_eq_getElem OP⟩;have OS:=lL hc;have hd:=iw hc;have hw:=cw ((i:Int)+1) yA yA;have hw2:=cw ((i:Int)+2) yA yA;rw[hd];refine af.aC ag Tryz.func142 rfl GK (by simp[Tryz.ntmps142]) rfl λ C hC OR=>?_;rw[Tryz.ntmps142] at hC;apply aq;simp[hC];by_cases h2:i+1<l.length
 ·obtain⟨c2,Qk⟩:∃ c2,l[i+1]? = some c2:=⟨l[i+1],getElem?_eq_getElem h2⟩;have QY:=lL Qk;have Td:=iw Qk;rw[Td];have SH:(i:Int)+1<l.length:=by omega
  have h3:i+2<=l.length:=by omega
  have z2:(0:Int)<=(i:Int)+2:=by omega
  have t2:((i:Int)+2).toNat=i+2:=by omega
  have e2:i+2-i=2:=by omega
  refine T.seq (T.seq (T.B1 ag ?_));simp[hC,dS,hw,hw2,SH,h3,OS,QY,z2,t2,e2,Jk];refine TL.le (Le.cF (o:=0) rfl rfl) ?_;simp[cK];have h:=zj L2 ⟨#[c,c2]⟩ O3;rw[HV] at h;refine TL.cU OU rfl rfl rfl rfl (bR.of rfl O4 (h)) (TL.go' ag ?_);simp[hC];refine T.bB rfl (λ h=>?_) (λ h=>?_)
  ·have h4:(c,c2)∈rM:=by simpa using h
   apply aq;simp[hC];apply T.ret;apply aa.here;simp[Tryz.results142,uy,h4]
  ·have h4:(c,c2)∉rM:=by simpa using h
   apply T.skip;simp;have hs:uy (c::c2::l.drop (i+1+1))=if c∈mB then 1 else 0:=by simp[uy,h4]
   rw[hs];clear hs;refine T.le (Le.trim [0,1,4] [] 0 xr yA) ?_;simp;have h1:i+1<=l.length:=by omega
   have z1:(0:Int)<=(i:Int)+1:=by omega
   have t1:((i:Int)+1).toNat=i+1:=by omega
   have e1:i+1-i=1:=by omega
   refine T.seq (T.seq (T.B1 ag ?_));simp[hC,hw,h1,z1,t1,e1,OS,Jk];refine TL.le (Le.cF (o:=0) rfl rfl) ?_;simp[cK];have h:=zj JV ⟨#[c]⟩ O3;rw[Ba] at h;refine ct O4 (h) ?_;simp;refine T.bB rfl (λ h=>?_) (λ h=>?_)
   ·have h5:c∈mB:=by simpa using h
    apply aq;simp[hC];apply T.ret;apply aa.here;simp[Tryz.results142,h5]
   ·have h5:c∉mB:=by simpa using h
    apply T.skip;simp;apply aq;simp[hC];apply T.ret;apply aa.here;simp[Tryz.results142,h5]
 ·have SH:¬ (i:Int)+1<l.length:=by omega
  have Td:l.drop (i+1)=[]:=drop_eq_nil_of_le yA;rw[Td];have hs:uy [c]=if c∈mB then 1 else 0:=rfl
  rw[hs];clear hs;refine T.seq (T.seq (T.B1 ag ?_));simp[hC,dS,hw,SH];refine bh ?_;simp;apply T.skip;simp;refine T.le (Le.trim [0,1,4] [] 0 xr yA) ?_;simp;have h1:i+1<=l.length:=by omega
  have z1:(0:Int)<=(i:Int)+1:=by omega
  have t1:((i:Int)+1).toNat=i+1:=by omega
  have e1:i+1-i=1:=by omega
  refine T.seq (T.seq (T.B1 ag ?_));simp[hC,hw,h1,z1,t1,e1,OS,Jk];refine TL.le (Le.cF (o:=0) rfl rfl) ?_;simp[cK];have h:=zj JV ⟨#[c]⟩ O3;rw[Ba] at h;refine ct O4 (h) ?_;simp;refine T.bB rfl (λ h=>?_) (λ h=>?_)
  ·have h5:c∈mB:=by simpa using h
   apply aq;simp[hC];apply T.ret;apply aa.here;simp[Tryz.results142,h5]
  ·have h5:c∉mB:=by simpa using h
   apply T.skip;simp;apply aq;simp[hC];apply T.ret;apply aa.here;simp[Tryz.results142,h5]
end Go.Proofs.YtlkmbdfhdknlgaaGreat
