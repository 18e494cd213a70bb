/- The text of a program of the right form is right for Lex. No -/
import Derived.Test.YtlkmbdfhdknlgaaGreatDoorZ17
import Derived.Laws.Strings
namespace Go.aN
open Go.Can
section
variable {ms:List Mx}{fs:List (ByteArray×List Pm)}{ps:List Pm}(Py:∀ m∈ms,dh m.name)(Qf:∀ f∈fs,dh f.1)(PW:∀ p∈ps,dh p.name)
theorem iI (c:UInt8)(h:c∈mb∧c≠60∧c≠62∧c≠61∧c≠33∧c≠47):ca Any ⟨#[c]⟩ 1 1:=ca.sign h.1 h.2
theorem ca.Ku {s:ByteArray}(h:(bs s).all iC=true):ca Any s 0 (bs s).length:=by
 refine⟨Nat.le_refl _,fun r n _ hl=>?_⟩;generalize bs s=l at h
 induction l with
 | nil=>exact hl
 | cons c t ih=>
  simp only[List.all_cons,Bool.and_eq_true] at h;exact Lx.sp h.1 (ih h.2)
include Py PW in
theorem ca.rf {V:List ByteArray}(hV:∀ s∈V,dh s){r:Rf}(h:FR ms ps V r):ca Stop (B8 r) 10 186:=by
 have hn:dh r.name:=by
  rcases h with ⟨m,h1,h2,_⟩ | ⟨p,h1,_,h2,_⟩
  ·rw[h2];exact Py m h1
  ·rw[h2];exact PW p h1
 have h0:=ca.nm hn;unfold B8
 cases hi:r.index with
 | none=>exact h0.mono yA yA
 | some e=>
  have he:fK V 1 e:=by
   rcases h with ⟨m,_,_,h3 | ⟨e',h3,_,h5⟩⟩ | ⟨_,_,_,_,h3⟩
   ·rw[h3.1] at hi;cases hi
   ·rw[h3] at hi;cases hi;exact h5
   ·rw[h3] at hi;cases hi
  have h1:=(h0.app (iI 91 Oi) fun r _=>Stop.cons _ Oi).app (ca.ex hV 1 e he) fun _ _=>trivial;have h2:=h1.app (iI 93 Oi) fun r _=>Stop.cons _ Oi;exact (h2.any Stop).mono (by simp[BB]) (by simp[BB])
theorem oS (l:List UInt8)(s:ByteArray)(hs:bs s=l++[32])(h:(∃ c t,l=c::t∧isLet c=true)∧l.all fB=true∧l.length≤16):ca Any s 1 17:=ca.word h.1 h.2.1 h.2.2 s hs
theorem wJ:ca Any ⟨#[109,117,116,101,120,32]⟩ 1 17:=oS [109,117,116,101,120] _ rfl ⟨⟨_,_,rfl,by decide⟩,by decide,by decide⟩
include Py PW in
theorem ca.ar {V:List ByteArray}(hV:∀ s∈V,dh s){p:Pm}{a:Ar}(h:ArW ms ps V p a):ca Stop (NZ a) 19 456:=by
 cases a with
 | uX r=>
  simp only[ArW] at h;exact (wJ.app (ca.rf Py PW hV h.2) fun _ _=>trivial).mono yA yA
 | exp e=>
  simp only[ArW] at h;exact (ca.ex hV 2 e h.2).mono (by simp[BB]) (by simp[BB])
theorem Bb:ca Any ⟨#[44,32]⟩ 1 2:=⟨Nat.le_refl _,fun _ _ _ hl=>Lx.yp Oi Oi (Lx.sp Oi hl)⟩
theorem FD (l:List Ar)(r:List UInt8)(hr:Stop r):Stop (bs (vG false l)++r):=by
 cases l with
 | nil=>exact hr
 | cons a t=>
  rw[vG];simp only[Bool.false_eq_true,if_false,gB];exact Stop.cons _ Oi
include Py PW in
theorem ca.aR {V:List ByteArray}(hV:∀ s∈V,dh s):∀ (first:Bool) {gp:List Pm} {l:List Ar},ja ms ps V gp l→ca Stop (vG first l) (20*l.length) (458*l.length)
 | _,[],[],_=>ca.nil _
 | first,p::gp,a::l,h=>by
  simp only[ja] at h;have h1:=(ca.ar Py PW hV h.1).app (ca.aR hV false h.2) fun r hr=>FD l r hr;rw[Go.aN.vG,ByteArray.append_assoc]
  cases first with
  | true=>exact (((ca.nil Any).app h1 fun _ _=>trivial)).mono Xm Xm
  | false=>exact ((Bb.app h1 fun _ _=>trivial)).mono Xm Xm
 | _,[],_::_,h=>h.elim
 | _,_::_,[],h=>h.elim
include Py PW in
theorem ca.ars {V:List ByteArray}(hV:∀ s∈V,dh s){gp:List Pm}{l:List Ar}(h:ja ms ps V gp l):ca Any (tf l) (2+20*l.length) (2+458*l.length):=by
 have h1:=(iI 40 Oi).app (ca.aR Py PW hV true h) fun _ _=>trivial;have h2:=h1.app (iI 41 Oi) fun r _=>Stop.cons _ Oi;exact h2.mono yA yA
theorem xY:ca Any zC 1 17:=oS [118,97,114] _ rfl ⟨⟨_,_,rfl,by decide⟩,by decide,by decide⟩
theorem Lp:ca Any M5 1 17:=oS [103,111] _ rfl ⟨⟨_,_,rfl,by decide⟩,by decide,by decide⟩
theorem Gh:ca Any wK 1 17:=oS [108,111,99,107] _ rfl ⟨⟨_,_,rfl,by decide⟩,by decide,by decide⟩
theorem BU:ca Any nW 1 17:=oS [117,110,108,111,99,107] _ rfl ⟨⟨_,_,rfl,by decide⟩,by decide,by decide⟩
theorem Lo:ca Any M4 1 17:=oS [105,102] _ rfl ⟨⟨_,_,rfl,by decide⟩,by decide,by decide⟩
theorem Ev:ca Any xX 1 17:=oS [119,104,105,108,101] _ rfl ⟨⟨_,_,rfl,by decide⟩,by decide,by decide⟩
theorem BV:ca Any Gi 1 3:=⟨Nat.le_refl _,fun _ _ _ hl=>Lx.sp Oi (Lx.one Oi N3 (Lx.sp Oi hl))⟩
theorem qe:ca Any iS 1 1:=iI 59 Oi
theorem zD:ca Any qf 1 3:=⟨Nat.le_refl _,fun _ _ _ hl=>Lx.sp Oi (Lx.yp Oi Oi (Lx.sp Oi hl))⟩
theorem rz:ca Any kL 1 1:=iI 125 Oi
theorem Gj:ca Any zE 2 8:=⟨Nat.le_refl _,fun r n _ hl=>by
 refine Lx.sp Oi ?_;have h:=Tok.name (s:=[101,108,115,101]) ⟨_,_,rfl,by decide⟩ Oi (.inl Oi) (32::123::10::r) (n+1) (Stop.cons _ Oi) (Lx.sp Oi (Lx.yp Oi Oi (Lx.sp Oi hl)));exact h⟩
theorem I3:ca Any I4 2 7:=⟨Nat.le_refl _,fun r n _ hl=>by
 have h:=Tok.name (s:=[114,101,116,117,114,110]) ⟨_,_,rfl,by decide⟩ Oi (.inl Oi) (59::r) (n+1) (Stop.cons _ Oi) (Lx.yp Oi Oi hl);exact h⟩
theorem ca.st {S:List UInt8→Prop}{a b:ByteArray}{k k' m m':Nat}(h:ca Stop a k m)(h':ca S b k' m')(c:UInt8)(t:List UInt8)(hb:bs b=c::t)(hc:fB c=false∧c≠61∧c≠47):ca S (a++b) (k' + k) (m+m'):=
 h.app h' fun r _=>by rw[hb];exact Stop.cons _ hc
theorem ca.an {S:List UInt8→Prop}{a b:ByteArray}{k k' m m':Nat}(h:ca Any a k m)(h':ca S b k' m'):ca S (a++b) (k' + k) (m+m'):=h.app h' fun _ _=>trivial
def gC (d:Nat)(s:ByteArray):Prop:=(bs s).all iC=true∧(bs s).length+d≤3
theorem gC.more {d:Nat}{s:ByteArray}(h:gC (d+1) s):gC d (s++qd):=by
 refine⟨by rw[gB,List.all_append,h.1];rfl,?_⟩;rw[gB,List.length_append];have:=h.2;show _+1+d≤3;omega
theorem gC.seg {d:Nat}{s:ByteArray}(h:gC d s):ca Any s 0 3:=(ca.Ku h.1).mono (Nat.le_refl _) (by have:=h.2;omega)
include Py PW Qf
theorem ca.lines:(∀ s:Sm,∀ d V N5,(∀ x∈V,dh x)→gC d N5→dQ ms fs ps d V s→(∀ x,dS s=[x]→dh x)→ca Any (kM N5 s) (en s) (64*en s-10))∧
  (∀ l:List Sm,∀ d V N5,(∀ x∈V,dh x)→gC d N5→cM ms fs ps d V l→ca Any (jc N5 l) (bJ l) (64*bJ l)):=by
 have UO:∀ k,k<24→dh (fq k):=by
  intro k hk;refine⟨⟨118,_,gh k,by decide⟩,?_,by rw[gh];simp⟩;rw[gh];have:∀ k,k<24→List.all [118,UInt8.ofNat (97+k % 26),UInt8.ofNat (97+k / 26 % 26)] fB=true:=by decide
  exact this k hk
 have Q9:∀ s:Sm,2≤en s:=by intro s;cases s<;>simp only[en]<;>omega
 have A1:∀ (s:ByteArray) (e:Ex) d V N5,(∀ x∈V,dh x)→gC d N5→dQ ms fs ps d V (.gP s e)→ca Any (kM N5 (.gP s e)) (en (.gP s e)) (64*en (.gP s e)-10):=by
  intro s e d V N5 hV ht hw;simp only[dQ] at hw;obtain⟨⟨k,hk,rfl⟩,_,he⟩:=hw;simp only[kM,en];exact ((((xY.an (ca.nm (UO k hk))).st BV 32 _ rfl Oi).an (ca.ex hV 2 e he)).st qe 59 _ rfl Oi).mono (by simp[BB]) (by simp[BB])
 have A2:∀ (s:ByteArray) (e:Ex) d V N5,(∀ x∈V,dh x)→gC d N5→dQ ms fs ps d V (.iy s e)→ca Any (kM N5 (.iy s e)) (en (.iy s e)) (64*en (.iy s e)-10):=by
  intro s e d V N5 hV ht hw;simp only[dQ] at hw;simp only[kM,en];exact ((((ca.nm (hV s hw.1)).st BV 32 _ rfl Oi).an (ca.ex hV 2 e hw.2)).st qe 59 _ rfl Oi).mono (by simp[BB]) (by simp[BB])
 have A3:∀ (g:Bool) (s:ByteArray) (l:List Ar) d V N5,(∀ x∈V,dh x)→gC d N5→dQ ms fs ps d V (.dU g s l)→ca Any (kM N5 (.dU g s l)) (en (.dU g s l)) (64*en (.dU g s l)-10):=by
  intro g s l d V N5 hV ht hw;simp only[dQ] at hw;obtain⟨gp,h1,h2⟩:=hw;have hn:=ca.nm (Qf _ h1);have ha:=ca.ars Py PW hV h2;have hb:bs (tf l)=40::(bs (vG true l)++[41]):=by simp only[tf,gB];rfl
  have hg:ca Stop (if g=true then M5++s else s) 2 33:=by
   cases g with
   | true=>exact (Lp.an hn).mono yA yA
   | false=>exact hn.mono yA yA
  simp only[kM,en];exact ((hg.st ha 40 _ hb Oi).an qe).mono yA yA
 have A4:∀ (u:Bool) (r:Rf) d V N5,(∀ x∈V,dh x)→gC d N5→dQ ms fs ps d V (.dx u r)→ca Any (kM N5 (.dx u r)) (en (.dx u r)) (64*en (.dx u r)-10):=by
  intro u r d V N5 hV ht hw;simp only[dQ] at hw;have hr:=ca.rf Py PW hV hw;have hg:ca Any (if u=true then nW else wK) 1 17:=by
   cases u with
   | true=>exact BU
   | false=>exact Gh
  simp only[kM,en];exact ((hg.an hr).st qe 59 _ rfl Oi).mono yA yA
 have A5:∀ (e:Ex) (th el:List Sm),(∀ d V N5,(∀ x∈V,dh x)→gC d N5→cM ms fs ps d V th→ca Any (jc N5 th) (bJ th) (64*bJ th))→(∀ d V N5,(∀ x∈V,dh x)→gC d N5→cM ms fs ps d V el→ca Any (jc N5 el) (bJ el) (64*bJ el))→∀ d V N5,(∀ x∈V,dh x)→gC d N5→dQ ms fs ps d V (.lu e th el)→ca Any (kM N5 (.lu e th el)) (en (.lu e th el)) (64*en (.lu e th el)-10):=by
  intro e th el i1 i2 d V N5 hV ht hw
  cases d with
  | zero=>simp[dQ] at hw
  | succ d=>
   simp only[dQ] at hw;have h1:=i1 d V _ hV ht.more hw.2.1;have h2:=i2 d V _ hV ht.more hw.2.2;have h3:=((((Lo.an (ca.ex hV 2 e hw.1)).st zD 32 _ rfl Oi).an h1).an ht.seg).an rz;simp only[kM,en];split
   ·exact (h3.an (ca.nil Any)).mono TU TU
   ·exact (h3.an (((Gj.an h2).an ht.seg).an rz)).mono TU TU
 have A6:∀ (e:Ex) (th:List Sm),(∀ d V N5,(∀ x∈V,dh x)→gC d N5→cM ms fs ps d V th→ca Any (jc N5 th) (bJ th) (64*bJ th))→∀ d V N5,(∀ x∈V,dh x)→gC d N5→dQ ms fs ps d V (.cE e th)→ca Any (kM N5 (.cE e th)) (en (.cE e th)) (64*en (.cE e th)-10):=by
  intro e th i1 d V N5 hV ht hw
  cases d with
  | zero=>simp[dQ] at hw
  | succ d=>
   simp only[dQ] at hw;have h1:=i1 d V _ hV ht.more hw.2;have h3:=((((Ev.an (ca.ex hV 2 e hw.1)).st zD 32 _ rfl Oi).an h1).an ht.seg).an rz;simp only[kM,en];exact h3.mono TU TU
 have A8:∀ (s:Sm) (r:List Sm),(∀ d V N5,(∀ x∈V,dh x)→gC d N5→dQ ms fs ps d V s→ca Any (kM N5 s) (en s) (64*en s-10))→(∀ d V N5,(∀ x∈V,dh x)→gC d N5→cM ms fs ps d V r→ca Any (jc N5 r) (bJ r) (64*bJ r))→∀ d V N5,(∀ x∈V,dh x)→gC d N5→cM ms fs ps d V (s::r)→ca Any (jc N5 (s::r)) (bJ (s::r)) (64*bJ (s::r)):=by
  intro s r i1 i2 d V N5 hV ht hw;simp only[cM] at hw;have ZL:∀ x∈V++dS s,dh x:=by
   intro x hx;rcases List.mem_append.1 hx with hx | hx
   ·exact hV x hx
   ·cases s<;>simp only[dS,List.mem_singleton,List.not_mem_nil] at hx;subst hx;have:=hw.1;simp only[dQ] at this;obtain⟨⟨k,hk,rfl⟩,_⟩:=this;exact UO k hk
  have h1:=i1 d V N5 hV ht hw.1;have h2:=i2 d _ N5 ZL ht hw.2;have hp:=Q9 s;have Rb:ca Any tNl 0 1:=ca.Ku Oi;simp only[jc,bJ];exact (((ht.seg.an h1).an Rb).an h2).mono yA yA
 have A7:∀ d V N5,(∀ x∈V,dh x)→gC d N5→dQ ms fs ps d V .jm→ca Any (kM N5 .jm) (en .jm) (64*en .jm-10):=by
  intro d V N5 _ _ _;simp only[kM,en];exact I3.mono yA yA
 have A0:∀ d V N5,(∀ x∈V,dh x)→gC d N5→cM ms fs ps d V []→ca Any (jc N5 []) (bJ []) (64*bJ []):=by
  intro d V N5 _ _ _;simp only[jc,bJ];exact ca.nil _
 refine⟨fun s d V N5 h1 h2 h3 _=>?_,fun l=>?_⟩
 ·exact Sm.rec (motive_1:=fun s=>∀ d V N5,(∀ x∈V,dh x)→gC d N5→dQ ms fs ps d V s→ca Any (kM N5 s) (en s) (64*en s-10)) (motive_2:=fun l=>∀ d V N5,(∀ x∈V,dh x)→gC d N5→cM ms fs ps d V l→ca Any (jc N5 l) (bJ l) (64*bJ l)) A1 A2 A3 A4 A5 A6 A7 A0 A8 s d V N5 h1 h2 h3
 ·exact Sm.rec_1 (motive_1:=fun s=>∀ d V N5,(∀ x∈V,dh x)→gC d N5→dQ ms fs ps d V s→ca Any (kM N5 s) (en s) (64*en s-10)) (motive_2:=fun l=>∀ d V N5,(∀ x∈V,dh x)→gC d N5→cM ms fs ps d V l→ca Any (jc N5 l) (bJ l) (64*bJ l)) A1 A2 A3 A4 A5 A6 A7 A0 A8 l
end
theorem ca.nT {n:Int}(h : -9223372036854775807≤n∧n≤9223372036854775807):ca Stop (kV n) 2 20:=by
 unfold Go.aN.kV;split
 ·exact ((iI 45 Oi).an (ca.dig (n:=(-n).toNat) yA)).mono yA yA
 ·exact (ca.dig (n:=n.toNat) yA).mono yA yA
theorem n8:ca Any ⟨#[59,10]⟩ 1 2:=⟨Nat.le_refl _,fun _ _ _ hl=>Lx.yp Oi Oi (Lx.sp Oi hl)⟩
theorem ca.gl {g:Gl}(h:dh g.name)(hi : -2≤g.init∧g.init≤2):ca Any (KR g) 6 64:=by
 unfold KR;split
 ·exact (((xY.an (ca.nm h)).app (ca.nil Stop) fun r hr=>hr).st n8 59 _ rfl Oi).mono yA yA
 ·have h1:ca Stop (Gi++kV g.init) 3 23:=(BV.an (ca.nT yA)).mono yA yA;exact (((xY.an (ca.nm h)).st h1 32 _ rfl Oi).st n8 59 _ rfl Oi).mono yA yA
theorem ca.mx {m:Mx}(h:dh m.name)(hi:m.size≤3):ca Any (JK m) 7 64:=by
 unfold JK;have h0:ca Any ((if m.re=true then ⟨#[114]⟩ else ⟨#[]⟩)++⟨#[109,117,116,101,120,32]⟩) 1 17:=by
  cases m.re with
  | true=>exact oS [114,109,117,116,101,120] _ Oi ⟨⟨_,_,rfl,by decide⟩,by decide,by decide⟩
  | false=>exact oS [109,117,116,101,120] _ Oi ⟨⟨_,_,rfl,by decide⟩,by decide,by decide⟩
 generalize (if m.re=true then (⟨#[114]⟩:ByteArray) else ⟨#[]⟩)++⟨#[109,117,116,101,120,32]⟩=pre at h0 ⊢;split
 ·exact (((h0.an (ca.nm h)).app (ca.nil Stop) fun r hr=>hr).st n8 59 _ rfl Oi).mono yA yA
 ·have h1:ca Any (⟨#[91]⟩++kV m.size++⟨#[93]⟩) 4 22:=(((iI 91 Oi).an (ca.nT yA)).st (iI 93 Oi) 93 _ rfl Oi).mono yA yA;exact (((h0.an (ca.nm h)).st h1 91 _ (by rw[gB,gB];rfl) Oi).an n8).mono yA yA
theorem ES (l:List Pm)(r:List UInt8)(hr:Stop r):Stop (bs (uN false l)++r):=by
 cases l with
 | nil=>exact hr
 | cons a t=>
  rw[uN];simp only[Bool.false_eq_true,if_false,gB];exact Stop.cons _ Oi
theorem ca.pR:∀ (first:Bool) {l:List Pm},(∀ p∈l,dh p.name)→ca Stop (uN first l) (3*l.length) (40*l.length)
 | _,[],_=>ca.nil _
 | first,p::l,h=>by
  have hn:=(ca.nm (h p List.mem_cons_self)).app (ca.pR false fun q hq=>h q (List.mem_cons_of_mem _ hq)) fun r hr=>ES l r hr;have hm:ca Any (if p.mutex=true then ⟨#[109,117,116,101,120,32]⟩ else ⟨#[]⟩) 1 17:=by
   cases p.mutex with
   | true=>exact wJ
   | false=>exact (ca.nil Any).mono yA yA
  have hf:ca Any (if first=true then ⟨#[]⟩ else ⟨#[44,32]⟩) 1 2:=by
   cases first with
   | true=>exact (ca.nil Any).mono yA yA
   | false=>exact Bb
  rw[Go.aN.uN];have h1:=(hf.an hm).an hn;rw[← ByteArray.append_assoc] at h1;exact h1.mono Xm Xm
theorem ca.cat {α:Type}(f:α→ByteArray)(k:α→Nat):∀ {l:List α},(∀ a∈l,ca Any (f a) (k a) (64*k a))→ca Any (jx f l) (l.map k).sum (64*(l.map k).sum)
 | [],_=>ca.nil _
 | a::r,h=>by
  rw[jx];have h1:=(h a List.mem_cons_self).an (ca.cat f k fun b hb=>h b (List.mem_cons_of_mem _ hb));exact h1.mono PX PX
theorem Dp (s:ByteArray)(h:(match bs s with | c::_=>isLet c | []=>false)=true∧(bs s).all fB=true∧(bs s).length≤16):dh s:=by
 refine⟨?_,h.2⟩;have h1:=h.1
 cases hb:bs s with
 | nil=>rw[hb] at h1;cases h1
 | cons c t=>
  rw[hb] at h1;exact⟨c,t,rfl,h1⟩
theorem nG_ok:∀ s∈nG,dh s:=fun s hs=>Dp s ((by decide:∀ s∈nG,(match bs s with | c::_=>isLet c | []=>false)=true∧(bs s).all fB=true∧(bs s).length≤16) s hs)
theorem nM_ok:∀ s∈nM,dh s:=fun s hs=>Dp s ((by decide:∀ s∈nM,(match bs s with | c::_=>isLet c | []=>false)=true∧(bs s).all fB=true∧(bs s).length≤16) s hs)
theorem nF_ok:∀ s∈nF,dh s:=fun s hs=>Dp s ((by decide:∀ s∈nF,(match bs s with | c::_=>isLet c | []=>false)=true∧(bs s).all fB=true∧(bs s).length≤16) s hs)
theorem nP_ok:∀ s∈nP,dh s:=fun s hs=>Dp s ((by decide:∀ s∈nP,(match bs s with | c::_=>isLet c | []=>false)=true∧(bs s).all fB=true∧(bs s).length≤16) s hs)
theorem yz {α:Type}{f:α→ByteArray}{l:List α}{ns:List ByteArray}(h:∀ s∈l.map f,s∈ns)(hn:∀ s∈ns,dh s):∀ a∈l,dh (f a):=fun _a ha=>hn _ (h _ (List.mem_map_of_mem ha))
theorem km.ng {p:Pg}(h:km p):∀ g∈p.gs,dh g.name:=by
 obtain⟨k,_,hk⟩:=h.gn;exact yz (fun s hs=>by rw[hk] at hs;exact List.mem_of_mem_take hs) nG_ok
theorem km.nm {p:Pg}(h:km p):∀ g∈p.ms,dh g.name:=by
 obtain⟨k,_,_,hk⟩:=h.mn;exact yz (fun s hs=>by rw[hk] at hs;exact List.mem_of_mem_take hs) nM_ok
theorem km.nf {p:Pg}(h:km p):∀ g∈p.fs,dh g.name:=by
 obtain⟨k,_,_,hk⟩:=h.fn;exact yz (fun s hs=>by rw[hk] at hs;exact List.mem_of_mem_take hs) nF_ok
theorem km.np {p:Pg}(h:km p):∀ f∈p.fs,∀ q∈f.params,dh q.name:=fun f hf=>by
 obtain⟨k,_,hk⟩:=h.pn f hf;exact yz (fun s hs=>by rw[hk,List.mem_reverse] at hs;exact List.mem_of_mem_take hs) nP_ok
theorem km.nv {p:Pg}(h:km p):∀ f∈p.fs,∀ s∈jq p.gs f.params,dh s:=fun f hf s hs=>by
 rcases uR hs with hs | hs
 ·rw[List.mem_map] at hs;obtain⟨g,hg,rfl⟩:=hs;exact h.ng g hg
 ·rw[List.mem_map] at hs;obtain⟨g,hg,rfl⟩:=hs;exact h.np f hf g hg
theorem ca.fu {p:Pg}(h:km p){f:Fu}(hf:f∈p.fs):ca Any (FP f) (12+bJ f.body) (64*(12+bJ f.body)):=by
 have hb:=(ca.lines (ms:=p.ms) (fs:=p.fs.map fun f=>(f.name,f.params)) (ps:=f.params) h.nm (fun x hx=>by
  rw[List.mem_map] at hx;obtain⟨g,hg,rfl⟩:=hx;exact h.nf g hg) (h.np f hf)).2 f.body 2 (jq p.gs f.params) qd (h.nv f hf) ⟨by decide,by decide⟩ (h.bd f hf)
 obtain⟨k,hk,QL⟩:=h.pn f hf;have hlen:f.params.length≤2:=by
  have:=congrArg List.length QL;simp[nP] at this;omega
 have TJ:ca Any ⟨#[102,117,110,99,32]⟩ 1 17:=oS [102,117,110,99] _ rfl ⟨⟨_,_,rfl,by decide⟩,by decide,by decide⟩;have ho:ca Any ⟨#[41,32,123,10]⟩ 2 4:=⟨Nat.le_refl _,fun _ _ _ hl=>Lx.yp Oi Oi (Lx.sp Oi (Lx.yp Oi Oi (Lx.sp Oi hl)))⟩;have hc:ca Any ⟨#[125,10]⟩ 1 2:=⟨Nat.le_refl _,fun _ _ _ hl=>Lx.yp Oi Oi (Lx.sp Oi hl)⟩;unfold FP;exact ((((((TJ.an (ca.nm (h.nf f hf))).st (iI 40 Oi) 40 _ rfl Oi).an (ca.pR true (h.np f hf))).st ho 41 _ rfl Oi).an hb).an hc).mono yA yA
theorem Ew {α:Type}(l:List α)(c:Nat):(l.map fun _=>c).sum=c*l.length:=by
 induction l with
 | nil=>simp
 | cons _ r ih=>simp[ih,Nat.mul_add];omega
theorem sum_add {α:Type}(l:List α)(c:Nat)(f:α→Nat):(l.map fun a=>c+f a).sum=c*l.length+(l.map f).sum:=by
 induction l with
 | nil=>simp
 | cons a r ih=>simp[ih,Nat.mul_add];omega
theorem LV {p:Pg}(h:km p):Lx (bs (ET p)) 4000∧(bs (ET p)).length≤262144:=by
 have h1:=ca.cat KR (fun _=>6) (l:=p.gs) fun g hg=>(ca.gl (h.ng g hg) (h.gi g hg)).mono (Nat.le_refl _) yA;have h2:=ca.cat JK (fun _=>7) (l:=p.ms) fun g hg=>(ca.mx (h.nm g hg) (h.mz g hg).1).mono (Nat.le_refl _) yA;have h3:=ca.cat FP (fun f=>12+bJ f.body) (l:=p.fs) fun g hg=>ca.fu h hg;rw[Ew] at h1 h2;rw[sum_add] at h3;have hw:=h.wt;obtain⟨k1,SK,e1⟩:=h.gn;obtain⟨k2,_,Ry,e2⟩:=h.mn;obtain⟨k3,_,hk3,e3⟩:=h.fn;have l1:=congrArg List.length e1;have l2:=congrArg List.length e2;have l3:=congrArg List.length e3;simp[nG] at l1;simp[nM] at l2;simp[nF] at l3;obtain⟨hb,hl⟩:=(h1.an h2).an h3;refine⟨?_,?_⟩
 ·have:=hl [] 0 trivial (.nil 0);rw[List.append_nil] at this;exact this.mono yA
 ·unfold ET;omega
end Go.aN
namespace Go.Proofs.YtlkmbdfhdknlgaaGreatDoor
open Go.Can Go.aN
theorem iv (x y:ByteArray):lE .eql x y=some (.bool (decide (x=y))):=by
 have h:(x.toList == y.toList)=decide (x=y):=by
  rw[ByteArray.toList_eq,ByteArray.toList_eq,Bool.eq_iff_iff];simp only[beq_iff_eq,decide_eq_true_eq,Array.toList_inj];exact⟨fun h=>ByteArray.ext h,fun h=>by rw[h]⟩
 simp only[lE,h]
theorem jE (x y:ByteArray):lE .neq x y=some (.bool (!decide (x=y))):=by
 have h:=iv x y;simp only[lE,Option.some.injEq,CV.bool.injEq] at h ⊢;rw[h]
theorem ax (x y:ByteArray)(h:x.size+y.size≤9223372036854775807):lE .add x y=some (.str (x++y)):=by
 simp only[lE,if_pos h]
theorem Hu (c:UInt8):isLet c=((decide ((97:Int)≤c.toNat) && decide ((c.toNat:Int)≤122)) || (decide ((65:Int)≤c.toNat) && decide ((c.toNat:Int)≤90)) || ((c.toNat:Int) == 95)):=by
 rw[Bool.eq_iff_iff];simp only[isLet,Bool.or_eq_true,Bool.and_eq_true,decide_eq_true_eq,beq_iff_eq];omega
theorem Hv (c:UInt8):cY c=(decide ((48:Int)≤c.toNat) && decide ((c.toNat:Int)≤57)):=by
 rw[Bool.eq_iff_iff];simp only[cY,Bool.and_eq_true,decide_eq_true_eq];omega
theorem lK (c:UInt8):ae Tryz.prog 95 [.int .u8 c.toNat] (.bool (isLet c)):=by
 rw[Hu];generalize (c.toNat:Int)=n;refine ae.aH af Tryz.func95 rfl N4 (by simp[Tryz.ntmps95]) rfl fun C hC N8=>?_;rw[Tryz.ntmps95] at hC;apply ai;simp[hC];by_cases h1:97≤n
 ·by_cases h2:n≤122
  ·apply ai;simp[hC,h1,h2];apply T.ret;apply aa.here;simp[Tryz.results95]
  ·have h3:65≤n:=by omega
   have h4:¬ n≤90:=by omega
   apply ai;simp[hC,h1,h2,h3,h4];apply T.ret;apply aa.here;simp[Tryz.results95]
 ·by_cases h3:65≤n
  ·by_cases h4:n≤90
   ·apply ai;simp[hC,h1,h3,h4];apply T.ret;apply aa.here;simp[Tryz.results95]
   ·apply ai;simp[hC,h1,h3,h4];apply T.ret;apply aa.here;simp[Tryz.results95]
  ·apply ai;simp[hC,h1,h3];apply T.ret;apply aa.here;simp[Tryz.results95]
theorem lU (c:UInt8):ae Tryz.prog 96 [.int .u8 c.toNat] (.bool (cY c)):=by
 rw[Hv];generalize (c.toNat:Int)=n;refine ae.aH af Tryz.func96 rfl N4 (by simp[Tryz.ntmps96]) rfl fun C hC N8=>?_;rw[Tryz.ntmps96] at hC;apply ai;simp[hC];by_cases h1:48≤n
 ·apply ai;simp[hC,h1];apply T.ret;apply aa.here;simp[Tryz.results96]
 ·apply ai;simp[hC,h1];apply T.ret;apply aa.here;simp[Tryz.results96]
def hasB (l:List ByteArray)(s:ByteArray):Bool:=l.any fun x=>decide (x=s)
theorem yK (l:List ByteArray)(s:ByteArray)(hl:l.length≤1000):ae Tryz.prog 118 [strs l,.str s] (.bool (hasB l s)):=by
 refine ae.aH af Tryz.func118 rfl N4 (by simp[Tryz.ntmps118]) rfl fun C hC N8=>?_;rw[Tryz.ntmps118] at hC;apply ai;simp[hC];apply aL;simp[hC];apply T.block;refine T.aI (fun m st=>∃ i:Nat,m=l.length-i∧i≤l.length∧hasB l s=hasB (l.drop i) s∧st=⟨[(5,I i),(0,strs l),(1,.str s)],[],0⟩) (n:=l.length) ?_ ?_
 ·refine aa.le (Le.env [5,0,1]) (aa.here ⟨0,by omega,by omega,by simp,?_⟩);simp
 ·rintro n st ⟨i,rfl,hi,hni,rfl⟩;by_cases N6:i<l.length
  ·have N7:=iT N6;have hw:=cf ((i:Int)+1) yA yA;apply aL;simp[hC,strs,N6];refine fh ?_;simp;apply eG;apply ai;simp[hC,N6,N7,iv];refine T.bg rfl (fun h=>?_) (fun h=>?_)
   ·have he:l.getD i eS=s:=by simpa [N6] using h
    apply ai;simp[hC];apply T.ret;apply aa.here;have hb:hasB l s=true:=by
     unfold hasB;rw[List.any_eq_true];exact⟨s,he ▸ iX N6 eS,by simp⟩
    simp[Tryz.results118,hb]
   ·have he:¬ l.getD i eS=s:=by simpa [N6] using h
    apply T.skip;simp;apply aY;simp[hC,hw];refine⟨l.length-(i+1),by omega,?_⟩;refine aa.le (Le.env [5,0,1]) (aa.here ⟨i+1,rfl,by omega,?_,?_⟩)
    ·rw[hni,List.drop_eq_getElem_cons N6];have e2:l[i]=l.getD i eS:=by simp[N6]
     simp only[hasB,List.any_cons,e2,he,decide_false,Bool.false_or]
    ·simp
  ·have Oe:i=l.length:=by omega
   have hb:hasB l s=false:=by rw[hni,Oe,List.drop_length];rfl
   apply aL;simp[hC,strs,N6];refine aX ?_;simp;apply T.exit;simp;apply ai;simp[hC];apply T.ret;apply aa.here;simp[Tryz.results118,hb]
def LG:List ByteArray:=[⟨#[118,97,114]⟩,⟨#[109,117,116,101,120]⟩,⟨#[114,109,117,116,101,120]⟩,⟨#[102,117,110,99]⟩,⟨#[108,111,99,107]⟩,⟨#[117,110,108,111,99,107]⟩,⟨#[103,111]⟩,⟨#[105,102]⟩,⟨#[101,108,115,101]⟩,⟨#[119,104,105,108,101]⟩,⟨#[114,101,116,117,114,110]⟩]
theorem Jl:LG.map bs=rI:=rfl
theorem MM {a b:ByteArray}(h:bs a=bs b):a=b:=by
 unfold bs at h;exact ByteArray.ext (Array.toList_inj.1 h)
theorem HE (s:ByteArray):hasB LG s=decide (bs s∈rI):=by
 rw[Bool.eq_iff_iff,decide_eq_true_eq,← Jl];unfold hasB;rw[List.any_eq_true,List.mem_map];constructor
 ·rintro⟨x,h1,h2⟩;exact⟨x,h1,by rw[of_decide_eq_true h2]⟩
 ·rintro⟨x,h1,h2⟩;exact⟨x,h1,by rw[MM h2];simp⟩
theorem sC (s:ByteArray):ae Tryz.prog 97 [.str s] (.bool (decide (bs s∈rI))):=by
 refine ae.aH af Tryz.func97 rfl N4 (by simp[Tryz.ntmps97]) rfl fun C hC N8=>?_;rw[Tryz.ntmps97] at hC;apply ai;simp[hC];apply ai;simp[hC];refine TL.le (Le.cV (o:=0) rfl rfl) ?_;simp[bQ];have h:=yK LG s Oi;rw[HE] at h;refine dc Od (h) ?_;simp[hC];apply T.ret;apply aa.here;simp[Tryz.results97]
def dE (l:List UInt8):CV:=.az (l.map fun x=>.int .u8 (x.toNat:Int)) l.length
theorem ln {l:List UInt8}{i:Nat}{c:UInt8}(h:l[i]? = some c):(l.map fun x=>CV.int .u8 (x.toNat:Int)).drop i=.int .u8 (c.toNat:Int)::(l.map fun x=>CV.int .u8 (x.toNat:Int)).drop (i+1):=by
 obtain⟨h1,h2⟩:=List.getElem?_eq_some_iff.1 h;rw[List.drop_eq_getElem_cons (by simpa using h1)];simp[h2]
theorem JS (c:UInt8):iC c=((c.toNat:Int) == 32 || (c.toNat:Int) == 9 || (c.toNat:Int) == 10 || (c.toNat:Int) == 13):=by
 have h:∀ k:UInt8,(c == k)=((c.toNat:Int) == (k.toNat:Int)):=fun k=>by
  rw[Bool.eq_iff_iff,beq_iff_eq,beq_iff_eq];constructor
  ·intro h;rw[h]
  ·intro h;exact UInt8.toNat_inj.1 yA
 simp only[iC,h];rfl
theorem Gt {c:UInt8}{r:List UInt8}:qX (c::r)=if iC c=true then qX r+1 else 0:=by
 unfold qX;rw[List.takeWhile_cons];split<;>simp
theorem gY {l:List UInt8}{i:Nat}{c:UInt8}(h:l[i]? = some c):l.drop i=c::l.drop (i+1):=by
 obtain⟨h1,h2⟩:=List.getElem?_eq_some_iff.1 h;rw[List.drop_eq_getElem_cons h1,h2]
theorem C5 (l:List UInt8)(U2:Nat)(Qg:U2≤l.length)(hl:l.length≤1000000)(TN:∀ r,l.drop (U2+qX (l.drop U2))=47::r→r.head?≠some 47):ae Tryz.prog 94 [dE l,I U2] (I ((U2+qX (l.drop U2):Nat))):=by
 obtain⟨e,he⟩:∃ e,U2+qX (l.drop U2)=e:=⟨_,rfl⟩;rw[he] at TN ⊢;refine ae.aH af Tryz.func94 rfl N4 (by simp[Tryz.ntmps94]) rfl fun C hC N8=>?_;rw[Tryz.ntmps94] at hC;apply ai;simp[hC];apply eG;refine T.aI (fun m st=>∃ i:Nat,m=l.length-i∧i≤l.length∧i+qX (l.drop i)=e∧st=⟨[(0,dE l),(1,I i)],[],0⟩) (n:=l.length-U2) ?_ ?_
 ·refine aa.le (Le.env [0,1]) (aa.here ⟨U2,rfl,Qg,he,?_⟩);simp
 ·rintro n st ⟨i,rfl,hi,Oe,rfl⟩;by_cases N6:i<l.length
  ·obtain⟨c,hc⟩:∃ c,l[i]? = some c:=⟨l[i],List.getElem?_eq_getElem N6⟩;have N7:=ln hc;have hd:=gY hc;rw[hd,Gt] at Oe;have hw:=cf ((i:Int)+1) yA yA;apply aL;simp[hC,dE,N6];refine fh ?_;simp;refine T.block (T.block ?_);refine T.cut (fun st=>st=⟨[(10,.bool (iC c)),(0,dE l),(1,I i)],[],0⟩) ?_ ?_
   ·rw[JS];generalize (c.toNat:Int)=n at N7;by_cases h1:n=32
    ·apply aY;simp[hC,h1,N6,N7];refine aa.le (Le.env [10,0,1]) (aa.here ?_);simp[dE]
    have h1:(n == 32)=false:=by simp[h1]
    by_cases h2:n=9
    ·apply aY;simp[hC,h2,N6,N7];refine aa.le (Le.env [10,0,1]) (aa.here ?_);simp[dE]
    have h2:(n == 9)=false:=by simp[h2]
    by_cases h3:n=10
    ·apply aY;simp[hC,h3,N6,N7];refine aa.le (Le.env [10,0,1]) (aa.here ?_);simp[dE]
    have h3:(n == 10)=false:=by simp[h3]
    apply aY;simp[hC,h1,h2,h3,N6,N7];refine aa.le (Le.env [10,0,1]) (aa.here ?_);simp[dE]
   ·rintro st rfl;refine T.bg rfl (fun h=>?_) (fun h=>?_)
    ·rw[h,if_pos rfl] at Oe;apply aY;simp[hC,hw];refine⟨l.length-(i+1),by omega,?_⟩;refine aa.le (Le.env [0,1]) (aa.here ⟨i+1,rfl,by omega,by omega,?_⟩);simp[dE]
    ·have h':iC c=false:=by simpa using h
     rw[h',if_neg N3] at Oe;have Vp:e=i:=by omega
     subst Vp;rw[hd] at TN
          /- no comment -/
     refine T.cut (fun st=>st=⟨[(39,.bool false),(0,dE l),(1,I e)],[],0⟩) ?_ ?_
     ·by_cases h2:e+1<l.length
      ·obtain⟨c2,P0⟩:∃ c2,l[e+1]? = some c2:=⟨l[e+1],List.getElem?_eq_getElem h2⟩;have Pc:=ln P0;have QS:=gY P0;have Q4:(e:Int)+1<l.length:=by omega
       by_cases h4:(c.toNat:Int)=47
       ·have h5:¬ (c2.toNat:Int)=47:=by
         have hc47:c=47:=UInt8.toNat_inj.1 (by have:(47:UInt8).toNat=47:=rfl;omega);subst hc47;have TN:=TN _ rfl;rw[QS] at TN;have:c2≠47:=fun h=>TN (by simp[h]);intro h;exact this (UInt8.toNat_inj.1 (by have:(47:UInt8).toNat=47:=rfl;omega))
        apply aY;simp[hC,h4,N6,N7,hw,Q4,Pc,dE];refine aa.le (Le.env [39,0,1]) (aa.here ?_);simp[h5]
       ·have h4:((c.toNat:Int) == 47)=false:=by simp[h4]
        apply aY;simp[hC,h4,N6,N7,hw,Q4,dE];refine aa.le (Le.env [39,0,1]) (aa.here ?_);simp
      ·have Q4:¬ (e:Int)+1<l.length:=by omega
       apply aY;simp[hC,hw,Q4,dE];refine aa.le (Le.env [39,0,1]) (aa.here ?_);simp
     ·rintro st rfl;refine aX ?_;simp;apply ai;simp[hC];apply T.ret;apply aa.here;simp[Tryz.results94]
  ·have hie':i=l.length:=by omega
   have Ts:e=i:=by
    rw[hie',List.drop_length] at Oe;have:qX ([]:List UInt8)=0:=rfl;omega
   apply aL;simp[hC,dE,N6];refine aX ?_;simp;apply T.exit;simp;apply ai;simp[hC];apply T.ret;apply aa.here;simp[Tryz.results94,Ts]
theorem r8 (w:List UInt8)(c:UInt8):lh (w++[c])=10*lh w+(c.toNat-48):=by simp[lh]
theorem J4 (w:List UInt8)(r:List UInt8):lh w≤lh (w++r):=by
 induction r generalizing w with
 | nil=>simp
 | cons c r ih=>
  have h1:=ih (w++[c]);rw[r8] at h1;rw[List.append_assoc] at h1;have:lh w≤10*lh w+(c.toNat-48):=by omega
  exact Nat.le_trans this h1
theorem vV (l:List UInt8)(hl:l.length≤1000000)(hd:l.all cY=true)(hv:lh l<9223372036854775808):ae Tryz.prog 98 [dE l] (I (lh l)):=by
 refine ae.aH af Tryz.func98 rfl N4 (by simp[Tryz.ntmps98]) rfl fun C hC N8=>?_;rw[Tryz.ntmps98] at hC;apply ai;simp[hC];apply ai;simp[hC];apply aL;simp[hC];apply T.block;refine T.aI (fun m st=>∃ i:Nat,m=l.length-i∧i≤l.length∧st=⟨[(4,I i),(3,I (lh (l.take i))),(0,dE l)],[],0⟩) (n:=l.length) ?_ ?_
 ·refine aa.le (Le.env [4,3,0]) (aa.here ⟨0,by omega,by omega,?_⟩);simp[lh]
 ·rintro n st ⟨i,rfl,hi,rfl⟩;by_cases N6:i<l.length
  ·obtain⟨c,hc⟩:∃ c,l[i]? = some c:=⟨l[i],List.getElem?_eq_getElem N6⟩;have N7:=ln hc;have On:l.take (i+1)=l.take i++[c]:=by rw[List.take_add_one,hc];rfl
   have TO:48≤c.toNat∧c.toNat≤57:=by
    have:=List.all_eq_true.1 hd c (List.mem_of_getElem? hc)
    simpa [cY] using this
   have hle:=J4 (l.take (i+1)) (l.drop (i+1));rw[List.take_append_drop,On,r8] at hle;have hw:=cf ((i:Int)+1) yA yA;generalize hdv:lh (l.take i)=d at hle;have w1:IntKind.u8.wrap ((c.toNat:Int)-48)=(c.toNat:Int)-48:=IntWalk.u8_in _ yA;have w2:=cf ((c.toNat:Int)-48) yA yA;have w3:=cf (9223372036854775807-((c.toNat:Int)-48)) yA yA;have w4:(9223372036854775807-((c.toNat:Int)-48)).tdiv 10=(9223372036854775807-((c.toNat:Int)-48)) / 10:=Int.tdiv_eq_ediv_of_nonneg yA;have w5:=cf ((9223372036854775807-((c.toNat:Int)-48)) / 10) yA yA;have w6:=cf (10*(d:Int)) yA yA;have w7:=cf (10*(d:Int)+((c.toNat:Int)-48)) yA yA;have w8:¬ (9223372036854775807-((c.toNat:Int)-48)) / 10<(d:Int):=by omega
   apply aL;simp[hC,dE,N6];refine fh ?_;simp;apply eG;refine T.seq (T.Bz af ?_);simp[hC,N6,N7,w1,w2];apply aL;simp[hC,w3,w4,w5];refine T.bg rfl (fun h=>?_) (fun h=>?_)
   ·simp at h;omega
   apply T.skip;simp;apply aY;simp[hC,w6,w7];apply aY;simp[hC,hw];refine⟨l.length-(i+1),by omega,?_⟩;refine aa.le (Le.env [4,3,0]) (aa.here ⟨i+1,rfl,by omega,?_⟩);rw[On,r8,hdv];simp;omega
  ·have Oe:i=l.length:=by omega
   apply aL;simp[hC,dE,N6];refine aX ?_;simp;apply T.exit;simp;apply ai;simp[hC];apply T.ret;apply aa.here;simp[Tryz.results98,Oe]
def Ln:List ByteArray:=[⟨#[60,61]⟩,⟨#[62,61]⟩,⟨#[61,61]⟩,⟨#[33,61]⟩,⟨#[38,38]⟩,⟨#[124,124]⟩]
def Jy:List ByteArray:=[⟨#[40]⟩,⟨#[41]⟩,⟨#[123]⟩,⟨#[125]⟩,⟨#[91]⟩,⟨#[93]⟩,⟨#[44]⟩,⟨#[59]⟩,⟨#[61]⟩,⟨#[43]⟩,⟨#[45]⟩,⟨#[42]⟩,⟨#[47]⟩,⟨#[37]⟩,⟨#[60]⟩,⟨#[62]⟩,⟨#[33]⟩]
theorem HD (a b:UInt8):hasB Ln ⟨#[a,b]⟩=decide ((a,b)∈rv):=by
 rw[Bool.eq_iff_iff,decide_eq_true_eq];simp only[hasB,Ln,rv,List.any_cons,List.any_nil,Bool.or_eq_true,decide_eq_true_eq,ByteArray.mk.injEq,List.mem_cons,List.not_mem_nil,Prod.mk.injEq,Bool.false_eq_true];simp only[Array.mk.injEq,List.cons.injEq,and_true];constructor
 ·rintro (⟨rfl,rfl⟩ | ⟨rfl,rfl⟩ | ⟨rfl,rfl⟩ | ⟨rfl,rfl⟩ | ⟨rfl,rfl⟩ | ⟨rfl,rfl⟩ | h)<;>first | exact h.elim | simp
 ·rintro (⟨rfl,rfl⟩ | ⟨rfl,rfl⟩ | ⟨rfl,rfl⟩ | ⟨rfl,rfl⟩ | ⟨rfl,rfl⟩ | ⟨rfl,rfl⟩ | h)<;>first | exact h.elim | simp
theorem Az (a:UInt8):hasB Jy ⟨#[a]⟩=decide (a∈mb):=by
 rw[Bool.eq_iff_iff,decide_eq_true_eq];simp only[hasB,Jy,mb,List.any_cons,List.any_nil,Bool.or_eq_true,decide_eq_true_eq,ByteArray.mk.injEq,List.mem_cons,List.not_mem_nil,Bool.false_eq_true];simp only[Array.mk.injEq,List.cons.injEq,and_true];simp only[eq_comm]
theorem I1 (c:UInt8):(c.toNat:Int)<256:=by
 have:=c.toNat_lt;omega
theorem nJ:∀ l:List UInt8,bytesOf (l.map fun x=>CV.int .u8 (x.toNat:Int))=some l
 | []=>rfl
 | c::r=>by
  have h:=I1 c;simp[bytesOf,nJ r,h]
theorem Jb (l:List UInt8)(i:Nat)(N6:i<l.length)(hl:l.length≤1000000):ae Tryz.prog 99 [dE l,I i] (I (tG (l.drop i))):=by
 obtain⟨c,hc⟩:∃ c,l[i]? = some c:=⟨l[i],List.getElem?_eq_getElem N6⟩;have N7:=ln hc;have hd:=gY hc;have hw:=cf ((i:Int)+1) yA yA;have hw2:=cf ((i:Int)+2) yA yA;rw[hd];refine ae.aH af Tryz.func99 rfl N4 (by simp[Tryz.ntmps99]) rfl fun C hC N8=>?_;rw[Tryz.ntmps99] at hC;apply ai;simp[hC];by_cases h2:i+1<l.length
 ·obtain⟨c2,P0⟩:∃ c2,l[i+1]? = some c2:=⟨l[i+1],List.getElem?_eq_getElem h2⟩;have Pc:=ln P0;have QS:=gY P0;rw[QS];have Q4:(i:Int)+1<l.length:=by omega
  have h3:i+2≤l.length:=by omega
  have z2:(0:Int)≤(i:Int)+2:=by omega
  have t2:((i:Int)+2).toNat=i+2:=by omega
  have e2:i+2-i=2:=by omega
  refine T.seq (T.seq (T.Bz af ?_));simp[hC,dE,hw,hw2,Q4,h3,N7,Pc,z2,t2,e2,I1];refine TL.le (Le.cV (o:=0) rfl rfl) ?_;simp[bQ];have h:=yK Ln ⟨#[c,c2]⟩ Oi;rw[HD] at h;refine TL.bY Oc rfl rfl rfl rfl (bH.of rfl Od (h)) (TL.go' af ?_);simp[hC];refine T.bg rfl (fun h=>?_) (fun h=>?_)
  ·have h4:(c,c2)∈rv:=by simpa using h
   apply ai;simp[hC];apply T.ret;apply aa.here;simp[Tryz.results99,tG,h4]
  ·have h4:(c,c2)∉rv:=by simpa using h
   apply T.skip;simp;have hs:tG (c::c2::l.drop (i+1+1))=if c∈mb then 1 else 0:=by simp[tG,h4]
   rw[hs];clear hs;refine T.le (Le.trim [0,1,4] [] 0 N3 yA) ?_;simp;have h1:i+1≤l.length:=by omega
   have z1:(0:Int)≤(i:Int)+1:=by omega
   have t1:((i:Int)+1).toNat=i+1:=by omega
   have e1:i+1-i=1:=by omega
   refine T.seq (T.seq (T.Bz af ?_));simp[hC,hw,h1,z1,t1,e1,N7,I1];refine TL.le (Le.cV (o:=0) rfl rfl) ?_;simp[bQ];have h:=yK Jy ⟨#[c]⟩ Oi;rw[Az] at h;refine dc Od (h) ?_;simp;refine T.bg rfl (fun h=>?_) (fun h=>?_)
   ·have h5:c∈mb:=by simpa using h
    apply ai;simp[hC];apply T.ret;apply aa.here;simp[Tryz.results99,h5]
   ·have h5:c∉mb:=by simpa using h
    apply T.skip;simp;apply ai;simp[hC];apply T.ret;apply aa.here;simp[Tryz.results99,h5]
 ·have Q4:¬ (i:Int)+1<l.length:=by omega
  have QS:l.drop (i+1)=[]:=List.drop_eq_nil_of_le yA;rw[QS];have hs:tG [c]=if c∈mb then 1 else 0:=rfl
  rw[hs];clear hs;refine T.seq (T.seq (T.Bz af ?_));simp[hC,dE,hw,Q4];refine aX ?_;simp;apply T.skip;simp;refine T.le (Le.trim [0,1,4] [] 0 N3 yA) ?_;simp;have h1:i+1≤l.length:=by omega
  have z1:(0:Int)≤(i:Int)+1:=by omega
  have t1:((i:Int)+1).toNat=i+1:=by omega
  have e1:i+1-i=1:=by omega
  refine T.seq (T.seq (T.Bz af ?_));simp[hC,hw,h1,z1,t1,e1,N7,I1];refine TL.le (Le.cV (o:=0) rfl rfl) ?_;simp[bQ];have h:=yK Jy ⟨#[c]⟩ Oi;rw[Az] at h;refine dc Od (h) ?_;simp;refine T.bg rfl (fun h=>?_) (fun h=>?_)
  ·have h5:c∈mb:=by simpa using h
   apply ai;simp[hC];apply T.ret;apply aa.here;simp[Tryz.results99,h5]
  ·have h5:c∉mb:=by simpa using h
   apply T.skip;simp;apply ai;simp[hC];apply T.ret;apply aa.here;simp[Tryz.results99,h5]
end Go.Proofs.YtlkmbdfhdknlgaaGreatDoor
