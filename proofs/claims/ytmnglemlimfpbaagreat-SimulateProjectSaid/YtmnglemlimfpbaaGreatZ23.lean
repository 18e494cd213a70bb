/- The text of a program of the right form is right for Lex. No -/
import Derived.Test.YtmnglemlimfpbaaGreatZ22
import Derived.Laws.Strings
namespace Go.aX
open Go.Can
section
variable {ms:List Mx}{fs:List (ByteArray×List Pm)}{ps:List Pm}(hms:∀ m∈ms,dm m.name)(hfs:∀ f∈fs,dm f.1)(hps:∀ p∈ps,dm p.name)
theorem iX (c:UInt8)(h:c∈mf∧c≠60∧c≠62∧c≠61∧c≠33∧c≠47):bZ Any ⟨#[c]⟩ 1 1:=bZ.sign h.1 h.2
theorem bZ.Jr {s:ByteArray}(h:(bs s).all iM=true):bZ Any s 0 (bs s).length:=by
 refine⟨Nat.le_refl _,fun r n _ hl=>?_⟩
 generalize bs s=l at h
 induction l with
 | nil=>exact hl
 | cons c t ih=>
  simp only[List.all_cons,Bool.and_eq_true] at h
  exact Lx.sp h.1 (ih h.2)
include hms hps in
theorem bZ.rf {V:List ByteArray}(hV:∀ s∈V,dm s){r:Rf}(h:EX ms ps V r):bZ Stop (BK r) 10 186:=by
 have hn:dm r.name:=by
  rcases h with ⟨m,h1,h2,_⟩ | ⟨p,h1,_,h2,_⟩
  ·rw[h2];exact hms m h1
  ·rw[h2];exact hps p h1
 have h0:=bZ.nm hn
 unfold BK
 cases hi:r.index with
 | none=>exact h0.mono yA yA
 | some e=>
  have he:fM V 1 e:=by
   rcases h with ⟨m,_,_,h3 | ⟨e',h3,_,h5⟩⟩ | ⟨_,_,_,_,h3⟩
   ·rw[h3.1] at hi;cases hi
   ·rw[h3] at hi
    cases hi
    exact h5
   ·rw[h3] at hi;cases hi
  have h1:=(h0.app (iX 91 yAe) fun r _=>Stop.cons _ yAe).app (bZ.ex hV 1 e he) fun _ _=>trivial
  have h2:=h1.app (iX 93 yAe) fun r _=>Stop.cons _ yAe
  exact (h2.any Stop).mono (by simp[Bm]) (by simp[Bm])
theorem oZ (l:List UInt8)(s:ByteArray)(hs:bs s=l++[32])(h:(∃ c t,l=c::t∧isLet c=true)∧l.all fG=true∧l.length≤16):bZ Any s 1 17:=bZ.word h.1 h.2.1 h.2.2 s hs
theorem wB:bZ Any ⟨#[109,117,116,101,120,32]⟩ 1 17:=oZ [109,117,116,101,120] _ rfl ⟨⟨_,_,rfl,by decide⟩,by decide,by decide⟩
include hms hps in
theorem bZ.ar {V:List ByteArray}(hV:∀ s∈V,dm s){p:Pm}{a:Ar}(h:ArW ms ps V p a):bZ Stop (My a) 19 456:=by
 cases a with
 | uJ r=>
  simp only[ArW] at h
  exact (wB.app (bZ.rf hms hps hV h.2) fun _ _=>trivial).mono yA yA
 | exp e=>
  simp only[ArW] at h
  exact (bZ.ex hV 2 e h.2).mono (by simp[Bm]) (by simp[Bm])
theorem AR:bZ Any ⟨#[44,32]⟩ 1 2:=⟨Nat.le_refl _,fun _ _ _ hl=>Lx.ym yAe yAe (Lx.sp yAe hl)⟩
theorem EK (l:List Ar)(r:List UInt8)(hr:Stop r):Stop (bs (vA false l)++r):=by
 cases l with
 | nil=>exact hr
 | cons a t=>
  rw[vA]
  simp only[Bool.false_eq_true,if_false,gJ]
  exact Stop.cons _ yAe
include hms hps in
theorem bZ.aR {V:List ByteArray}(hV:∀ s∈V,dm s):∀ (first:Bool) {gp:List Pm} {l:List Ar},jr ms ps V gp l→bZ Stop (vA first l) (20*l.length) (458*l.length)
 | _,[],[],_=>bZ.nil _
 | first,p::gp,a::l,h=>by
  simp only[jr] at h
  have h1:=(bZ.ar hms hps hV h.1).app (bZ.aR hV false h.2) fun r hr=>EK l r hr
  rw[Go.aX.vA,ByteArray.append_assoc]
  cases first with
  | true=>exact (((bZ.nil Any).app h1 fun _ _=>trivial)).mono yBs yBs
  | false=>exact ((AR.app h1 fun _ _=>trivial)).mono yBs yBs
 | _,[],_::_,h=>h.elim
 | _,_::_,[],h=>h.elim
include hms hps in
theorem bZ.ars {V:List ByteArray}(hV:∀ s∈V,dm s){gp:List Pm}{l:List Ar}(h:jr ms ps V gp l):bZ Any (sM l) (2+20*l.length) (2+458*l.length):=by
 have h1:=(iX 40 yAe).app (bZ.aR hms hps hV true h) fun _ _=>trivial
 have h2:=h1.app (iX 41 yAe) fun r _=>Stop.cons _ yAe
 exact h2.mono yA yA
theorem xZ:bZ Any zq 1 17:=oZ [118,97,114] _ rfl ⟨⟨_,_,rfl,by decide⟩,by decide,by decide⟩
theorem Kb:bZ Any LF 1 17:=oZ [103,111] _ rfl ⟨⟨_,_,rfl,by decide⟩,by decide,by decide⟩
theorem Fj:bZ Any wC 1 17:=oZ [108,111,99,107] _ rfl ⟨⟨_,_,rfl,by decide⟩,by decide,by decide⟩
theorem By:bZ Any ou 1 17:=oZ [117,110,108,111,99,107] _ rfl ⟨⟨_,_,rfl,by decide⟩,by decide,by decide⟩
theorem Ka:bZ Any LD 1 17:=oZ [105,102] _ rfl ⟨⟨_,_,rfl,by decide⟩,by decide,by decide⟩
theorem DF:bZ Any xY 1 17:=oZ [119,104,105,108,101] _ rfl ⟨⟨_,_,rfl,by decide⟩,by decide,by decide⟩
theorem Bz:bZ Any Fk 1 3:=⟨Nat.le_refl _,fun _ _ _ hl=>Lx.sp yAe (Lx.one yAe yAa (Lx.sp yAe hl))⟩
theorem p7:bZ Any jf 1 1:=iX 59 yAe
theorem zr:bZ Any p8 1 3:=⟨Nat.le_refl _,fun _ _ _ hl=>Lx.sp yAe (Lx.ym yAe yAe (Lx.sp yAe hl))⟩
theorem qU:bZ Any kU 1 1:=iX 125 yAe
theorem Fl:bZ Any zt 2 8:=⟨Nat.le_refl _,fun r n _ hl=>by
 refine Lx.sp yAe ?_
 have h:=Jp.name (s:=[101,108,115,101]) ⟨_,_,rfl,by decide⟩ yAe (.inl yAe) (32::123::10::r) (n+1) (Stop.cons _ yAe) (Lx.sp yAe (Lx.ym yAe yAe (Lx.sp yAe hl)))
 exact h⟩
theorem HZ:bZ Any H0 2 7:=⟨Nat.le_refl _,fun r n _ hl=>by
 have h:=Jp.name (s:=[114,101,116,117,114,110]) ⟨_,_,rfl,by decide⟩ yAe (.inl yAe) (59::r) (n+1) (Stop.cons _ yAe) (Lx.ym yAe yAe hl)
 exact h⟩
theorem bZ.st {S:List UInt8→Prop}{a b:ByteArray}{k k' m m':Nat}(h:bZ Stop a k m)(h':bZ S b k' m')(c:UInt8)(t:List UInt8)(hb:bs b=c::t)(hc:fG c=false∧c≠61∧c≠47):bZ S (a++b) (k' + k) (m+m'):=
 h.app h' fun r _=>by rw[hb];exact Stop.cons _ hc
theorem bZ.an {S:List UInt8→Prop}{a b:ByteArray}{k k' m m':Nat}(h:bZ Any a k m)(h':bZ S b k' m'):bZ S (a++b) (k' + k) (m+m'):=h.app h' fun _ _=>trivial
def gL (d:Nat)(s:ByteArray):Prop:=(bs s).all iM=true∧(bs s).length+d≤3
theorem gL.D9 {d:Nat}{s:ByteArray}(h:gL (d+1) s):gL d (s++p6):=by
 refine⟨by rw[gJ,List.all_append,h.1];rfl,?_⟩
 rw[gJ,List.length_append]
 have:=h.2
 show _+1+d≤3
 omega
theorem gL.seg {d:Nat}{s:ByteArray}(h:gL d s):bZ Any s 0 3:=(bZ.Jr h.1).mono (Nat.le_refl _) (by have:=h.2;omega)
include hms hps hfs
theorem bZ.lines:(∀ s:Sm,∀ d V tabs,(∀ x∈V,dm x)→gL d tabs→dS ms fs ps d V s→(∀ x,dW s=[x]→dm x)→bZ Any (kX tabs s) (eA s) (64*eA s-10))∧
  (∀ l:List Sm,∀ d V tabs,(∀ x∈V,dm x)→gL d tabs→cR ms fs ps d V l→bZ Any (js tabs l) (bG l) (64*bG l)):=by
 have hvn:∀ k,k<24→dm (fz k):=by
  intro k hk
  refine⟨⟨118,_,gh k,by decide⟩,?_,by rw[gh];simp⟩
  rw[gh]
  have:∀ k,k<24→List.all [118,UInt8.ofNat (97+k % 26),UInt8.ofNat (97+k / 26 % 26)] fG=true:=by decide
  exact this k hk
 have hpos:∀ s:Sm,2≤eA s:=by intro s;cases s<;>simp only[eA]<;>omega
 have A1:∀ (s:ByteArray) (e:Ex) d V tabs,(∀ x∈V,dm x)→gL d tabs→dS ms fs ps d V (.gZ s e)→bZ Any (kX tabs (.gZ s e)) (eA (.gZ s e)) (64*eA (.gZ s e)-10):=by
  intro s e d V tabs hV ht hw
  simp only[dS] at hw
  obtain⟨⟨k,hk,rfl⟩,_,he⟩:=hw
  simp only[kX,eA]
  exact ((((xZ.an (bZ.nm (hvn k hk))).st Bz 32 _ rfl yAe).an (bZ.ex hV 2 e he)).st p7 59 _ rfl yAe).mono (by simp[Bm]) (by simp[Bm])
 have A2:∀ (s:ByteArray) (e:Ex) d V tabs,(∀ x∈V,dm x)→gL d tabs→dS ms fs ps d V (.iF s e)→bZ Any (kX tabs (.iF s e)) (eA (.iF s e)) (64*eA (.iF s e)-10):=by
  intro s e d V tabs hV ht hw
  simp only[dS] at hw
  simp only[kX,eA]
  exact ((((bZ.nm (hV s hw.1)).st Bz 32 _ rfl yAe).an (bZ.ex hV 2 e hw.2)).st p7 59 _ rfl yAe).mono (by simp[Bm]) (by simp[Bm])
 have A3:∀ (g:Bool) (s:ByteArray) (l:List Ar) d V tabs,(∀ x∈V,dm x)→gL d tabs→dS ms fs ps d V (.dY g s l)→bZ Any (kX tabs (.dY g s l)) (eA (.dY g s l)) (64*eA (.dY g s l)-10):=by
  intro g s l d V tabs hV ht hw
  simp only[dS] at hw
  obtain⟨gp,h1,h2⟩:=hw
  have hn:=bZ.nm (hfs _ h1)
  have ha:=bZ.ars hms hps hV h2
  have hb:bs (sM l)=40::(bs (vA true l)++[41]):=by simp only[sM,gJ];rfl
  have hg:bZ Stop (if g=true then LF++s else s) 2 33:=by
   cases g with
   | true=>exact (Kb.an hn).mono yA yA
   | false=>exact hn.mono yA yA
  simp only[kX,eA]
  exact ((hg.st ha 40 _ hb yAe).an p7).mono yA yA
 have A4:∀ (u:Bool) (r:Rf) d V tabs,(∀ x∈V,dm x)→gL d tabs→dS ms fs ps d V (.dB u r)→bZ Any (kX tabs (.dB u r)) (eA (.dB u r)) (64*eA (.dB u r)-10):=by
  intro u r d V tabs hV ht hw
  simp only[dS] at hw
  have hr:=bZ.rf hms hps hV hw
  have hg:bZ Any (if u=true then ou else wC) 1 17:=by
   cases u with
   | true=>exact By
   | false=>exact Fj
  simp only[kX,eA]
  exact ((hg.an hr).st p7 59 _ rfl yAe).mono yA yA
 have A5:∀ (e:Ex) (th el:List Sm),(∀ d V tabs,(∀ x∈V,dm x)→gL d tabs→cR ms fs ps d V th→bZ Any (js tabs th) (bG th) (64*bG th))→(∀ d V tabs,(∀ x∈V,dm x)→gL d tabs→cR ms fs ps d V el→bZ Any (js tabs el) (bG el) (64*bG el))→∀ d V tabs,(∀ x∈V,dm x)→gL d tabs→dS ms fs ps d V (.lG e th el)→bZ Any (kX tabs (.lG e th el)) (eA (.lG e th el)) (64*eA (.lG e th el)-10):=by
  intro e th el i1 i2 d V tabs hV ht hw
  cases d with
  | zero=>simp[dS] at hw
  | succ d=>
   simp only[dS] at hw
   have h1:=i1 d V _ hV ht.D9 hw.2.1
   have h2:=i2 d V _ hV ht.D9 hw.2.2
   have h3:=((((Ka.an (bZ.ex hV 2 e hw.1)).st zr 32 _ rfl yAe).an h1).an ht.seg).an qU
   simp only[kX,eA]
   split
   ·exact (h3.an (bZ.nil Any)).mono yBe yBe
   ·exact (h3.an (((Fl.an h2).an ht.seg).an qU)).mono yBe yBe
 have A6:∀ (e:Ex) (th:List Sm),(∀ d V tabs,(∀ x∈V,dm x)→gL d tabs→cR ms fs ps d V th→bZ Any (js tabs th) (bG th) (64*bG th))→∀ d V tabs,(∀ x∈V,dm x)→gL d tabs→dS ms fs ps d V (.cJ e th)→bZ Any (kX tabs (.cJ e th)) (eA (.cJ e th)) (64*eA (.cJ e th)-10):=by
  intro e th i1 d V tabs hV ht hw
  cases d with
  | zero=>simp[dS] at hw
  | succ d=>
   simp only[dS] at hw
   have h1:=i1 d V _ hV ht.D9 hw.2
   have h3:=((((DF.an (bZ.ex hV 2 e hw.1)).st zr 32 _ rfl yAe).an h1).an ht.seg).an qU
   simp only[kX,eA]
   exact h3.mono yBe yBe
 have A8:∀ (s:Sm) (r:List Sm),(∀ d V tabs,(∀ x∈V,dm x)→gL d tabs→dS ms fs ps d V s→bZ Any (kX tabs s) (eA s) (64*eA s-10))→(∀ d V tabs,(∀ x∈V,dm x)→gL d tabs→cR ms fs ps d V r→bZ Any (js tabs r) (bG r) (64*bG r))→∀ d V tabs,(∀ x∈V,dm x)→gL d tabs→cR ms fs ps d V (s::r)→bZ Any (js tabs (s::r)) (bG (s::r)) (64*bG (s::r)):=by
  intro s r i1 i2 d V tabs hV ht hw
  simp only[cR] at hw
  have hV2:∀ x∈V++dW s,dm x:=by
   intro x hx
   rcases List.mem_append.1 hx with hx | hx
   ·exact hV x hx
   ·cases s<;>simp only[dW,List.mem_singleton,List.not_mem_nil] at hx
    subst hx
    have:=hw.1
    simp only[dS] at this
    obtain⟨⟨k,hk,rfl⟩,_⟩:=this
    exact hvn k hk
  have h1:=i1 d V tabs hV ht hw.1
  have h2:=i2 d _ tabs hV2 ht hw.2
  have hp:=hpos s
  have hnl:bZ Any tNl 0 1:=bZ.Jr yAe
  simp only[js,bG]
  exact (((ht.seg.an h1).an hnl).an h2).mono yA yA
 have A7:∀ d V tabs,(∀ x∈V,dm x)→gL d tabs→dS ms fs ps d V .jC→bZ Any (kX tabs .jC) (eA .jC) (64*eA .jC-10):=by
  intro d V tabs _ _ _
  simp only[kX,eA]
  exact HZ.mono yA yA
 have A0:∀ d V tabs,(∀ x∈V,dm x)→gL d tabs→cR ms fs ps d V []→bZ Any (js tabs []) (bG []) (64*bG []):=by
  intro d V tabs _ _ _
  simp only[js,bG]
  exact bZ.nil _
 refine⟨fun s d V tabs h1 h2 h3 _=>?_,fun l=>?_⟩
 ·exact Sm.rec (motive_1:=fun s=>∀ d V tabs,(∀ x∈V,dm x)→gL d tabs→dS ms fs ps d V s→bZ Any (kX tabs s) (eA s) (64*eA s-10)) (motive_2:=fun l=>∀ d V tabs,(∀ x∈V,dm x)→gL d tabs→cR ms fs ps d V l→bZ Any (js tabs l) (bG l) (64*bG l)) A1 A2 A3 A4 A5 A6 A7 A0 A8 s d V tabs h1 h2 h3
 ·exact Sm.rec_1 (motive_1:=fun s=>∀ d V tabs,(∀ x∈V,dm x)→gL d tabs→dS ms fs ps d V s→bZ Any (kX tabs s) (eA s) (64*eA s-10)) (motive_2:=fun l=>∀ d V tabs,(∀ x∈V,dm x)→gL d tabs→cR ms fs ps d V l→bZ Any (js tabs l) (bG l) (64*bG l)) A1 A2 A3 A4 A5 A6 A7 A0 A8 l
end
theorem bZ.nT {n:Int}(h : -9223372036854775807≤n∧n≤9223372036854775807):bZ Stop (lg n) 2 20:=by
 unfold Go.aX.lg
 split
 ·exact ((iX 45 yAe).an (bZ.dig (n:=(-n).toNat) yA)).mono yA yA
 ·exact (bZ.dig (n:=n.toNat) yA).mono yA yA
theorem oy:bZ Any ⟨#[59,10]⟩ 1 2:=⟨Nat.le_refl _,fun _ _ _ hl=>Lx.ym yAe yAe (Lx.sp yAe hl)⟩
theorem bZ.gl {g:Gl}(h:dm g.name)(hi : -2≤g.init∧g.init≤2):bZ Any (JK g) 6 64:=by
 unfold JK
 split
 ·exact (((xZ.an (bZ.nm h)).app (bZ.nil Stop) fun r hr=>hr).st oy 59 _ rfl yAe).mono yA yA
 ·have h1:bZ Stop (Fk++lg g.init) 3 23:=(Bz.an (bZ.nT yA)).mono yA yA
  exact (((xZ.an (bZ.nm h)).st h1 32 _ rfl yAe).st oy 59 _ rfl yAe).mono yA yA
theorem bZ.mx {m:Mx}(h:dm m.name)(hi:m.size≤3):bZ Any (ID m) 7 64:=by
 unfold ID
 have h0:bZ Any ((if m.re=true then ⟨#[114]⟩ else ⟨#[]⟩)++⟨#[109,117,116,101,120,32]⟩) 1 17:=by
  cases m.re with
  | true=>exact oZ [114,109,117,116,101,120] _ yAe ⟨⟨_,_,rfl,by decide⟩,by decide,by decide⟩
  | false=>exact oZ [109,117,116,101,120] _ yAe ⟨⟨_,_,rfl,by decide⟩,by decide,by decide⟩
 generalize (if m.re=true then (⟨#[114]⟩:ByteArray) else ⟨#[]⟩)++⟨#[109,117,116,101,120,32]⟩=pre at h0 ⊢
 split
 ·exact (((h0.an (bZ.nm h)).app (bZ.nil Stop) fun r hr=>hr).st oy 59 _ rfl yAe).mono yA yA
 ·have h1:bZ Any (⟨#[91]⟩++lg m.size++⟨#[93]⟩) 4 22:=(((iX 91 yAe).an (bZ.nT yA)).st (iX 93 yAe) 93 _ rfl yAe).mono yA yA
  exact (((h0.an (bZ.nm h)).st h1 91 _ (by rw[gJ,gJ];rfl) yAe).an oy).mono yA yA
theorem DY (l:List Pm)(r:List UInt8)(hr:Stop r):Stop (bs (uw false l)++r):=by
 cases l with
 | nil=>exact hr
 | cons a t=>
  rw[uw]
  simp only[Bool.false_eq_true,if_false,gJ]
  exact Stop.cons _ yAe
theorem bZ.pR:∀ (first:Bool) {l:List Pm},(∀ p∈l,dm p.name)→bZ Stop (uw first l) (3*l.length) (40*l.length)
 | _,[],_=>bZ.nil _
 | first,p::l,h=>by
  have hn:=(bZ.nm (h p List.mem_cons_self)).app (bZ.pR false fun q hq=>h q (List.mem_cons_of_mem _ hq)) fun r hr=>DY l r hr
  have hm:bZ Any (if p.mutex=true then ⟨#[109,117,116,101,120,32]⟩ else ⟨#[]⟩) 1 17:=by
   cases p.mutex with
   | true=>exact wB
   | false=>exact (bZ.nil Any).mono yA yA
  have hf:bZ Any (if first=true then ⟨#[]⟩ else ⟨#[44,32]⟩) 1 2:=by
   cases first with
   | true=>exact (bZ.nil Any).mono yA yA
   | false=>exact AR
  rw[Go.aX.uw]
  have h1:=(hf.an hm).an hn
  rw[← ByteArray.append_assoc] at h1
  exact h1.mono yBs yBs
theorem bZ.cat {α:Type}(f:α→ByteArray)(k:α→Nat):∀ {l:List α},(∀ a∈l,bZ Any (f a) (k a) (64*k a))→bZ Any (jO f l) (l.map k).sum (64*(l.map k).sum)
 | [],_=>bZ.nil _
 | a::r,h=>by
  rw[jO]
  have h1:=(h a List.mem_cons_self).an (bZ.cat f k fun b hb=>h b (List.mem_cons_of_mem _ hb))
  exact h1.mono yAg yAg
theorem CS (s:ByteArray)(h:(match bs s with | c::_=>isLet c | []=>false)=true∧(bs s).all fG=true∧(bs s).length≤16):dm s:=by
 refine⟨?_,h.2⟩
 have h1:=h.1
 cases hb:bs s with
 | nil=>rw[hb] at h1;cases h1
 | cons c t=>
  rw[hb] at h1
  exact⟨c,t,rfl,h1⟩
theorem nG_ok:∀ s∈nG,dm s:=fun s hs=>CS s ((by decide:∀ s∈nG,(match bs s with | c::_=>isLet c | []=>false)=true∧(bs s).all fG=true∧(bs s).length≤16) s hs)
theorem nM_ok:∀ s∈nM,dm s:=fun s hs=>CS s ((by decide:∀ s∈nM,(match bs s with | c::_=>isLet c | []=>false)=true∧(bs s).all fG=true∧(bs s).length≤16) s hs)
theorem nF_ok:∀ s∈nF,dm s:=fun s hs=>CS s ((by decide:∀ s∈nF,(match bs s with | c::_=>isLet c | []=>false)=true∧(bs s).all fG=true∧(bs s).length≤16) s hs)
theorem nP_ok:∀ s∈nP,dm s:=fun s hs=>CS s ((by decide:∀ s∈nP,(match bs s with | c::_=>isLet c | []=>false)=true∧(bs s).all fG=true∧(bs s).length≤16) s hs)
theorem yw {α:Type}{f:α→ByteArray}{l:List α}{ns:List ByteArray}(h:∀ s∈l.map f,s∈ns)(hn:∀ s∈ns,dm s):∀ a∈l,dm (f a):=fun _a ha=>hn _ (h _ (List.mem_map_of_mem ha))
theorem kD.ng {p:Pg}(h:kD p):∀ g∈p.gs,dm g.name:=by
 obtain⟨k,_,hk⟩:=h.gn
 exact yw (fun s hs=>by rw[hk] at hs;exact List.mem_of_mem_take hs) nG_ok
theorem kD.nm {p:Pg}(h:kD p):∀ g∈p.ms,dm g.name:=by
 obtain⟨k,_,_,hk⟩:=h.mn
 exact yw (fun s hs=>by rw[hk] at hs;exact List.mem_of_mem_take hs) nM_ok
theorem kD.nf {p:Pg}(h:kD p):∀ g∈p.fs,dm g.name:=by
 obtain⟨k,_,_,hk⟩:=h.fn
 exact yw (fun s hs=>by rw[hk] at hs;exact List.mem_of_mem_take hs) nF_ok
theorem kD.np {p:Pg}(h:kD p):∀ f∈p.fs,∀ q∈f.params,dm q.name:=fun f hf=>by
 obtain⟨k,_,hk⟩:=h.pn f hf
 exact yw (fun s hs=>by rw[hk,List.mem_reverse] at hs;exact List.mem_of_mem_take hs) nP_ok
theorem kD.nv {p:Pg}(h:kD p):∀ f∈p.fs,∀ s∈jF p.gs f.params,dm s:=fun f hf s hs=>by
 rcases uE hs with hs | hs
 ·rw[List.mem_map] at hs
  obtain⟨g,hg,rfl⟩:=hs
  exact h.ng g hg
 ·rw[List.mem_map] at hs
  obtain⟨g,hg,rfl⟩:=hs
  exact h.np f hf g hg
theorem bZ.fu {p:Pg}(h:kD p){f:Fu}(hf:f∈p.fs):bZ Any (ET f) (12+bG f.body) (64*(12+bG f.body)):=by
 have hb:=(bZ.lines (ms:=p.ms) (fs:=p.fs.map fun f=>(f.name,f.params)) (ps:=f.params) h.nm (fun x hx=>by
  rw[List.mem_map] at hx
  obtain⟨g,hg,rfl⟩:=hx
  exact h.nf g hg) (h.np f hf)).2 f.body 2 (jF p.gs f.params) p6 (h.nv f hf) ⟨by decide,by decide⟩ (h.bd f hf)
 obtain⟨k,hk,hpk⟩:=h.pn f hf
 have hlen:f.params.length≤2:=by
  have:=congrArg List.length hpk
  simp[nP] at this
  omega
 have hfn:bZ Any ⟨#[102,117,110,99,32]⟩ 1 17:=oZ [102,117,110,99] _ rfl ⟨⟨_,_,rfl,by decide⟩,by decide,by decide⟩
 have ho:bZ Any ⟨#[41,32,123,10]⟩ 2 4:=⟨Nat.le_refl _,fun _ _ _ hl=>Lx.ym yAe yAe (Lx.sp yAe (Lx.ym yAe yAe (Lx.sp yAe hl)))⟩
 have hc:bZ Any ⟨#[125,10]⟩ 1 2:=⟨Nat.le_refl _,fun _ _ _ hl=>Lx.ym yAe yAe (Lx.sp yAe hl)⟩
 unfold ET
 exact ((((((hfn.an (bZ.nm (h.nf f hf))).st (iX 40 yAe) 40 _ rfl yAe).an (bZ.pR true (h.np f hf))).st ho 41 _ rfl yAe).an hb).an hc).mono yA yA
theorem DG {α:Type}(l:List α)(c:Nat):(l.map fun _=>c).sum=c*l.length:=by
 induction l with
 | nil=>simp
 | cons _ r ih=>simp[ih,Nat.mul_add];omega
theorem sum_add {α:Type}(l:List α)(c:Nat)(f:α→Nat):(l.map fun a=>c+f a).sum=c*l.length+(l.map f).sum:=by
 induction l with
 | nil=>simp
 | cons a r ih=>simp[ih,Nat.mul_add];omega
theorem KC {p:Pg}(h:kD p):Lx (bs (D0 p)) 4000∧(bs (D0 p)).length≤262144:=by
 have h1:=bZ.cat JK (fun _=>6) (l:=p.gs) fun g hg=>(bZ.gl (h.ng g hg) (h.gi g hg)).mono (Nat.le_refl _) yA
 have h2:=bZ.cat ID (fun _=>7) (l:=p.ms) fun g hg=>(bZ.mx (h.nm g hg) (h.mz g hg).1).mono (Nat.le_refl _) yA
 have h3:=bZ.cat ET (fun f=>12+bG f.body) (l:=p.fs) fun g hg=>bZ.fu h hg
 rw[DG] at h1 h2
 rw[sum_add] at h3
 have hw:=h.wt
 obtain⟨k1,hk1,e1⟩:=h.gn
 obtain⟨k2,_,hk2,e2⟩:=h.mn
 obtain⟨k3,_,hk3,e3⟩:=h.fn
 have l1:=congrArg List.length e1
 have l2:=congrArg List.length e2
 have l3:=congrArg List.length e3
 simp[nG] at l1
 simp[nM] at l2
 simp[nF] at l3
 obtain⟨hb,hl⟩:=(h1.an h2).an h3
 refine⟨?_,?_⟩
 ·have:=hl [] 0 trivial (.nil 0)
  rw[List.append_nil] at this
  exact this.mono yA
 ·unfold D0
  omega
end Go.aX
namespace Go.Proofs.YtmnglemlimfpbaaGreat
open Go.Can Go.aX
theorem iC (x y:ByteArray):lK .eql x y=some (.bool (decide (x=y))):=by
 have h:(x.toList == y.toList)=decide (x=y):=by
  rw[ByteArray.toList_eq,ByteArray.toList_eq,Bool.eq_iff_iff]
  simp only[beq_iff_eq,decide_eq_true_eq,Array.toList_inj]
  exact⟨fun h=>ByteArray.ext h,fun h=>by rw[h]⟩
 simp only[lK,h]
theorem jS (x y:ByteArray):lK .neq x y=some (.bool (!decide (x=y))):=by
 have h:=iC x y
 simp only[lK,Option.some.injEq,CV.bool.injEq] at h ⊢
 rw[h]
theorem ax (x y:ByteArray)(h:x.size+y.size≤9223372036854775807):lK .add x y=some (.str (x++y)):=by
 simp only[lK,if_pos h]
theorem Gx (c:UInt8):isLet c=((decide ((97:Int)≤c.toNat) && decide ((c.toNat:Int)≤122)) || (decide ((65:Int)≤c.toNat) && decide ((c.toNat:Int)≤90)) || ((c.toNat:Int) == 95)):=by
 rw[Bool.eq_iff_iff]
 simp only[isLet,Bool.or_eq_true,Bool.and_eq_true,decide_eq_true_eq,beq_iff_eq]
 omega
theorem Gy (c:UInt8):db c=(decide ((48:Int)≤c.toNat) && decide ((c.toNat:Int)≤57)):=by
 rw[Bool.eq_iff_iff]
 simp only[db,Bool.and_eq_true,decide_eq_true_eq]
 omega
theorem lQ (c:UInt8):ae Tryz.prog 103 [.int .u8 c.toNat] (.bool (isLet c)):=by
 rw[Gx]
 generalize (c.toNat:Int)=n
 refine ae.aB ag Tryz.func103 rfl yAb (by simp[Tryz.ntmps103]) rfl fun C hC hC0=>?_
 rw[Tryz.ntmps103] at hC
 apply au
 simp[hC]
 by_cases h1:97≤n
 ·by_cases h2:n≤122
  ·apply au
   simp[hC,h1,h2]
   apply T.ret
   apply aa.here
   simp[Tryz.results103]
  ·have h3:65≤n:=by omega
   have h4:¬ n≤90:=by omega
   apply au
   simp[hC,h1,h2,h3,h4]
   apply T.ret
   apply aa.here
   simp[Tryz.results103]
 ·by_cases h3:65≤n
  ·by_cases h4:n≤90
   ·apply au
    simp[hC,h1,h3,h4]
    apply T.ret
    apply aa.here
    simp[Tryz.results103]
   ·apply au
    simp[hC,h1,h3,h4]
    apply T.ret
    apply aa.here
    simp[Tryz.results103]
  ·apply au
   simp[hC,h1,h3]
   apply T.ret
   apply aa.here
   simp[Tryz.results103]
theorem lX (c:UInt8):ae Tryz.prog 104 [.int .u8 c.toNat] (.bool (db c)):=by
 rw[Gy]
 generalize (c.toNat:Int)=n
 refine ae.aB ag Tryz.func104 rfl yAb (by simp[Tryz.ntmps104]) rfl fun C hC hC0=>?_
 rw[Tryz.ntmps104] at hC
 apply au
 simp[hC]
 by_cases h1:48≤n
 ·apply au
  simp[hC,h1]
  apply T.ret
  apply aa.here
  simp[Tryz.results104]
 ·apply au
  simp[hC,h1]
  apply T.ret
  apply aa.here
  simp[Tryz.results104]
def hasB (l:List ByteArray)(s:ByteArray):Bool:=l.any fun x=>decide (x=s)
theorem yI (l:List ByteArray)(s:ByteArray)(hl:l.length≤1000):ae Tryz.prog 140 [strs l,.str s] (.bool (hasB l s)):=by
 refine ae.aB ag Tryz.func140 rfl yAb (by simp[Tryz.ntmps140]) rfl fun C hC hC0=>?_
 rw[Tryz.ntmps140] at hC
 apply au
 simp[hC]
 apply aJ
 simp[hC]
 apply T.block
 refine T.aL (fun m st=>∃ i:Nat,m=l.length-i∧i≤l.length∧hasB l s=hasB (l.drop i) s∧st=⟨[(5,I i),(0,strs l),(1,.str s)],[],0⟩) (n:=l.length) ?_ ?_
 ·refine aa.le (Le.env [5,0,1]) (aa.here ⟨0,by omega,by omega,by simp,?_⟩)
  simp
 ·rintro n st ⟨i,rfl,hi,hni,rfl⟩
  by_cases hil:i<l.length
  ·have hdr:=jg hil
   have hw:=ct ((i:Int)+1) yA yA
   apply aJ
   simp[hC,strs,hil]
   refine iv ?_
   simp
   apply fq
   apply au
   simp[hC,hil,hdr,iC]
   refine T.bg rfl (fun h=>?_) (fun h=>?_)
   ·have he:l.getD i eS=s:=by simpa [hil] using h
    apply au
    simp[hC]
    apply T.ret
    apply aa.here
    have hb:hasB l s=true:=by
     unfold hasB
     rw[List.any_eq_true]
     exact⟨s,he ▸ jk hil eS,by simp⟩
    simp[Tryz.results140,hb]
   ·have he:¬ l.getD i eS=s:=by simpa [hil] using h
    apply T.skip
    simp
    apply aO
    simp[hC,hw]
    refine⟨l.length-(i+1),by omega,?_⟩
    refine aa.le (Le.env [5,0,1]) (aa.here ⟨i+1,rfl,by omega,?_,?_⟩)
    ·rw[hni,List.drop_eq_getElem_cons hil]
     have e2:l[i]=l.getD i eS:=by simp[hil]
     simp only[hasB,List.any_cons,e2,he,decide_false,Bool.false_or]
    ·simp
  ·have hie:i=l.length:=by omega
   have hb:hasB l s=false:=by rw[hni,hie,List.drop_length];rfl
   apply aJ
   simp[hC,strs,hil]
   refine bj ?_
   simp
   apply T.exit
   simp
   apply au
   simp[hC]
   apply T.ret
   apply aa.here
   simp[Tryz.results140,hb]
def Km:List ByteArray:=[⟨#[118,97,114]⟩,⟨#[109,117,116,101,120]⟩,⟨#[114,109,117,116,101,120]⟩,⟨#[102,117,110,99]⟩,⟨#[108,111,99,107]⟩,⟨#[117,110,108,111,99,107]⟩,⟨#[103,111]⟩,⟨#[105,102]⟩,⟨#[101,108,115,101]⟩,⟨#[119,104,105,108,101]⟩,⟨#[114,101,116,117,114,110]⟩]
theorem Ih:Km.map bs=q9:=rfl
theorem Lp {a b:ByteArray}(h:bs a=bs b):a=b:=by
 unfold bs at h
 exact ByteArray.ext (Array.toList_inj.1 h)
theorem GK (s:ByteArray):hasB Km s=decide (bs s∈q9):=by
 rw[Bool.eq_iff_iff,decide_eq_true_eq,← Ih]
 unfold hasB
 rw[List.any_eq_true,List.mem_map]
 constructor
 ·rintro⟨x,h1,h2⟩
  exact⟨x,h1,by rw[of_decide_eq_true h2]⟩
 ·rintro⟨x,h1,h2⟩
  exact⟨x,h1,by rw[Lp h2];simp⟩
theorem rU (s:ByteArray):ae Tryz.prog 105 [.str s] (.bool (decide (bs s∈q9))):=by
 refine ae.aB ag Tryz.func105 rfl yAb (by simp[Tryz.ntmps105]) rfl fun C hC hC0=>?_
 rw[Tryz.ntmps105] at hC
 apply au
 simp[hC]
 apply au
 simp[hC]
 refine TL.le (Le.cG (o:=0) rfl rfl) ?_
 simp[cL]
 have h:=yI Km s yAe
 rw[GK] at h
 refine cH yAd (h) ?_
 simp[hC]
 apply T.ret
 apply aa.here
 simp[Tryz.results105]
def dG (l:List UInt8):CV:=.av (l.map fun x=>.int .u8 (x.toNat:Int)) l.length
theorem lC {l:List UInt8}{i:Nat}{c:UInt8}(h:l[i]? = some c):(l.map fun x=>CV.int .u8 (x.toNat:Int)).drop i=.int .u8 (c.toNat:Int)::(l.map fun x=>CV.int .u8 (x.toNat:Int)).drop (i+1):=by
 obtain⟨h1,h2⟩:=List.getElem?_eq_some_iff.1 h
 rw[List.drop_eq_getElem_cons (by simpa using h1)]
 simp[h2]
theorem IT (c:UInt8):iM c=((c.toNat:Int) == 32 || (c.toNat:Int) == 9 || (c.toNat:Int) == 10 || (c.toNat:Int) == 13):=by
 have h:∀ k:UInt8,(c == k)=((c.toNat:Int) == (k.toNat:Int)):=fun k=>by
  rw[Bool.eq_iff_iff,beq_iff_eq,beq_iff_eq]
  constructor
  ·intro h;rw[h]
  ·intro h;exact UInt8.toNat_inj.1 yA
 simp only[iM,h]
 rfl
theorem Fy {c:UInt8}{r:List UInt8}:qL (c::r)=if iM c=true then qL r+1 else 0:=by
 unfold qL
 rw[List.takeWhile_cons]
 split<;>simp
theorem ig {l:List UInt8}{i:Nat}{c:UInt8}(h:l[i]? = some c):l.drop i=c::l.drop (i+1):=by
 obtain⟨h1,h2⟩:=List.getElem?_eq_some_iff.1 h
 rw[List.drop_eq_getElem_cons h1,h2]
theorem CD (l:List UInt8)(at0:Nat)(hat:at0≤l.length)(hl:l.length≤1000000)(hcm:∀ r,l.drop (at0+qL (l.drop at0))=47::r→r.head?≠some 47):ae Tryz.prog 102 [dG l,I at0] (I ((at0+qL (l.drop at0):Nat))):=by
 obtain⟨e,he⟩:∃ e,at0+qL (l.drop at0)=e:=⟨_,rfl⟩
 rw[he] at hcm ⊢
 refine ae.aB ag Tryz.func102 rfl yAb (by simp[Tryz.ntmps102]) rfl fun C hC hC0=>?_
 rw[Tryz.ntmps102] at hC
 apply au
 simp[hC]
 apply fq
 refine T.aL (fun m st=>∃ i:Nat,m=l.length-i∧i≤l.length∧i+qL (l.drop i)=e∧st=⟨[(0,dG l),(1,I i)],[],0⟩) (n:=l.length-at0) ?_ ?_
 ·refine aa.le (Le.env [0,1]) (aa.here ⟨at0,rfl,hat,he,?_⟩)
  simp
 ·rintro n st ⟨i,rfl,hi,hie,rfl⟩
  by_cases hil:i<l.length
  ·obtain⟨c,hc⟩:∃ c,l[i]? = some c:=⟨l[i],List.getElem?_eq_getElem hil⟩
   have hdr:=lC hc
   have hd:=ig hc
   rw[hd,Fy] at hie
   have hw:=ct ((i:Int)+1) yA yA
   apply aJ
   simp[hC,dG,hil]
   refine iv ?_
   simp
   refine T.block (T.block ?_)
   refine T.cut (fun st=>st=⟨[(10,.bool (iM c)),(0,dG l),(1,I i)],[],0⟩) ?_ ?_
   ·rw[IT]
    generalize (c.toNat:Int)=n at hdr
    by_cases h1:n=32
    ·apply aO
     simp[hC,h1,hil,hdr]
     refine aa.le (Le.env [10,0,1]) (aa.here ?_)
     simp[dG]
    have h1:(n == 32)=false:=by simp[h1]
    by_cases h2:n=9
    ·apply aO
     simp[hC,h2,hil,hdr]
     refine aa.le (Le.env [10,0,1]) (aa.here ?_)
     simp[dG]
    have h2:(n == 9)=false:=by simp[h2]
    by_cases h3:n=10
    ·apply aO
     simp[hC,h3,hil,hdr]
     refine aa.le (Le.env [10,0,1]) (aa.here ?_)
     simp[dG]
    have h3:(n == 10)=false:=by simp[h3]
    apply aO
    simp[hC,h1,h2,h3,hil,hdr]
    refine aa.le (Le.env [10,0,1]) (aa.here ?_)
    simp[dG]
   ·rintro st rfl
    refine T.bg rfl (fun h=>?_) (fun h=>?_)
    ·rw[h,if_pos rfl] at hie
     apply aO
     simp[hC,hw]
     refine⟨l.length-(i+1),by omega,?_⟩
     refine aa.le (Le.env [0,1]) (aa.here ⟨i+1,rfl,by omega,by omega,?_⟩)
     simp[dG]
    ·have h':iM c=false:=by simpa using h
     rw[h',if_neg yAa] at hie
     have hei:e=i:=by omega
     subst hei
     rw[hd] at hcm
          /- no comment -/
     refine T.cut (fun st=>st=⟨[(39,.bool false),(0,dG l),(1,I e)],[],0⟩) ?_ ?_
     ·by_cases h2:e+1<l.length
      ·obtain⟨c2,hc2⟩:∃ c2,l[e+1]? = some c2:=⟨l[e+1],List.getElem?_eq_getElem h2⟩
       have hdr2:=lC hc2
       have hd2:=ig hc2
       have h2':(e:Int)+1<l.length:=by omega
       by_cases h4:(c.toNat:Int)=47
       ·have h5:¬ (c2.toNat:Int)=47:=by
         have hc47:c=47:=UInt8.toNat_inj.1 (by have:(47:UInt8).toNat=47:=rfl;omega)
         subst hc47
         have hcm:=hcm _ rfl
         rw[hd2] at hcm
         have:c2≠47:=fun h=>hcm (by simp[h])
         intro h
         exact this (UInt8.toNat_inj.1 (by have:(47:UInt8).toNat=47:=rfl;omega))
        apply aO
        simp[hC,h4,hil,hdr,hw,h2',hdr2,dG]
        refine aa.le (Le.env [39,0,1]) (aa.here ?_)
        simp[h5]
       ·have h4:((c.toNat:Int) == 47)=false:=by simp[h4]
        apply aO
        simp[hC,h4,hil,hdr,hw,h2',dG]
        refine aa.le (Le.env [39,0,1]) (aa.here ?_)
        simp
      ·have h2':¬ (e:Int)+1<l.length:=by omega
       apply aO
       simp[hC,hw,h2',dG]
       refine aa.le (Le.env [39,0,1]) (aa.here ?_)
       simp
     ·rintro st rfl
      refine bj ?_
      simp
      apply au
      simp[hC]
      apply T.ret
      apply aa.here
      simp[Tryz.results102]
  ·have hie':i=l.length:=by omega
   have hee:e=i:=by
    rw[hie',List.drop_length] at hie
    have:qL ([]:List UInt8)=0:=rfl
    omega
   apply aJ
   simp[hC,dG,hil]
   refine bj ?_
   simp
   apply T.exit
   simp
   apply au
   simp[hC]
   apply T.ret
   apply aa.here
   simp[Tryz.results102,hee]
theorem rH (w:List UInt8)(c:UInt8):lq (w++[c])=10*lq w+(c.toNat-48):=by simp[lq]
theorem I4 (w:List UInt8)(r:List UInt8):lq w≤lq (w++r):=by
 induction r generalizing w with
 | nil=>simp
 | cons c r ih=>
  have h1:=ih (w++[c])
  rw[rH] at h1
  rw[List.append_assoc] at h1
  have:lq w≤10*lq w+(c.toNat-48):=by omega
  exact Nat.le_trans this h1
theorem vQ (l:List UInt8)(hl:l.length≤1000000)(hd:l.all db=true)(hv:lq l<9223372036854775808):ae Tryz.prog 106 [dG l] (I (lq l)):=by
 refine ae.aB ag Tryz.func106 rfl yAb (by simp[Tryz.ntmps106]) rfl fun C hC hC0=>?_
 rw[Tryz.ntmps106] at hC
 apply au
 simp[hC]
 apply au
 simp[hC]
 apply aJ
 simp[hC]
 apply T.block
 refine T.aL (fun m st=>∃ i:Nat,m=l.length-i∧i≤l.length∧st=⟨[(4,I i),(3,I (lq (l.take i))),(0,dG l)],[],0⟩) (n:=l.length) ?_ ?_
 ·refine aa.le (Le.env [4,3,0]) (aa.here ⟨0,by omega,by omega,?_⟩)
  simp[lq]
 ·rintro n st ⟨i,rfl,hi,rfl⟩
  by_cases hil:i<l.length
  ·obtain⟨c,hc⟩:∃ c,l[i]? = some c:=⟨l[i],List.getElem?_eq_getElem hil⟩
   have hdr:=lC hc
   have htk:l.take (i+1)=l.take i++[c]:=by rw[List.take_add_one,hc];rfl
   have hcd:48≤c.toNat∧c.toNat≤57:=by
    have:=List.all_eq_true.1 hd c (List.mem_of_getElem? hc)
    simpa [db] using this
   have hle:=I4 (l.take (i+1)) (l.drop (i+1))
   rw[List.take_append_drop,htk,rH] at hle
   have hw:=ct ((i:Int)+1) yA yA
   generalize hdv:lq (l.take i)=d at hle
   have w1:IntKind.u8.wrap ((c.toNat:Int)-48)=(c.toNat:Int)-48:=IntWalk.u8_in _ yA
   have w2:=ct ((c.toNat:Int)-48) yA yA
   have w3:=ct (9223372036854775807-((c.toNat:Int)-48)) yA yA
   have w4:(9223372036854775807-((c.toNat:Int)-48)).tdiv 10=(9223372036854775807-((c.toNat:Int)-48)) / 10:=Int.tdiv_eq_ediv_of_nonneg yA
   have w5:=ct ((9223372036854775807-((c.toNat:Int)-48)) / 10) yA yA
   have w6:=ct (10*(d:Int)) yA yA
   have w7:=ct (10*(d:Int)+((c.toNat:Int)-48)) yA yA
   have w8:¬ (9223372036854775807-((c.toNat:Int)-48)) / 10<(d:Int):=by omega
   apply aJ
   simp[hC,dG,hil]
   refine iv ?_
   simp
   apply fq
   refine T.seq (T.Bl ag ?_)
   simp[hC,hil,hdr,w1,w2]
   apply aJ
   simp[hC,w3,w4,w5]
   refine T.bg rfl (fun h=>?_) (fun h=>?_)
   ·simp at h
    omega
   apply T.skip
   simp
   apply aO
   simp[hC,w6,w7]
   apply aO
   simp[hC,hw]
   refine⟨l.length-(i+1),by omega,?_⟩
   refine aa.le (Le.env [4,3,0]) (aa.here ⟨i+1,rfl,by omega,?_⟩)
   rw[htk,rH,hdv]
   simp
   omega
  ·have hie:i=l.length:=by omega
   apply aJ
   simp[hC,dG,hil]
   refine bj ?_
   simp
   apply T.exit
   simp
   apply au
   simp[hC]
   apply T.ret
   apply aa.here
   simp[Tryz.results106,hie]
def J9:List ByteArray:=[⟨#[60,61]⟩,⟨#[62,61]⟩,⟨#[61,61]⟩,⟨#[33,61]⟩,⟨#[38,38]⟩,⟨#[124,124]⟩]
def Iw:List ByteArray:=[⟨#[40]⟩,⟨#[41]⟩,⟨#[123]⟩,⟨#[125]⟩,⟨#[91]⟩,⟨#[93]⟩,⟨#[44]⟩,⟨#[59]⟩,⟨#[61]⟩,⟨#[43]⟩,⟨#[45]⟩,⟨#[42]⟩,⟨#[47]⟩,⟨#[37]⟩,⟨#[60]⟩,⟨#[62]⟩,⟨#[33]⟩]
theorem GJ (a b:UInt8):hasB J9 ⟨#[a,b]⟩=decide ((a,b)∈qS):=by
 rw[Bool.eq_iff_iff,decide_eq_true_eq]
 simp only[hasB,J9,qS,List.any_cons,List.any_nil,Bool.or_eq_true,decide_eq_true_eq,ByteArray.mk.injEq,List.mem_cons,List.not_mem_nil,Prod.mk.injEq,Bool.false_eq_true]
 simp only[Array.mk.injEq,List.cons.injEq,and_true]
 constructor
 ·rintro (⟨rfl,rfl⟩ | ⟨rfl,rfl⟩ | ⟨rfl,rfl⟩ | ⟨rfl,rfl⟩ | ⟨rfl,rfl⟩ | ⟨rfl,rfl⟩ | h)<;>first | exact h.elim | simp
 ·rintro (⟨rfl,rfl⟩ | ⟨rfl,rfl⟩ | ⟨rfl,rfl⟩ | ⟨rfl,rfl⟩ | ⟨rfl,rfl⟩ | ⟨rfl,rfl⟩ | h)<;>first | exact h.elim | simp
theorem Am (a:UInt8):hasB Iw ⟨#[a]⟩=decide (a∈mf):=by
 rw[Bool.eq_iff_iff,decide_eq_true_eq]
 simp only[hasB,Iw,mf,List.any_cons,List.any_nil,Bool.or_eq_true,decide_eq_true_eq,ByteArray.mk.injEq,List.mem_cons,List.not_mem_nil,Bool.false_eq_true]
 simp only[Array.mk.injEq,List.cons.injEq,and_true]
 simp only[eq_comm]
theorem HY (c:UInt8):(c.toNat:Int)<256:=by
 have:=c.toNat_lt
 omega
theorem n9:∀ l:List UInt8,bytesOf (l.map fun x=>CV.int .u8 (x.toNat:Int))=some l
 | []=>rfl
 | c::r=>by
  have h:=HY c
  simp[bytesOf,n9 r,h]
theorem H9 (l:List UInt8)(i:Nat)(hil:i<l.length)(hl:l.length≤1000000):ae Tryz.prog 107 [dG l,I i] (I (sT (l.drop i))):=by
 obtain⟨c,hc⟩:∃ c,l[i]? = some c:=⟨l[i],List.getElem?_eq_getElem hil⟩
 have hdr:=lC hc
 have hd:=ig hc
 have hw:=ct ((i:Int)+1) yA yA
 have hw2:=ct ((i:Int)+2) yA yA
 rw[hd]
 refine ae.aB ag Tryz.func107 rfl yAb (by simp[Tryz.ntmps107]) rfl fun C hC hC0=>?_
 rw[Tryz.ntmps107] at hC
 apply au
 simp[hC]
 by_cases h2:i+1<l.length
 ·obtain⟨c2,hc2⟩:∃ c2,l[i+1]? = some c2:=⟨l[i+1],List.getElem?_eq_getElem h2⟩
  have hdr2:=lC hc2
  have hd2:=ig hc2
  rw[hd2]
  have h2':(i:Int)+1<l.length:=by omega
  have h3:i+2≤l.length:=by omega
  have z2:(0:Int)≤(i:Int)+2:=by omega
  have t2:((i:Int)+2).toNat=i+2:=by omega
  have e2:i+2-i=2:=by omega
  refine T.seq (T.seq (T.Bl ag ?_))
  simp[hC,dG,hw,hw2,h2',h3,hdr,hdr2,z2,t2,e2,HY]
  refine TL.le (Le.cG (o:=0) rfl rfl) ?_
  simp[cL]
  have h:=yI J9 ⟨#[c,c2]⟩ yAe
  rw[GJ] at h
  refine TL.cC yAc rfl rfl rfl rfl (bF.of rfl yAd (h)) (TL.go' ag ?_)
  simp[hC]
  refine T.bg rfl (fun h=>?_) (fun h=>?_)
  ·have h4:(c,c2)∈qS:=by simpa using h
   apply au
   simp[hC]
   apply T.ret
   apply aa.here
   simp[Tryz.results107,sT,h4]
  ·have h4:(c,c2)∉qS:=by simpa using h
   apply T.skip
   simp
   have hs:sT (c::c2::l.drop (i+1+1))=if c∈mf then 1 else 0:=by simp[sT,h4]
   rw[hs]
   clear hs
   refine T.le (Le.trim [0,1,4] [] 0 yAa yA) ?_
   simp
   have h1:i+1≤l.length:=by omega
   have z1:(0:Int)≤(i:Int)+1:=by omega
   have t1:((i:Int)+1).toNat=i+1:=by omega
   have e1:i+1-i=1:=by omega
   refine T.seq (T.seq (T.Bl ag ?_))
   simp[hC,hw,h1,z1,t1,e1,hdr,HY]
   refine TL.le (Le.cG (o:=0) rfl rfl) ?_
   simp[cL]
   have h:=yI Iw ⟨#[c]⟩ yAe
   rw[Am] at h
   refine cH yAd (h) ?_
   simp
   refine T.bg rfl (fun h=>?_) (fun h=>?_)
   ·have h5:c∈mf:=by simpa using h
    apply au
    simp[hC]
    apply T.ret
    apply aa.here
    simp[Tryz.results107,h5]
   ·have h5:c∉mf:=by simpa using h
    apply T.skip
    simp
    apply au
    simp[hC]
    apply T.ret
    apply aa.here
    simp[Tryz.results107,h5]
 ·have h2':¬ (i:Int)+1<l.length:=by omega
  have hd2:l.drop (i+1)=[]:=List.drop_eq_nil_of_le yA
  rw[hd2]
  have hs:sT [c]=if c∈mf then 1 else 0:=rfl
  rw[hs]
  clear hs
  refine T.seq (T.seq (T.Bl ag ?_))
  simp[hC,dG,hw,h2']
  refine bj ?_
  simp
  apply T.skip
  simp
  refine T.le (Le.trim [0,1,4] [] 0 yAa yA) ?_
  simp
  have h1:i+1≤l.length:=by omega
  have z1:(0:Int)≤(i:Int)+1:=by omega
  have t1:((i:Int)+1).toNat=i+1:=by omega
  have e1:i+1-i=1:=by omega
  refine T.seq (T.seq (T.Bl ag ?_))
  simp[hC,hw,h1,z1,t1,e1,hdr,HY]
  refine TL.le (Le.cG (o:=0) rfl rfl) ?_
  simp[cL]
  have h:=yI Iw ⟨#[c]⟩ yAe
  rw[Am] at h
  refine cH yAd (h) ?_
  simp
  refine T.bg rfl (fun h=>?_) (fun h=>?_)
  ·have h5:c∈mf:=by simpa using h
   apply au
   simp[hC]
   apply T.ret
   apply aa.here
   simp[Tryz.results107,h5]
  ·have h5:c∉mf:=by simpa using h
   apply T.skip
   simp
   apply au
   simp[hC]
   apply T.ret
   apply aa.here
   simp[Tryz.results107,h5]
end Go.Proofs.YtmnglemlimfpbaaGreat
