/- The text of a program of the right form is right for Lex. No function of the program is mentioned here. | letter, digit, has, Reserved, Name. -/
import Derived.Test.YtmnglemlimfpbaaGreatZ22
import Derived.Test.YtmnglemlimfpbaaGreatZ19
import Derived.Test.YtmnglemlimfpbaaGreatZ20
import Derived.Laws.Strings
namespace Go.bg
open Go.Can
section
variable {ms:List Mx}{fs:List (ByteArray×List Pm)}{ps:List Pm}(hms:∀ m∈ms,cY m.name)(hfs:∀ f∈fs,cY f.1)(hps:∀ p∈ps,cY p.name)
theorem ib (c:UInt8)(h:c∈kY∧c≠60∧c≠62∧c≠61∧c≠33∧c≠47):bR Any ⟨#[c]⟩ 1 1:=bR.sign h.1 h.2
theorem bR.G0 {s:ByteArray}(h:(bs s).all gY=true):bR Any s 0 (bs s).length:=by
 refine⟨Nat.le_refl _,fun r n _ hl=>?_⟩
 generalize bs s=l at h
 induction l with
 | nil=>exact hl
 | cons c t ih=>
  simp only[List.all_cons,Bool.and_eq_true] at h
  exact Lx.sp h.1 (ih h.2)
include hms hps in
theorem bR.rf {V:List ByteArray}(hV:∀ s∈V,cY s){r:Rf}(h:CL ms ps V r):bR Stop (zq r) 10 186:=by
 have hn:cY r.name:=by
  rcases h with ⟨m,h1,h2,_⟩ | ⟨p,h1,_,h2,_⟩
  ·rw[h2];exact hms m h1
  ·rw[h2];exact hps p h1
 have h0:=bR.nm hn
 unfold zq
 cases hi:r.index with
 | none=>exact h0.mono (by omega) (by omega)
 | some e=>
  have he:fp V 1 e:=by
   rcases h with ⟨m,_,_,h3 | ⟨e',h3,_,h5⟩⟩ | ⟨_,_,_,_,h3⟩
   ·rw[h3.1] at hi;cases hi
   ·rw[h3] at hi
    cases hi
    exact h5
   ·rw[h3] at hi;cases hi
  have h1:=(h0.app (ib 91 (by decide)) fun r _=>Stop.cons _ (by decide)).app (bR.ex hV 1 e he) fun _ _=>trivial
  have h2:=h1.app (ib 93 (by decide)) fun r _=>Stop.cons _ (by decide)
  exact (h2.any Stop).mono (by simp[qw]) (by simp[qw])
theorem nk (l:List UInt8)(s:ByteArray)(hs:bs s=l++[32])(h:(∃ c t,l=c::t∧isLet c=true)∧l.all fc=true∧l.length≤16):bR Any s 1 17:=bR.word h.1 h.2.1 h.2.2 s hs
theorem uA:bR Any ⟨#[109,117,116,101,120,32]⟩ 1 17:=nk [109,117,116,101,120] _ rfl ⟨⟨_,_,rfl,by decide⟩,by decide,by decide⟩
include hms hps in
theorem bR.ar {V:List ByteArray}(hV:∀ s∈V,cY s){p:Pm}{a:Ar}(h:ArW ms ps V p a):bR Stop (J4 a) 19 456:=by
 cases a with
 | sr r=>
  simp only[ArW] at h
  exact (uA.app (bR.rf hms hps hV h.2) fun _ _=>trivial).mono (by omega) (by omega)
 | exp e=>
  simp only[ArW] at h
  exact (bR.ex hV 2 e h.2).mono (by simp[qw]) (by simp[qw])
theorem yE:bR Any ⟨#[44,32]⟩ 1 2:=⟨Nat.le_refl _,fun _ _ _ hl=>Lx.vO (by decide) (by decide) (Lx.sp (by decide) hl)⟩
theorem Cw (l:List Ar)(r:List UInt8)(hr:Stop r):Stop (bs (tj false l)++r):=by
 cases l with
 | nil=>exact hr
 | cons a t=>
  rw[tj]
  simp only[Bool.false_eq_true,if_false,fT]
  exact Stop.cons _ (by decide)
include hms hps in
theorem bR.aR {V:List ByteArray}(hV:∀ s∈V,cY s):∀ (first:Bool) {gp:List Pm} {l:List Ar},iJ ms ps V gp l→bR Stop (tj first l) (20*l.length) (458*l.length)
 | _,[],[],_=>bR.nil _
 | first,p::gp,a::l,h=>by
  simp only[iJ] at h
  have h1:=(bR.ar hms hps hV h.1).app (bR.aR hV false h.2) fun r hr=>Cw l r hr
  rw[Go.bg.tj,ByteArray.append_assoc]
  cases first with
  | true=>exact (((bR.nil Any).app h1 fun _ _=>trivial)).mono (by simp only[List.length_cons];omega) (by simp only[List.length_cons];omega)
  | false=>exact ((yE.app h1 fun _ _=>trivial)).mono (by simp only[List.length_cons];omega) (by simp only[List.length_cons];omega)
 | _,[],_::_,h=>h.elim
 | _,_::_,[],h=>h.elim
include hms hps in
theorem bR.ars {V:List ByteArray}(hV:∀ s∈V,cY s){gp:List Pm}{l:List Ar}(h:iJ ms ps V gp l):bR Any (qO l) (2+20*l.length) (2+458*l.length):=by
 have h1:=(ib 40 (by decide)).app (bR.aR hms hps hV true h) fun _ _=>trivial
 have h2:=h1.app (ib 41 (by decide)) fun r _=>Stop.cons _ (by decide)
 exact h2.mono (by omega) (by omega)
theorem vt:bR Any xo 1 17:=nk [118,97,114] _ rfl ⟨⟨_,_,rfl,by decide⟩,by decide,by decide⟩
theorem HL:bR Any Je 1 17:=nk [103,111] _ rfl ⟨⟨_,_,rfl,by decide⟩,by decide,by decide⟩
theorem C9:bR Any uB 1 17:=nk [108,111,99,107] _ rfl ⟨⟨_,_,rfl,by decide⟩,by decide,by decide⟩
theorem ze:bR Any mN 1 17:=nk [117,110,108,111,99,107] _ rfl ⟨⟨_,_,rfl,by decide⟩,by decide,by decide⟩
theorem HK:bR Any Jd 1 17:=nk [105,102] _ rfl ⟨⟨_,_,rfl,by decide⟩,by decide,by decide⟩
theorem Bz:bR Any vr 1 17:=nk [119,104,105,108,101] _ rfl ⟨⟨_,_,rfl,by decide⟩,by decide,by decide⟩
theorem zf:bR Any Da 1 3:=⟨Nat.le_refl _,fun _ _ _ hl=>Lx.sp (by decide) (Lx.one (by decide) (by simp) (Lx.sp (by decide) hl))⟩
theorem oD:bR Any iv 1 1:=ib 59 (by decide)
theorem xp:bR Any oE 1 3:=⟨Nat.le_refl _,fun _ _ _ hl=>Lx.sp (by decide) (Lx.vO (by decide) (by decide) (Lx.sp (by decide) hl))⟩
theorem pJ:bR Any jW 1 1:=ib 125 (by decide)
theorem Db:bR Any xq 2 8:=⟨Nat.le_refl _,fun r n _ hl=>by
 refine Lx.sp (by decide) ?_
 have h:=GY.name (s:=[101,108,115,101]) ⟨_,_,rfl,by decide⟩ (by decide) (.inl (by decide)) (32::123::10::r) (n+1) (Stop.cons _ (by decide)) (Lx.sp (by decide) (Lx.vO (by decide) (by decide) (Lx.sp (by decide) hl)))
 exact h⟩
theorem FL:bR Any FM 2 7:=⟨Nat.le_refl _,fun r n _ hl=>by
 have h:=GY.name (s:=[114,101,116,117,114,110]) ⟨_,_,rfl,by decide⟩ (by decide) (.inl (by decide)) (59::r) (n+1) (Stop.cons _ (by decide)) (Lx.vO (by decide) (by decide) hl)
 exact h⟩
theorem bR.st {S:List UInt8→Prop}{a b:ByteArray}{k k' m m':Nat}(h:bR Stop a k m)(h':bR S b k' m')(c:UInt8)(t:List UInt8)(hb:bs b=c::t)(hc:fc c=false∧c≠61∧c≠47):bR S (a++b) (k' + k) (m+m'):=
 h.app h' fun r _=>by rw[hb];exact Stop.cons _ hc
theorem bR.an {S:List UInt8→Prop}{a b:ByteArray}{k k' m m':Nat}(h:bR Any a k m)(h':bR S b k' m'):bR S (a++b) (k' + k) (m+m'):=h.app h' fun _ _=>trivial
def fV (d:Nat)(s:ByteArray):Prop:=(bs s).all gY=true∧(bs s).length+d≤3
theorem fV.more {d:Nat}{s:ByteArray}(h:fV (d+1) s):fV d (s++nH):=by
 refine⟨by rw[fT,List.all_append,h.1];rfl,?_⟩
 rw[fT,List.length_append]
 have:=h.2
 show _+1+d≤3
 omega
theorem fV.seg {d:Nat}{s:ByteArray}(h:fV d s):bR Any s 0 3:=(bR.G0 h.1).mono (Nat.le_refl _) (by have:=h.2;omega)
include hms hps hfs
theorem bR.lines:(∀ s:Sm,∀ d V tabs,(∀ x∈V,cY x)→fV d tabs→dC ms fs ps d V s→(∀ x,dH s=[x]→cY x)→bR Any (jY tabs s) (dT s) (64*dT s-10))∧
  (∀ l:List Sm,∀ d V tabs,(∀ x∈V,cY x)→fV d tabs→cB ms fs ps d V l→bR Any (ic tabs l) (bz l) (64*bz l)):=by
 have hvn:∀ k,k<24→cY (eY k):=by
  intro k hk
  refine⟨⟨118,_,fG k,by decide⟩,?_,by rw[fG];simp⟩
  rw[fG]
  have:∀ k,k<24→List.all [118,UInt8.ofNat (97+k % 26),UInt8.ofNat (97+k / 26 % 26)] fc=true:=by decide
  exact this k hk
 have hpos:∀ s:Sm,2≤dT s:=by intro s;cases s<;>simp only[dT]<;>omega
 have A1:∀ (s:ByteArray) (e:Ex) d V tabs,(∀ x∈V,cY x)→fV d tabs→dC ms fs ps d V (.gr s e)→bR Any (jY tabs (.gr s e)) (dT (.gr s e)) (64*dT (.gr s e)-10):=by
  intro s e d V tabs hV ht hw
  simp only[dC] at hw
  obtain⟨⟨k,hk,rfl⟩,_,he⟩:=hw
  simp only[jY,dT]
  exact ((((vt.an (bR.nm (hvn k hk))).st zf 32 _ rfl (by decide)).an (bR.ex hV 2 e he)).st oD 59 _ rfl (by decide)).mono (by simp[qw]) (by simp[qw])
 have A2:∀ (s:ByteArray) (e:Ex) d V tabs,(∀ x∈V,cY x)→fV d tabs→dC ms fs ps d V (.gV s e)→bR Any (jY tabs (.gV s e)) (dT (.gV s e)) (64*dT (.gV s e)-10):=by
  intro s e d V tabs hV ht hw
  simp only[dC] at hw
  simp only[jY,dT]
  exact ((((bR.nm (hV s hw.1)).st zf 32 _ rfl (by decide)).an (bR.ex hV 2 e hw.2)).st oD 59 _ rfl (by decide)).mono (by simp[qw]) (by simp[qw])
 have A3:∀ (g:Bool) (s:ByteArray) (l:List Ar) d V tabs,(∀ x∈V,cY x)→fV d tabs→dC ms fs ps d V (.dI g s l)→bR Any (jY tabs (.dI g s l)) (dT (.dI g s l)) (64*dT (.dI g s l)-10):=by
  intro g s l d V tabs hV ht hw
  simp only[dC] at hw
  obtain⟨gp,h1,h2⟩:=hw
  have hn:=bR.nm (hfs _ h1)
  have ha:=bR.ars hms hps hV h2
  have hb:bs (qO l)=40::(bs (tj true l)++[41]):=by simp only[qO,fT];rfl
  have hg:bR Stop (if g=true then Je++s else s) 2 33:=by
   cases g with
   | true=>exact (HL.an hn).mono (by omega) (by omega)
   | false=>exact hn.mono (by omega) (by omega)
  simp only[jY,dT]
  exact ((hg.st ha 40 _ hb (by decide)).an oD).mono (by omega) (by omega)
 have A4:∀ (u:Bool) (r:Rf) d V tabs,(∀ x∈V,cY x)→fV d tabs→dC ms fs ps d V (.dg u r)→bR Any (jY tabs (.dg u r)) (dT (.dg u r)) (64*dT (.dg u r)-10):=by
  intro u r d V tabs hV ht hw
  simp only[dC] at hw
  have hr:=bR.rf hms hps hV hw
  have hg:bR Any (if u=true then mN else uB) 1 17:=by
   cases u with
   | true=>exact ze
   | false=>exact C9
  simp only[jY,dT]
  exact ((hg.an hr).st oD 59 _ rfl (by decide)).mono (by omega) (by omega)
 have A5:∀ (e:Ex) (th el:List Sm),(∀ d V tabs,(∀ x∈V,cY x)→fV d tabs→cB ms fs ps d V th→bR Any (ic tabs th) (bz th) (64*bz th))→(∀ d V tabs,(∀ x∈V,cY x)→fV d tabs→cB ms fs ps d V el→bR Any (ic tabs el) (bz el) (64*bz el))→∀ d V tabs,(∀ x∈V,cY x)→fV d tabs→dC ms fs ps d V (.ku e th el)→bR Any (jY tabs (.ku e th el)) (dT (.ku e th el)) (64*dT (.ku e th el)-10):=by
  intro e th el i1 i2 d V tabs hV ht hw
  cases d with
  | zero=>simp[dC] at hw
  | succ d=>
   simp only[dC] at hw
   have h1:=i1 d V _ hV ht.more hw.2.1
   have h2:=i2 d V _ hV ht.more hw.2.2
   have h3:=((((HK.an (bR.ex hV 2 e hw.1)).st xp 32 _ rfl (by decide)).an h1).an ht.seg).an pJ
   simp only[jY,dT]
   split
   ·exact (h3.an (bR.nil Any)).mono (by simp only[qw];omega) (by simp only[qw];omega)
   ·exact (h3.an (((Db.an h2).an ht.seg).an pJ)).mono (by simp only[qw];omega) (by simp only[qw];omega)
 have A6:∀ (e:Ex) (th:List Sm),(∀ d V tabs,(∀ x∈V,cY x)→fV d tabs→cB ms fs ps d V th→bR Any (ic tabs th) (bz th) (64*bz th))→∀ d V tabs,(∀ x∈V,cY x)→fV d tabs→dC ms fs ps d V (.cj e th)→bR Any (jY tabs (.cj e th)) (dT (.cj e th)) (64*dT (.cj e th)-10):=by
  intro e th i1 d V tabs hV ht hw
  cases d with
  | zero=>simp[dC] at hw
  | succ d=>
   simp only[dC] at hw
   have h1:=i1 d V _ hV ht.more hw.2
   have h3:=((((Bz.an (bR.ex hV 2 e hw.1)).st xp 32 _ rfl (by decide)).an h1).an ht.seg).an pJ
   simp only[jY,dT]
   exact h3.mono (by simp only[qw];omega) (by simp only[qw];omega)
 have A8:∀ (s:Sm) (r:List Sm),(∀ d V tabs,(∀ x∈V,cY x)→fV d tabs→dC ms fs ps d V s→bR Any (jY tabs s) (dT s) (64*dT s-10))→(∀ d V tabs,(∀ x∈V,cY x)→fV d tabs→cB ms fs ps d V r→bR Any (ic tabs r) (bz r) (64*bz r))→∀ d V tabs,(∀ x∈V,cY x)→fV d tabs→cB ms fs ps d V (s::r)→bR Any (ic tabs (s::r)) (bz (s::r)) (64*bz (s::r)):=by
  intro s r i1 i2 d V tabs hV ht hw
  simp only[cB] at hw
  have hV2:∀ x∈V++dH s,cY x:=by
   intro x hx
   rcases List.mem_append.1 hx with hx | hx
   ·exact hV x hx
   ·cases s<;>simp only[dH,List.mem_singleton,List.not_mem_nil] at hx
    subst hx
    have:=hw.1
    simp only[dC] at this
    obtain⟨⟨k,hk,rfl⟩,_⟩:=this
    exact hvn k hk
  have h1:=i1 d V tabs hV ht hw.1
  have h2:=i2 d _ tabs hV2 ht hw.2
  have hp:=hpos s
  have hnl:bR Any tNl 0 1:=bR.G0 (by decide)
  simp only[ic,bz]
  exact (((ht.seg.an h1).an hnl).an h2).mono (by omega) (by omega)
 have A7:∀ d V tabs,(∀ x∈V,cY x)→fV d tabs→dC ms fs ps d V .iU→bR Any (jY tabs .iU) (dT .iU) (64*dT .iU-10):=by
  intro d V tabs _ _ _
  simp only[jY,dT]
  exact FL.mono (by omega) (by omega)
 have A0:∀ d V tabs,(∀ x∈V,cY x)→fV d tabs→cB ms fs ps d V []→bR Any (ic tabs []) (bz []) (64*bz []):=by
  intro d V tabs _ _ _
  simp only[ic,bz]
  exact bR.nil _
 refine⟨fun s d V tabs h1 h2 h3 _=>?_,fun l=>?_⟩
 ·exact Sm.rec (motive_1:=fun s=>∀ d V tabs,(∀ x∈V,cY x)→fV d tabs→dC ms fs ps d V s→bR Any (jY tabs s) (dT s) (64*dT s-10)) (motive_2:=fun l=>∀ d V tabs,(∀ x∈V,cY x)→fV d tabs→cB ms fs ps d V l→bR Any (ic tabs l) (bz l) (64*bz l)) A1 A2 A3 A4 A5 A6 A7 A0 A8 s d V tabs h1 h2 h3
 ·exact Sm.rec_1 (motive_1:=fun s=>∀ d V tabs,(∀ x∈V,cY x)→fV d tabs→dC ms fs ps d V s→bR Any (jY tabs s) (dT s) (64*dT s-10)) (motive_2:=fun l=>∀ d V tabs,(∀ x∈V,cY x)→fV d tabs→cB ms fs ps d V l→bR Any (ic tabs l) (bz l) (64*bz l)) A1 A2 A3 A4 A5 A6 A7 A0 A8 l
end
theorem bR.nT {n:Int}(h : -9223372036854775807≤n∧n≤9223372036854775807):bR Stop (j9 n) 2 20:=by
 unfold Go.bg.j9
 split
 ·exact ((ib 45 (by decide)).an (bR.dig (n:=(-n).toNat) (by omega))).mono (by omega) (by omega)
 ·exact (bR.dig (n:=n.toNat) (by omega)).mono (by omega) (by omega)
theorem mQ:bR Any ⟨#[59,10]⟩ 1 2:=⟨Nat.le_refl _,fun _ _ _ hl=>Lx.vO (by decide) (by decide) (Lx.sp (by decide) hl)⟩
theorem bR.gl {g:Gl}(h:cY g.name)(hi : -2≤g.init∧g.init≤2):bR Any (Hi g) 6 64:=by
 unfold Hi
 split
 ·exact (((vt.an (bR.nm h)).app (bR.nil Stop) fun r hr=>hr).st mQ 59 _ rfl (by decide)).mono (by omega) (by omega)
 ·have h1:bR Stop (Da++j9 g.init) 3 23:=(zf.an (bR.nT (by omega))).mono (by omega) (by omega)
  exact (((vt.an (bR.nm h)).st h1 32 _ rfl (by decide)).st mQ 59 _ rfl (by decide)).mono (by omega) (by omega)
theorem bR.mx {m:Mx}(h:cY m.name)(hi:m.size≤3):bR Any (Gg m) 7 64:=by
 unfold Gg
 have h0:bR Any ((if m.re=true then ⟨#[114]⟩ else ⟨#[]⟩)++⟨#[109,117,116,101,120,32]⟩) 1 17:=by
  cases m.re with
  | true=>exact nk [114,109,117,116,101,120] _ (by decide) ⟨⟨_,_,rfl,by decide⟩,by decide,by decide⟩
  | false=>exact nk [109,117,116,101,120] _ (by decide) ⟨⟨_,_,rfl,by decide⟩,by decide,by decide⟩
 generalize (if m.re=true then (⟨#[114]⟩:ByteArray) else ⟨#[]⟩)++⟨#[109,117,116,101,120,32]⟩=pre at h0 ⊢
 split
 ·exact (((h0.an (bR.nm h)).app (bR.nil Stop) fun r hr=>hr).st mQ 59 _ rfl (by decide)).mono (by omega) (by omega)
 ·have h1:bR Any (⟨#[91]⟩++j9 m.size++⟨#[93]⟩) 4 22:=(((ib 91 (by decide)).an (bR.nT (by omega))).st (ib 93 (by decide)) 93 _ rfl (by decide)).mono (by omega) (by omega)
  exact (((h0.an (bR.nm h)).st h1 91 _ (by rw[fT,fT];rfl) (by decide)).an mQ).mono (by omega) (by omega)
theorem BR (l:List Pm)(r:List UInt8)(hr:Stop r):Stop (bs (r8 false l)++r):=by
 cases l with
 | nil=>exact hr
 | cons a t=>
  rw[r8]
  simp only[Bool.false_eq_true,if_false,fT]
  exact Stop.cons _ (by decide)
theorem bR.pR:∀ (first:Bool) {l:List Pm},(∀ p∈l,cY p.name)→bR Stop (r8 first l) (3*l.length) (40*l.length)
 | _,[],_=>bR.nil _
 | first,p::l,h=>by
  have hn:=(bR.nm (h p List.mem_cons_self)).app (bR.pR false fun q hq=>h q (List.mem_cons_of_mem _ hq)) fun r hr=>BR l r hr
  have hm:bR Any (if p.mutex=true then ⟨#[109,117,116,101,120,32]⟩ else ⟨#[]⟩) 1 17:=by
   cases p.mutex with
   | true=>exact uA
   | false=>exact (bR.nil Any).mono (by omega) (by omega)
  have hf:bR Any (if first=true then ⟨#[]⟩ else ⟨#[44,32]⟩) 1 2:=by
   cases first with
   | true=>exact (bR.nil Any).mono (by omega) (by omega)
   | false=>exact yE
  rw[Go.bg.r8]
  have h1:=(hf.an hm).an hn
  rw[← ByteArray.append_assoc] at h1
  exact h1.mono (by simp only[List.length_cons];omega) (by simp only[List.length_cons];omega)
theorem bR.cat {α:Type}(f:α→ByteArray)(k:α→Nat):∀ {l:List α},(∀ a∈l,bR Any (f a) (k a) (64*k a))→bR Any (jf f l) (l.map k).sum (64*(l.map k).sum)
 | [],_=>bR.nil _
 | a::r,h=>by
  rw[jf]
  have h1:=(h a List.mem_cons_self).an (bR.cat f k fun b hb=>h b (List.mem_cons_of_mem _ hb))
  exact h1.mono (by simp;omega) (by simp;omega)
theorem AB (s:ByteArray)(h:(match bs s with | c::_=>isLet c | []=>false)=true∧(bs s).all fc=true∧(bs s).length≤16):cY s:=by
 refine⟨?_,h.2⟩
 have h1:=h.1
 cases hb:bs s with
 | nil=>rw[hb] at h1;cases h1
 | cons c t=>
  rw[hb] at h1
  exact⟨c,t,rfl,h1⟩
theorem nG_ok:∀ s∈nG,cY s:=fun s hs=>AB s ((by decide:∀ s∈nG,(match bs s with | c::_=>isLet c | []=>false)=true∧(bs s).all fc=true∧(bs s).length≤16) s hs)
theorem nM_ok:∀ s∈nM,cY s:=fun s hs=>AB s ((by decide:∀ s∈nM,(match bs s with | c::_=>isLet c | []=>false)=true∧(bs s).all fc=true∧(bs s).length≤16) s hs)
theorem nF_ok:∀ s∈nF,cY s:=fun s hs=>AB s ((by decide:∀ s∈nF,(match bs s with | c::_=>isLet c | []=>false)=true∧(bs s).all fc=true∧(bs s).length≤16) s hs)
theorem nP_ok:∀ s∈nP,cY s:=fun s hs=>AB s ((by decide:∀ s∈nP,(match bs s with | c::_=>isLet c | []=>false)=true∧(bs s).all fc=true∧(bs s).length≤16) s hs)
theorem vW {α:Type}{f:α→ByteArray}{l:List α}{ns:List ByteArray}(h:∀ s∈l.map f,s∈ns)(hn:∀ s∈ns,cY s):∀ a∈l,cY (f a):=fun _a ha=>hn _ (h _ (List.mem_map_of_mem ha))
theorem jJ.ng {p:Pg}(h:jJ p):∀ g∈p.gs,cY g.name:=by
 obtain⟨k,_,hk⟩:=h.gn
 exact vW (fun s hs=>by rw[hk] at hs;exact List.mem_of_mem_take hs) nG_ok
theorem jJ.nm {p:Pg}(h:jJ p):∀ g∈p.ms,cY g.name:=by
 obtain⟨k,_,_,hk⟩:=h.mn
 exact vW (fun s hs=>by rw[hk] at hs;exact List.mem_of_mem_take hs) nM_ok
theorem jJ.nf {p:Pg}(h:jJ p):∀ g∈p.fs,cY g.name:=by
 obtain⟨k,_,_,hk⟩:=h.fn
 exact vW (fun s hs=>by rw[hk] at hs;exact List.mem_of_mem_take hs) nF_ok
theorem jJ.np {p:Pg}(h:jJ p):∀ f∈p.fs,∀ q∈f.params,cY q.name:=fun f hf=>by
 obtain⟨k,_,hk⟩:=h.pn f hf
 exact vW (fun s hs=>by rw[hk,List.mem_reverse] at hs;exact List.mem_of_mem_take hs) nP_ok
theorem jJ.nv {p:Pg}(h:jJ p):∀ f∈p.fs,∀ s∈iY p.gs f.params,cY s:=fun f hf s hs=>by
 rcases sd hs with hs | hs
 ·rw[List.mem_map] at hs
  obtain⟨g,hg,rfl⟩:=hs
  exact h.ng g hg
 ·rw[List.mem_map] at hs
  obtain⟨g,hg,rfl⟩:=hs
  exact h.np f hf g hg
theorem bR.fu {p:Pg}(h:jJ p){f:Fu}(hf:f∈p.fs):bR Any (CH f) (12+bz f.body) (64*(12+bz f.body)):=by
 have hb:=(bR.lines (ms:=p.ms) (fs:=p.fs.map fun f=>(f.name,f.params)) (ps:=f.params) h.nm (fun x hx=>by
  rw[List.mem_map] at hx
  obtain⟨g,hg,rfl⟩:=hx
  exact h.nf g hg) (h.np f hf)).2 f.body 2 (iY p.gs f.params) nH (h.nv f hf) ⟨by decide,by decide⟩ (h.bd f hf)
 obtain⟨k,hk,hpk⟩:=h.pn f hf
 have hlen:f.params.length≤2:=by
  have:=congrArg List.length hpk
  simp[nP] at this
  omega
 have hfn:bR Any ⟨#[102,117,110,99,32]⟩ 1 17:=nk [102,117,110,99] _ rfl ⟨⟨_,_,rfl,by decide⟩,by decide,by decide⟩
 have ho:bR Any ⟨#[41,32,123,10]⟩ 2 4:=⟨Nat.le_refl _,fun _ _ _ hl=>Lx.vO (by decide) (by decide) (Lx.sp (by decide) (Lx.vO (by decide) (by decide) (Lx.sp (by decide) hl)))⟩
 have hc:bR Any ⟨#[125,10]⟩ 1 2:=⟨Nat.le_refl _,fun _ _ _ hl=>Lx.vO (by decide) (by decide) (Lx.sp (by decide) hl)⟩
 unfold CH
 exact ((((((hfn.an (bR.nm (h.nf f hf))).st (ib 40 (by decide)) 40 _ rfl (by decide)).an (bR.pR true (h.np f hf))).st ho 41 _ rfl (by decide)).an hb).an hc).mono (by omega) (by omega)
theorem BA {α:Type}(l:List α)(c:Nat):(l.map fun _=>c).sum=c*l.length:=by
 induction l with
 | nil=>simp
 | cons _ r ih=>simp[ih,Nat.mul_add];omega
theorem sum_add {α:Type}(l:List α)(c:Nat)(f:α→Nat):(l.map fun a=>c+f a).sum=c*l.length+(l.map f).sum:=by
 induction l with
 | nil=>simp
 | cons a r ih=>simp[ih,Nat.mul_add];omega
theorem Ic {p:Pg}(h:jJ p):Lx (bs (BS p)) 4000∧(bs (BS p)).length≤262144:=by
 have h1:=bR.cat Hi (fun _=>6) (l:=p.gs) fun g hg=>(bR.gl (h.ng g hg) (h.gi g hg)).mono (Nat.le_refl _) (by omega)
 have h2:=bR.cat Gg (fun _=>7) (l:=p.ms) fun g hg=>(bR.mx (h.nm g hg) (h.mz g hg).1).mono (Nat.le_refl _) (by omega)
 have h3:=bR.cat CH (fun f=>12+bz f.body) (l:=p.fs) fun g hg=>bR.fu h hg
 rw[BA] at h1 h2
 rw[sum_add] at h3
 have hw:=h.wt
 obtain⟨k1,hk1,e1⟩:=h.gn
 obtain⟨k2,_,hk2,e2⟩:=h.mn
 obtain⟨k3,_,hk3,e3⟩:=h.fn
 have l1:=congrArg List.length e1
 have l2:=congrArg List.length e2
 have l3:=congrArg List.length e3
 simp[nG] at l1
 simp[nM] at l2
 simp[nF] at l3
 obtain⟨hb,hl⟩:=(h1.an h2).an h3
 refine⟨?_,?_⟩
 ·have:=hl [] 0 trivial (.nil 0)
  rw[List.append_nil] at this
  exact this.mono (by omega)
 ·unfold BS
  omega
end Go.bg
namespace Go.Proofs.YtmnglemlimfpbaaGreat
open Go.Can Go.bg
theorem gT (x y:ByteArray):kC .eql x y=some (.bool (decide (x=y))):=by
 have h:(x.toList == y.toList)=decide (x=y):=by
  rw[ByteArray.toList_eq,ByteArray.toList_eq,Bool.eq_iff_iff]
  simp only[beq_iff_eq,decide_eq_true_eq,Array.toList_inj]
  exact⟨fun h=>ByteArray.ext h,fun h=>by rw[h]⟩
 simp only[kC,h]
theorem ji (x y:ByteArray):kC .neq x y=some (.bool (!decide (x=y))):=by
 have h:=gT x y
 simp only[kC,Option.some.injEq,CV.bool.injEq] at h ⊢
 rw[h]
theorem av (x y:ByteArray)(h:x.size+y.size≤9223372036854775807):kC .add x y=some (.str (x++y)):=by
 simp only[kC,if_pos h]
theorem Ea (c:UInt8):isLet c=((decide ((97:Int)≤c.toNat) && decide ((c.toNat:Int)≤122)) || (decide ((65:Int)≤c.toNat) && decide ((c.toNat:Int)≤90)) || ((c.toNat:Int) == 95)):=by
 rw[Bool.eq_iff_iff]
 simp only[isLet,Bool.or_eq_true,Bool.and_eq_true,decide_eq_true_eq,beq_iff_eq]
 omega
theorem Ed (c:UInt8):cR c=(decide ((48:Int)≤c.toNat) && decide ((c.toNat:Int)≤57)):=by
 rw[Bool.eq_iff_iff]
 simp only[cR,Bool.and_eq_true,decide_eq_true_eq]
 omega
theorem kH (c:UInt8):ah Tryz.prog 103 [.int .u8 c.toNat] (.bool (isLet c)):=by
 rw[Ea]
 generalize (c.toNat:Int)=n
 refine ah.bl aa Tryz.func103 rfl (by kernel_rfl) (by simp[Tryz.ntmps103]) rfl fun C hC hC0=>?_
 rw[Tryz.ntmps103] at hC
 refine T.seq (T.go' aa ?_)
 simp[hC]
 by_cases h1:97≤n
 ·by_cases h2:n≤122
  ·refine T.seq (T.go' aa ?_)
   simp[hC,h1,h2]
   refine T.ret ?_
   refine ae.here ?_
   simp[Tryz.results103]
  ·have h3:65≤n:=by omega
   have h4:¬ n≤90:=by omega
   refine T.seq (T.go' aa ?_)
   simp[hC,h1,h2,h3,h4]
   refine T.ret ?_
   refine ae.here ?_
   simp[Tryz.results103]
 ·by_cases h3:65≤n
  ·by_cases h4:n≤90
   ·refine T.seq (T.go' aa ?_)
    simp[hC,h1,h3,h4]
    refine T.ret ?_
    refine ae.here ?_
    simp[Tryz.results103]
   ·refine T.seq (T.go' aa ?_)
    simp[hC,h1,h3,h4]
    refine T.ret ?_
    refine ae.here ?_
    simp[Tryz.results103]
  ·refine T.seq (T.go' aa ?_)
   simp[hC,h1,h3]
   refine T.ret ?_
   refine ae.here ?_
   simp[Tryz.results103]
theorem kN (c:UInt8):ah Tryz.prog 104 [.int .u8 c.toNat] (.bool (cR c)):=by
 rw[Ed]
 generalize (c.toNat:Int)=n
 refine ah.bl aa Tryz.func104 rfl (by kernel_rfl) (by simp[Tryz.ntmps104]) rfl fun C hC hC0=>?_
 rw[Tryz.ntmps104] at hC
 refine T.seq (T.go' aa ?_)
 simp[hC]
 by_cases h1:48≤n
 ·refine T.seq (T.go' aa ?_)
  simp[hC,h1]
  refine T.ret ?_
  refine ae.here ?_
  simp[Tryz.results104]
 ·refine T.seq (T.go' aa ?_)
  simp[hC,h1]
  refine T.ret ?_
  refine ae.here ?_
  simp[Tryz.results104]
def hasB (l:List ByteArray)(s:ByteArray):Bool:=l.any fun x=>decide (x=s)
theorem wx (l:List ByteArray)(s:ByteArray)(hl:l.length≤1000):ah Tryz.prog 140 [strs l,.str s] (.bool (hasB l s)):=by
 refine ah.bl aa Tryz.func140 rfl (by kernel_rfl) (by simp[Tryz.ntmps140]) rfl fun C hC hC0=>?_
 rw[Tryz.ntmps140] at hC
 refine T.seq (T.go' aa ?_)
 simp[hC]
 refine T.seq (T.seq (T.go' aa ?_))
 simp[hC]
 refine T.block ?_
 refine T.aS (fun m st=>∃ i:Nat,m=l.length-i∧i≤l.length∧hasB l s=hasB (l.drop i) s∧st=⟨[(5,I i),(0,strs l),(1,.str s)],[],0⟩) (n:=l.length) ?_ ?_
 ·refine ae.le (Le.env [5,0,1]) (ae.here ⟨0,by omega,by omega,by simp,?_⟩)
  simp
 ·rintro n st ⟨i,rfl,hi,hni,rfl⟩
  by_cases hil:i<l.length
  ·have hdr:=iw hil
   have hw:=db ((i:Int)+1) (by omega) (by omega)
   refine T.seq (T.seq (T.go' aa ?_))
   simp[hC,strs,hil]
   refine T.cond (b:=true) rfl (T.skip ?_)
   simp
   refine T.seq (T.block ?_)
   refine T.seq (T.go' aa ?_)
   simp[hC,hil,hdr,gT]
   refine T.bf rfl (fun h=>?_) (fun h=>?_)
   ·have he:l.getD i eS=s:=by simpa [hil] using h
    refine T.seq (T.go' aa ?_)
    simp[hC]
    refine T.ret ?_
    refine ae.here ?_
    have hb:hasB l s=true:=by
     unfold hasB
     rw[List.any_eq_true]
     exact⟨s,he ▸ iz hil eS,by simp⟩
    simp[Tryz.results140,hb]
   ·have he:¬ l.getD i eS=s:=by simpa [hil] using h
    refine T.skip ?_
    simp
    refine T.go' aa ?_
    simp[hC,hw]
    refine⟨l.length-(i+1),by omega,?_⟩
    refine ae.le (Le.env [5,0,1]) (ae.here ⟨i+1,rfl,by omega,?_,?_⟩)
    ·rw[hni,List.drop_eq_getElem_cons hil]
     have e2:l[i]=l.getD i eS:=by simp[hil]
     simp only[hasB,List.any_cons,e2,he,decide_false,Bool.false_or]
    ·simp
  ·have hie:i=l.length:=by omega
   have hb:hasB l s=false:=by rw[hni,hie,List.drop_length];rfl
   refine T.seq (T.seq (T.go' aa ?_))
   simp[hC,strs,hil]
   refine T.cond (b:=false) rfl ?_
   simp
   refine T.exit ?_
   simp
   refine T.seq (T.go' aa ?_)
   simp[hC]
   refine T.ret ?_
   refine ae.here ?_
   simp[Tryz.results140,hb]
end Go.Proofs.YtmnglemlimfpbaaGreat
