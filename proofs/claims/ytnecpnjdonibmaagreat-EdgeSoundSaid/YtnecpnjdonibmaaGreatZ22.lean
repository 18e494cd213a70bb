/- The text of a program of the right form is right for Lex. No -/
import Derived.Test.YtnecpnjdonibmaaGreatZ21
import Derived.Laws.Strings
namespace Go.aP
open Go.Can
section
variable {ms:List Mx}{fs:List (ByteArray×List Pm)}{ps:List Pm}(QZ:∀ m∈ms,db m.name)(RP:∀ f∈fs,db f.1)(Rc:∀ p∈ps,db p.name)
theorem im (c:UInt8)(h:c∈lu∧c≠60∧c≠62∧c≠61∧c≠33∧c≠47):bY Any ⟨#[c]⟩ 1 1:=bY.sign h.1 h.2
theorem bY.KJ {s:ByteArray}(h:(bs s).all ia=true):bY Any s 0 (bs s).length:=by
 refine⟨Nat.le_refl _,fun r n _ hl=>?_⟩;generalize bs s=l at h
 induction l with
 | nil=>exact hl
 | cons c t ih=>
  simp only[List.all_cons,Bool.and_eq_true] at h;exact Lx.sp h.1 (ih h.2)
include QZ Rc in
theorem bY.rf {V:List ByteArray}(hV:∀ s∈V,db s){r:Rf}(h:FC ms ps V r):bY Stop (Bo r) 10 186:=by
 have hn:db r.name:=by
  rcases h with ⟨m,h1,h2,_⟩ | ⟨p,h1,_,h2,_⟩
  ·rw[h2];exact QZ m h1
  ·rw[h2];exact Rc p h1
 have h0:=bY.nm hn;unfold Bo
 cases hi:r.index with
 | none=>exact h0.mono yA yA
 | some e=>
  have he:fc V 1 e:=by
   rcases h with ⟨m,_,_,h3 | ⟨e',h3,_,h5⟩⟩ | ⟨_,_,_,_,h3⟩
   ·rw[h3.1] at hi;cases hi
   ·rw[h3] at hi;cases hi;exact h5
   ·rw[h3] at hi;cases hi
  have h1:=(h0.app (im 91 P1) fun r _=>Stop.cons _ P1).app (bY.ex hV 1 e he) fun _ _=>trivial;have h2:=h1.app (im 93 P1) fun r _=>Stop.cons _ P1;exact (h2.any Stop).mono (by simp[AT]) (by simp[AT])
theorem nO (l:List UInt8)(s:ByteArray)(hs:bs s=l++[32])(h:(∃ c t,l=c::t∧isLet c=true)∧l.all eW=true∧l.length≤16):bY Any s 1 17:=bY.word h.1 h.2.1 h.2.2 s hs
theorem vC:bY Any ⟨#[109,117,116,101,120,32]⟩ 1 17:=nO [109,117,116,101,120] _ rfl ⟨⟨_,_,rfl,by decide⟩,by decide,by decide⟩
include QZ Rc in
theorem bY.ar {V:List ByteArray}(hV:∀ s∈V,db s){p:Pm}{a:Ar}(h:ArW ms ps V p a):bY Stop (Ow a) 19 456:=by
 cases a with
 | ua r=>
  simp only[ArW] at h;exact (vC.app (bY.rf QZ Rc hV h.2) fun _ _=>trivial).mono yA yA
 | exp e=>
  simp only[ArW] at h;exact (bY.ex hV 2 e h.2).mono (by simp[AT]) (by simp[AT])
theorem An:bY Any ⟨#[44,32]⟩ 1 2:=⟨Nat.le_refl _,fun _ _ _ hl=>Lx.xO P1 P1 (Lx.sp P1 hl)⟩
theorem Ff (l:List Ar)(r:List UInt8)(hr:Stop r):Stop (bs (uP false l)++r):=by
 cases l with
 | nil=>exact hr
 | cons a t=>
  rw[uP];simp only[Bool.false_eq_true,if_false,fX];exact Stop.cons _ P1
include QZ Rc in
theorem bY.aR {V:List ByteArray}(hV:∀ s∈V,db s):∀ (first:Bool) {gp:List Pm} {l:List Ar},iR ms ps V gp l→bY Stop (uP first l) (20*l.length) (458*l.length)
 | _,[],[],_=>bY.nil _
 | first,p::gp,a::l,h=>by
  simp only[iR] at h;have h1:=(bY.ar QZ Rc hV h.1).app (bY.aR hV false h.2) fun r hr=>Ff l r hr;rw[Go.aP.uP,ByteArray.append_assoc]
  cases first with
  | true=>exact (((bY.nil Any).app h1 fun _ _=>trivial)).mono Yt Yt
  | false=>exact ((An.app h1 fun _ _=>trivial)).mono Yt Yt
 | _,[],_::_,h=>h.elim
 | _,_::_,[],h=>h.elim
include QZ Rc in
theorem bY.ars {V:List ByteArray}(hV:∀ s∈V,db s){gp:List Pm}{l:List Ar}(h:iR ms ps V gp l):bY Any (rJ l) (2+20*l.length) (2+458*l.length):=by
 have h1:=(im 40 P1).app (bY.aR QZ Rc hV true h) fun _ _=>trivial;have h2:=h1.app (im 41 P1) fun r _=>Stop.cons _ P1;exact h2.mono yA yA
theorem xx:bY Any y0 1 17:=nO [118,97,114] _ rfl ⟨⟨_,_,rfl,by decide⟩,by decide,by decide⟩
theorem LL:bY Any Nw 1 17:=nO [103,111] _ rfl ⟨⟨_,_,rfl,by decide⟩,by decide,by decide⟩
theorem F9:bY Any vD 1 17:=nO [108,111,99,107] _ rfl ⟨⟨_,_,rfl,by decide⟩,by decide,by decide⟩
theorem Bd:bY Any mQ 1 17:=nO [117,110,108,111,99,107] _ rfl ⟨⟨_,_,rfl,by decide⟩,by decide,by decide⟩
theorem LK:bY Any Nv 1 17:=nO [105,102] _ rfl ⟨⟨_,_,rfl,by decide⟩,by decide,by decide⟩
theorem DT:bY Any xw 1 17:=nO [119,104,105,108,101] _ rfl ⟨⟨_,_,rfl,by decide⟩,by decide,by decide⟩
theorem Bf:bY Any Ga 1 3:=⟨Nat.le_refl _,fun _ _ _ hl=>Lx.sp P1 (Lx.one P1 zX (Lx.sp P1 hl))⟩
theorem oS:bY Any iF 1 1:=im 59 P1
theorem y3:bY Any oT 1 3:=⟨Nat.le_refl _,fun _ _ _ hl=>Lx.sp P1 (Lx.xO P1 P1 (Lx.sp P1 hl))⟩
theorem p9:bY Any j6 1 1:=im 125 P1
theorem Gb:bY Any y4 2 8:=⟨Nat.le_refl _,fun r n _ hl=>by
 refine Lx.sp P1 ?_;have h:=KE.name (s:=[101,108,115,101]) ⟨_,_,rfl,by decide⟩ P1 (.inl P1) (32::123::10::r) (n+1) (Stop.cons _ P1) (Lx.sp P1 (Lx.xO P1 P1 (Lx.sp P1 hl)));exact h⟩
theorem Jb:bY Any Jc 2 7:=⟨Nat.le_refl _,fun r n _ hl=>by
 have h:=KE.name (s:=[114,101,116,117,114,110]) ⟨_,_,rfl,by decide⟩ P1 (.inl P1) (59::r) (n+1) (Stop.cons _ P1) (Lx.xO P1 P1 hl);exact h⟩
theorem bY.st {S:List UInt8→Prop}{a b:ByteArray}{k k' m m':Nat}(h:bY Stop a k m)(h':bY S b k' m')(c:UInt8)(t:List UInt8)(hb:bs b=c::t)(hc:eW c=false∧c≠61∧c≠47):bY S (a++b) (k' + k) (m+m'):=
 h.app h' fun r _=>by rw[hb];exact Stop.cons _ hc
theorem bY.an {S:List UInt8→Prop}{a b:ByteArray}{k k' m m':Nat}(h:bY Any a k m)(h':bY S b k' m'):bY S (a++b) (k' + k) (m+m'):=h.app h' fun _ _=>trivial
def fY (d:Nat)(s:ByteArray):Prop:=(bs s).all ia=true∧(bs s).length+d≤3
theorem fY.more {d:Nat}{s:ByteArray}(h:fY (d+1) s):fY d (s++oR):=by
 refine⟨by rw[fX,List.all_append,h.1];rfl,?_⟩;rw[fX,List.length_append];have:=h.2;show _+1+d≤3;omega
theorem fY.seg {d:Nat}{s:ByteArray}(h:fY d s):bY Any s 0 3:=(bY.KJ h.1).mono (Nat.le_refl _) (by have:=h.2;omega)
include QZ Rc RP
theorem bY.lines:(∀ s:Sm,∀ d V PI,(∀ x∈V,db x)→fY d PI→dB ms fs ps d V s→(∀ x,dE s=[x]→db x)→bY Any (j7 PI s) (dO s) (64*dO s-10))∧
  (∀ l:List Sm,∀ d V PI,(∀ x∈V,db x)→fY d PI→cI ms fs ps d V l→bY Any (iS PI l) (bH l) (64*bH l)):=by
 have V2:∀ k,k<24→db (eR k):=by
  intro k hk;refine⟨⟨118,_,fH k,by decide⟩,?_,by rw[fH];simp⟩;rw[fH];have:∀ k,k<24→List.all [118,UInt8.ofNat (97+k % 26),UInt8.ofNat (97+k / 26 % 26)] eW=true:=by decide
  exact this k hk
 have Sh:∀ s:Sm,2≤dO s:=by intro s;cases s<;>simp only[dO]<;>omega
 have A1:∀ (s:ByteArray) (e:Ex) d V PI,(∀ x∈V,db x)→fY d PI→dB ms fs ps d V (.gA s e)→bY Any (j7 PI (.gA s e)) (dO (.gA s e)) (64*dO (.gA s e)-10):=by
  intro s e d V PI hV ht hw;simp only[dB] at hw;obtain⟨⟨k,hk,rfl⟩,_,he⟩:=hw;simp only[j7,dO];exact ((((xx.an (bY.nm (V2 k hk))).st Bf 32 _ rfl P1).an (bY.ex hV 2 e he)).st oS 59 _ rfl P1).mono (by simp[AT]) (by simp[AT])
 have A2:∀ (s:ByteArray) (e:Ex) d V PI,(∀ x∈V,db x)→fY d PI→dB ms fs ps d V (.hD s e)→bY Any (j7 PI (.hD s e)) (dO (.hD s e)) (64*dO (.hD s e)-10):=by
  intro s e d V PI hV ht hw;simp only[dB] at hw;simp only[j7,dO];exact ((((bY.nm (hV s hw.1)).st Bf 32 _ rfl P1).an (bY.ex hV 2 e hw.2)).st oS 59 _ rfl P1).mono (by simp[AT]) (by simp[AT])
 have A3:∀ (g:Bool) (s:ByteArray) (l:List Ar) d V PI,(∀ x∈V,db x)→fY d PI→dB ms fs ps d V (.dI g s l)→bY Any (j7 PI (.dI g s l)) (dO (.dI g s l)) (64*dO (.dI g s l)-10):=by
  intro g s l d V PI hV ht hw;simp only[dB] at hw;obtain⟨gp,h1,h2⟩:=hw;have hn:=bY.nm (RP _ h1);have ha:=bY.ars QZ Rc hV h2;have hb:bs (rJ l)=40::(bs (uP true l)++[41]):=by simp only[rJ,fX];rfl
  have hg:bY Stop (if g=true then Nw++s else s) 2 33:=by
   cases g with
   | true=>exact (LL.an hn).mono yA yA
   | false=>exact hn.mono yA yA
  simp only[j7,dO];exact ((hg.st ha 40 _ hb P1).an oS).mono yA yA
 have A4:∀ (u:Bool) (r:Rf) d V PI,(∀ x∈V,db x)→fY d PI→dB ms fs ps d V (.di u r)→bY Any (j7 PI (.di u r)) (dO (.di u r)) (64*dO (.di u r)-10):=by
  intro u r d V PI hV ht hw;simp only[dB] at hw;have hr:=bY.rf QZ Rc hV hw;have hg:bY Any (if u=true then mQ else vD) 1 17:=by
   cases u with
   | true=>exact Bd
   | false=>exact F9
  simp only[j7,dO];exact ((hg.an hr).st oS 59 _ rfl P1).mono yA yA
 have A5:∀ (e:Ex) (th el:List Sm),(∀ d V PI,(∀ x∈V,db x)→fY d PI→cI ms fs ps d V th→bY Any (iS PI th) (bH th) (64*bH th))→(∀ d V PI,(∀ x∈V,db x)→fY d PI→cI ms fs ps d V el→bY Any (iS PI el) (bH el) (64*bH el))→∀ d V PI,(∀ x∈V,db x)→fY d PI→dB ms fs ps d V (.kG e th el)→bY Any (j7 PI (.kG e th el)) (dO (.kG e th el)) (64*dO (.kG e th el)-10):=by
  intro e th el i1 i2 d V PI hV ht hw
  cases d with
  | zero=>simp[dB] at hw
  | succ d=>
   simp only[dB] at hw;have h1:=i1 d V _ hV ht.more hw.2.1;have h2:=i2 d V _ hV ht.more hw.2.2;have h3:=((((LK.an (bY.ex hV 2 e hw.1)).st y3 32 _ rfl P1).an h1).an ht.seg).an p9;simp only[j7,dO];split
   ·exact (h3.an (bY.nil Any)).mono U7 U7
   ·exact (h3.an (((Gb.an h2).an ht.seg).an p9)).mono U7 U7
 have A6:∀ (e:Ex) (th:List Sm),(∀ d V PI,(∀ x∈V,db x)→fY d PI→cI ms fs ps d V th→bY Any (iS PI th) (bH th) (64*bH th))→∀ d V PI,(∀ x∈V,db x)→fY d PI→dB ms fs ps d V (.cC e th)→bY Any (j7 PI (.cC e th)) (dO (.cC e th)) (64*dO (.cC e th)-10):=by
  intro e th i1 d V PI hV ht hw
  cases d with
  | zero=>simp[dB] at hw
  | succ d=>
   simp only[dB] at hw;have h1:=i1 d V _ hV ht.more hw.2;have h3:=((((DT.an (bY.ex hV 2 e hw.1)).st y3 32 _ rfl P1).an h1).an ht.seg).an p9;simp only[j7,dO];exact h3.mono U7 U7
 have A8:∀ (s:Sm) (r:List Sm),(∀ d V PI,(∀ x∈V,db x)→fY d PI→dB ms fs ps d V s→bY Any (j7 PI s) (dO s) (64*dO s-10))→(∀ d V PI,(∀ x∈V,db x)→fY d PI→cI ms fs ps d V r→bY Any (iS PI r) (bH r) (64*bH r))→∀ d V PI,(∀ x∈V,db x)→fY d PI→cI ms fs ps d V (s::r)→bY Any (iS PI (s::r)) (bH (s::r)) (64*bH (s::r)):=by
  intro s r i1 i2 d V PI hV ht hw;simp only[cI] at hw;have hV2:∀ x∈V++dE s,db x:=by
   intro x hx;rcases List.mem_append.1 hx with hx | hx
   ·exact hV x hx
   ·cases s<;>simp only[dE,List.mem_singleton,List.not_mem_nil] at hx;subst hx;have:=hw.1;simp only[dB] at this;obtain⟨⟨k,hk,rfl⟩,_⟩:=this;exact V2 k hk
  have h1:=i1 d V PI hV ht hw.1;have h2:=i2 d _ PI hV2 ht hw.2;have hp:=Sh s;have QU:bY Any tNl 0 1:=bY.KJ P1;simp only[iS,bH];exact (((ht.seg.an h1).an QU).an h2).mono yA yA
 have A7:∀ d V PI,(∀ x∈V,db x)→fY d PI→dB ms fs ps d V .jb→bY Any (j7 PI .jb) (dO .jb) (64*dO .jb-10):=by
  intro d V PI _ _ _;simp only[j7,dO];exact Jb.mono yA yA
 have A0:∀ d V PI,(∀ x∈V,db x)→fY d PI→cI ms fs ps d V []→bY Any (iS PI []) (bH []) (64*bH []):=by
  intro d V PI _ _ _;simp only[iS,bH];exact bY.nil _
 refine⟨fun s d V PI h1 h2 h3 _=>?_,fun l=>?_⟩
 ·exact Sm.rec (motive_1:=fun s=>∀ d V PI,(∀ x∈V,db x)→fY d PI→dB ms fs ps d V s→bY Any (j7 PI s) (dO s) (64*dO s-10)) (motive_2:=fun l=>∀ d V PI,(∀ x∈V,db x)→fY d PI→cI ms fs ps d V l→bY Any (iS PI l) (bH l) (64*bH l)) A1 A2 A3 A4 A5 A6 A7 A0 A8 s d V PI h1 h2 h3
 ·exact Sm.rec_1 (motive_1:=fun s=>∀ d V PI,(∀ x∈V,db x)→fY d PI→dB ms fs ps d V s→bY Any (j7 PI s) (dO s) (64*dO s-10)) (motive_2:=fun l=>∀ d V PI,(∀ x∈V,db x)→fY d PI→cI ms fs ps d V l→bY Any (iS PI l) (bH l) (64*bH l)) A1 A2 A3 A4 A5 A6 A7 A0 A8 l
end
theorem bY.nT {n:Int}(h : -9223372036854775807≤n∧n≤9223372036854775807):bY Stop (kk n) 2 20:=by
 unfold Go.aP.kk;split
 ·exact ((im 45 P1).an (bY.dig (n:=(-n).toNat) yA)).mono yA yA
 ·exact (bY.dig (n:=n.toNat) yA).mono yA yA
theorem mV:bY Any ⟨#[59,10]⟩ 1 2:=⟨Nat.le_refl _,fun _ _ _ hl=>Lx.xO P1 P1 (Lx.sp P1 hl)⟩
theorem bY.gl {g:Gl}(h:db g.name)(hi : -2≤g.init∧g.init≤2):bY Any (K5 g) 6 64:=by
 unfold K5;split
 ·exact (((xx.an (bY.nm h)).app (bY.nil Stop) fun r hr=>hr).st mV 59 _ rfl P1).mono yA yA
 ·have h1:bY Stop (Ga++kk g.init) 3 23:=(Bf.an (bY.nT yA)).mono yA yA;exact (((xx.an (bY.nm h)).st h1 32 _ rfl P1).st mV 59 _ rfl P1).mono yA yA
theorem bY.mx {m:Mx}(h:db m.name)(hi:m.size≤3):bY Any (JT m) 7 64:=by
 unfold JT;have h0:bY Any ((if m.re=true then ⟨#[114]⟩ else ⟨#[]⟩)++⟨#[109,117,116,101,120,32]⟩) 1 17:=by
  cases m.re with
  | true=>exact nO [114,109,117,116,101,120] _ P1 ⟨⟨_,_,rfl,by decide⟩,by decide,by decide⟩
  | false=>exact nO [109,117,116,101,120] _ P1 ⟨⟨_,_,rfl,by decide⟩,by decide,by decide⟩
 generalize (if m.re=true then (⟨#[114]⟩:ByteArray) else ⟨#[]⟩)++⟨#[109,117,116,101,120,32]⟩=pre at h0 ⊢;split
 ·exact (((h0.an (bY.nm h)).app (bY.nil Stop) fun r hr=>hr).st mV 59 _ rfl P1).mono yA yA
 ·have h1:bY Any (⟨#[91]⟩++kk m.size++⟨#[93]⟩) 4 22:=(((im 91 P1).an (bY.nT yA)).st (im 93 P1) 93 _ rfl P1).mono yA yA;exact (((h0.an (bY.nm h)).st h1 91 _ (by rw[fX,fX];rfl) P1).an mV).mono yA yA
theorem Eh (l:List Pm)(r:List UInt8)(hr:Stop r):Stop (bs (tH false l)++r):=by
 cases l with
 | nil=>exact hr
 | cons a t=>
  rw[tH];simp only[Bool.false_eq_true,if_false,fX];exact Stop.cons _ P1
theorem bY.pR:∀ (first:Bool) {l:List Pm},(∀ p∈l,db p.name)→bY Stop (tH first l) (3*l.length) (40*l.length)
 | _,[],_=>bY.nil _
 | first,p::l,h=>by
  have hn:=(bY.nm (h p List.mem_cons_self)).app (bY.pR false fun q hq=>h q (List.mem_cons_of_mem _ hq)) fun r hr=>Eh l r hr;have hm:bY Any (if p.mutex=true then ⟨#[109,117,116,101,120,32]⟩ else ⟨#[]⟩) 1 17:=by
   cases p.mutex with
   | true=>exact vC
   | false=>exact (bY.nil Any).mono yA yA
  have hf:bY Any (if first=true then ⟨#[]⟩ else ⟨#[44,32]⟩) 1 2:=by
   cases first with
   | true=>exact (bY.nil Any).mono yA yA
   | false=>exact An
  rw[Go.aP.tH];have h1:=(hf.an hm).an hn;rw[← ByteArray.append_assoc] at h1;exact h1.mono Yt Yt
theorem bY.cat {α:Type}(f:α→ByteArray)(k:α→Nat):∀ {l:List α},(∀ a∈l,bY Any (f a) (k a) (64*k a))→bY Any (jm f l) (l.map k).sum (64*(l.map k).sum)
 | [],_=>bY.nil _
 | a::r,h=>by
  rw[jm];have h1:=(h a List.mem_cons_self).an (bY.cat f k fun b hb=>h b (List.mem_cons_of_mem _ hb));exact h1.mono Ru Ru
theorem CY (s:ByteArray)(h:(match bs s with | c::_=>isLet c | []=>false)=true∧(bs s).all eW=true∧(bs s).length≤16):db s:=by
 refine⟨?_,h.2⟩;have h1:=h.1
 cases hb:bs s with
 | nil=>rw[hb] at h1;cases h1
 | cons c t=>
  rw[hb] at h1;exact⟨c,t,rfl,h1⟩
theorem nG_ok:∀ s∈nG,db s:=fun s hs=>CY s ((by decide:∀ s∈nG,(match bs s with | c::_=>isLet c | []=>false)=true∧(bs s).all eW=true∧(bs s).length≤16) s hs)
theorem nM_ok:∀ s∈nM,db s:=fun s hs=>CY s ((by decide:∀ s∈nM,(match bs s with | c::_=>isLet c | []=>false)=true∧(bs s).all eW=true∧(bs s).length≤16) s hs)
theorem nF_ok:∀ s∈nF,db s:=fun s hs=>CY s ((by decide:∀ s∈nF,(match bs s with | c::_=>isLet c | []=>false)=true∧(bs s).all eW=true∧(bs s).length≤16) s hs)
theorem nP_ok:∀ s∈nP,db s:=fun s hs=>CY s ((by decide:∀ s∈nP,(match bs s with | c::_=>isLet c | []=>false)=true∧(bs s).all eW=true∧(bs s).length≤16) s hs)
theorem xW {α:Type}{f:α→ByteArray}{l:List α}{ns:List ByteArray}(h:∀ s∈l.map f,s∈ns)(hn:∀ s∈ns,db s):∀ a∈l,db (f a):=fun _ ha=>hn _ (h _ (List.mem_map_of_mem ha))
theorem jP.ng {p:Pg}(h:jP p):∀ g∈p.gs,db g.name:=by
 obtain⟨k,_,hk⟩:=h.gn;exact xW (fun s hs=>by rw[hk] at hs;exact List.mem_of_mem_take hs) nG_ok
theorem jP.nm {p:Pg}(h:jP p):∀ g∈p.ms,db g.name:=by
 obtain⟨k,_,_,hk⟩:=h.mn;exact xW (fun s hs=>by rw[hk] at hs;exact List.mem_of_mem_take hs) nM_ok
theorem jP.nf {p:Pg}(h:jP p):∀ g∈p.fs,db g.name:=by
 obtain⟨k,_,_,hk⟩:=h.fn;exact xW (fun s hs=>by rw[hk] at hs;exact List.mem_of_mem_take hs) nF_ok
theorem jP.np {p:Pg}(h:jP p):∀ f∈p.fs,∀ q∈f.params,db q.name:=fun f hf=>by
 obtain⟨k,_,hk⟩:=h.pn f hf;exact xW (fun s hs=>by rw[hk,List.mem_reverse] at hs;exact List.mem_of_mem_take hs) nP_ok
theorem jP.nv {p:Pg}(h:jP p):∀ f∈p.fs,∀ s∈jf p.gs f.params,db s:=fun f hf s hs=>by
 rcases tV hs with hs | hs
 ·rw[List.mem_map] at hs;obtain⟨g,hg,rfl⟩:=hs;exact h.ng g hg
 ·rw[List.mem_map] at hs;obtain⟨g,hg,rfl⟩:=hs;exact h.np f hf g hg
theorem bY.fu {p:Pg}(h:jP p){f:Fu}(hf:f∈p.fs):bY Any (Fz f) (12+bH f.body) (64*(12+bH f.body)):=by
 have hb:=(bY.lines (ms:=p.ms) (fs:=p.fs.map fun f=>(f.name,f.params)) (ps:=f.params) h.nm (fun x hx=>by
  rw[List.mem_map] at hx;obtain⟨g,hg,rfl⟩:=hx;exact h.nf g hg) (h.np f hf)).2 f.body 2 (jf p.gs f.params) oR (h.nv f hf) ⟨by decide,by decide⟩ (h.bd f hf)
 obtain⟨k,hk,Si⟩:=h.pn f hf;have hlen:f.params.length≤2:=by
  have:=congrArg List.length Si;simp[nP] at this;omega
 have We:bY Any ⟨#[102,117,110,99,32]⟩ 1 17:=nO [102,117,110,99] _ rfl ⟨⟨_,_,rfl,by decide⟩,by decide,by decide⟩;have ho:bY Any ⟨#[41,32,123,10]⟩ 2 4:=⟨Nat.le_refl _,fun _ _ _ hl=>Lx.xO P1 P1 (Lx.sp P1 (Lx.xO P1 P1 (Lx.sp P1 hl)))⟩;have hc:bY Any ⟨#[125,10]⟩ 1 2:=⟨Nat.le_refl _,fun _ _ _ hl=>Lx.xO P1 P1 (Lx.sp P1 hl)⟩;unfold Fz;exact ((((((We.an (bY.nm (h.nf f hf))).st (im 40 P1) 40 _ rfl P1).an (bY.pR true (h.np f hf))).st ho 41 _ rfl P1).an hb).an hc).mono yA yA
theorem DU {α:Type}(l:List α)(c:Nat):(l.map fun _=>c).sum=c*l.length:=by
 induction l with
 | nil=>simp
 | cons _ r ih=>simp[ih,Nat.mul_add];omega
theorem sum_add {α:Type}(l:List α)(c:Nat)(f:α→Nat):(l.map fun a=>c+f a).sum=c*l.length+(l.map f).sum:=by
 induction l with
 | nil=>simp
 | cons a r ih=>simp[ih,Nat.mul_add];omega
theorem Mj {p:Pg}(h:jP p):Lx (bs (Ej p)) 4000∧(bs (Ej p)).length≤262144:=by
 have h1:=bY.cat K5 (fun _=>6) (l:=p.gs) fun g hg=>(bY.gl (h.ng g hg) (h.gi g hg)).mono (Nat.le_refl _) yA;have h2:=bY.cat JT (fun _=>7) (l:=p.ms) fun g hg=>(bY.mx (h.nm g hg) (h.mz g hg).1).mono (Nat.le_refl _) yA;have h3:=bY.cat Fz (fun f=>12+bH f.body) (l:=p.fs) fun g hg=>bY.fu h hg;rw[DU] at h1 h2;rw[sum_add] at h3;have hw:=h.wt;obtain⟨k1,VC,e1⟩:=h.gn;obtain⟨k2,_,UX,e2⟩:=h.mn;obtain⟨k3,_,hk3,e3⟩:=h.fn;have l1:=congrArg List.length e1;have l2:=congrArg List.length e2;have l3:=congrArg List.length e3;simp[nG] at l1;simp[nM] at l2;simp[nF] at l3;obtain⟨hb,hl⟩:=(h1.an h2).an h3;refine⟨?_,?_⟩
 ·have:=hl [] 0 trivial (.nil 0);rw[List.append_nil] at this;exact this.mono yA
 ·unfold Ej;omega
end Go.aP
namespace Go.Proofs.YtnecpnjdonibmaaGreat
open Go.Can Go.aP
theorem gY (x y:ByteArray):kM .eql x y=some (.bool (decide (x=y))):=by
 have h:(x.toList == y.toList)=decide (x=y):=by
  rw[ByteArray.toList_eq,ByteArray.toList_eq,Bool.eq_iff_iff];simp only[beq_iff_eq,decide_eq_true_eq,Array.toList_inj];exact⟨fun h=>ByteArray.ext h,fun h=>by rw[h]⟩
 simp only[kM,h]
theorem jt (x y:ByteArray):kM .neq x y=some (.bool (!decide (x=y))):=by
 have h:=gY x y;simp only[kM,Option.some.injEq,CV.bool.injEq] at h ⊢;rw[h]
theorem ax (x y:ByteArray)(h:x.size+y.size≤9223372036854775807):kM .add x y=some (.str (x++y)):=by
 simp only[kM,if_pos h]
theorem Hx (c:UInt8):isLet c=((decide ((97:Int)≤c.toNat) && decide ((c.toNat:Int)≤122)) || (decide ((65:Int)≤c.toNat) && decide ((c.toNat:Int)≤90)) || ((c.toNat:Int) == 95)):=by
 rw[Bool.eq_iff_iff];simp only[isLet,Bool.or_eq_true,Bool.and_eq_true,decide_eq_true_eq,beq_iff_eq];omega
theorem Hy (c:UInt8):cQ c=(decide ((48:Int)≤c.toNat) && decide ((c.toNat:Int)≤57)):=by
 rw[Bool.eq_iff_iff];simp only[cQ,Bool.and_eq_true,decide_eq_true_eq];omega
theorem kR (c:UInt8):ae Tryz.prog 210 [.int .u8 c.toNat] (.bool (isLet c)):=by
 rw[Hx];generalize (c.toNat:Int)=n;refine ae.aM ah Tryz.func210 rfl PH (by simp[Tryz.ntmps210]) rfl fun C hC PN=>?_;rw[Tryz.ntmps210] at hC;apply aj;simp[hC];by_cases h1:97≤n
 ·by_cases h2:n≤122
  ·apply aj;simp[hC,h1,h2];apply T.ret;apply aa.here;simp[Tryz.results210]
  ·have h3:65≤n:=by omega
   have h4:¬ n≤90:=by omega
   apply aj;simp[hC,h1,h2,h3,h4];apply T.ret;apply aa.here;simp[Tryz.results210]
 ·by_cases h3:65≤n
  ·by_cases h4:n≤90
   ·apply aj;simp[hC,h1,h3,h4];apply T.ret;apply aa.here;simp[Tryz.results210]
   ·apply aj;simp[hC,h1,h3,h4];apply T.ret;apply aa.here;simp[Tryz.results210]
  ·apply aj;simp[hC,h1,h3];apply T.ret;apply aa.here;simp[Tryz.results210]
theorem k9 (c:UInt8):ae Tryz.prog 211 [.int .u8 c.toNat] (.bool (cQ c)):=by
 rw[Hy];generalize (c.toNat:Int)=n;refine ae.aM ah Tryz.func211 rfl PH (by simp[Tryz.ntmps211]) rfl fun C hC PN=>?_;rw[Tryz.ntmps211] at hC;apply aj;simp[hC];by_cases h1:48≤n
 ·apply aj;simp[hC,h1];apply T.ret;apply aa.here;simp[Tryz.results211]
 ·apply aj;simp[hC,h1];apply T.ret;apply aa.here;simp[Tryz.results211]
def hasB (l:List ByteArray)(s:ByteArray):Bool:=l.any fun x=>decide (x=s)
theorem x8 (l:List ByteArray)(s:ByteArray)(hl:l.length≤1000):ae Tryz.prog 270 [strs l,.str s] (.bool (hasB l s)):=by
 refine ae.aM ah Tryz.func270 rfl PH (by simp[Tryz.ntmps270]) rfl fun C hC PN=>?_;rw[Tryz.ntmps270] at hC;apply aj;simp[hC];apply aU;simp[hC];apply T.block;refine T.aJ (fun m st=>∃ i:Nat,m=l.length-i∧i≤l.length∧hasB l s=hasB (l.drop i) s∧st=⟨[(5,I i),(0,strs l),(1,.str s)],[],0⟩) (n:=l.length) ?_ ?_
 ·refine aa.le (Le.env [5,0,1]) (aa.here ⟨0,by omega,by omega,by simp,?_⟩);simp
 ·rintro n st ⟨i,rfl,hi,hni,rfl⟩;by_cases PJ:i<l.length
  ·have PL:=iG PJ;have hw:=cE ((i:Int)+1) yA yA;apply aU;simp[hC,strs,PJ];refine gQ ?_;simp;apply dZ;apply aj;simp[hC,PJ,PL,gY];refine T.bb rfl (fun h=>?_) (fun h=>?_)
   ·have he:l.getD i eS=s:=by simpa [PJ] using h
    apply aj;simp[hC];apply T.ret;apply aa.here;have hb:hasB l s=true:=by
     unfold hasB;rw[List.any_eq_true];exact⟨s,he ▸ iK PJ eS,by simp⟩
    simp[Tryz.results270,hb]
   ·have he:¬ l.getD i eS=s:=by simpa [PJ] using h
    apply T.skip;simp;apply aW;simp[hC,hw];refine⟨l.length-(i+1),by omega,?_⟩;refine aa.le (Le.env [5,0,1]) (aa.here ⟨i+1,rfl,by omega,?_,?_⟩)
    ·rw[hni,List.drop_eq_getElem_cons PJ];have e2:l[i]=l.getD i eS:=by simp[PJ]
     simp only[hasB,List.any_cons,e2,he,decide_false,Bool.false_or]
    ·simp
  ·have PS:i=l.length:=by omega
   have hb:hasB l s=false:=by rw[hni,PS,List.drop_length];rfl
   apply aU;simp[hC,strs,PJ];refine bh ?_;simp;apply T.exit;simp;apply aj;simp[hC];apply T.ret;apply aa.here;simp[Tryz.results270,hb]
def L1:List ByteArray:=[⟨#[118,97,114]⟩,⟨#[109,117,116,101,120]⟩,⟨#[114,109,117,116,101,120]⟩,⟨#[102,117,110,99]⟩,⟨#[108,111,99,107]⟩,⟨#[117,110,108,111,99,107]⟩,⟨#[103,111]⟩,⟨#[105,102]⟩,⟨#[101,108,115,101]⟩,⟨#[119,104,105,108,101]⟩,⟨#[114,101,116,117,114,110]⟩]
theorem Jr:L1.map bs=qe:=rfl
theorem Nh {a b:ByteArray}(h:bs a=bs b):a=b:=by
 unfold bs at h;exact ByteArray.ext (Array.toList_inj.1 h)
theorem HE (s:ByteArray):hasB L1 s=decide (bs s∈qe):=by
 rw[Bool.eq_iff_iff,decide_eq_true_eq,← Jr];unfold hasB;rw[List.any_eq_true,List.mem_map];constructor
 ·rintro⟨x,h1,h2⟩;exact⟨x,h1,by rw[of_decide_eq_true h2]⟩
 ·rintro⟨x,h1,h2⟩;exact⟨x,h1,by rw[Nh h2];simp⟩
theorem qI (s:ByteArray):ae Tryz.prog 212 [.str s] (.bool (decide (bs s∈qe))):=by
 refine ae.aM ah Tryz.func212 rfl PH (by simp[Tryz.ntmps212]) rfl fun C hC PN=>?_;rw[Tryz.ntmps212] at hC;apply aj;simp[hC];apply aj;simp[hC];refine TL.le (Le.dz (o:=0) rfl rfl) ?_;simp[cB];have h:=x8 L1 s P1;rw[HE] at h;refine dQ P2 (h) ?_;simp[hC];apply T.ret;apply aa.here;simp[Tryz.results212]
def dm (l:List UInt8):CV:=.az (l.map fun x=>.int .u8 (x.toNat:Int)) l.length
theorem kD {l:List UInt8}{i:Nat}{c:UInt8}(h:l[i]? = some c):(l.map fun x=>CV.int .u8 (x.toNat:Int)).drop i=.int .u8 (c.toNat:Int)::(l.map fun x=>CV.int .u8 (x.toNat:Int)).drop (i+1):=by
 obtain⟨h1,h2⟩:=List.getElem?_eq_some_iff.1 h;rw[List.drop_eq_getElem_cons (by simpa using h1)];simp[h2]
theorem J3 (c:UInt8):ia c=((c.toNat:Int) == 32 || (c.toNat:Int) == 9 || (c.toNat:Int) == 10 || (c.toNat:Int) == 13):=by
 have h:∀ k:UInt8,(c == k)=((c.toNat:Int) == (k.toNat:Int)):=fun k=>by
  rw[Bool.eq_iff_iff,beq_iff_eq,beq_iff_eq];constructor
  ·intro h;rw[h]
  ·intro h;exact UInt8.toNat_inj.1 yA
 simp only[ia,h];rfl
theorem Gi {c:UInt8}{r:List UInt8}:pX (c::r)=if ia c=true then pX r+1 else 0:=by
 unfold pX;rw[List.takeWhile_cons];split<;>simp
theorem gH {l:List UInt8}{i:Nat}{c:UInt8}(h:l[i]? = some c):l.drop i=c::l.drop (i+1):=by
 obtain⟨h1,h2⟩:=List.getElem?_eq_some_iff.1 h;rw[List.drop_eq_getElem_cons h1,h2]
theorem CC (l:List UInt8)(Wh:Nat)(QO:Wh≤l.length)(hl:l.length≤1000000)(U2:∀ r,l.drop (Wh+pX (l.drop Wh))=47::r→r.head?≠some 47):ae Tryz.prog 209 [dm l,I Wh] (I ((Wh+pX (l.drop Wh):Nat))):=by
 obtain⟨e,he⟩:∃ e,Wh+pX (l.drop Wh)=e:=⟨_,rfl⟩;rw[he] at U2 ⊢;refine ae.aM ah Tryz.func209 rfl PH (by simp[Tryz.ntmps209]) rfl fun C hC PN=>?_;rw[Tryz.ntmps209] at hC;apply aj;simp[hC];apply dZ;refine T.aJ (fun m st=>∃ i:Nat,m=l.length-i∧i≤l.length∧i+pX (l.drop i)=e∧st=⟨[(0,dm l),(1,I i)],[],0⟩) (n:=l.length-Wh) ?_ ?_
 ·refine aa.le (Le.env [0,1]) (aa.here ⟨Wh,rfl,QO,he,?_⟩);simp
 ·rintro n st ⟨i,rfl,hi,PS,rfl⟩;by_cases PJ:i<l.length
  ·obtain⟨c,hc⟩:∃ c,l[i]? = some c:=⟨l[i],List.getElem?_eq_getElem PJ⟩;have PL:=kD hc;have hd:=gH hc;rw[hd,Gi] at PS;have hw:=cE ((i:Int)+1) yA yA;apply aU;simp[hC,dm,PJ];refine gQ ?_;simp;refine T.block (T.block ?_);refine T.cut (fun st=>st=⟨[(10,.bool (ia c)),(0,dm l),(1,I i)],[],0⟩) ?_ ?_
   ·rw[J3];generalize (c.toNat:Int)=n at PL;by_cases h1:n=32
    ·apply aW;simp[hC,h1,PJ,PL];refine aa.le (Le.env [10,0,1]) (aa.here ?_);simp[dm]
    have h1:(n == 32)=false:=by simp[h1]
    by_cases h2:n=9
    ·apply aW;simp[hC,h2,PJ,PL];refine aa.le (Le.env [10,0,1]) (aa.here ?_);simp[dm]
    have h2:(n == 9)=false:=by simp[h2]
    by_cases h3:n=10
    ·apply aW;simp[hC,h3,PJ,PL];refine aa.le (Le.env [10,0,1]) (aa.here ?_);simp[dm]
    have h3:(n == 10)=false:=by simp[h3]
    apply aW;simp[hC,h1,h2,h3,PJ,PL];refine aa.le (Le.env [10,0,1]) (aa.here ?_);simp[dm]
   ·rintro st rfl;refine T.bb rfl (fun h=>?_) (fun h=>?_)
    ·rw[h,if_pos rfl] at PS;apply aW;simp[hC,hw];refine⟨l.length-(i+1),by omega,?_⟩;refine aa.le (Le.env [0,1]) (aa.here ⟨i+1,rfl,by omega,by omega,?_⟩);simp[dm]
    ·have h':ia c=false:=by simpa using h
     rw[h',if_neg zX] at PS;have TC:e=i:=by omega
     subst TC;rw[hd] at U2
          /- no comment -/
     refine T.cut (fun st=>st=⟨[(39,.bool false),(0,dm l),(1,I e)],[],0⟩) ?_ ?_
     ·by_cases h2:e+1<l.length
      ·obtain⟨c2,RE⟩:∃ c2,l[e+1]? = some c2:=⟨l[e+1],List.getElem?_eq_getElem h2⟩;have QI:=kD RE;have Ua:=gH RE;have Te:(e:Int)+1<l.length:=by omega
       by_cases h4:(c.toNat:Int)=47
       ·have h5:¬ (c2.toNat:Int)=47:=by
         have hc47:c=47:=UInt8.toNat_inj.1 (by have:(47:UInt8).toNat=47:=rfl;omega);subst hc47;have U2:=U2 _ rfl;rw[Ua] at U2;have:c2≠47:=fun h=>U2 (by simp[h]);intro h;exact this (UInt8.toNat_inj.1 (by have:(47:UInt8).toNat=47:=rfl;omega))
        apply aW;simp[hC,h4,PJ,PL,hw,Te,QI,dm];refine aa.le (Le.env [39,0,1]) (aa.here ?_);simp[h5]
       ·have h4:((c.toNat:Int) == 47)=false:=by simp[h4]
        apply aW;simp[hC,h4,PJ,PL,hw,Te,dm];refine aa.le (Le.env [39,0,1]) (aa.here ?_);simp
      ·have Te:¬ (e:Int)+1<l.length:=by omega
       apply aW;simp[hC,hw,Te,dm];refine aa.le (Le.env [39,0,1]) (aa.here ?_);simp
     ·rintro st rfl;refine bh ?_;simp;apply aj;simp[hC];apply T.ret;apply aa.here;simp[Tryz.results209]
  ·have hie':i=l.length:=by omega
   have U0:e=i:=by
    rw[hie',List.drop_length] at PS;have:pX ([]:List UInt8)=0:=rfl;omega
   apply aU;simp[hC,dm,PJ];refine bh ?_;simp;apply T.exit;simp;apply aj;simp[hC];apply T.ret;apply aa.here;simp[Tryz.results209,U0]
theorem qv (w:List UInt8)(c:UInt8):kA (w++[c])=10*kA w+(c.toNat-48):=by simp[kA]
theorem Kd (w:List UInt8)(r:List UInt8):kA w≤kA (w++r):=by
 induction r generalizing w with
 | nil=>simp
 | cons c r ih=>
  have h1:=ih (w++[c]);rw[qv] at h1;rw[List.append_assoc] at h1;have:kA w≤10*kA w+(c.toNat-48):=by omega
  exact Nat.le_trans this h1
theorem vf (l:List UInt8)(hl:l.length≤1000000)(hd:l.all cQ=true)(hv:kA l<9223372036854775808):ae Tryz.prog 213 [dm l] (I (kA l)):=by
 refine ae.aM ah Tryz.func213 rfl PH (by simp[Tryz.ntmps213]) rfl fun C hC PN=>?_;rw[Tryz.ntmps213] at hC;apply aj;simp[hC];apply aj;simp[hC];apply aU;simp[hC];apply T.block;refine T.aJ (fun m st=>∃ i:Nat,m=l.length-i∧i≤l.length∧st=⟨[(4,I i),(3,I (kA (l.take i))),(0,dm l)],[],0⟩) (n:=l.length) ?_ ?_
 ·refine aa.le (Le.env [4,3,0]) (aa.here ⟨0,by omega,by omega,?_⟩);simp[kA]
 ·rintro n st ⟨i,rfl,hi,rfl⟩;by_cases PJ:i<l.length
  ·obtain⟨c,hc⟩:∃ c,l[i]? = some c:=⟨l[i],List.getElem?_eq_getElem PJ⟩;have PL:=kD hc;have PY:l.take (i+1)=l.take i++[c]:=by rw[List.take_add_one,hc];rfl
   have WO:48≤c.toNat∧c.toNat≤57:=by
    have:=List.all_eq_true.1 hd c (List.mem_of_getElem? hc)
    simpa [cQ] using this
   have hle:=Kd (l.take (i+1)) (l.drop (i+1));rw[List.take_append_drop,PY,qv] at hle;have hw:=cE ((i:Int)+1) yA yA;generalize hdv:kA (l.take i)=d at hle;have w1:IntKind.u8.wrap ((c.toNat:Int)-48)=(c.toNat:Int)-48:=IntWalk.u8_in _ yA;have w2:=cE ((c.toNat:Int)-48) yA yA;have w3:=cE (9223372036854775807-((c.toNat:Int)-48)) yA yA;have w4:(9223372036854775807-((c.toNat:Int)-48)).tdiv 10=(9223372036854775807-((c.toNat:Int)-48)) / 10:=Int.tdiv_eq_ediv_of_nonneg yA;have w5:=cE ((9223372036854775807-((c.toNat:Int)-48)) / 10) yA yA;have w6:=cE (10*(d:Int)) yA yA;have w7:=cE (10*(d:Int)+((c.toNat:Int)-48)) yA yA;have w8:¬ (9223372036854775807-((c.toNat:Int)-48)) / 10<(d:Int):=by omega
   apply aU;simp[hC,dm,PJ];refine gQ ?_;simp;apply dZ;refine T.seq (T.AR ah ?_);simp[hC,PJ,PL,w1,w2];apply aU;simp[hC,w3,w4,w5];refine T.bb rfl (fun h=>?_) (fun h=>?_)
   ·simp at h;omega
   apply T.skip;simp;apply aW;simp[hC,w6,w7];apply aW;simp[hC,hw];refine⟨l.length-(i+1),by omega,?_⟩;refine aa.le (Le.env [4,3,0]) (aa.here ⟨i+1,rfl,by omega,?_⟩);rw[PY,qv,hdv];simp;omega
  ·have PS:i=l.length:=by omega
   apply aU;simp[hC,dm,PJ];refine bh ?_;simp;apply T.exit;simp;apply aj;simp[hC];apply T.ret;apply aa.here;simp[Tryz.results213,PS]
def LI:List ByteArray:=[⟨#[60,61]⟩,⟨#[62,61]⟩,⟨#[61,61]⟩,⟨#[33,61]⟩,⟨#[38,38]⟩,⟨#[124,124]⟩]
def JJ:List ByteArray:=[⟨#[40]⟩,⟨#[41]⟩,⟨#[123]⟩,⟨#[125]⟩,⟨#[91]⟩,⟨#[93]⟩,⟨#[44]⟩,⟨#[59]⟩,⟨#[61]⟩,⟨#[43]⟩,⟨#[45]⟩,⟨#[42]⟩,⟨#[47]⟩,⟨#[37]⟩,⟨#[60]⟩,⟨#[62]⟩,⟨#[33]⟩]
theorem HD (a b:UInt8):hasB LI ⟨#[a,b]⟩=decide ((a,b)∈p7):=by
 rw[Bool.eq_iff_iff,decide_eq_true_eq];simp only[hasB,LI,p7,List.any_cons,List.any_nil,Bool.or_eq_true,decide_eq_true_eq,ByteArray.mk.injEq,List.mem_cons,List.not_mem_nil,Prod.mk.injEq,Bool.false_eq_true];simp only[Array.mk.injEq,List.cons.injEq,and_true];constructor
 ·rintro (⟨rfl,rfl⟩ | ⟨rfl,rfl⟩ | ⟨rfl,rfl⟩ | ⟨rfl,rfl⟩ | ⟨rfl,rfl⟩ | ⟨rfl,rfl⟩ | h)<;>first | exact h.elim | simp
 ·rintro (⟨rfl,rfl⟩ | ⟨rfl,rfl⟩ | ⟨rfl,rfl⟩ | ⟨rfl,rfl⟩ | ⟨rfl,rfl⟩ | ⟨rfl,rfl⟩ | h)<;>first | exact h.elim | simp
theorem zW (a:UInt8):hasB JJ ⟨#[a]⟩=decide (a∈lu):=by
 rw[Bool.eq_iff_iff,decide_eq_true_eq];simp only[hasB,JJ,lu,List.any_cons,List.any_nil,Bool.or_eq_true,decide_eq_true_eq,ByteArray.mk.injEq,List.mem_cons,List.not_mem_nil,Bool.false_eq_true];simp only[Array.mk.injEq,List.cons.injEq,and_true];simp only[eq_comm]
theorem Ja (c:UInt8):(c.toNat:Int)<256:=by
 have:=c.toNat_lt;omega
theorem mJ:∀ l:List UInt8,bytesOf (l.map fun x=>CV.int .u8 (x.toNat:Int))=some l
 | []=>rfl
 | c::r=>by
  have h:=Ja c;simp[bytesOf,mJ r,h]
theorem Ji (l:List UInt8)(i:Nat)(PJ:i<l.length)(hl:l.length≤1000000):ae Tryz.prog 214 [dm l,I i] (I (r9 (l.drop i))):=by
 obtain⟨c,hc⟩:∃ c,l[i]? = some c:=⟨l[i],List.getElem?_eq_getElem PJ⟩;have PL:=kD hc;have hd:=gH hc;have hw:=cE ((i:Int)+1) yA yA;have Zd:=cE ((i:Int)+2) yA yA;rw[hd];refine ae.aM ah Tryz.func214 rfl PH (by simp[Tryz.ntmps214]) rfl fun C hC PN=>?_;rw[Tryz.ntmps214] at hC;apply aj;simp[hC];by_cases h2:i+1<l.length
 ·obtain⟨c2,RE⟩:∃ c2,l[i+1]? = some c2:=⟨l[i+1],List.getElem?_eq_getElem h2⟩;have QI:=kD RE;have Ua:=gH RE;rw[Ua];have Te:(i:Int)+1<l.length:=by omega
  have h3:i+2≤l.length:=by omega
  have z2:(0:Int)≤(i:Int)+2:=by omega
  have t2:((i:Int)+2).toNat=i+2:=by omega
  have e2:i+2-i=2:=by omega
  refine T.seq (T.seq (T.AR ah ?_));simp[hC,dm,hw,Zd,Te,h3,PL,QI,z2,t2,e2,Ja];refine TL.le (Le.dz (o:=0) rfl rfl) ?_;simp[cB];have h:=x8 LI ⟨#[c,c2]⟩ P1;rw[HD] at h;refine TL.cw PV rfl rfl rfl rfl (bT.of rfl P2 (h)) (TL.go' ah ?_);simp[hC];refine T.bb rfl (fun h=>?_) (fun h=>?_)
  ·have h4:(c,c2)∈p7:=by simpa using h
   apply aj;simp[hC];apply T.ret;apply aa.here;simp[Tryz.results214,r9,h4]
  ·have h4:(c,c2)∉p7:=by simpa using h
   apply T.skip;simp;have hs:r9 (c::c2::l.drop (i+1+1))=if c∈lu then 1 else 0:=by simp[r9,h4]
   rw[hs];clear hs;refine T.le (Le.trim [0,1,4] [] 0 zX yA) ?_;simp;have h1:i+1≤l.length:=by omega
   have z1:(0:Int)≤(i:Int)+1:=by omega
   have t1:((i:Int)+1).toNat=i+1:=by omega
   have e1:i+1-i=1:=by omega
   refine T.seq (T.seq (T.AR ah ?_));simp[hC,hw,h1,z1,t1,e1,PL,Ja];refine TL.le (Le.dz (o:=0) rfl rfl) ?_;simp[cB];have h:=x8 JJ ⟨#[c]⟩ P1;rw[zW] at h;refine dQ P2 (h) ?_;simp;refine T.bb rfl (fun h=>?_) (fun h=>?_)
   ·have h5:c∈lu:=by simpa using h
    apply aj;simp[hC];apply T.ret;apply aa.here;simp[Tryz.results214,h5]
   ·have h5:c∉lu:=by simpa using h
    apply T.skip;simp;apply aj;simp[hC];apply T.ret;apply aa.here;simp[Tryz.results214,h5]
 ·have Te:¬ (i:Int)+1<l.length:=by omega
  have Ua:l.drop (i+1)=[]:=List.drop_eq_nil_of_le yA;rw[Ua];have hs:r9 [c]=if c∈lu then 1 else 0:=rfl
  rw[hs];clear hs;refine T.seq (T.seq (T.AR ah ?_));simp[hC,dm,hw,Te];refine bh ?_;simp;apply T.skip;simp;refine T.le (Le.trim [0,1,4] [] 0 zX yA) ?_;simp;have h1:i+1≤l.length:=by omega
  have z1:(0:Int)≤(i:Int)+1:=by omega
  have t1:((i:Int)+1).toNat=i+1:=by omega
  have e1:i+1-i=1:=by omega
  refine T.seq (T.seq (T.AR ah ?_));simp[hC,hw,h1,z1,t1,e1,PL,Ja];refine TL.le (Le.dz (o:=0) rfl rfl) ?_;simp[cB];have h:=x8 JJ ⟨#[c]⟩ P1;rw[zW] at h;refine dQ P2 (h) ?_;simp;refine T.bb rfl (fun h=>?_) (fun h=>?_)
  ·have h5:c∈lu:=by simpa using h
   apply aj;simp[hC];apply T.ret;apply aa.here;simp[Tryz.results214,h5]
  ·have h5:c∉lu:=by simpa using h
   apply T.skip;simp;apply aj;simp[hC];apply T.ret;apply aa.here;simp[Tryz.results214,h5]
end Go.Proofs.YtnecpnjdonibmaaGreat
