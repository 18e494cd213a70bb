/- Lemmas. -/
import Derived.Test.YtlkmbdfhdknlgaaGreatW10
import Derived.Laws.Strings
import Derived.Maps.Keyed
import Derived.WideKeyPair
import Derived.Laws.StructEq
namespace Go.aK
open Go.Can List
section
variable {ms:List Mx}{fs:List (ByteArray×List Pm)}{ps:List Pm}(TP:∀ m∈ms,dI m.name)(TZ:∀ f∈fs,dI f.1)(Uk:∀ p∈ps,dI p.name)
theorem jH (c:UInt8)(h:c∈nQ/\c≠60/\c≠62/\c≠61/\c≠33/\c≠47):cu Any ⟨#[c]⟩ 1 1:=cu.sign h.1 h.2
theorem cu.OK {s:ByteArray}(h:(bs s).all jC=true):cu Any s 0 (bs s).length:=by
 refine⟨Nat.le_refl _,λ r n _ hl=>?_⟩;generalize bs s=l at h
 induction l with
 | nil=>exact hl
 | cons c t ih=>
  simp only[all_cons,Bool.and_eq_true] at h;exact Lx.sp h.1 (ih h.2)
include TP Uk in
theorem cu.rf {V:List ByteArray}(hV:∀ s∈V,dI s){r:Rf}(h:I2 ms ps V r):cu Stop (EC r) 10 186:=by
 have hn:dI r.name:=by
  rcases h with ⟨m,h1,h2,_⟩ | ⟨p,h1,_,h2,_⟩
  .rw[h2];exact TP m h1
  .rw[h2];exact Uk p h1
 have h0:=cu.nm hn;unfold EC
 cases hi:r.index with
 | none=>exact h0.mono yA yA
 | some e=>
  have he:gC V 1 e:=by
   rcases h with ⟨m,_,_,h3 | ⟨e',h3,_,h5⟩⟩ | ⟨_,_,_,_,h3⟩
   .rw[h3.1] at hi;cases hi
   .rw[h3] at hi;cases hi;exact h5
   .rw[h3] at hi;cases hi
  have h1:=(h0.app (jH 91 SC) λ r _=>Stop.cons _ SC).app (cu.ex hV 1 e he) λ _ _=>trivial;have h2:=h1.app (jH 93 SC) λ r _=>Stop.cons _ SC;exact (h2.any Stop).mono (by simp[D4]) (by simp[D4])
theorem qB (l:List UInt8)(s:ByteArray)(hs:bs s=l++[32])(h:(∃ c t,l=c::t/\isLet c=true)/\l.all gu=true/\l.length<=16):cu Any s 1 17:=cu.word h.1 h.2.1 h.2.2 s hs
theorem zb:cu Any ⟨#[109,117,116,101,120,32]⟩ 1 17:=qB [109,117,116,101,120] _ rfl ⟨⟨_,_,rfl,by decide⟩,by decide,by decide⟩
include TP Uk in
theorem cu.ar {V:List ByteArray}(hV:∀ s∈V,dI s){p:Pm}{a:Ar}(h:ArW ms ps V p a):cu Stop (Sq a) 19 456:=by
 cases a with
 | xF r=>
  simp only[ArW] at h;exact (zb.app (cu.rf TP Uk hV h.2) λ _ _=>trivial).mono yA yA
 | exp e=>
  simp only[ArW] at h;exact (cu.ex hV 2 e h.2).mono (by simp[D4]) (by simp[D4])
theorem Dy:cu Any ⟨#[44,32]⟩ 1 2:=⟨Nat.le_refl _,λ _ _ _ hl=>Lx.AJ SC SC (Lx.sp SC hl)⟩
theorem IK (l:List Ar)(r:List UInt8)(hr:Stop r):Stop (bs (yw false l)++r):=by
 cases l with
 | nil=>exact hr
 | cons a t=>
  rw[yw];simp only[Bool.false_eq_true,if_false,iv];exact Stop.cons _ SC
include TP Uk in
theorem cu.aR {V:List ByteArray}(hV:∀ s∈V,dI s):∀ (first:Bool) {gp:List Pm} {l:List Ar},j0 ms ps V gp l->cu Stop (yw first l) (20*l.length) (458*l.length)
 | _,[],[],_=>cu.nil _
 | first,p::gp,a::l,h=>by
  simp only[j0] at h;have h1:=(cu.ar TP Uk hV h.1).app (cu.aR hV false h.2) λ r hr=>IK l r hr;rw[Go.aK.yw,ByteArray.append_assoc]
  cases first with
  | true=>exact (((cu.nil Any).app h1 λ _ _=>trivial)).mono yCg yCg
  | false=>exact ((Dy.app h1 λ _ _=>trivial)).mono yCg yCg
 | _,[],_::_,h=>h.elim
 | _,_::_,[],h=>h.elim
include TP Uk in
theorem cu.ars {V:List ByteArray}(hV:∀ s∈V,dI s){gp:List Pm}{l:List Ar}(h:j0 ms ps V gp l):cu Any (vS l) (2+20*l.length) (2+458*l.length):=by
 have h1:=(jH 40 SC).app (cu.aR TP Uk hV true h) λ _ _=>trivial;have h2:=h1.app (jH 41 SC) λ r _=>Stop.cons _ SC;exact h2.mono yA yA
theorem Ao:cu Any B3 1 17:=qB [118,97,114] _ rfl ⟨⟨_,_,rfl,by decide⟩,by decide,by decide⟩
theorem PS:cu Any Ru 1 17:=qB [103,111] _ rfl ⟨⟨_,_,rfl,by decide⟩,by decide,by decide⟩
theorem Jr:cu Any zd 1 17:=qB [108,111,99,107] _ rfl ⟨⟨_,_,rfl,by decide⟩,by decide,by decide⟩
theorem Ep:cu Any pT 1 17:=qB [117,110,108,111,99,107] _ rfl ⟨⟨_,_,rfl,by decide⟩,by decide,by decide⟩
theorem PR:cu Any Rt 1 17:=qB [105,102] _ rfl ⟨⟨_,_,rfl,by decide⟩,by decide,by decide⟩
theorem Hx:cu Any An 1 17:=qB [119,104,105,108,101] _ rfl ⟨⟨_,_,rfl,by decide⟩,by decide,by decide⟩
theorem Es:cu Any Js 1 3:=⟨Nat.le_refl _,λ _ _ _ hl=>Lx.sp SC (Lx.one SC xr (Lx.sp SC hl))⟩
theorem sj:cu Any jQ 1 1:=jH 59 SC
theorem B4:cu Any sq 1 3:=⟨Nat.le_refl _,λ _ _ _ hl=>Lx.sp SC (Lx.AJ SC SC (Lx.sp SC hl))⟩
theorem ur:cu Any me 1 1:=jH 125 SC
theorem Jt:cu Any B5 2 8:=⟨Nat.le_refl _,λ r n _ hl=>by
 refine Lx.sp SC ?_;have h:=OD.name (s:=[101,108,115,101]) ⟨_,_,rfl,by decide⟩ SC (.inl SC) (32::123::10::r) (n+1) (Stop.cons _ SC) (Lx.sp SC (Lx.AJ SC SC (Lx.sp SC hl)));exact h⟩
theorem MH:cu Any MJ 2 7:=⟨Nat.le_refl _,λ r n _ hl=>by
 have h:=OD.name (s:=[114,101,116,117,114,110]) ⟨_,_,rfl,by decide⟩ SC (.inl SC) (59::r) (n+1) (Stop.cons _ SC) (Lx.AJ SC SC hl);exact h⟩
theorem cu.st {S:List UInt8->Prop}{a b:ByteArray}{k k' m m':Nat}(h:cu Stop a k m)(h':cu S b k' m')(c:UInt8)(t:List UInt8)(hb:bs b=c::t)(hc:gu c=false/\c≠61/\c≠47):cu S (a++b) (k' + k) (m+m'):=
 h.app h' λ r _=>by rw[hb];exact Stop.cons _ hc
theorem cu.an {S:List UInt8->Prop}{a b:ByteArray}{k k' m m':Nat}(h:cu Any a k m)(h':cu S b k' m'):cu S (a++b) (k' + k) (m+m'):=h.app h' λ _ _=>trivial
def iw (d:Nat)(s:ByteArray):Prop:=(bs s).all jC=true/\(bs s).length+d<=3
theorem iw.H9 {d:Nat}{s:ByteArray}(h:iw (d+1) s):iw d (s++sh):=by
 refine⟨by rw[iv,all_append,h.1];rfl,?_⟩;rw[iv,length_append];have:=h.2;show _+1+d<=3;omega
theorem iw.seg {d:Nat}{s:ByteArray}(h:iw d s):cu Any s 0 3:=(cu.OK h.1).mono (Nat.le_refl _) (by have:=h.2;omega)
include TP Uk TZ
theorem cu.lines:(∀ s:Sm,∀ d V HN,(∀ x∈V,dI x)->iw d HN->eH ms fs ps d V s->(∀ x,eJ s=[x]->dI x)->cu Any (mf HN s) (e9 s) (64*e9 s-10))/\
  (∀ l:List Sm,∀ d V HN,(∀ x∈V,dI x)->iw d HN->dj ms fs ps d V l->cu Any (j3 HN l) (bY l) (64*bY l)):=by
 have YW:∀ k,k<24->dI (gm k):=by
  intro k hk;refine⟨⟨118,_,gS k,by decide⟩,?_,by rw[gS];simp⟩;rw[gS];have:∀ k,k<24->all [118,UInt8.ofNat (97+k % 26),UInt8.ofNat (97+k / 26 % 26)] gu=true:=by decide
  exact this k hk
 have VN:∀ s:Sm,2<=e9 s:=by intro s;cases s<;>simp only[e9]<;>omega
 have A1:∀ (s:ByteArray) (e:Ex) d V HN,(∀ x∈V,dI x)->iw d HN->eH ms fs ps d V (.iU s e)->cu Any (mf HN (.iU s e)) (e9 (.iU s e)) (64*e9 (.iU s e)-10):=by
  intro s e d V HN hV ht hw;simp only[eH] at hw;obtain⟨⟨k,hk,rfl⟩,_,he⟩:=hw;simp only[mf,e9];exact ((((Ao.an (cu.nm (YW k hk))).st Es 32 _ rfl SC).an (cu.ex hV 2 e he)).st sj 59 _ rfl SC).mono (by simp[D4]) (by simp[D4])
 have A2:∀ (s:ByteArray) (e:Ex) d V HN,(∀ x∈V,dI x)->iw d HN->eH ms fs ps d V (.jx s e)->cu Any (mf HN (.jx s e)) (e9 (.jx s e)) (64*e9 (.jx s e)-10):=by
  intro s e d V HN hV ht hw;simp only[eH] at hw;simp only[mf,e9];exact ((((cu.nm (hV s hw.1)).st Es 32 _ rfl SC).an (cu.ex hV 2 e hw.2)).st sj 59 _ rfl SC).mono (by simp[D4]) (by simp[D4])
 have A3:∀ (g:Bool) (s:ByteArray) (l:List Ar) d V HN,(∀ x∈V,dI x)->iw d HN->eH ms fs ps d V (.eM g s l)->cu Any (mf HN (.eM g s l)) (e9 (.eM g s l)) (64*e9 (.eM g s l)-10):=by
  intro g s l d V HN hV ht hw;simp only[eH] at hw;obtain⟨gp,h1,h2⟩:=hw;have hn:=cu.nm (TZ _ h1);have ha:=cu.ars TP Uk hV h2;have hb:bs (vS l)=40::(bs (yw true l)++[41]):=by simp only[vS,iv];rfl
  have hg:cu Stop (if g=true then Ru++s else s) 2 33:=by
   cases g with
   | true=>exact (PS.an hn).mono yA yA
   | false=>exact hn.mono yA yA
  simp only[mf,e9];exact ((hg.st ha 40 _ hb SC).an sj).mono yA yA
 have A4:∀ (u:Bool) (r:Rf) d V HN,(∀ x∈V,dI x)->iw d HN->eH ms fs ps d V (.dS u r)->cu Any (mf HN (.dS u r)) (e9 (.dS u r)) (64*e9 (.dS u r)-10):=by
  intro u r d V HN hV ht hw;simp only[eH] at hw;have hr:=cu.rf TP Uk hV hw;have hg:cu Any (if u=true then pT else zd) 1 17:=by
   cases u with
   | true=>exact Ep
   | false=>exact Jr
  simp only[mf,e9];exact ((hg.an hr).st sj 59 _ rfl SC).mono yA yA
 have A5:∀ (e:Ex) (th el:List Sm),(∀ d V HN,(∀ x∈V,dI x)->iw d HN->dj ms fs ps d V th->cu Any (j3 HN th) (bY th) (64*bY th))->(∀ d V HN,(∀ x∈V,dI x)->iw d HN->dj ms fs ps d V el->cu Any (j3 HN el) (bY el) (64*bY el))->∀ d V HN,(∀ x∈V,dI x)->iw d HN->eH ms fs ps d V (.mL e th el)->cu Any (mf HN (.mL e th el)) (e9 (.mL e th el)) (64*e9 (.mL e th el)-10):=by
  intro e th el i1 i2 d V HN hV ht hw
  cases d with
  | zero=>simp[eH] at hw
  | succ d=>
   simp only[eH] at hw;have h1:=i1 d V _ hV ht.H9 hw.2.1;have h2:=i2 d V _ hV ht.H9 hw.2.2;have h3:=((((PR.an (cu.ex hV 2 e hw.1)).st B4 32 _ rfl SC).an h1).an ht.seg).an ur;simp only[mf,e9];split
   .exact (h3.an (cu.nil Any)).mono X8 X8
   .exact (h3.an (((Jt.an h2).an ht.seg).an ur)).mono X8 X8
 have A6:∀ (e:Ex) (th:List Sm),(∀ d V HN,(∀ x∈V,dI x)->iw d HN->dj ms fs ps d V th->cu Any (j3 HN th) (bY th) (64*bY th))->∀ d V HN,(∀ x∈V,dI x)->iw d HN->eH ms fs ps d V (.cX e th)->cu Any (mf HN (.cX e th)) (e9 (.cX e th)) (64*e9 (.cX e th)-10):=by
  intro e th i1 d V HN hV ht hw
  cases d with
  | zero=>simp[eH] at hw
  | succ d=>
   simp only[eH] at hw;have h1:=i1 d V _ hV ht.H9 hw.2;have h3:=((((Hx.an (cu.ex hV 2 e hw.1)).st B4 32 _ rfl SC).an h1).an ht.seg).an ur;simp only[mf,e9];exact h3.mono X8 X8
 have A8:∀ (s:Sm) (r:List Sm),(∀ d V HN,(∀ x∈V,dI x)->iw d HN->eH ms fs ps d V s->cu Any (mf HN s) (e9 s) (64*e9 s-10))->(∀ d V HN,(∀ x∈V,dI x)->iw d HN->dj ms fs ps d V r->cu Any (j3 HN r) (bY r) (64*bY r))->∀ d V HN,(∀ x∈V,dI x)->iw d HN->dj ms fs ps d V (s::r)->cu Any (j3 HN (s::r)) (bY (s::r)) (64*bY (s::r)):=by
  intro s r i1 i2 d V HN hV ht hw;simp only[dj] at hw;have hV2:∀ x∈V++eJ s,dI x:=by
   intro x hx;rcases mem_append.1 hx with hx | hx
   .exact hV x hx
   .cases s<;>simp only[eJ,mem_singleton,not_mem_nil] at hx;subst hx;have:=hw.1;simp only[eH] at this;obtain⟨⟨k,hk,rfl⟩,_⟩:=this;exact YW k hk
  have h1:=i1 d V HN hV ht hw.1;have h2:=i2 d _ HN hV2 ht hw.2;have hp:=VN s;have Ul:cu Any tNl 0 1:=cu.OK SC;simp only[j3,bY];exact (((ht.seg.an h1).an Ul).an h2).mono yA yA
 have A7:∀ d V HN,(∀ x∈V,dI x)->iw d HN->eH ms fs ps d V .kj->cu Any (mf HN .kj) (e9 .kj) (64*e9 .kj-10):=by
  intro d V HN _ _ _;simp only[mf,e9];exact MH.mono yA yA
 have A0:∀ d V HN,(∀ x∈V,dI x)->iw d HN->dj ms fs ps d V []->cu Any (j3 HN []) (bY []) (64*bY []):=by
  intro d V HN _ _ _;simp only[j3,bY];exact cu.nil _
 refine⟨λ s d V HN h1 h2 h3 _=>?_,λ l=>?_⟩
 .exact Sm.rec (motive_1:=λ s=>∀ d V HN,(∀ x∈V,dI x)->iw d HN->eH ms fs ps d V s->cu Any (mf HN s) (e9 s) (64*e9 s-10)) (motive_2:=λ l=>∀ d V HN,(∀ x∈V,dI x)->iw d HN->dj ms fs ps d V l->cu Any (j3 HN l) (bY l) (64*bY l)) A1 A2 A3 A4 A5 A6 A7 A0 A8 s d V HN h1 h2 h3
 .exact Sm.rec_1 (motive_1:=λ s=>∀ d V HN,(∀ x∈V,dI x)->iw d HN->eH ms fs ps d V s->cu Any (mf HN s) (e9 s) (64*e9 s-10)) (motive_2:=λ l=>∀ d V HN,(∀ x∈V,dI x)->iw d HN->dj ms fs ps d V l->cu Any (j3 HN l) (bY l) (64*bY l)) A1 A2 A3 A4 A5 A6 A7 A0 A8 l
end
theorem cu.nT {n:Int}(h : -9223372036854775807<=n/\n<=9223372036854775807):cu Stop (mv n) 2 20:=by
 unfold Go.aK.mv;split
 .exact ((jH 45 SC).an (cu.dig (n:=(-n).toNat) yA)).mono yA yA
 .exact (cu.dig (n:=n.toNat) yA).mono yA yA
theorem pX:cu Any ⟨#[59,10]⟩ 1 2:=⟨Nat.le_refl _,λ _ _ _ hl=>Lx.AJ SC SC (Lx.sp SC hl)⟩
theorem cu.gl {g:Gl}(h:dI g.name)(hi : -2<=g.init/\g.init<=2):cu Any (O9 g) 6 64:=by
 unfold O9;split
 .exact (((Ao.an (cu.nm h)).app (cu.nil Stop) λ r hr=>hr).st pX 59 _ rfl SC).mono yA yA
 .have h1:cu Stop (Js++mv g.init) 3 23:=(Es.an (cu.nT yA)).mono yA yA;exact (((Ao.an (cu.nm h)).st h1 32 _ rfl SC).st pX 59 _ rfl SC).mono yA yA
theorem cu.mx {m:Mx}(h:dI m.name)(hi:m.size<=3):cu Any (NC m) 7 64:=by
 unfold NC;have h0:cu Any ((if m.re=true then ⟨#[114]⟩ else ⟨#[]⟩)++⟨#[109,117,116,101,120,32]⟩) 1 17:=by
  cases m.re with
  | true=>exact qB [114,109,117,116,101,120] _ SC ⟨⟨_,_,rfl,by decide⟩,by decide,by decide⟩
  | false=>exact qB [109,117,116,101,120] _ SC ⟨⟨_,_,rfl,by decide⟩,by decide,by decide⟩
 generalize (if m.re=true then (⟨#[114]⟩:ByteArray) else ⟨#[]⟩)++⟨#[109,117,116,101,120,32]⟩=pre at h0 |-;split
 .exact (((h0.an (cu.nm h)).app (cu.nil Stop) λ r hr=>hr).st pX 59 _ rfl SC).mono yA yA
 .have h1:cu Any (⟨#[91]⟩++mv m.size++⟨#[93]⟩) 4 22:=(((jH 91 SC).an (cu.nT yA)).st (jH 93 SC) 93 _ rfl SC).mono yA yA;exact (((h0.an (cu.nm h)).st h1 91 _ (by rw[iv,iv];rfl) SC).an pX).mono yA yA
theorem HU (l:List Pm)(r:List UInt8)(hr:Stop r):Stop (bs (xp false l)++r):=by
 cases l with
 | nil=>exact hr
 | cons a t=>
  rw[xp];simp only[Bool.false_eq_true,if_false,iv];exact Stop.cons _ SC
theorem cu.pR:∀ (first:Bool) {l:List Pm},(∀ p∈l,dI p.name)->cu Stop (xp first l) (3*l.length) (40*l.length)
 | _,[],_=>cu.nil _
 | first,p::l,h=>by
  have hn:=(cu.nm (h p mem_cons_self)).app (cu.pR false λ q hq=>h q (mem_cons_of_mem _ hq)) λ r hr=>HU l r hr;have hm:cu Any (if p.mutex=true then ⟨#[109,117,116,101,120,32]⟩ else ⟨#[]⟩) 1 17:=by
   cases p.mutex with
   | true=>exact zb
   | false=>exact (cu.nil Any).mono yA yA
  have hf:cu Any (if first=true then ⟨#[]⟩ else ⟨#[44,32]⟩) 1 2:=by
   cases first with
   | true=>exact (cu.nil Any).mono yA yA
   | false=>exact Dy
  rw[Go.aK.xp];have h1:=(hf.an hm).an hn;rw[<- ByteArray.append_assoc] at h1;exact h1.mono yCg yCg
theorem cu.cat {α:Type}(f:α->ByteArray)(k:α->Nat):∀ {l:List α},(∀ a∈l,cu Any (f a) (k a) (64*k a))->cu Any (kJ f l) (l.map k).sum (64*(l.map k).sum)
 | [],_=>cu.nil _
 | a::r,h=>by
  rw[kJ];have h1:=(h a mem_cons_self).an (cu.cat f k λ b hb=>h b (mem_cons_of_mem _ hb));exact h1.mono Tv Tv
theorem Gr (s:ByteArray)(h:(match bs s with | c::_=>isLet c | []=>false)=true/\(bs s).all gu=true/\(bs s).length<=16):dI s:=by
 refine⟨?_,h.2⟩;have h1:=h.1
 cases hb:bs s with
 | nil=>rw[hb] at h1;cases h1
 | cons c t=>
  rw[hb] at h1;exact⟨c,t,rfl,h1⟩
theorem nG_ok:∀ s∈nG,dI s:=λ s hs=>Gr s ((by decide:∀ s∈nG,(match bs s with | c::_=>isLet c | []=>false)=true/\(bs s).all gu=true/\(bs s).length<=16) s hs)
theorem nM_ok:∀ s∈nM,dI s:=λ s hs=>Gr s ((by decide:∀ s∈nM,(match bs s with | c::_=>isLet c | []=>false)=true/\(bs s).all gu=true/\(bs s).length<=16) s hs)
theorem nF_ok:∀ s∈nF,dI s:=λ s hs=>Gr s ((by decide:∀ s∈nF,(match bs s with | c::_=>isLet c | []=>false)=true/\(bs s).all gu=true/\(bs s).length<=16) s hs)
theorem nP_ok:∀ s∈nP,dI s:=λ s hs=>Gr s ((by decide:∀ s∈nP,(match bs s with | c::_=>isLet c | []=>false)=true/\(bs s).all gu=true/\(bs s).length<=16) s hs)
theorem AR {α:Type}{f:α->ByteArray}{l:List α}{ns:List ByteArray}(h:∀ s∈l.map f,s∈ns)(hn:∀ s∈ns,dI s):∀ a∈l,dI (f a):=λ _a ha=>hn _ (h _ (mem_map_of_mem ha))
theorem lN.ng {p:Pg}(h:lN p):∀ g∈p.gs,dI g.name:=by
 obtain⟨k,_,hk⟩:=h.gn;exact AR (λ s hs=>by rw[hk] at hs;exact mem_of_mem_take hs) nG_ok
theorem lN.nm {p:Pg}(h:lN p):∀ g∈p.ms,dI g.name:=by
 obtain⟨k,_,_,hk⟩:=h.mn;exact AR (λ s hs=>by rw[hk] at hs;exact mem_of_mem_take hs) nM_ok
theorem lN.nf {p:Pg}(h:lN p):∀ g∈p.fs,dI g.name:=by
 obtain⟨k,_,_,hk⟩:=h.fn;exact AR (λ s hs=>by rw[hk] at hs;exact mem_of_mem_take hs) nF_ok
theorem lN.np {p:Pg}(h:lN p):∀ f∈p.fs,∀ q∈f.params,dI q.name:=λ f hf=>by
 obtain⟨k,_,hk⟩:=h.pn f hf;exact AR (λ s hs=>by rw[hk,mem_reverse] at hs;exact mem_of_mem_take hs) nP_ok
theorem lN.nv {p:Pg}(h:lN p):∀ f∈p.fs,∀ s∈ku p.gs f.params,dI s:=λ f hf s hs=>by
 rcases xA hs with hs | hs
 .rw[mem_map] at hs;obtain⟨g,hg,rfl⟩:=hs;exact h.ng g hg
 .rw[mem_map] at hs;obtain⟨g,hg,rfl⟩:=hs;exact h.np f hf g hg
theorem cu.fu {p:Pg}(h:lN p){f:Fu}(hf:f∈p.fs):cu Any (IZ f) (12+bY f.body) (64*(12+bY f.body)):=by
 have hb:=(cu.lines (ms:=p.ms) (fs:=p.fs.map λ f=>(f.name,f.params)) (ps:=f.params) h.nm (λ x hx=>by
  rw[mem_map] at hx;obtain⟨g,hg,rfl⟩:=hx;exact h.nf g hg) (h.np f hf)).2 f.body 2 (ku p.gs f.params) sh (h.nv f hf) ⟨by decide,by decide⟩ (h.bd f hf)
 obtain⟨k,hk,VO⟩:=h.pn f hf;have hlen:f.params.length<=2:=by
  have:=congrArg length VO;simp[nP] at this;omega
 have W7:cu Any ⟨#[102,117,110,99,32]⟩ 1 17:=qB [102,117,110,99] _ rfl ⟨⟨_,_,rfl,by decide⟩,by decide,by decide⟩;have ho:cu Any ⟨#[41,32,123,10]⟩ 2 4:=⟨Nat.le_refl _,λ _ _ _ hl=>Lx.AJ SC SC (Lx.sp SC (Lx.AJ SC SC (Lx.sp SC hl)))⟩;have hc:cu Any ⟨#[125,10]⟩ 1 2:=⟨Nat.le_refl _,λ _ _ _ hl=>Lx.AJ SC SC (Lx.sp SC hl)⟩;unfold IZ;exact ((((((W7.an (cu.nm (h.nf f hf))).st (jH 40 SC) 40 _ rfl SC).an (cu.pR true (h.np f hf))).st ho 41 _ rfl SC).an hb).an hc).mono yA yA
theorem Hy {α:Type}(l:List α)(c:Nat):(l.map λ _=>c).sum=c*l.length:=by
 induction l with
 | nil=>simp
 | cons _ r ih=>simp[ih,Nat.mul_add];omega
theorem sum_add {α:Type}(l:List α)(c:Nat)(f:α->Nat):(l.map λ a=>c+f a).sum=c*l.length+(l.map f).sum:=by
 induction l with
 | nil=>simp
 | cons a r ih=>simp[ih,Nat.mul_add];omega
theorem Qm {p:Pg}(h:lN p):Lx (bs (HW p)) 4000/\(bs (HW p)).length<=262144:=by
 have h1:=cu.cat O9 (λ _=>6) (l:=p.gs) λ g hg=>(cu.gl (h.ng g hg) (h.gi g hg)).mono (Nat.le_refl _) yA;have h2:=cu.cat NC (λ _=>7) (l:=p.ms) λ g hg=>(cu.mx (h.nm g hg) (h.mz g hg).1).mono (Nat.le_refl _) yA;have h3:=cu.cat IZ (λ f=>12+bY f.body) (l:=p.fs) λ g hg=>cu.fu h hg;rw[Hy] at h1 h2;rw[sum_add] at h3;have hw:=h.wt;obtain⟨k1,WQ,e1⟩:=h.gn;obtain⟨k2,_,X0,e2⟩:=h.mn;obtain⟨k3,_,hk3,e3⟩:=h.fn;have l1:=congrArg length e1;have l2:=congrArg length e2;have l3:=congrArg length e3;simp[nG] at l1;simp[nM] at l2;simp[nF] at l3;obtain⟨hb,hl⟩:=(h1.an h2).an h3;refine⟨?_,?_⟩
 .have:=hl [] 0 trivial (.nil 0);rw[append_nil] at this;exact this.mono yA
 .unfold HW;omega
end Go.aK
namespace Go.Proofs.YtlkmbdfhdknlgaaGreat
open Go.Can Go.aK List Tryz
theorem jv (x y:ByteArray):mQ .eql x y=some (.bool (decide (x=y))):=by
 have h:(x.toList == y.toList)=decide (x=y):=by
  rw[ByteArray.toList_eq,ByteArray.toList_eq,Bool.eq_iff_iff];simp only[beq_iff_eq,decide_eq_true_eq,Array.toList_inj];exact⟨λ h=>ByteArray.ext h,λ h=>by rw[h]⟩
 simp only[mQ,h]
theorem kP (x y:ByteArray):mQ .neq x y=some (.bool (!decide (x=y))):=by
 have h:=jv x y;simp only[mQ,Option.some.injEq,CV.bool.injEq] at h |-;rw[h]
theorem aB (x y:ByteArray)(h:x.size+y.size<=9223372036854775807):mQ .add x y=some (.str (x++y)):=by
 simp only[mQ,if_pos h]
theorem KW (c:UInt8):isLet c=((decide ((97:Int)<=c.toNat) && decide ((c.toNat:Int)<=122)) || (decide ((65:Int)<=c.toNat) && decide ((c.toNat:Int)<=90)) || ((c.toNat:Int) == 95)):=by
 rw[Bool.eq_iff_iff];simp only[isLet,Bool.or_eq_true,Bool.and_eq_true,decide_eq_true_eq,beq_iff_eq];omega
theorem KX (c:UInt8):dy c=(decide ((48:Int)<=c.toNat) && decide ((c.toNat:Int)<=57)):=by
 rw[Bool.eq_iff_iff];simp only[dy,Bool.and_eq_true,decide_eq_true_eq];omega
theorem mX (c:UInt8):ae prog 138 [.int .u8 c.toNat] (.bool (isLet c)):=by
 rw[KW];generalize (c.toNat:Int)=n;refine ae.aD af Tryz.func138 rfl Bw (by simp[Tryz.ntmps138]) rfl λ C hC M0=>?_;rw[Tryz.ntmps138] at hC;apply aq;simp[hC];by_cases h1:97<=n
 .by_cases h2:n<=122
  .apply aq;simp[hC,h1,h2];apply T.ret;apply aa.here;simp[Tryz.results138]
  .have h3:65<=n:=by omega
   have h4:¬ n<=90:=by omega
   apply aq;simp[hC,h1,h2,h3,h4];apply T.ret;apply aa.here;simp[Tryz.results138]
 .by_cases h3:65<=n
  .by_cases h4:n<=90
   .apply aq;simp[hC,h1,h3,h4];apply T.ret;apply aa.here;simp[Tryz.results138]
   .apply aq;simp[hC,h1,h3,h4];apply T.ret;apply aa.here;simp[Tryz.results138]
  .apply aq;simp[hC,h1,h3];apply T.ret;apply aa.here;simp[Tryz.results138]
theorem nk (c:UInt8):ae prog 139 [.int .u8 c.toNat] (.bool (dy c)):=by
 rw[KX];generalize (c.toNat:Int)=n;refine ae.aD af Tryz.func139 rfl Bw (by simp[Tryz.ntmps139]) rfl λ C hC M0=>?_;rw[Tryz.ntmps139] at hC;apply aq;simp[hC];by_cases h1:48<=n
 .apply aq;simp[hC,h1];apply T.ret;apply aa.here;simp[Tryz.results139]
 .apply aq;simp[hC,h1];apply T.ret;apply aa.here;simp[Tryz.results139]
def hasB (l:List ByteArray)(s:ByteArray):Bool:=l.any λ x=>decide (x=s)
theorem Bb (l:List ByteArray)(s:ByteArray)(hl:l.length<=1000):ae prog 173 [strs l,.str s] (.bool (hasB l s)):=by
 refine ae.aD af Tryz.func173 rfl Bw (by simp[Tryz.ntmps173]) rfl λ C hC M0=>?_;rw[Tryz.ntmps173] at hC;apply aq;simp[hC];apply aW;simp[hC];apply T.block;refine T.aI (λ m st=>∃ i:Nat,m=l.length-i/\i<=l.length/\hasB l s=hasB (l.drop i) s/\st=⟨[(5,I i),(0,strs l),(1,.str s)],[],0⟩) (n:=l.length) ?_ ?_
 .refine aa.le (Le.env [5,0,1]) (aa.here ⟨0,by omega,by omega,by simp,?_⟩);simp
 .rintro n st ⟨i,rfl,hi,hni,rfl⟩;by_cases Jz:i<l.length
  .have OZ:=jR Jz;have hw:=cr ((i:Int)+1) yA yA;apply aW;simp[hC,strs,Jz];refine jk ?_;simp;apply eE;apply aq;simp[hC,Jz,OZ,jv];refine T.bw rfl (λ h=>?_) (λ h=>?_)
   .have he:l.getD i eS=s:=by simpa [Jz] using h
    apply aq;simp[hC];apply T.ret;apply aa.here;have hb:hasB l s=true:=by
     unfold hasB;rw[any_eq_true];exact⟨s,he ▸ jV Jz eS,by simp⟩
    simp[Tryz.results173,hb]
   .have he:¬ l.getD i eS=s:=by simpa [Jz] using h
    apply T.skip;simp;apply aM;simp[hC,hw];refine⟨l.length-(i+1),by omega,?_⟩;refine aa.le (Le.env [5,0,1]) (aa.here ⟨i+1,rfl,by omega,?_,?_⟩)
    .rw[hni,drop_eq_getElem_cons Jz];have e2:l[i]=l.getD i eS:=by simp[Jz]
     simp only[hasB,any_cons,e2,he,decide_false,Bool.false_or]
    .simp
  .have Rz:i=l.length:=by omega
   have hb:hasB l s=false:=by rw[hni,Rz,drop_length];rfl
   apply aW;simp[hC,strs,Jz];refine bg ?_;simp;apply T.exit;simp;apply aq;simp[hC];apply T.ret;apply aa.here;simp[Tryz.results173,hb]
def P5:List ByteArray:=[⟨#[118,97,114]⟩,⟨#[109,117,116,101,120]⟩,⟨#[114,109,117,116,101,120]⟩,⟨#[102,117,110,99]⟩,⟨#[108,111,99,107]⟩,⟨#[117,110,108,111,99,107]⟩,⟨#[103,111]⟩,⟨#[105,102]⟩,⟨#[101,108,115,101]⟩,⟨#[119,104,105,108,101]⟩,⟨#[114,101,116,117,114,110]⟩]
theorem M5:P5.map bs=uz:=rfl
theorem Rb {a b:ByteArray}(h:bs a=bs b):a=b:=by
 unfold bs at h;exact ByteArray.ext (Array.toList_inj.1 h)
theorem K6 (s:ByteArray):hasB P5 s=decide (bs s∈uz):=by
 rw[Bool.eq_iff_iff,decide_eq_true_eq,<- M5];unfold hasB;rw[any_eq_true,mem_map];constructor
 .rintro⟨x,h1,h2⟩;exact⟨x,h1,by rw[of_decide_eq_true h2]⟩
 .rintro⟨x,h1,h2⟩;exact⟨x,h1,by rw[Rb h2];simp⟩
theorem vg (s:ByteArray):ae prog 140 [.str s] (.bool (decide (bs s∈uz))):=by
 refine ae.aD af Tryz.func140 rfl Bw (by simp[Tryz.ntmps140]) rfl λ C hC M0=>?_;rw[Tryz.ntmps140] at hC;apply aq;simp[hC];apply aq;simp[hC];refine TL.le (Le.di (o:=0) rfl rfl) ?_;simp[cC];have h:=Bb P5 s SC;rw[K6] at h;refine cS SD (h) ?_;simp[hC];apply T.ret;apply aa.here;simp[Tryz.results140]
def dX (l:List UInt8):CV:=.az (l.map λ x=>.int .u8 (x.toNat:Int)) l.length
theorem mJ {l:List UInt8}{i:Nat}{c:UInt8}(h:l[i]? = some c):(l.map λ x=>CV.int .u8 (x.toNat:Int)).drop i=.int .u8 (c.toNat:Int)::(l.map λ x=>CV.int .u8 (x.toNat:Int)).drop (i+1):=by
 obtain⟨h1,h2⟩:=List.getElem?_eq_some_iff.1 h;rw[drop_eq_getElem_cons (by simpa using h1)];simp[h2]
theorem NU (c:UInt8):jC c=((c.toNat:Int) == 32 || (c.toNat:Int) == 9 || (c.toNat:Int) == 10 || (c.toNat:Int) == 13):=by
 have h:∀ k:UInt8,(c == k)=((c.toNat:Int) == (k.toNat:Int)):=λ k=>by
  rw[Bool.eq_iff_iff,beq_iff_eq,beq_iff_eq];constructor
  .intro h;rw[h]
  .intro h;exact UInt8.toNat_inj.1 yA
 simp only[jC,h];rfl
theorem JE {c:UInt8}{r:List UInt8}:uc (c::r)=if jC c=true then uc r+1 else 0:=by
 unfold uc;rw[takeWhile_cons];split<;>simp
theorem jc {l:List UInt8}{i:Nat}{c:UInt8}(h:l[i]? = some c):l.drop i=c::l.drop (i+1):=by
 obtain⟨h1,h2⟩:=List.getElem?_eq_some_iff.1 h;rw[drop_eq_getElem_cons h1,h2]
theorem F4 (l:List UInt8)(Y6:Nat)(Uc:Y6<=l.length)(hl:l.length<=1000000)(Y4:∀ r,l.drop (Y6+uc (l.drop Y6))=47::r->r.head?≠some 47):ae prog 137 [dX l,I Y6] (I ((Y6+uc (l.drop Y6):Nat))):=by
 obtain⟨e,he⟩:∃ e,Y6+uc (l.drop Y6)=e:=⟨_,rfl⟩;rw[he] at Y4 |-;refine ae.aD af Tryz.func137 rfl Bw (by simp[Tryz.ntmps137]) rfl λ C hC M0=>?_;rw[Tryz.ntmps137] at hC;apply aq;simp[hC];apply eE;refine T.aI (λ m st=>∃ i:Nat,m=l.length-i/\i<=l.length/\i+uc (l.drop i)=e/\st=⟨[(0,dX l),(1,I i)],[],0⟩) (n:=l.length-Y6) ?_ ?_
 .refine aa.le (Le.env [0,1]) (aa.here ⟨Y6,rfl,Uc,he,?_⟩);simp
 .rintro n st ⟨i,rfl,hi,Rz,rfl⟩;by_cases Jz:i<l.length
  .obtain⟨c,hc⟩:∃ c,l[i]? = some c:=⟨l[i],getElem?_eq_getElem Jz⟩;have OZ:=mJ hc;have hd:=jc hc;rw[hd,JE] at Rz;have hw:=cr ((i:Int)+1) yA yA;apply aW;simp[hC,dX,Jz];refine jk ?_;simp;refine T.block (T.block ?_);refine T.cut (λ st=>st=⟨[(10,.bool (jC c)),(0,dX l),(1,I i)],[],0⟩) ?_ ?_
   .rw[NU];generalize (c.toNat:Int)=n at OZ;by_cases h1:n=32
    .apply aM;simp[hC,h1,Jz,OZ];refine aa.le (Le.env [10,0,1]) (aa.here ?_);simp[dX]
    have h1:(n == 32)=false:=by simp[h1]
    by_cases h2:n=9
    .apply aM;simp[hC,h2,Jz,OZ];refine aa.le (Le.env [10,0,1]) (aa.here ?_);simp[dX]
    have h2:(n == 9)=false:=by simp[h2]
    by_cases h3:n=10
    .apply aM;simp[hC,h3,Jz,OZ];refine aa.le (Le.env [10,0,1]) (aa.here ?_);simp[dX]
    have h3:(n == 10)=false:=by simp[h3]
    apply aM;simp[hC,h1,h2,h3,Jz,OZ];refine aa.le (Le.env [10,0,1]) (aa.here ?_);simp[dX]
   .rintro st rfl;refine T.bw rfl (λ h=>?_) (λ h=>?_)
    .rw[h,if_pos rfl] at Rz;apply aM;simp[hC,hw];refine⟨l.length-(i+1),by omega,?_⟩;refine aa.le (Le.env [0,1]) (aa.here ⟨i+1,rfl,by omega,by omega,?_⟩);simp[dX]
    .have h':jC c=false:=by simpa using h
     rw[h',if_neg xr] at Rz;have XK:e=i:=by omega
     subst XK;rw[hd] at Y4
          /- no comment -/
     refine T.cut (λ st=>st=⟨[(39,.bool false),(0,dX l),(1,I e)],[],0⟩) ?_ ?_
     .by_cases h2:e+1<l.length
      .obtain⟨c2,T7⟩:∃ c2,l[e+1]? = some c2:=⟨l[e+1],getElem?_eq_getElem h2⟩;have TC:=mJ T7;have V9:=jc T7;have Wc:(e:Int)+1<l.length:=by omega
       by_cases h4:(c.toNat:Int)=47
       .have h5:¬ (c2.toNat:Int)=47:=by
         have hc47:c=47:=UInt8.toNat_inj.1 (by have:(47:UInt8).toNat=47:=rfl;omega);subst hc47;have Y4:=Y4 _ rfl;rw[V9] at Y4;have:c2≠47:=λ h=>Y4 (by simp[h]);intro h;exact this (UInt8.toNat_inj.1 (by have:(47:UInt8).toNat=47:=rfl;omega))
        apply aM;simp[hC,h4,Jz,OZ,hw,Wc,TC,dX];refine aa.le (Le.env [39,0,1]) (aa.here ?_);simp[h5]
       .have h4:((c.toNat:Int) == 47)=false:=by simp[h4]
        apply aM;simp[hC,h4,Jz,OZ,hw,Wc,dX];refine aa.le (Le.env [39,0,1]) (aa.here ?_);simp
      .have Wc:¬ (e:Int)+1<l.length:=by omega
       apply aM;simp[hC,hw,Wc,dX];refine aa.le (Le.env [39,0,1]) (aa.here ?_);simp
     .rintro st rfl;refine bg ?_;simp;apply aq;simp[hC];apply T.ret;apply aa.here;simp[Tryz.results137]
  .have hie':i=l.length:=by omega
   have hee:e=i:=by
    rw[hie',drop_length] at Rz;have:uc ([]:List UInt8)=0:=rfl;omega
   apply aW;simp[hC,dX,Jz];refine bg ?_;simp;apply T.exit;simp;apply aq;simp[hC];apply T.ret;apply aa.here;simp[Tryz.results137,hee]
theorem uR (w:List UInt8)(c:UInt8):mF (w++[c])=10*mF w+(c.toNat-48):=by simp[mF]
theorem N7 (w:List UInt8)(r:List UInt8):mF w<=mF (w++r):=by
 induction r generalizing w with
 | nil=>simp
 | cons c r ih=>
  have h1:=ih (w++[c]);rw[uR] at h1;rw[append_assoc] at h1;have:mF w<=10*mF w+(c.toNat-48):=by omega
  exact Nat.le_trans this h1
theorem yR (l:List UInt8)(hl:l.length<=1000000)(hd:l.all dy=true)(hv:mF l<9223372036854775808):ae prog 141 [dX l] (I (mF l)):=by
 refine ae.aD af Tryz.func141 rfl Bw (by simp[Tryz.ntmps141]) rfl λ C hC M0=>?_;rw[Tryz.ntmps141] at hC;apply aq;simp[hC];apply aq;simp[hC];apply aW;simp[hC];apply T.block;refine T.aI (λ m st=>∃ i:Nat,m=l.length-i/\i<=l.length/\st=⟨[(4,I i),(3,I (mF (l.take i))),(0,dX l)],[],0⟩) (n:=l.length) ?_ ?_
 .refine aa.le (Le.env [4,3,0]) (aa.here ⟨0,by omega,by omega,?_⟩);simp[mF]
 .rintro n st ⟨i,rfl,hi,rfl⟩;by_cases Jz:i<l.length
  .obtain⟨c,hc⟩:∃ c,l[i]? = some c:=⟨l[i],getElem?_eq_getElem Jz⟩;have OZ:=mJ hc;have SE:l.take (i+1)=l.take i++[c]:=by rw[take_add_one,hc];rfl
   have ZE:48<=c.toNat/\c.toNat<=57:=by
    have:=all_eq_true.1 hd c (mem_of_getElem? hc)
    simpa [dy] using this
   have hle:=N7 (l.take (i+1)) (l.drop (i+1));rw[take_append_drop,SE,uR] at hle;have hw:=cr ((i:Int)+1) yA yA;generalize hdv:mF (l.take i)=d at hle;have w1:IntKind.u8.wrap ((c.toNat:Int)-48)=(c.toNat:Int)-48:=IntWalk.u8_in _ yA;have w2:=cr ((c.toNat:Int)-48) yA yA;have w3:=cr (9223372036854775807-((c.toNat:Int)-48)) yA yA;have w4:(9223372036854775807-((c.toNat:Int)-48)).tdiv 10=(9223372036854775807-((c.toNat:Int)-48)) / 10:=Int.tdiv_eq_ediv_of_nonneg yA;have w5:=cr ((9223372036854775807-((c.toNat:Int)-48)) / 10) yA yA;have w6:=cr (10*(d:Int)) yA yA;have w7:=cr (10*(d:Int)+((c.toNat:Int)-48)) yA yA;have w8:¬ (9223372036854775807-((c.toNat:Int)-48)) / 10<(d:Int):=by omega
   apply aW;simp[hC,dX,Jz];refine jk ?_;simp;apply eE;refine T.seq (T.D2 af ?_);simp[hC,Jz,OZ,w1,w2];apply aW;simp[hC,w3,w4,w5];refine T.bw rfl (λ h=>?_) (λ h=>?_)
   .simp at h;omega
   apply T.skip;simp;apply aM;simp[hC,w6,w7];apply aM;simp[hC,hw];refine⟨l.length-(i+1),by omega,?_⟩;refine aa.le (Le.env [4,3,0]) (aa.here ⟨i+1,rfl,by omega,?_⟩);rw[SE,uR,hdv];simp;omega
  .have Rz:i=l.length:=by omega
   apply aW;simp[hC,dX,Jz];refine bg ?_;simp;apply T.exit;simp;apply aq;simp[hC];apply T.ret;apply aa.here;simp[Tryz.results141,Rz]
def PO:List ByteArray:=[⟨#[60,61]⟩,⟨#[62,61]⟩,⟨#[61,61]⟩,⟨#[33,61]⟩,⟨#[38,38]⟩,⟨#[124,124]⟩]
def Ns:List ByteArray:=[⟨#[40]⟩,⟨#[41]⟩,⟨#[123]⟩,⟨#[125]⟩,⟨#[91]⟩,⟨#[93]⟩,⟨#[44]⟩,⟨#[59]⟩,⟨#[61]⟩,⟨#[43]⟩,⟨#[45]⟩,⟨#[42]⟩,⟨#[47]⟩,⟨#[37]⟩,⟨#[60]⟩,⟨#[62]⟩,⟨#[33]⟩]
theorem K5 (a b:UInt8):hasB PO ⟨#[a,b]⟩=decide ((a,b)∈ui):=by
 rw[Bool.eq_iff_iff,decide_eq_true_eq];simp only[hasB,PO,ui,any_cons,any_nil,Bool.or_eq_true,decide_eq_true_eq,ByteArray.mk.injEq,mem_cons,not_mem_nil,Prod.mk.injEq,Bool.false_eq_true];simp only[Array.mk.injEq,cons.injEq,and_true];constructor
 .rintro (⟨rfl,rfl⟩ | ⟨rfl,rfl⟩ | ⟨rfl,rfl⟩ | ⟨rfl,rfl⟩ | ⟨rfl,rfl⟩ | ⟨rfl,rfl⟩ | h)<;>first | exact h.elim | simp
 .rintro (⟨rfl,rfl⟩ | ⟨rfl,rfl⟩ | ⟨rfl,rfl⟩ | ⟨rfl,rfl⟩ | ⟨rfl,rfl⟩ | ⟨rfl,rfl⟩ | h)<;>first | exact h.elim | simp
theorem C7 (a:UInt8):hasB Ns ⟨#[a]⟩=decide (a∈nQ):=by
 rw[Bool.eq_iff_iff,decide_eq_true_eq];simp only[hasB,Ns,nQ,any_cons,any_nil,Bool.or_eq_true,decide_eq_true_eq,ByteArray.mk.injEq,mem_cons,not_mem_nil,Bool.false_eq_true];simp only[Array.mk.injEq,cons.injEq,and_true];simp only[eq_comm]
theorem ME (c:UInt8):(c.toNat:Int)<256:=by
 have:=c.toNat_lt;omega
theorem pG:∀ l:List UInt8,bytesOf (l.map λ x=>CV.int .u8 (x.toNat:Int))=some l
 | []=>rfl
 | c::r=>by
  have h:=ME c;simp[bytesOf,pG r,h]
theorem MR (l:List UInt8)(i:Nat)(Jz:i<l.length)(hl:l.length<=1000000):ae prog 142 [dX l,I i] (I (v9 (l.drop i))):=by
 obtain⟨c,hc⟩:∃ c,l[i]? = some c:=⟨l[i],getElem?_eq_getElem Jz⟩;have OZ:=mJ hc;have hd:=jc hc;have hw:=cr ((i:Int)+1) yA yA;have hw2:=cr ((i:Int)+2) yA yA;rw[hd];refine ae.aD af Tryz.func142 rfl Bw (by simp[Tryz.ntmps142]) rfl λ C hC M0=>?_;rw[Tryz.ntmps142] at hC;apply aq;simp[hC];by_cases h2:i+1<l.length
 .obtain⟨c2,T7⟩:∃ c2,l[i+1]? = some c2:=⟨l[i+1],getElem?_eq_getElem h2⟩;have TC:=mJ T7;have V9:=jc T7;rw[V9];have Wc:(i:Int)+1<l.length:=by omega
  have h3:i+2<=l.length:=by omega
  have z2:(0:Int)<=(i:Int)+2:=by omega
  have t2:((i:Int)+2).toNat=i+2:=by omega
  have e2:i+2-i=2:=by omega
  refine T.seq (T.seq (T.D2 af ?_));simp[hC,dX,hw,hw2,Wc,h3,OZ,TC,z2,t2,e2,ME];refine TL.le (Le.di (o:=0) rfl rfl) ?_;simp[cC];have h:=Bb PO ⟨#[c,c2]⟩ SC;rw[K5] at h;refine TL.cN Rg rfl rfl rfl rfl (bW.of rfl SD (h)) (TL.go' af ?_);simp[hC];refine T.bw rfl (λ h=>?_) (λ h=>?_)
  .have h4:(c,c2)∈ui:=by simpa using h
   apply aq;simp[hC];apply T.ret;apply aa.here;simp[Tryz.results142,v9,h4]
  .have h4:(c,c2)∉ui:=by simpa using h
   apply T.skip;simp;have hs:v9 (c::c2::l.drop (i+1+1))=if c∈nQ then 1 else 0:=by simp[v9,h4]
   rw[hs];clear hs;refine T.le (Le.trim [0,1,4] [] 0 xr yA) ?_;simp;have h1:i+1<=l.length:=by omega
   have z1:(0:Int)<=(i:Int)+1:=by omega
   have t1:((i:Int)+1).toNat=i+1:=by omega
   have e1:i+1-i=1:=by omega
   refine T.seq (T.seq (T.D2 af ?_));simp[hC,hw,h1,z1,t1,e1,OZ,ME];refine TL.le (Le.di (o:=0) rfl rfl) ?_;simp[cC];have h:=Bb Ns ⟨#[c]⟩ SC;rw[C7] at h;refine cS SD (h) ?_;simp;refine T.bw rfl (λ h=>?_) (λ h=>?_)
   .have h5:c∈nQ:=by simpa using h
    apply aq;simp[hC];apply T.ret;apply aa.here;simp[Tryz.results142,h5]
   .have h5:c∉nQ:=by simpa using h
    apply T.skip;simp;apply aq;simp[hC];apply T.ret;apply aa.here;simp[Tryz.results142,h5]
 .have Wc:¬ (i:Int)+1<l.length:=by omega
  have V9:l.drop (i+1)=[]:=drop_eq_nil_of_le yA;rw[V9];have hs:v9 [c]=if c∈nQ then 1 else 0:=rfl
  rw[hs];clear hs;refine T.seq (T.seq (T.D2 af ?_));simp[hC,dX,hw,Wc];refine bg ?_;simp;apply T.skip;simp;refine T.le (Le.trim [0,1,4] [] 0 xr yA) ?_;simp;have h1:i+1<=l.length:=by omega
  have z1:(0:Int)<=(i:Int)+1:=by omega
  have t1:((i:Int)+1).toNat=i+1:=by omega
  have e1:i+1-i=1:=by omega
  refine T.seq (T.seq (T.D2 af ?_));simp[hC,hw,h1,z1,t1,e1,OZ,ME];refine TL.le (Le.di (o:=0) rfl rfl) ?_;simp[cC];have h:=Bb Ns ⟨#[c]⟩ SC;rw[C7] at h;refine cS SD (h) ?_;simp;refine T.bw rfl (λ h=>?_) (λ h=>?_)
  .have h5:c∈nQ:=by simpa using h
   apply aq;simp[hC];apply T.ret;apply aa.here;simp[Tryz.results142,h5]
  .have h5:c∉nQ:=by simpa using h
   apply T.skip;simp;apply aq;simp[hC];apply T.ret;apply aa.here;simp[Tryz.results142,h5]
theorem Rc (s:ByteArray)(i:Nat):s[i]? = (bs s)[i]?:=by
 by_cases h:i<s.size
 .rw[getElem?_pos s i h,getElem?_eq_getElem (by simpa [bs] using h)];simp[bs];rfl
 .rw[getElem?_neg s i h,getElem?_eq_none (by simpa [bs] using h)]
theorem mK (s:ByteArray):(bs s).length=s.size:=by simp[bs]
theorem kz (s:ByteArray)(h:dI s)(hr:bs s∉uz):ae prog 126 [.str s] (.bool true):=by
 obtain⟨⟨c0,t0,hc0,VE⟩,h1,h2⟩:=h;have SB:=mK s;have VN:1<=s.size:=by rw[<- SB,hc0];simp
 refine ae.aD af Tryz.func126 rfl Bw (by simp[Tryz.ntmps126]) rfl λ C hC M0=>?_;rw[Tryz.ntmps126] at hC;apply aq;simp[hC];apply aW;simp[hC];apply T.block;refine T.aI (λ m st=>∃ i:Nat,m=s.size-i/\i<=s.size/\st=⟨[(3,I i),(0,.str s)],[],0⟩) (n:=s.size) ?_ ?_
 .refine aa.le (Le.env [3,0]) (aa.here ⟨0,by omega,by omega,?_⟩);simp
 .rintro n st ⟨i,rfl,hi,rfl⟩;by_cases Jz:i<s.size
  .obtain⟨c,hc⟩:∃ c,(bs s)[i]? = some c:=⟨(bs s)[i],getElem?_eq_getElem yA⟩;have hg:s[i]? = some c:=by rw[Rc];exact hc
   have hid:gu c=true:=all_eq_true.1 h1 c (mem_of_getElem? hc);have hw:=cr ((i:Int)+1) yA yA;apply aW;simp[hC,Jz];refine jk ?_;simp;apply eE;refine T.cut (λ st=>st=⟨[(25,.bool false),(3,I i),(0,.str s)],[],0⟩) ?_ ?_
   .have X3:s[i]=c:=by
     have:=hg;rw[getElem?_pos s i Jz] at this
     simpa using this
    cases P1:isLet c with
    | true=>
     have SA:=mX c;rw[P1] at SA;apply aM;simp[hC,Jz,X3];refine cS SD (SA) ?_;simp[hC];refine aa.le (Le.env [25,3,0]) (aa.here ?_);simp
    | false=>
     have SA:=mX c;rw[P1] at SA;have hdg:dy c=true:=by simpa [gu,P1] using hid
     have ZE:=nk c;rw[hdg] at ZE;have Y3:¬ i=0:=by
      intro h;subst h;rw[hc0] at hc;simp only[getElem?_cons_zero,Option.some.injEq] at hc;subst hc;rw[VE] at P1;cases P1
     apply aM;simp[hC,Jz,X3];refine cS SD (SA) ?_;simp[hC,Y3,Jz,X3];refine TL.cN Rg rfl rfl rfl rfl (bW.of rfl SD (ZE)) (TL.go' af ?_);simp[hC];refine aa.le (Le.env [25,3,0]) (aa.here ?_);simp
   .rintro st rfl;refine bg ?_;simp;apply T.skip;simp;apply aM;simp[hC,hw];refine⟨s.size-(i+1),by omega,?_⟩;refine aa.le (Le.env [3,0]) (aa.here ⟨i+1,rfl,by omega,?_⟩);simp
  .apply aW;simp[hC,Jz];refine bg ?_;simp;apply T.exit;simp;have g1:(1:Int)<=s.size:=by omega
   have g2:(s.size:Int)<=16:=by omega
   have U6:=vg s;simp only[hr,decide_false] at U6;apply aq;simp[hC,g1,g2];refine TL.cN Rg rfl rfl rfl rfl (bW.of rfl SD (U6)) (TL.go' af ?_);simp[hC];apply T.ret;apply aa.here;simp[Tryz.results126]
theorem Jl {p:UInt8->Bool}:∀ {L:List UInt8} {j:Nat},j<(L.takeWhile p).length->∃ c,L[j]? = some c/\p c=true
 | [],j,h=>by simp at h
 | a::r,j,h=>by
  cases ha:p a with
  | false=>rw[takeWhile_cons,ha] at h;simp at h
  | true=>
   cases j with
   | zero=>exact⟨a,rfl,ha⟩
   | succ j=>
    rw[takeWhile_cons,ha] at h;simp only[if_true,length_cons] at h;obtain⟨c,h1,h2⟩:=Jl (p:=p) (L:=r) (j:=j) yA;exact⟨c,by simpa using h1,h2⟩
theorem Em {p:UInt8->Bool}:∀ {L:List UInt8} {c:UInt8},L[(L.takeWhile p).length]? = some c->p c=false
 | [],c,h=>by simp at h
 | a::r,c,h=>by
  cases ha:p a with
  | false=>
   rw[takeWhile_cons,ha] at h;simp at h;subst h;exact ha
  | true=>
   rw[takeWhile_cons,ha] at h;simp only[if_true,length_cons,getElem?_cons_succ] at h;exact Em (L:=r) h
theorem BW {p:UInt8->Bool}:∀ L:List UInt8,(L.takeWhile p).length<=L.length/\L.dropWhile p=L.drop (L.takeWhile p).length/\L.take (L.takeWhile p).length=L.takeWhile p
 | []=>⟨Nat.le_refl _,rfl,rfl⟩
 | a::r=>by
  cases ha:p a with
  | false=>simp[ha]
  | true=>
   obtain⟨h1,h2,h3⟩:=BW (p:=p) r;simp[ha,h2,h3];exact h1
theorem Lx.ncm {l:List UInt8}{n:Nat}(h:Lx l n):∀ r,l=47::r->r.head?≠some 47:=by
 rintro r rfl;obtain⟨m,_,h1 | h1 | h1⟩:=Lx.inv h SC
 .exact absurd h1.1 SC
 .exact absurd h1.2.1 SC
 .exact h1.2.2.1 rfl
theorem PW:∀ L:List UInt8,v9 L<=L.length
 | []=>Nat.le_refl _
 | [a]=>by
  simp only[v9];split<;>simp
 | a::b::r=>by
  simp only[v9,length_cons];split
  .omega
  .split<;>omega
def LexG (r:CV):Prop:=∃ (cs:List CV) (n:Nat) (e:Nat),r=.cF [.az cs n,I e,.int .i64 0]
def mP (cs:List CV):Ob:=⟨190,4,cs⟩
def J66 (l:List UInt8)(n:Nat)(s:St):Prop:=∃ (a:Nat) (cs:List CV) (k m:Nat),n=l.length-a/\a<=l.length/\k+m<=4000/\Lx (l.drop a) m/\(∀ c,(l.drop a).head? = some c->jC c=false)/\cs.length=k*4/\trees cs=true/\
 s=⟨[(6,I a),(5,.a7 0 0 k),(0,dX l)],[(0,mP cs)],1⟩
set_option maxHeartbeats 4000000 in
theorem QC (l:List UInt8)(hl:l.length<=262144)(hx:Lx l 4000):oH prog 96 [dX l] LexG:=by
 refine oH.iZ af Tryz.func96 rfl Bw (by simp[Tryz.ntmps96]) λ C hC M0=>?_;rw[Tryz.ntmps96] at hC;apply aq;simp[hC];have TO:¬ (262144:Int)<l.length:=by omega
 apply aW;simp[hC,dX,TO];refine bg ?_;simp;apply T.skip;simp;apply aq;simp[hC];have Zl:=F4 l 0 (Nat.zero_le _) yA (λ r hr=>by
  have:=hx.skip;simp only[drop_zero,Nat.zero_add] at hr this;exact Lx.ncm this r hr)
 simp only[drop_zero,Nat.zero_add] at Zl;have hx0:=hx.skip;have Zk:∀ c,(l.drop (uc l)).head? = some c->jC c=false:=λ c hc=>B7 hc;have hle0:uc l<=l.length:=by
  unfold uc;exact (BW (p:=jC) l).1
 generalize uc l=a0 at Zl hx0 Zk hle0;apply aq;simp[hC];refine cS SD (Zl) ?_;simp[hC];apply T.block;refine T.aI (J66 l) (n:=l.length-a0) ?_ ?_
 .refine aa.le (Le.own 5 190 4 rfl) ?_;simp;refine aa.trim [6,5,0] [0] 1 xr yA ⟨a0,[],0,4000,rfl,hle0,by omega,hx0,Zk,rfl,rfl,?_⟩;simp[dX,mP]
 .rintro n st ⟨a,cs,k,m,rfl,VJ,VT,Ye,hsp,SA,SJ,rfl⟩;apply eE;by_cases WG:a=l.length
  .apply aW;simp[hC,dX,WG];refine du ?_;simp;have hb:(k+1)*40<=140737488355328:=by omega
   have SB:(mP cs).sz=4:=rfl;have SK:(mP cs).elem=190:=rfl;have VZ:(mP cs).cells.length=k*4:=SA;apply aq;simp[hC,hb,SB,SK,VZ,aY];apply T.ret;have htr2:trees ((mP cs).cells++[CV.int .i64 5,.str ⟨#[]⟩,.int .i64 0,.int .i64 l.length])=true:=by rw[a9];simp only[mP,SJ];rfl
   refine aa.le (Le.di (o:=2) rfl htr2) ?_;simp[cC];refine aa.here ⟨_,rfl,rfl,_,_,_,rfl⟩
  .have P1:a<l.length:=by omega
   have SL:¬ (a:Int)=l.length:=by omega
   obtain⟨c,hc⟩:∃ c,l[a]? = some c:=⟨l[a],getElem?_eq_getElem P1⟩;have OZ:=mJ hc;have hd:=jc hc;rw[hd] at Ye hsp;have S8:=hsp c rfl;obtain⟨m',rfl,V0⟩:=Lx.inv Ye S8;rw[<- hd] at V0;apply aW;simp[hC,dX,WG];refine bg ?_;simp;apply T.skip;simp;apply aq;simp[hC];apply aq;simp[hC];refine T.le (Le.trim [8,7,6,5,0] [0,1] 2 yB yA) ?_;simp;refine T.cut (λ s=>∃ (kind num:Int) (e:Nat),Lx (l.drop e) m'/\a<e/\e<=l.length/\s=⟨[(8,I e),(7,.ax 1 0),(6,I a),(5,.a7 0 0 k),(0,dX l)],[(0,mP cs),(1,⟨190,0,[.int .i64 kind,.str ⟨#[]⟩,.int .i64 num,I a]⟩)],2⟩) ?_ ?_
   .apply T.block;apply aq;simp[hC,P1,OZ];refine cS SD (mX c) ?_;simp[hC];refine T.bw rfl (λ h=>?_) (λ h=>?_)
    .have h1:isLet c=true:=by simpa using h
     obtain⟨_,hw16,XT⟩:isLet c=true/\(((l.drop a).takeWhile gu).length<=16\/(l.drop a).takeWhile gu∈uz)/\Lx ((l.drop a).dropWhile gu) m':=by
      rcases V0 with h | h | h
      .exact h
      .rw[h1] at h;simp at h
      .rw[h1] at h;simp at h
     obtain⟨t1,t2,t3⟩:=BW (p:=gu) (l.drop a);rw[t2,drop_drop] at XT;have hwpos:0<((l.drop a).takeWhile gu).length:=by
      rw[hd,takeWhile_cons];simp[gu,h1]
     have htin:=@Jl gu (l.drop a);have Yi:=@Em gu (l.drop a);generalize hW:(l.drop a).takeWhile gu=W at *;have Wb:a+W.length<=l.length:=by simp at t1;omega
     refine T.cut (λ s=>s=⟨[(8,I ((a+W.length:Nat))),(7,.ax 1 0),(6,I a),(5,.a7 0 0 k),(0,dX l)],[(0,mP cs),(1,⟨190,0,[.int .i64 0,.str ⟨#[]⟩,.int .i64 0,I a]⟩)],2⟩) ?_ ?_
     .apply T.block;refine T.aI (λ n s=>∃ j:Nat,n=W.length-j/\j<=W.length/\s=⟨[(8,I ((a+j:Nat))),(7,.ax 1 0),(6,I a),(5,.a7 0 0 k),(0,dX l)],[(0,mP cs),(1,⟨190,0,[.int .i64 0,.str ⟨#[]⟩,.int .i64 0,I a]⟩)],2⟩) (n:=W.length) ?_ ?_
      .refine aa.trim [8,7,6,5,0] [0,1] 2 yB yA ⟨0,by omega,by omega,?_⟩;simp[dX]
      .rintro n s ⟨j,rfl,Tl,rfl⟩;obtain⟨e,he⟩:∃ e,a+j=e:=⟨_,rfl⟩;rw[he];by_cases hj:j<W.length
       .obtain⟨c2,T7,qa⟩:=htin hj;rw[getElem?_drop,he] at T7;have TC:=mJ T7;have SK:e<l.length:=(List.getElem?_eq_some_iff.1 T7).1;have hw:=cr ((e:Int)+1) yA yA;have VY:=mX c2;have Vg:=nk c2
        cases Um:isLet c2 with
        | true=>
         rw[Um] at VY;apply aW;simp[hC,dX,SK,TC];refine TL.cN Rg rfl rfl rfl rfl (bW.of rfl SD (VY)) (TL.go' af ?_);simp[hC];refine jk ?_;simp;apply T.block;apply aM;simp[hC,hw];refine⟨W.length-(j+1),by omega,?_⟩;refine aa.trim [8,7,6,5,0] [0,1] 2 yB yA ⟨j+1,rfl,by omega,?_⟩;simp;omega
        | false=>
         rw[Um] at VY;have hdg2:dy c2=true:=by simpa [gu,Um] using qa
         rw[hdg2] at Vg;apply aW;simp[hC,dX,SK,TC];refine TL.cN Rg rfl rfl rfl rfl (bW.of rfl SD (VY)) (TL.go' af ?_);simp[hC,SK,TC];refine TL.cN Rg rfl rfl rfl rfl (bW.of rfl SD (Vg)) (TL.go' af ?_);simp[hC];refine jk ?_;simp;apply T.block;apply aM;simp[hC,hw];refine⟨W.length-(j+1),by omega,?_⟩;refine aa.trim [8,7,6,5,0] [0,1] 2 yB yA ⟨j+1,rfl,by omega,?_⟩;simp;omega
       .have VG:j=W.length:=by omega
        by_cases SK:e<l.length
        .obtain⟨c2,T7⟩:∃ c,l[e]? = some c:=⟨l[e],getElem?_eq_getElem SK⟩;have qa:gu c2=false:=Yi (by rw[getElem?_drop,<- VG,he];exact T7);have TC:=mJ T7;have VY:=mX c2;have Vg:=nk c2;have hp3:isLet c2=false/\dy c2=false:=by simpa [gu] using qa
         rw[hp3.1] at VY;rw[hp3.2] at Vg;apply aW;simp[hC,dX,SK,TC];refine TL.cN Rg rfl rfl rfl rfl (bW.of rfl SD (VY)) (TL.go' af ?_);simp[hC,SK,TC];refine TL.cN Rg rfl rfl rfl rfl (bW.of rfl SD (Vg)) (TL.go' af ?_);simp[hC];refine bg ?_;simp;apply T.exit;simp;refine aa.trim [8,7,6,5,0] [0,1] 2 yB yA ?_;simp;omega
        .apply aW;simp[hC,dX,SK];refine bg ?_;simp;apply T.exit;simp;refine aa.trim [8,7,6,5,0] [0,1] 2 yB yA ?_;simp;omega
     .rintro s rfl;obtain⟨e,he⟩:∃ e,a+W.length=e:=⟨_,rfl⟩;rw[he] at XT |-;have k1:a<=e:=by omega
      have k2:e<=l.length:=by omega
      have k3:e-a=W.length:=by omega
      have TN:take W.length (drop a (l.map λ x=>CV.int .u8 (x.toNat:Int)))=W.map λ x=>CV.int .u8 (x.toNat:Int):=by
       rw[<- map_drop,<- map_take,t3]
      have UW:min W.length (l.length-a)=W.length:=by omega
      have hbW:=pG W;have hWe:bs ⟨W.toArray⟩=W:=bs_mk W;apply aq;simp[hC];have U6:=vg ⟨W.toArray⟩;rw[hWe] at U6;have wk:IntKind.i64.wrap ((e:Int)-a)=(W.length:Int):=by rw[cr _ yA yA];omega
      refine T.seq (T.D2 af ?_);simp[hC,dX,k1,k2,TN,hbW,k3];refine cS SD (U6) ?_;simp;refine T.bw rfl (λ h=>?_) (λ h=>?_)
      .apply aM;simp[hC];refine aa.trim [8,7,6,5,0] [0,1] 2 yB yA ⟨3,0,e,XT,by omega,k2,?_⟩;simp
      .have hnr:W∉uz:=by simpa using h
       have h16:W.length<=16:=hw16.resolve_right hnr;have h16':¬ (16:Int)<W.length:=by omega
       apply aq;simp[hC,wk,h16'];refine bg ?_;simp;apply T.skip;simp;refine aa.trim [8,7,6,5,0] [0,1] 2 yB yA ⟨1,0,e,XT,by omega,k2,?_⟩;simp
    .have h1:isLet c=false:=by simpa using h
     refine T.le (Le.trim [8,7,6,5,0] [0,1] 2 yB yA) ?_;simp;apply aq;simp[hC,P1,OZ];refine cS SD (nk c) ?_;simp[hC];refine T.bw rfl (λ h=>?_) (λ h=>?_)
     .have h2:dy c=true:=by simpa using h
      obtain⟨_,_,hv63,XT⟩:isLet c=false/\dy c=true/\mF ((l.drop a).takeWhile dy)<9223372036854775808/\Lx ((l.drop a).dropWhile dy) m':=by
       rcases V0 with h | h | h
       .rw[h1] at h;simp at h
       .exact h
       .rw[h2] at h;simp at h
      obtain⟨t1,t2,t3⟩:=BW (p:=dy) (l.drop a);rw[t2,drop_drop] at XT;have hwpos:0<((l.drop a).takeWhile dy).length:=by
       rw[hd,takeWhile_cons];simp[h2]
      have Tr:((l.drop a).takeWhile dy).all dy=true:=all_takeWhile;have htin:=@Jl dy (l.drop a);have Yi:=@Em dy (l.drop a);generalize hW:(l.drop a).takeWhile dy=W at *;have Wb:a+W.length<=l.length:=by simp at t1;omega
      refine T.cut (λ s=>s=⟨[(8,I ((a+W.length:Nat))),(7,.ax 1 0),(6,I a),(5,.a7 0 0 k),(0,dX l)],[(0,mP cs),(1,⟨190,0,[.int .i64 0,.str ⟨#[]⟩,.int .i64 0,I a]⟩)],2⟩) ?_ ?_
      .apply T.block;refine T.aI (λ n s=>∃ j:Nat,n=W.length-j/\j<=W.length/\s=⟨[(8,I ((a+j:Nat))),(7,.ax 1 0),(6,I a),(5,.a7 0 0 k),(0,dX l)],[(0,mP cs),(1,⟨190,0,[.int .i64 0,.str ⟨#[]⟩,.int .i64 0,I a]⟩)],2⟩) (n:=W.length) ?_ ?_
       .refine aa.trim [8,7,6,5,0] [0,1] 2 yB yA ⟨0,by omega,by omega,?_⟩;simp[dX]
       .rintro n s ⟨j,rfl,Tl,rfl⟩;obtain⟨e,he⟩:∃ e,a+j=e:=⟨_,rfl⟩;rw[he];by_cases hj:j<W.length
        .obtain⟨c2,T7,qa⟩:=htin hj;rw[getElem?_drop,he] at T7;have TC:=mJ T7;have SK:e<l.length:=(List.getElem?_eq_some_iff.1 T7).1;have hw:=cr ((e:Int)+1) yA yA;have Vg:=nk c2;rw[qa] at Vg;apply aW;simp[hC,dX,SK,TC];refine TL.cN Rg rfl rfl rfl rfl (bW.of rfl SD (Vg)) (TL.go' af ?_);simp[hC];refine jk ?_;simp;apply T.block;apply aM;simp[hC,hw];refine⟨W.length-(j+1),by omega,?_⟩;refine aa.trim [8,7,6,5,0] [0,1] 2 yB yA ⟨j+1,rfl,by omega,?_⟩;simp;omega
        .have VG:j=W.length:=by omega
         by_cases SK:e<l.length
         .obtain⟨c2,T7⟩:∃ c,l[e]? = some c:=⟨l[e],getElem?_eq_getElem SK⟩;have qa:dy c2=false:=Yi (by rw[getElem?_drop,<- VG,he];exact T7);have TC:=mJ T7;have Vg:=nk c2;rw[qa] at Vg;apply aW;simp[hC,dX,SK,TC];refine TL.cN Rg rfl rfl rfl rfl (bW.of rfl SD (Vg)) (TL.go' af ?_);simp[hC];refine bg ?_;simp;apply T.exit;simp;refine aa.trim [8,7,6,5,0] [0,1] 2 yB yA ?_;simp;omega
         .apply aW;simp[hC,dX,SK];refine bg ?_;simp;apply T.exit;simp;refine aa.trim [8,7,6,5,0] [0,1] 2 yB yA ?_;simp;omega
      .rintro s rfl;obtain⟨e,he⟩:∃ e,a+W.length=e:=⟨_,rfl⟩;rw[he] at XT |-;have k1:a<=e:=by omega
       have k2:e<=l.length:=by omega
       have k3:e-a=W.length:=by omega
       have TN:take W.length (drop a (l.map λ x=>CV.int .u8 (x.toNat:Int)))=W.map λ x=>CV.int .u8 (x.toNat:Int):=by
        rw[<- map_drop,<- map_take,t3]
       have hcn:=yR W yA Tr hv63;have ZZ:¬ ((mF W:Int)<0):=by omega
       apply aq;simp[hC,dX,k1,k2,TN,k3];simp only[dX] at hcn;refine cS SD (hcn) ?_;simp[hC];apply aq;simp[hC,ZZ];refine bg ?_;simp;apply T.skip;simp;refine aa.trim [8,7,6,5,0] [0,1] 2 yB yA ⟨2,mF W,e,XT,by omega,k2,?_⟩;simp
     .have h2:dy c=false:=by simpa using h
      obtain⟨Zk,XT⟩:0<v9 (l.drop a)/\Lx ((l.drop a).drop (v9 (l.drop a))) m':=by
       rcases V0 with h | h | h
       .rw[h1] at h;simp at h
       .rw[h2] at h;simp at h
       .exact⟨h.2.2.2.1,h.2.2.2.2⟩
      have hcg:=MR l a P1 yA;have hsle:a+v9 (l.drop a)<=l.length:=by
       have h2:=PW (l.drop a);rw[length_drop] at h2;omega
      rw[drop_drop] at XT;generalize v9 (l.drop a)=g at hcg Zk XT hsle;have hwg:=cr ((a:Int)+g) yA yA;have Zr:¬ (a:Int)+g=a:=by omega
      simp only[dX] at hcg;refine T.le (Le.trim [8,7,6,5,0] [0,1] 2 yB yA) ?_;simp;apply aq;simp[hC];refine cS SD (hcg) ?_;simp[hC,hwg];apply aq;simp[hC];apply aq;simp[hC];refine T.bw rfl (λ h=>?_) (λ h=>?_)
      .simp at h;omega
      apply T.skip;simp;refine aa.trim [8,7,6,5,0] [0,1] 2 yB yA ⟨4,0,a+g,XT,by omega,hsle,?_⟩;simp[dX]
   .rintro s ⟨kind,num,e,WZ,hae,SK,rfl⟩;have k1:a<=e:=by omega
    have k3:e-a<=l.length-a:=by omega
    have hk4:¬ (k:Int)=4000:=by omega
    apply aW;simp[hC];refine T.bw rfl (λ h=>?_) (λ h=>?_)
    .simp at h;omega
    apply T.skip;simp;have TN:take (e-a) (drop a (l.map λ x=>CV.int .u8 (x.toNat:Int)))=((l.drop a).take (e-a)).map λ x=>CV.int .u8 (x.toNat:Int):=by
     rw[<- map_drop,<- map_take]
    have UW:min (e-a) (l.length-a)=e-a:=by omega
    have hbW:=pG ((l.drop a).take (e-a));have Wb:((l.drop a).take (e-a)).length=e-a:=by simp;omega
    generalize (l.drop a).take (e-a)=W at TN hbW Wb;have hsk:=F4 l e SK yA (λ r hr=>by
     have:=WZ.skip;rw[drop_drop] at this;exact Lx.ncm this r hr)
    refine T.seq (T.D2 af ?_);simp[hC,dX,k1,SK,TN,hbW,Wb];have hb:(k+1)*40<=140737488355328:=by omega
    have SB:(mP cs).sz=4:=rfl;have UK:(mP cs).elem=190:=rfl;have VZ:(mP cs).cells.length=k*4:=SA;apply aM;simp[hC,hb,SB,UK,VZ,aY];simp only[dX] at hsk;have Vp:=WZ.skip;rw[drop_drop] at Vp;have hsp2:∀ c,(l.drop (e+uc (l.drop e))).head? = some c->jC c=false:=λ c hc=>by
     rw[<- drop_drop] at hc;exact B7 hc
    have hle2:e+uc (l.drop e)<=l.length:=by
     have:=(BW (p:=jC) (l.drop e)).1;rw[length_drop] at this;unfold uc;omega
    obtain⟨a2,ha2⟩:∃ a2,e+uc (l.drop e)=a2:=⟨_,rfl⟩;rw[ha2] at hsk Vp hsp2 hle2;have Zy:e<=a2:=by omega
    apply aM;simp[hC];refine cS SD (hsk) ?_;simp[hC];refine⟨l.length-a2,by omega,?_⟩;have Yh:trees ((mP cs).cells++[CV.int .i64 kind,.str ⟨W.toArray⟩,.int .i64 num,I a])=true:=by rw[a9];simp only[mP,SJ];rfl
    refine aa.le (Le.trim [6,5,0] [3] 4 (by simp[-all_append,ai Yh]) yA) ?_;simp;refine aa.le (Le.qt 3 0 rfl rfl yA xr xr (by simp[-all_append,bx Yh])) ?_;simp[-map_append,bl Yh];refine aa.trim [6,5,0] [0] 1 (by simp[-all_append,ai Yh]) yA ⟨a2,(mP cs).cells++[CV.int .i64 kind,.str ⟨W.toArray⟩,.int .i64 num,I a],k+1,m',rfl,hle2,by omega,Vp,hsp2,?_,Yh,?_⟩
    .simp[VZ];omega
    .simp[dX,mP]
end Go.Proofs.YtlkmbdfhdknlgaaGreat
namespace Go.Can
open Go.RowKit List
def Bo:Value->Bool
 | .int _ _=>true
 | .bool _=>true
 | .string _=>true
 | _=>false
def D6:Value->Bool
 | .agg cs=>cs.toList.all Bo
 | v=>Bo v
def BS:Value->Value->Bool
 | .int k a,.int j b=>decide (k=j) && a == b
 | .bool a,.bool b=>a == b
 | .string a,.string b=>a.data.toList == b.data.toList
 | _,_=>false
def wO:List Value->List Value->Bool
 | [],[]=>true
 | a::r,b::q=>BS a b && wO r q
 | _,_=>false
def BE:Value->Value->Bool
 | .agg a,.agg b=>wO a.toList b.toList
 | a,b=>BS a b
theorem FR {a b:Value}(h:BS a b=true):a=b:=by
 unfold BS at h;split at h
 .simp only[Bool.and_eq_true,decide_eq_true_eq,beq_iff_eq] at h;rw[h.1,h.2]
 .simp only[beq_iff_eq] at h;rw[h]
 .rename_i a b;have h2:a.data=b.data:=Array.toList_inj.1 UA;rw[ByteArray.ext h2]
 .cases h
theorem FQ:∀ (a b:List Value),wO a b=true->a=b
 | [],[],_=>rfl
 | [],_::_,h=>by simp[wO] at h
 | _::_,[],h=>by simp[wO] at h
 | a::r,b::q,h=>by
  simp only[wO,Bool.and_eq_true] at h;rw[FR h.1,FQ r q h.2]
theorem ug {a b:Value}(h:BE a b=true):a=b:=by
 unfold BE at h;split at h
 .rename_i a b;rw[Array.toList_inj.1 (FQ _ _ h)]
 .exact FR h
theorem y8 {a:Value}(h:Bo a=true):BS a a=true:=by
 cases a<;>simp_all [Bo,BS]
theorem y6:∀ (l:List Value),l.all Bo=true->wO l l=true
 | [],_=>rfl
 | a::r,h=>by
  simp only[all_cons,Bool.and_eq_true] at h;simp[wO,y8 h.1,y6 r h.2]
theorem r9 {a:Value}(h:D6 a=true):BE a a=true:=by
 cases a<;>simp only[D6,Bo,Bool.false_eq_true] at h<;>simp only[BE]<;>first
  | exact y6 _ h
  | exact y8 rfl
def yU (kv:Value):List (Value×Value)->Option Value
 | []=>none
 | (k,v)::r=>if BE kv k=true then some v else yU kv r
def qw (kv vv:Value):List (Value×Value)->List (Value×Value)
 | []=>[(kv,vv)]
 | (k,v)::r=>if BE kv k=true then (kv,vv)::r else (k,v)::qw kv vv r
theorem CL {kv:Value}:∀ (es:List (Value×Value)) (v:Value),yU kv es=some v->(kv,v)∈es
 | [],_,h=>by simp[yU] at h
 | (k,u)::r,v,h=>by
  simp only[yU] at h;split at h
  .rename_i e;rw[ug e];cases h;exact mem_cons_self
  .exact mem_cons_of_mem _ (CL r v h)
theorem zJ {kv:Value}(hc:D6 kv=true):∀ (es:List (Value×Value)),(es.map (·.1)).Nodup->∀ v,(kv,v)∈es->yU kv es=some v
 | [],_,v,hx=>by cases hx
 | (k,u)::r,hn,v,hx=>by
  simp only[map_cons,nodup_cons] at hn;simp only[yU];rcases mem_cons.1 hx with e | hx
  .cases e;rw[if_pos (r9 hc)]
  .rw[if_neg (λ e=>hn.1 (mem_map.2 ⟨(kv,v),hx,ug e⟩))];exact zJ hc r hn.2 v hx
theorem zF {kv vv:Value}:∀ (es:List (Value×Value)) (x:Value×Value),x∈qw kv vv es->x.1=kv\/x∈es
 | [],x,h=>by simp only[qw,mem_singleton] at h;exact .inl (by rw[h])
 | (k,u)::r,x,h=>by
  simp only[qw] at h;split at h
  .rcases mem_cons.1 h with e | h
   .exact .inl (by rw[e])
   .exact .inr (mem_cons_of_mem _ h)
  .rcases mem_cons.1 h with e | h
   .exact .inr (by rw[e];exact mem_cons_self)
   .rcases zF r x h with h | h
    .exact .inl h
    .exact .inr (mem_cons_of_mem _ h)
theorem xG {kv vv:Value}(hc:D6 kv=true):∀ (es:List (Value×Value)),(es.map (·.1)).Nodup->((qw kv vv es).map (·.1)).Nodup
 | [],_=>by simp[qw]
 | (k,u)::r,hn=>by
  simp only[map_cons,nodup_cons] at hn;simp only[qw];split
  .rename_i e;have:=ug e;subst this
   simpa using hn
  .rename_i e;simp only[map_cons,nodup_cons];refine⟨λ hm=>?_,xG hc r hn.2⟩;obtain⟨x,hx,e2⟩:=mem_map.1 hm;rcases zF r x hx with h | h
   .rw[h] at e2;subst e2;exact e (r9 hc)
   .exact hn.1 (mem_map.2 ⟨x,h,e2⟩)
def cv1:CV->Option Value
 | .int k n=>some (.int k n)
 | .bool b=>some (.bool b)
 | .str s=>some (.string s)
 | _=>none
def QX:List CV->Option (List Value)
 | []=>some []
 | c::r=>match cv1 c,QX r with
  | some v,some vs=>some (v::vs)
  | _,_=>none
def lu:CV->Option Value
 | .agg cs=>match QX cs with
  | some vs=>some (.agg vs.toArray)
  | none=>none
 | c=>cv1 c
section
variable {P:Program}{C:Cx}{U:Nat->Option OB}{s:St}{a:Act}{w:World}{ops:Array Oper}{av:List (Nat×TI)}
theorem LB {F:Nat->Prop}{c:CV}{v u:Value}(h:cv1 c=some v)(hv:VR w F U c u):u=v/\Bo v=true:=by
 cases c<;>simp only[cv1] at h<;>first | cases h | skip
 all_goals
  simp only[VR] at hv;exact⟨hv,rfl⟩
theorem Ly {F:Nat->Prop}:∀ (cs:List CV) (vs us:List Value),QX cs=some vs->aZ w F U cs us->us=vs/\vs.all Bo=true
 | [],vs,us,h,hv=>by
  simp only[QX] at h;cases h;simp only[aZ] at hv;exact⟨hv,rfl⟩
 | c::cs,vs,us,h,hv=>by
  simp only[QX] at h;split at h
  .rename_i v vs' h1 h2;cases h;simp only[aZ] at hv;obtain⟨u,r,rfl,k1,k2⟩:=hv;obtain⟨q1,q2⟩:=LB h1 k1;obtain⟨q3,q4⟩:=Ly cs vs' r h2 k2;exact⟨by rw[q1,q3],by simp[q2,q4]⟩
  .cases h
theorem pE {F:Nat->Prop}{c:CV}{v u:Value}(h:lu c=some v)(hv:VR w F U c u):u=v/\D6 v=true:=by
 unfold lu at h;split at h
 .rename_i cs;split at h
  .rename_i vs hvs;cases h;simp only[VR] at hv;obtain⟨us,rfl,hr,_⟩:=hv;obtain⟨q1,q2⟩:=Ly _ _ _ hvs hr;exact⟨by rw[q1],by simpa [D6] using q2⟩
  .cases h
 .obtain⟨q1,q2⟩:=LB h hv;refine⟨q1,?_⟩;cases v<;>simp_all [D6,Bo]
structure Rl (P:Program)(t kt et:TypeId)(kb:Value->Bool)(zv:Value):Prop where
 BF:P.underlying t=some (.map kt et)
 keyed:Go.Maps.Keyed P kt
 key:∀ v,kb v=true->∃ l,keyOf P kt v=some l
 zero:∃ f,P.info? et=some f/\f.zero=some zv
theorem Ie {t kt et:TypeId}{kb:Value->Bool}{zv:Value}(M:Rl P t kt et kb zv){o:Oper}{x y:Operand}{k:Nat}{es:List (Value×Value)}{cy c:CV}{kv:Value}(hd:bj C.nt o.dst=true)(ho:o.op=.lookup t x y false)
  (hx:ev s x=some (.mp k es)) (hy:ev s y=some cy) (hk:lu cy=some kv) (hkb:kb kv=true) (hes:(es.all λ e=>kb e.1)=true)
  (hc:(match yU kv es with | some v=>gY v | none=>gY zv)=some c):rO P C o s (s.put o.dst c):=by
 rintro a w ⟨U,h⟩;have hv:=bH h hx;simp only[VR] at hv;obtain⟨B,r,arr,clock,hB,hb,hv,hr,Ve,VP,hf⟩:=hv;obtain⟨hkv,ZD⟩:=pE hk (bH h hy);obtain⟨l,hl⟩:=M.key kv hkb;have VF:∀ e∈arr.toList,∃ l,keyOf P kt e.key=some l:=λ e he=>by
  have:(e.key,e.val)∈es:=by rw[<- Ve];exact mem_map.2 ⟨e,he,rfl⟩
  exact M.key _ (all_eq_true.1 hes _ this)
 have Ux:(getObj r).run P w=.ok (.map arr clock) w:=by simp[getObj,Sem.run,hr]
 have YK:=M.keyed.check w arr.isEmpty hl;obtain⟨f,g1,g2⟩:=M.zero;have T9:∃ u,(Instr.lookup t (.map (some r)) kv false).run P w=.ok u w/\gY u=some c:=by
  rcases M.keyed.find w hl arr.toList VF with ⟨VX,Tm⟩ | ⟨j,e,VX,Tm,V8⟩
  .have Ty:yU kv es=none:=by
    cases hm:yU kv es with
    | none=>rfl
    | some v=>
     exfalso;have:=CL es v hm;rw[<- Ve] at this;obtain⟨e,he,e2⟩:=mem_map.1 this;simp only[Prod.mk.injEq] at e2;exact Tm e he e2.1
   rw[Ty] at hc;refine⟨zv,?_,hc⟩;have hzr:=iV (P:=P) g1 g2 w;simp[Instr.lookup,bB M.BF,Ux,YK,VX,hzr]
  .have Ub:(kv,e.val)∈es:=by
    rw[<- Ve];exact mem_map.2 ⟨e,mem_of_getElem? Tm,by rw[V8]⟩
   rw[zJ ZD es VP _ Ub] at hc;refine⟨e.val,?_,hc⟩;simp[Instr.lookup,bB M.BF,Ux,YK,VX]
 obtain⟨u,k1,k2⟩:=T9;refine⟨w,.inl ⟨u,?_,ef hd h (VR.cJ _ _ (l9 k2).1)⟩⟩;simp[execOp,ho,hv,hkv,k1]
def KV (k:Nat):CV->Bool
 | .mp k' _=>k' == k
 | _=>false
def isIt:CV->Bool
 | .iter _ _ _=>true
 | _=>false
def QA (k:Nat)(es:List (Value×Value)):List (Nat×CV)->List (Nat×CV)
 | []=>[]
 | (t,c)::r=>(t,if KV k c then .mp k es else c)::QA k es r
theorem Ab {k:Nat}{es:List (Value×Value)}:∀ (l:List (Nat×CV)) (t:Nat) (c:CV),assoc (QA k es l) t=some c->∃ d,assoc l t=some d/\c=if KV k d then .mp k es else d
 | [],t,c,h=>by simp[QA,assoc] at h
 | (u,d)::r,t,c,h=>by
  simp only[QA,assoc] at h |-;split at h
  .rename_i e;cases h;rw[if_pos e];exact⟨d,rfl,rfl⟩
  .rename_i e;rw[if_neg e];exact Ab r t c h
def Jh (s:St)(k:Nat):Bool:=(s.env.all λ x=>mw x.2 || KV k x.2 || isIt x.2) && s.heap.all λ x=>ky x.2.cells
theorem vn {kv vv:Value}:∀ (es:List (Value×Value)),(∀ x∈es,x.1≠kv)->qw kv vv es=es++[(kv,vv)]
 | [],_=>rfl
 | (k,u)::r,h=>by
  simp only[qw];rw[if_neg (λ e=>h (k,u) mem_cons_self (ug e).symm),vn r λ x hx=>h x (mem_cons_of_mem _ hx)];rfl
theorem Gw {kv vv:Value}(hc:D6 kv=true):∀ (es:List (Value×Value)) (j:Nat) (v:Value),(es.map (·.1)).Nodup->es[j]? = some (kv,v)->qw kv vv es=es.set j (kv,vv)
 | [],j,v,_,h=>by simp at h
 | (k,u)::r,0,v,_,h=>by
  simp only[getElem?_cons_zero,Option.some.injEq,Prod.mk.injEq] at h;simp only[qw,h.1];rw[if_pos (r9 hc)];rfl
 | (k,u)::r,j+1,v,hn,h=>by
  simp only[map_cons,nodup_cons] at hn;simp only[getElem?_cons_succ] at h;simp only[qw];rw[if_neg (λ e=>hn.1 (mem_map.2 ⟨(kv,v),mem_of_getElem? h,ug e⟩)),Gw hc r j v hn.2 h];rfl
theorem Ic {t kt et:TypeId}{kb:Value->Bool}{zv:Value}(M:Rl P t kt et kb zv){o:Oper}{x y v:Operand}{k:Nat}{es:List (Value×Value)}{cy cv:CV}{kv vv:Value}(_hd:bj C.nt o.dst=true)(ho:o.op=.mapUpdate t x y v)
  (hx:ev s x=some (.mp k es)) (hy:ev s y=some cy) (hk:lu cy=some kv) (hv0:ev s v=some cv) (hvv:lu cv=some vv) (hkb:kb kv=true) (hes:(es.all λ e=>kb e.1)=true) (hk0:C.n0<=k) (SU:Jh s k=true) :
  rO P C o s (St.del { s with env:=QA k (qw kv vv es) s.env } o.dst):=by
 rintro a w ⟨U,h⟩;have hv:=bH h hx;simp only[VR] at hv;obtain⟨B,r,arr,clock,hB,hb,hv,hr,Ve,VP,hf⟩:=hv;obtain⟨hkv,ZD⟩:=pE hk (bH h hy);obtain⟨Us,_⟩:=pE hvv (bH h hv0);obtain⟨l,hl⟩:=M.key kv hkb;have hrl:=(Array.getElem?_eq_some_iff.1 hr).1;have VF:∀ e∈arr.toList,∃ l,keyOf P kt e.key=some l:=λ e he=>by
  have:(e.key,e.val)∈es:=by rw[<- Ve];exact mem_map.2 ⟨e,he,rfl⟩
  exact M.key _ (all_eq_true.1 hes _ this)
 have Ux:(getObj r).run P w=.ok (.map arr clock) w:=by simp[getObj,Sem.run,hr]
 have SQ:∀ q,(setObj r q).run P w=.ok () { w with heap:=w.heap.setIfInBounds r q }:=λ q=>by simp[setObj,Sem.run,hr]
 have YK:=M.keyed.check w false hl;have T9:∃ XQ Vh,(Instr.mapUpdate t (.map (some r)) kv vv).run P w=.ok () { w with heap:=w.heap.setIfInBounds r (.map XQ Vh) }/\XQ.toList.map (λ e=>(e.key,e.val))=qw kv vv es:=by
  rcases M.keyed.find w hl arr.toList VF with ⟨VX,Tm⟩ | ⟨j,e,VX,Tm,V8⟩
  .refine⟨arr.push { key:=kv,val:=vv,born:=clock },clock+1,?_,?_⟩
   .simp[Instr.mapUpdate,bB M.BF,Ux,YK,VX,SQ]
   .rw[vn es λ x hx=>by
     rw[<- Ve] at hx;obtain⟨e,he,rfl⟩:=mem_map.1 hx;exact Tm e he,<- Ve]
    simp
  .have hstay:=M.keyed.stays w hl;have hj:arr[j]? = some e:=by simpa using Tm
   refine⟨arr.modify j λ e=>{ e with key:=kv,val:=vv },clock,?_,?_⟩
   .simp[Instr.mapUpdate,bB M.BF,Ux,YK,VX,hj,V8,hstay,SQ]
   .have hj2:es[j]? = some (kv,e.val):=by
     rw[<- Ve,getElem?_map,Tm];simp[V8]
    rw[Gw ZD es j e.val VP hj2,<- Ve];apply ext_getElem?;intro i;simp only[getElem?_map,getElem?_set,Array.getElem?_toList,Array.getElem?_modify,length_map,Array.length_toList];by_cases XH:j=i
    .subst XH;have Tl:=(Array.getElem?_eq_some_iff.1 hj).1;rw[if_pos rfl,if_pos rfl,if_pos Tl,hj];rfl
    .rw[if_neg XH,if_neg XH]
 obtain⟨XQ,Vh,k1,k2⟩:=T9;simp only[Jh,Bool.and_eq_true,all_eq_true,Bool.or_eq_true] at SU;generalize Tj:({ w with heap:=w.heap.setIfInBounds r (.map XQ Vh) }:World)=w' at k1;have S7:∀ j,j≠r->w'.heap[j]? = w.heap[j]?:=λ j hj=>by simp[<- Tj,Ne.symm hj]
 have Uu:w'.heap[r]? = some (.map XQ Vh):=by simp[<- Tj,hrl]
 have SB:w'.heap.size=w.heap.size:=by simp[<- Tj]
 have hkc:∀ F:Nat->Prop,oD w w' F F:=λ F ad u hf hu=>by
  have SL:ad.block≠r:=λ e=>by
   unfold World.cell? at hu;rw[e,hr] at hu;cases hu
  exact⟨by rw[World.cell?_of_block (S7 _ SL)];exact hu,hf⟩
 have h':aQ C U { s with env:=QA k (qw kv vv es) s.env } a w':=by
  refine⟨h.pB,h.tm,(by rw[<- Tj];exact h.os),(by rw[<- Tj];exact h.tape),(by rw[<- Tj];exact h.output),by rw[SB];exact h.size,?_,?_,?_,h.inj,h.nx,h.gH,h.low,h.new⟩
  .intro j hj1 hj2;rw[S7 j (λ e=>?_)]
   .exact h.frame j hj1 hj2
   .subst e;rcases h.new k B j hk0 hB hb with n4 | n4
    .exact hj2 n4
    .omega
  .intro t c hc;obtain⟨d,Td,rfl⟩:=Ab _ _ _ hc;obtain⟨v,q1,q2⟩:=h.env t d Td;refine⟨v,q1,?_⟩;by_cases hi:KV k d=true
   .rw[if_pos hi];cases d<;>simp only[KV,Bool.false_eq_true] at hi;rename_i k' es';have:k'=k:=by simpa using hi
    subst this;simp only[VR] at q2 |-;obtain⟨B2,r2,arr2,clock2,m1,m2,m3,m4,m5,m6,m7⟩:=q2;rw[hB] at m1;cases m1;rw[hb] at m2;cases m2;exact⟨B,r,XQ,Vh,hB,hb,m3,Uu,k2,xG ZD es VP,m7⟩
   .rw[if_neg hi];rcases SU.1 _ (bA _ _ _ Td) with (q | q) | q
    .exact VR.pw (hkc _) _ _ q q2
    .exact absurd q hi
    .cases d<;>simp only[isIt,Bool.false_eq_true] at q;simp only[VR] at q2 |-;obtain⟨B2,r2,m1,m2,m3,m4,m5⟩:=q2;have SL:r2≠r:=λ e=>by rw[e,hr] at m4;cases m4
     exact⟨B2,r2,m1,m2,m3,by rw[S7 r2 SL];exact m4,m5⟩
  .intro q y hq;obtain⟨B2,m1,m2,m3,m4,m5⟩:=h.obj q y hq;refine⟨B2,m1,m2,m3,m4,λ b2 T0=>?_⟩;obtain⟨Xb,q1,q2,q3,q4,q5,q6⟩:=m5 b2 T0;have SL:b2≠r:=λ e=>by subst e;rw[hr] at q1;cases q1
   exact⟨Xb,by rw[S7 b2 SL];exact q1,q2,q3,q4,q5,aZ.pw (hkc _) _ _ (SU.2 _ (bA _ _ _ hq)) q6⟩
 refine⟨w',.inr ⟨?_,U,h'.del undef⟩⟩;simp[execOp,ho,hv,hkv,Us,k1]
structure MI where
 t:Nat
 kt:Nat
 et:Nat
 kb:Value->Bool
 zv:Value
def Rm (P:Program)(l:List MI):Prop:=∀ x∈l,Rl P x.t x.kt x.et x.kb x.zv
def Sb:List MI->Nat->Option MI
 | [],_=>none
 | x::r,t=>if x.t=t then some x else Sb r t
theorem AU:∀ (l:List MI) (t:Nat) (x:MI),Sb l t=some x->x∈l/\x.t=t
 | [],_,_,h=>by simp[Sb] at h
 | y::r,t,x,h=>by
  simp only[Sb] at h;split at h
  .rename_i e;cases h;exact⟨mem_cons_self,e⟩
  .obtain⟨h1,h2⟩:=AU r t x h;exact⟨mem_cons_of_mem _ h1,h2⟩
def Kz (mi:List MI)(n0:Nat)(s:St)(o:Oper):Option St:=
 match o.op with
 | .lookup t x y false=>match Sb mi t,ev s x,ev s y with
  | some M,some (.mp _ es),some cy=>match lu cy with
   | some kv=>if M.kb kv=true/\(es.all λ e=>M.kb e.1)=true then
     match (match yU kv es with | some v=>gY v | none=>gY M.zv) with
     | some c=>some (s.put o.dst c)
     | none=>none
    else none
   | none=>none
  | _,_,_=>none
 | .mapUpdate t x y v=>match Sb mi t,ev s x,ev s y,ev s v with
  | some M,some (.mp k es),some cy,some cv=>match lu cy,lu cv with
   | some kv,some vv=>if M.kb kv=true/\(es.all λ e=>M.kb e.1)=true/\n0<=k/\Jh s k=true then some (St.del { s with env:=QA k (qw kv vv es) s.env } o.dst) else none
   | _,_=>none
  | _,_,_,_=>none
 | _=>none
theorem Ky {mi:List MI}(hM:Rm P mi){o:Oper}{s':St}(hd:bj C.nt o.dst=true)(h:Kz mi C.n0 s o=some s'):rO P C o s s':=by
 unfold Kz at h;split at h
 .rename_i t x y ho;split at h
  .rename_i M k es cy h1 h2 h3;obtain⟨m1,m2⟩:=AU _ _ _ h1;have hT:=hM M m1;rw[m2] at hT;split at h
   .rename_i kv h4;split at h
    .rename_i hc;split at h
     .rename_i c h5;cases h;exact Ie hT hd ho h2 h3 h4 hc.1 hc.2 h5
     .cases h
    .cases h
   .cases h
  .cases h
 .rename_i t x y v ho;split at h
  .rename_i M k es cy cv h1 h2 h3 h4;obtain⟨m1,m2⟩:=AU _ _ _ h1;have hT:=hM M m1;rw[m2] at hT;split at h
   .rename_i kv vv h5 h6;split at h
    .rename_i hc;cases h;exact Ic hT hd ho h2 h3 h5 h4 h6 hc.1 hc.2.1 hc.2.2.1 hc.2.2.2
    .cases h
   .cases h
  .cases h
 .cases h
def C5 (n:Int):Bool:=decide (-9223372036854775808<=n) && decide (n<=9223372036854775807)
structure EqT (P:Program)(t:TypeId)(kb:Value->Bool):Prop where
 eq:∀ (w:World) (x y:Value),kb x=true->kb y=true->(Op.equalIn 10000 t x y).run P w=.ok (BE x y) w
 guard:P.eqGuardType P.depth t=false
 agg:∀ x,kb x=true->∃ cs,x=.agg cs
structure EI where
 t:Nat
 kb:Value->Bool
def Mh (P:Program)(l:List EI):Prop:=∀ x∈l,EqT P x.t x.kb
def QR:List EI->Nat->Option EI
 | [],_=>none
 | x::r,t=>if x.t=t then some x else QR r t
theorem GU:∀ (l:List EI) (t:Nat) (x:EI),QR l t=some x->x∈l/\x.t=t
 | [],_,_,h=>by simp[QR] at h
 | y::r,t,x,h=>by
  simp only[QR] at h;split at h
  .rename_i e;cases h;exact⟨mem_cons_self,e⟩
  .obtain⟨h1,h2⟩:=GU r t x h;exact⟨mem_cons_of_mem _ h1,h2⟩
def Dj (ei:List EI)(s:St)(o:Oper):Option St:=
 match o.op with
 | .binOp op t x y _=>match QR ei t,ev s x,ev s y with
  | some E,some cx,some cy=>match lu cx,lu cy with
   | some vx,some vy=>if E.kb vx=true/\E.kb vy=true then match op with
     | .eql=>some (s.put o.dst (.bool (BE vx vy)))
     | .neq=>some (s.put o.dst (.bool (!(BE vx vy))))
     | _=>none
    else none
   | _,_=>none
  | _,_,_=>none
 | _=>none
theorem x5 {ei:List EI}(hE:Mh P ei){o:Oper}{s':St}(hd:bj C.nt o.dst=true)(h:Dj ei s o=some s'):rO P C o s s':=by
 unfold Dj at h;split at h
 .rename_i op t x y q ho;split at h
  .rename_i E cx cy h1 h2 h3;obtain⟨m1,m2⟩:=GU _ _ _ h1;have hT:=hE E m1;rw[m2] at hT;split at h
   .rename_i vx vy h4 h5;split at h
    .rename_i hc;rintro a w ⟨U,hr⟩;obtain⟨e1,_⟩:=pE h4 (bH hr h2);obtain⟨e2,_⟩:=pE h5 (bH hr h3);obtain⟨xs,rfl⟩:=hT.agg vx hc.1;obtain⟨ys,rfl⟩:=hT.agg vy hc.2;have hq:=hT.eq w _ _ hc.1 hc.2;split at h
     .cases h;refine⟨w,.inl ⟨.bool (BE (.agg xs) (.agg ys)),?_,ef hd hr (dU _)⟩⟩;simp only[execOp,ho,e1,e2,Sem.run_bind,run_eqGuard_agg w _ t x y xs ys hT.guard,Result.andThen_ok,run_eql_struct,hq,Sem.run_pure]
     .cases h;refine⟨w,.inl ⟨.bool (!(BE (.agg xs) (.agg ys))),?_,ef hd hr (dU _)⟩⟩;simp only[execOp,ho,e1,e2,Sem.run_bind,run_eqGuard_agg w _ t x y xs ys hT.guard,Result.andThen_ok,run_neq_struct,hq,Sem.run_pure]
     .cases h
    .cases h
   .cases h
  .cases h
 .cases h
def frzA (s:St)(p:Nat)(ob:Ob)(d:Option Tmp)(n:Nat):St:=(s.di p ob).put d (.az ob.cells n)
theorem PV (ht:aF P av){o:Oper}{t e:TypeId}{x:Operand}{p n:Nat}{ob:Ob}{ie:TI}(hd:bj C.nt o.dst=true)(ho:o.op=.slice t x none none none)(hx:ev s x=some (.ax p 0))(h2:dO av t=some (.arr n e))(Rz:assoc av e=some ie)
  (hn:0<n) (hm:n<=1000000) (Uv:assoc s.heap p=some ob) (SJ:trees ob.cells=true):rO P C o s (frzA s p ob o.dst n):=by
 rintro a w ⟨U,h⟩;obtain⟨i2,b1,b2,_⟩:=fv ht h2;have g2:=pP (ht t i2 b1) b2;obtain⟨f,z,g3,_⟩:=(ht e ie Rz).info;have h':=h.di Uv SJ;have hfz:∃ v,a.eval x=v/\VR w (FB C U (s.di p ob).heap) U (.cM ob.cells) v:=by
  cases x with
  | tmp t=>
   have Ur:assoc s.env t=some (.ax p 0):=hx;have:∀ l:List (Nat×CV),assoc l t=some (.ax p 0)->assoc (yX p ob.cells ob.sz l) t=some (.cM ob.cells):=by
    intro l
    induction l with
    | nil=>intro h;cases h
    | cons y r ih=>
     obtain⟨k,c⟩:=y;intro hl;simp only[yX,assoc] at hl |-;split at hl
     .rename_i e;cases hl;rw[if_pos e];simp[cC]
     .rename_i e;rw[if_neg e];exact ih hl
   obtain⟨v,k1,k2⟩:=h'.env t _ (this s.env Ur);exact⟨v,by simp[Act.eval,k1],k2⟩
  | const v=>exact absurd hx (by
    simp only[ev];intro hc;have:=od (w:=w) (F:=λ _=>False) hc;simp[cj] at this)
  | func f=>cases hx
  | global g=>
   simp only[ev,Option.bind_eq_some_iff,Option.map_eq_some_iff] at hx;obtain⟨_,_,_,_,h⟩:=hx;cases h
 obtain⟨v,hv,hvr⟩:=hfz;simp only[VR,cj] at hvr;obtain⟨ad,rfl,hmr⟩:=hvr;refine⟨w,.inl ⟨.slice (some ad) n n,?_,ef hd h' ?_⟩⟩
 .have XB:(Instr.sliceBounds false n n none none none).run P w=.ok (0,n,n) w:=by simp[Instr.sliceBounds]
  have SL:¬ n=0:=by omega
  have:(Instr.sliceAt t (.pointer (some ad)) none none none).run P w=.ok (.slice (some ad) n n) w:=by
   simp[Instr.sliceAt,bB g2,Instr.sureAddr,XB,cT g3,SL,add_zero]
  simp[execOp,ho,hv,this]
 .simp only[VR,cj];exact⟨_,n,rfl,Nat.le_refl _,by simp only[maxLen];omega,.inr ⟨ad,rfl,hmr⟩⟩
def L1 (av:List (Nat×TI))(s:St)(o:Oper):Option St:=
 match o.op with
 | .slice t x none none none=>match ev s x,dO av t with
  | some (.ax p 0),some (.arr n e)=>match assoc av e,assoc s.heap p with
   | some _,some ob=>if 0<n/\n<=1000000/\trees ob.cells=true then some (frzA s p ob o.dst n) else none
   | _,_=>none
  | _,_=>none
 | _=>none
theorem LZ (ht:aF P av){o:Oper}{s':St}(hd:bj C.nt o.dst=true)(h:L1 av s o=some s'):rO P C o s s':=by
 unfold L1 at h;split at h
 .rename_i t x ho;split at h
  .rename_i p n e hx h2;split at h
   .rename_i ie ob h3 h4;split at h
    .rename_i hc;cases h;exact PV ht hd ho hx h2 h3 hc.1 hc.2.1 h4 hc.2.2
    .cases h
   .cases h
  .cases h
 .cases h
end
end Go.Can
