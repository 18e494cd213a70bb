/- The text of a program of t -/
import Derived.Test.YtlkmbdfhdknlgaaGreatZ19
import Derived.Laws.Strings
namespace Go.aJ
open Go.Can List
section
variable {ms:List Mx}{fs:List (ByteArray×List Pm)}{ps:List Pm}(Tf:∀ m∈ms,dF m.name)(Th:∀ f∈fs,dF f.1)(TC:∀ p∈ps,dF p.name)
theorem jl (c:UInt8)(h:c∈nq/\c≠60/\c≠62/\c≠61/\c≠33/\c≠47):ck Any ⟨#[c]⟩ 1 1:=ck.sign h.1 h.2
theorem ck.N0 {s:ByteArray}(h:(bs s).all ji=true):ck Any s 0 (bs s).length:=by
 refine⟨Nat.le_refl _,λ r n _ hl=>?_⟩;generalize bs s=l at h
 induction l with
 | nil=>exact hl
 | cons c t ih=>
  simp only[all_cons,Bool.and_eq_true] at h;exact Lx.sp h.1 (ih h.2)
include Tf TC in
theorem ck.rf {V:List ByteArray}(hV:∀ s∈V,dF s){r:Rf}(h:Iz ms ps V r):ck Stop (Eg r) 10 186:=by
 have hn:dF r.name:=by
  rcases h with ⟨m,h1,h2,_⟩ | ⟨p,h1,_,h2,_⟩
  ·rw[h2];exact Tf m h1
  ·rw[h2];exact TC p h1
 have h0:=ck.nm hn;unfold Eg
 cases hi:r.index with
 | none=>exact h0.mono yA yA
 | some e=>
  have he:gu V 1 e:=by
   rcases h with ⟨m,_,_,h3 | ⟨e',h3,_,h5⟩⟩ | ⟨_,_,_,_,h3⟩
   ·rw[h3.1] at hi;cases hi
   ·rw[h3] at hi;cases hi;exact h5
   ·rw[h3] at hi;cases hi
  have h1:=(h0.app (jl 91 R1) λ r _=>Stop.cons _ R1).app (ck.ex hV 1 e he) λ _ _=>trivial;have h2:=h1.app (jl 93 R1) λ r _=>Stop.cons _ R1;exact (h2.any Stop).mono (by simp[DP]) (by simp[DP])
theorem qd (l:List UInt8)(s:ByteArray)(hs:bs s=l++[32])(h:(∃ c t,l=c::t/\isLet c=true)/\l.all gf=true/\l.length<=16):ck Any s 1 17:=ck.word h.1 h.2.1 h.2.2 s hs
theorem yO:ck Any ⟨#[109,117,116,101,120,32]⟩ 1 17:=qd [109,117,116,101,120] _ rfl ⟨⟨_,_,rfl,by decide⟩,by decide,by decide⟩
include Tf TC in
theorem ck.ar {V:List ByteArray}(hV:∀ s∈V,dF s){p:Pm}{a:Ar}(h:ArW ms ps V p a):ck Stop (RM a) 19 456:=by
 cases a with
 | xf r=>
  simp only[ArW] at h;exact (yO.app (ck.rf Tf TC hV h.2) λ _ _=>trivial).mono yA yA
 | exp e=>
  simp only[ArW] at h;exact (ck.ex hV 2 e h.2).mono (by simp[DP]) (by simp[DP])
theorem Dn:ck Any ⟨#[44,32]⟩ 1 2:=⟨Nat.le_refl _,λ _ _ _ hl=>Lx.Ay R1 R1 (Lx.sp R1 hl)⟩
theorem Ii (l:List Ar)(r:List UInt8)(hr:Stop r):Stop (bs (yb false l)++r):=by
 cases l with
 | nil=>exact hr
 | cons a t=>
  rw[yb];simp only[Bool.false_eq_true,if_false,g8];exact Stop.cons _ R1
include Tf TC in
theorem ck.aR {V:List ByteArray}(hV:∀ s∈V,dF s):∀ (first:Bool) {gp:List Pm} {l:List Ar},jD ms ps V gp l->ck Stop (yb first l) (20*l.length) (458*l.length)
 | _,[],[],_=>ck.nil _
 | first,p::gp,a::l,h=>by
  simp only[jD] at h;have h1:=(ck.ar Tf TC hV h.1).app (ck.aR hV false h.2) λ r hr=>Ii l r hr;rw[Go.aJ.yb,ByteArray.append_assoc]
  cases first with
  | true=>exact (((ck.nil Any).app h1 λ _ _=>trivial)).mono yCg yCg
  | false=>exact ((Dn.app h1 λ _ _=>trivial)).mono yCg yCg
 | _,[],_::_,h=>h.elim
 | _,_::_,[],h=>h.elim
include Tf TC in
theorem ck.ars {V:List ByteArray}(hV:∀ s∈V,dF s){gp:List Pm}{l:List Ar}(h:jD ms ps V gp l):ck Any (vw l) (2+20*l.length) (2+458*l.length):=by
 have h1:=(jl 40 R1).app (ck.aR Tf TC hV true h) λ _ _=>trivial;have h2:=h1.app (jl 41 R1) λ r _=>Stop.cons _ R1;exact h2.mono yA yA
theorem Aa:ck Any BQ 1 17:=qd [118,97,114] _ rfl ⟨⟨_,_,rfl,by decide⟩,by decide,by decide⟩
theorem O8:ck Any QQ 1 17:=qd [103,111] _ rfl ⟨⟨_,_,rfl,by decide⟩,by decide,by decide⟩
theorem I0:ck Any yP 1 17:=qd [108,111,99,107] _ rfl ⟨⟨_,_,rfl,by decide⟩,by decide,by decide⟩
theorem D4:ck Any pA 1 17:=qd [117,110,108,111,99,107] _ rfl ⟨⟨_,_,rfl,by decide⟩,by decide,by decide⟩
theorem O7:ck Any QP 1 17:=qd [105,102] _ rfl ⟨⟨_,_,rfl,by decide⟩,by decide,by decide⟩
theorem Hb:ck Any z9 1 17:=qd [119,104,105,108,101] _ rfl ⟨⟨_,_,rfl,by decide⟩,by decide,by decide⟩
theorem D5:ck Any I1 1 3:=⟨Nat.le_refl _,λ _ _ _ hl=>Lx.sp R1 (Lx.one R1 xr (Lx.sp R1 hl))⟩
theorem ry:ck Any jt 1 1:=jl 59 R1
theorem BR:ck Any rz 1 3:=⟨Nat.le_refl _,λ _ _ _ hl=>Lx.sp R1 (Lx.Ay R1 R1 (Lx.sp R1 hl))⟩
theorem tv:ck Any lK 1 1:=jl 125 R1
theorem I2:ck Any BS 2 8:=⟨Nat.le_refl _,λ r n _ hl=>by
 refine Lx.sp R1 ?_;have h:=NU.name (s:=[101,108,115,101]) ⟨_,_,rfl,by decide⟩ R1 (.inl R1) (32::123::10::r) (n+1) (Stop.cons _ R1) (Lx.sp R1 (Lx.Ay R1 R1 (Lx.sp R1 hl)));exact h⟩
theorem L6:ck Any L7 2 7:=⟨Nat.le_refl _,λ r n _ hl=>by
 have h:=NU.name (s:=[114,101,116,117,114,110]) ⟨_,_,rfl,by decide⟩ R1 (.inl R1) (59::r) (n+1) (Stop.cons _ R1) (Lx.Ay R1 R1 hl);exact h⟩
theorem ck.st {S:List UInt8->Prop}{a b:ByteArray}{k k' m m':Nat}(h:ck Stop a k m)(h':ck S b k' m')(c:UInt8)(t:List UInt8)(hb:bs b=c::t)(hc:gf c=false/\c≠61/\c≠47):ck S (a++b) (k' + k) (m+m'):=
 h.app h' λ r _=>by rw[hb];exact Stop.cons _ hc
theorem ck.an {S:List UInt8->Prop}{a b:ByteArray}{k k' m m':Nat}(h:ck Any a k m)(h':ck S b k' m'):ck S (a++b) (k' + k) (m+m'):=h.app h' λ _ _=>trivial
def g9 (d:Nat)(s:ByteArray):Prop:=(bs s).all ji=true/\(bs s).length+d<=3
theorem g9.HJ {d:Nat}{s:ByteArray}(h:g9 (d+1) s):g9 d (s++rv):=by
 refine⟨by rw[g8,all_append,h.1];rfl,?_⟩;rw[g8,length_append];have:=h.2;show _+1+d<=3;omega
theorem g9.seg {d:Nat}{s:ByteArray}(h:g9 d s):ck Any s 0 3:=(ck.N0 h.1).mono (Nat.le_refl _) (by have:=h.2;omega)
include Tf TC Th
theorem ck.lines:(∀ s:Sm,∀ d V I9,(∀ x∈V,dF x)->g9 d I9->eD ms fs ps d V s->(∀ x,eH s=[x]->dF x)->ck Any (lL I9 s) (fc s) (64*fc s-10))/\
  (∀ l:List Sm,∀ d V I9,(∀ x∈V,dF x)->g9 d I9->df ms fs ps d V l->ck Any (jF I9 l) (bV l) (64*bV l)):=by
 have Yg:∀ k,k<24->dF (fY k):=by
  intro k hk;refine⟨⟨118,_,gL k,by decide⟩,?_,by rw[gL];simp⟩;rw[gL];have:∀ k,k<24->all [118,UInt8.ofNat (97+k % 26),UInt8.ofNat (97+k / 26 % 26)] gf=true:=by decide
  exact this k hk
 have U6:∀ s:Sm,2<=fc s:=by intro s;cases s<;>simp only[fc]<;>omega
 have A1:∀ (s:ByteArray) (e:Ex) d V I9,(∀ x∈V,dF x)->g9 d I9->eD ms fs ps d V (.iz s e)->ck Any (lL I9 (.iz s e)) (fc (.iz s e)) (64*fc (.iz s e)-10):=by
  intro s e d V I9 hV ht hw;simp only[eD] at hw;obtain⟨⟨k,hk,rfl⟩,_,he⟩:=hw;simp only[lL,fc];exact ((((Aa.an (ck.nm (Yg k hk))).st D5 32 _ rfl R1).an (ck.ex hV 2 e he)).st ry 59 _ rfl R1).mono (by simp[DP]) (by simp[DP])
 have A2:∀ (s:ByteArray) (e:Ex) d V I9,(∀ x∈V,dF x)->g9 d I9->eD ms fs ps d V (.jd s e)->ck Any (lL I9 (.jd s e)) (fc (.jd s e)) (64*fc (.jd s e)-10):=by
  intro s e d V I9 hV ht hw;simp only[eD] at hw;simp only[lL,fc];exact ((((ck.nm (hV s hw.1)).st D5 32 _ rfl R1).an (ck.ex hV 2 e hw.2)).st ry 59 _ rfl R1).mono (by simp[DP]) (by simp[DP])
 have A3:∀ (g:Bool) (s:ByteArray) (l:List Ar) d V I9,(∀ x∈V,dF x)->g9 d I9->eD ms fs ps d V (.eJ g s l)->ck Any (lL I9 (.eJ g s l)) (fc (.eJ g s l)) (64*fc (.eJ g s l)-10):=by
  intro g s l d V I9 hV ht hw;simp only[eD] at hw;obtain⟨gp,h1,h2⟩:=hw;have hn:=ck.nm (Th _ h1);have ha:=ck.ars Tf TC hV h2;have hb:bs (vw l)=40::(bs (yb true l)++[41]):=by simp only[vw,g8];rfl
  have hg:ck Stop (if g=true then QQ++s else s) 2 33:=by
   cases g with
   | true=>exact (O8.an hn).mono yA yA
   | false=>exact hn.mono yA yA
  simp only[lL,fc];exact ((hg.st ha 40 _ hb R1).an ry).mono yA yA
 have A4:∀ (u:Bool) (r:Rf) d V I9,(∀ x∈V,dF x)->g9 d I9->eD ms fs ps d V (.dP u r)->ck Any (lL I9 (.dP u r)) (fc (.dP u r)) (64*fc (.dP u r)-10):=by
  intro u r d V I9 hV ht hw;simp only[eD] at hw;have hr:=ck.rf Tf TC hV hw;have hg:ck Any (if u=true then pA else yP) 1 17:=by
   cases u with
   | true=>exact D4
   | false=>exact I0
  simp only[lL,fc];exact ((hg.an hr).st ry 59 _ rfl R1).mono yA yA
 have A5:∀ (e:Ex) (th el:List Sm),(∀ d V I9,(∀ x∈V,dF x)->g9 d I9->df ms fs ps d V th->ck Any (jF I9 th) (bV th) (64*bV th))->(∀ d V I9,(∀ x∈V,dF x)->g9 d I9->df ms fs ps d V el->ck Any (jF I9 el) (bV el) (64*bV el))->∀ d V I9,(∀ x∈V,dF x)->g9 d I9->eD ms fs ps d V (.mf e th el)->ck Any (lL I9 (.mf e th el)) (fc (.mf e th el)) (64*fc (.mf e th el)-10):=by
  intro e th el i1 i2 d V I9 hV ht hw
  cases d with
  | zero=>simp[eD] at hw
  | succ d=>
   simp only[eD] at hw;have h1:=i1 d V _ hV ht.HJ hw.2.1;have h2:=i2 d V _ hV ht.HJ hw.2.2;have h3:=((((O7.an (ck.ex hV 2 e hw.1)).st BR 32 _ rfl R1).an h1).an ht.seg).an tv;simp only[lL,fc];split
   ·exact (h3.an (ck.nil Any)).mono Xo Xo
   ·exact (h3.an (((I2.an h2).an ht.seg).an tv)).mono Xo Xo
 have A6:∀ (e:Ex) (th:List Sm),(∀ d V I9,(∀ x∈V,dF x)->g9 d I9->df ms fs ps d V th->ck Any (jF I9 th) (bV th) (64*bV th))->∀ d V I9,(∀ x∈V,dF x)->g9 d I9->eD ms fs ps d V (.cS e th)->ck Any (lL I9 (.cS e th)) (fc (.cS e th)) (64*fc (.cS e th)-10):=by
  intro e th i1 d V I9 hV ht hw
  cases d with
  | zero=>simp[eD] at hw
  | succ d=>
   simp only[eD] at hw;have h1:=i1 d V _ hV ht.HJ hw.2;have h3:=((((Hb.an (ck.ex hV 2 e hw.1)).st BR 32 _ rfl R1).an h1).an ht.seg).an tv;simp only[lL,fc];exact h3.mono Xo Xo
 have A8:∀ (s:Sm) (r:List Sm),(∀ d V I9,(∀ x∈V,dF x)->g9 d I9->eD ms fs ps d V s->ck Any (lL I9 s) (fc s) (64*fc s-10))->(∀ d V I9,(∀ x∈V,dF x)->g9 d I9->df ms fs ps d V r->ck Any (jF I9 r) (bV r) (64*bV r))->∀ d V I9,(∀ x∈V,dF x)->g9 d I9->df ms fs ps d V (s::r)->ck Any (jF I9 (s::r)) (bV (s::r)) (64*bV (s::r)):=by
  intro s r i1 i2 d V I9 hV ht hw;simp only[df] at hw;have hV2:∀ x∈V++eH s,dF x:=by
   intro x hx;rcases mem_append.1 hx with hx | hx
   ·exact hV x hx
   ·cases s<;>simp only[eH,mem_singleton,not_mem_nil] at hx;subst hx;have:=hw.1;simp only[eD] at this;obtain⟨⟨k,hk,rfl⟩,_⟩:=this;exact Yg k hk
  have h1:=i1 d V I9 hV ht hw.1;have h2:=i2 d _ I9 hV2 ht hw.2;have hp:=U6 s;have U8:ck Any tNl 0 1:=ck.N0 R1;simp only[jF,bV];exact (((ht.seg.an h1).an U8).an h2).mono yA yA
 have A7:∀ d V I9,(∀ x∈V,dF x)->g9 d I9->eD ms fs ps d V .jP->ck Any (lL I9 .jP) (fc .jP) (64*fc .jP-10):=by
  intro d V I9 _ _ _;simp only[lL,fc];exact L6.mono yA yA
 have A0:∀ d V I9,(∀ x∈V,dF x)->g9 d I9->df ms fs ps d V []->ck Any (jF I9 []) (bV []) (64*bV []):=by
  intro d V I9 _ _ _;simp only[jF,bV];exact ck.nil _
 refine⟨λ s d V I9 h1 h2 h3 _=>?_,λ l=>?_⟩
 ·exact Sm.rec (motive_1:=λ s=>∀ d V I9,(∀ x∈V,dF x)->g9 d I9->eD ms fs ps d V s->ck Any (lL I9 s) (fc s) (64*fc s-10)) (motive_2:=λ l=>∀ d V I9,(∀ x∈V,dF x)->g9 d I9->df ms fs ps d V l->ck Any (jF I9 l) (bV l) (64*bV l)) A1 A2 A3 A4 A5 A6 A7 A0 A8 s d V I9 h1 h2 h3
 ·exact Sm.rec_1 (motive_1:=λ s=>∀ d V I9,(∀ x∈V,dF x)->g9 d I9->eD ms fs ps d V s->ck Any (lL I9 s) (fc s) (64*fc s-10)) (motive_2:=λ l=>∀ d V I9,(∀ x∈V,dF x)->g9 d I9->df ms fs ps d V l->ck Any (jF I9 l) (bV l) (64*bV l)) A1 A2 A3 A4 A5 A6 A7 A0 A8 l
end
theorem ck.nT {n:Int}(h : -9223372036854775807<=n/\n<=9223372036854775807):ck Stop (lW n) 2 20:=by
 unfold Go.aJ.lW;split
 ·exact ((jl 45 R1).an (ck.dig (n:=(-n).toNat) yA)).mono yA yA
 ·exact (ck.dig (n:=n.toNat) yA).mono yA yA
theorem pE:ck Any ⟨#[59,10]⟩ 1 2:=⟨Nat.le_refl _,λ _ _ _ hl=>Lx.Ay R1 R1 (Lx.sp R1 hl)⟩
theorem ck.gl {g:Gl}(h:dF g.name)(hi : -2<=g.init/\g.init<=2):ck Any (Ot g) 6 64:=by
 unfold Ot;split
 ·exact (((Aa.an (ck.nm h)).app (ck.nil Stop) λ r hr=>hr).st pE 59 _ rfl R1).mono yA yA
 ·have h1:ck Stop (I1++lW g.init) 3 23:=(D5.an (ck.nT yA)).mono yA yA;exact (((Aa.an (ck.nm h)).st h1 32 _ rfl R1).st pE 59 _ rfl R1).mono yA yA
theorem ck.mx {m:Mx}(h:dF m.name)(hi:m.size<=3):ck Any (MU m) 7 64:=by
 unfold MU;have h0:ck Any ((if m.re=true then ⟨#[114]⟩ else ⟨#[]⟩)++⟨#[109,117,116,101,120,32]⟩) 1 17:=by
  cases m.re with
  | true=>exact qd [114,109,117,116,101,120] _ R1 ⟨⟨_,_,rfl,by decide⟩,by decide,by decide⟩
  | false=>exact qd [109,117,116,101,120] _ R1 ⟨⟨_,_,rfl,by decide⟩,by decide,by decide⟩
 generalize (if m.re=true then (⟨#[114]⟩:ByteArray) else ⟨#[]⟩)++⟨#[109,117,116,101,120,32]⟩=pre at h0 |-;split
 ·exact (((h0.an (ck.nm h)).app (ck.nil Stop) λ r hr=>hr).st pE 59 _ rfl R1).mono yA yA
 ·have h1:ck Any (⟨#[91]⟩++lW m.size++⟨#[93]⟩) 4 22:=(((jl 91 R1).an (ck.nT yA)).st (jl 93 R1) 93 _ rfl R1).mono yA yA;exact (((h0.an (ck.nm h)).st h1 91 _ (by rw[g8,g8];rfl) R1).an pE).mono yA yA
theorem Hx (l:List Pm)(r:List UInt8)(hr:Stop r):Stop (bs (wQ false l)++r):=by
 cases l with
 | nil=>exact hr
 | cons a t=>
  rw[wQ];simp only[Bool.false_eq_true,if_false,g8];exact Stop.cons _ R1
theorem ck.pR:∀ (first:Bool) {l:List Pm},(∀ p∈l,dF p.name)->ck Stop (wQ first l) (3*l.length) (40*l.length)
 | _,[],_=>ck.nil _
 | first,p::l,h=>by
  have hn:=(ck.nm (h p mem_cons_self)).app (ck.pR false λ q hq=>h q (mem_cons_of_mem _ hq)) λ r hr=>Hx l r hr;have hm:ck Any (if p.mutex=true then ⟨#[109,117,116,101,120,32]⟩ else ⟨#[]⟩) 1 17:=by
   cases p.mutex with
   | true=>exact yO
   | false=>exact (ck.nil Any).mono yA yA
  have hf:ck Any (if first=true then ⟨#[]⟩ else ⟨#[44,32]⟩) 1 2:=by
   cases first with
   | true=>exact (ck.nil Any).mono yA yA
   | false=>exact Dn
  rw[Go.aJ.wQ];have h1:=(hf.an hm).an hn;rw[<- ByteArray.append_assoc] at h1;exact h1.mono yCg yCg
theorem ck.cat {α:Type}(f:α->ByteArray)(k:α->Nat):∀ {l:List α},(∀ a∈l,ck Any (f a) (k a) (64*k a))->ck Any (j3 f l) (l.map k).sum (64*(l.map k).sum)
 | [],_=>ck.nil _
 | a::r,h=>by
  rw[j3];have h1:=(h a mem_cons_self).an (ck.cat f k λ b hb=>h b (mem_cons_of_mem _ hb));exact h1.mono SO SO
theorem F3 (s:ByteArray)(h:(match bs s with | c::_=>isLet c | []=>false)=true/\(bs s).all gf=true/\(bs s).length<=16):dF s:=by
 refine⟨?_,h.2⟩;have h1:=h.1
 cases hb:bs s with
 | nil=>rw[hb] at h1;cases h1
 | cons c t=>
  rw[hb] at h1;exact⟨c,t,rfl,h1⟩
theorem nG_ok:∀ s∈nG,dF s:=λ s hs=>F3 s ((by decide:∀ s∈nG,(match bs s with | c::_=>isLet c | []=>false)=true/\(bs s).all gf=true/\(bs s).length<=16) s hs)
theorem nM_ok:∀ s∈nM,dF s:=λ s hs=>F3 s ((by decide:∀ s∈nM,(match bs s with | c::_=>isLet c | []=>false)=true/\(bs s).all gf=true/\(bs s).length<=16) s hs)
theorem nF_ok:∀ s∈nF,dF s:=λ s hs=>F3 s ((by decide:∀ s∈nF,(match bs s with | c::_=>isLet c | []=>false)=true/\(bs s).all gf=true/\(bs s).length<=16) s hs)
theorem nP_ok:∀ s∈nP,dF s:=λ s hs=>F3 s ((by decide:∀ s∈nP,(match bs s with | c::_=>isLet c | []=>false)=true/\(bs s).all gf=true/\(bs s).length<=16) s hs)
theorem AH {α:Type}{f:α->ByteArray}{l:List α}{ns:List ByteArray}(h:∀ s∈l.map f,s∈ns)(hn:∀ s∈ns,dF s):∀ a∈l,dF (f a):=λ _a ha=>hn _ (h _ (mem_map_of_mem ha))
theorem k9.ng {p:Pg}(h:k9 p):∀ g∈p.gs,dF g.name:=by
 obtain⟨k,_,hk⟩:=h.gn;exact AH (λ s hs=>by rw[hk] at hs;exact mem_of_mem_take hs) nG_ok
theorem k9.nm {p:Pg}(h:k9 p):∀ g∈p.ms,dF g.name:=by
 obtain⟨k,_,_,hk⟩:=h.mn;exact AH (λ s hs=>by rw[hk] at hs;exact mem_of_mem_take hs) nM_ok
theorem k9.nf {p:Pg}(h:k9 p):∀ g∈p.fs,dF g.name:=by
 obtain⟨k,_,_,hk⟩:=h.fn;exact AH (λ s hs=>by rw[hk] at hs;exact mem_of_mem_take hs) nF_ok
theorem k9.np {p:Pg}(h:k9 p):∀ f∈p.fs,∀ q∈f.params,dF q.name:=λ f hf=>by
 obtain⟨k,_,hk⟩:=h.pn f hf;exact AH (λ s hs=>by rw[hk,mem_reverse] at hs;exact mem_of_mem_take hs) nP_ok
theorem k9.nv {p:Pg}(h:k9 p):∀ f∈p.fs,∀ s∈jS p.gs f.params,dF s:=λ f hf s hs=>by
 rcases wZ hs with hs | hs
 ·rw[mem_map] at hs;obtain⟨g,hg,rfl⟩:=hs;exact h.ng g hg
 ·rw[mem_map] at hs;obtain⟨g,hg,rfl⟩:=hs;exact h.np f hf g hg
theorem ck.fu {p:Pg}(h:k9 p){f:Fu}(hf:f∈p.fs):ck Any (Iv f) (12+bV f.body) (64*(12+bV f.body)):=by
 have hb:=(ck.lines (ms:=p.ms) (fs:=p.fs.map λ f=>(f.name,f.params)) (ps:=f.params) h.nm (λ x hx=>by
  rw[mem_map] at hx;obtain⟨g,hg,rfl⟩:=hx;exact h.nf g hg) (h.np f hf)).2 f.body 2 (jS p.gs f.params) rv (h.nv f hf) ⟨by decide,by decide⟩ (h.bd f hf)
 obtain⟨k,hk,U7⟩:=h.pn f hf;have hlen:f.params.length<=2:=by
  have:=congrArg length U7;simp[nP] at this;omega
 have Wm:ck Any ⟨#[102,117,110,99,32]⟩ 1 17:=qd [102,117,110,99] _ rfl ⟨⟨_,_,rfl,by decide⟩,by decide,by decide⟩;have ho:ck Any ⟨#[41,32,123,10]⟩ 2 4:=⟨Nat.le_refl _,λ _ _ _ hl=>Lx.Ay R1 R1 (Lx.sp R1 (Lx.Ay R1 R1 (Lx.sp R1 hl)))⟩;have hc:ck Any ⟨#[125,10]⟩ 1 2:=⟨Nat.le_refl _,λ _ _ _ hl=>Lx.Ay R1 R1 (Lx.sp R1 hl)⟩;unfold Iv;exact ((((((Wm.an (ck.nm (h.nf f hf))).st (jl 40 R1) 40 _ rfl R1).an (ck.pR true (h.np f hf))).st ho 41 _ rfl R1).an hb).an hc).mono yA yA
theorem Hc {α:Type}(l:List α)(c:Nat):(l.map λ _=>c).sum=c*l.length:=by
 induction l with
 | nil=>simp
 | cons _ r ih=>simp[ih,Nat.mul_add];omega
theorem sum_add {α:Type}(l:List α)(c:Nat)(f:α->Nat):(l.map λ a=>c+f a).sum=c*l.length+(l.map f).sum:=by
 induction l with
 | nil=>simp
 | cons a r ih=>simp[ih,Nat.mul_add];omega
theorem PF {p:Pg}(h:k9 p):Lx (bs (Hz p)) 4000/\(bs (Hz p)).length<=262144:=by
 have h1:=ck.cat Ot (λ _=>6) (l:=p.gs) λ g hg=>(ck.gl (h.ng g hg) (h.gi g hg)).mono (Nat.le_refl _) yA;have h2:=ck.cat MU (λ _=>7) (l:=p.ms) λ g hg=>(ck.mx (h.nm g hg) (h.mz g hg).1).mono (Nat.le_refl _) yA;have h3:=ck.cat Iv (λ f=>12+bV f.body) (l:=p.fs) λ g hg=>ck.fu h hg;rw[Hc] at h1 h2;rw[sum_add] at h3;have hw:=h.wt;obtain⟨k1,V6,e1⟩:=h.gn;obtain⟨k2,_,Xg,e2⟩:=h.mn;obtain⟨k3,_,hk3,e3⟩:=h.fn;have l1:=congrArg length e1;have l2:=congrArg length e2;have l3:=congrArg length e3;simp[nG] at l1;simp[nM] at l2;simp[nF] at l3;obtain⟨hb,hl⟩:=(h1.an h2).an h3;refine⟨?_,?_⟩
 ·have:=hl [] 0 trivial (.nil 0);rw[append_nil] at this;exact this.mono yA
 ·unfold Hz;omega
end Go.aJ
namespace Go.Proofs.YtlkmbdfhdknlgaaGreat
open Go.Can Go.aJ List Tryz
theorem jb (x y:ByteArray):mr .eql x y=some (.bool (decide (x=y))):=by
 have h:(x.toList == y.toList)=decide (x=y):=by
  rw[ByteArray.toList_eq,ByteArray.toList_eq,Bool.eq_iff_iff];simp only[beq_iff_eq,decide_eq_true_eq,Array.toList_inj];exact⟨λ h=>ByteArray.ext h,λ h=>by rw[h]⟩
 simp only[mr,h]
theorem j8 (x y:ByteArray):mr .neq x y=some (.bool (!decide (x=y))):=by
 have h:=jb x y;simp only[mr,Option.some.injEq,CV.bool.injEq] at h |-;rw[h]
theorem aA (x y:ByteArray)(h:x.size+y.size<=9223372036854775807):mr .add x y=some (.str (x++y)):=by
 simp only[mr,if_pos h]
theorem Ko (c:UInt8):isLet c=((decide ((97:Int)<=c.toNat) && decide ((c.toNat:Int)<=122)) || (decide ((65:Int)<=c.toNat) && decide ((c.toNat:Int)<=90)) || ((c.toNat:Int) == 95)):=by
 rw[Bool.eq_iff_iff];simp only[isLet,Bool.or_eq_true,Bool.and_eq_true,decide_eq_true_eq,beq_iff_eq];omega
theorem Kp (c:UInt8):dr c=(decide ((48:Int)<=c.toNat) && decide ((c.toNat:Int)<=57)):=by
 rw[Bool.eq_iff_iff];simp only[dr,Bool.and_eq_true,decide_eq_true_eq];omega
theorem mC (c:UInt8):ae prog 138 [.int .u8 c.toNat] (.bool (isLet c)):=by
 rw[Ko];generalize (c.toNat:Int)=n;refine ae.aE ah Tryz.func138 rfl Ix (by simp[Tryz.ntmps138]) rfl λ C hC RR=>?_;rw[Tryz.ntmps138] at hC;apply aq;simp[hC];by_cases h1:97<=n
 ·by_cases h2:n<=122
  ·apply aq;simp[hC,h1,h2];apply T.ret;apply aa.here;simp[Tryz.results138]
  ·have h3:65<=n:=by omega
   have h4:¬ n<=90:=by omega
   apply aq;simp[hC,h1,h2,h3,h4];apply T.ret;apply aa.here;simp[Tryz.results138]
 ·by_cases h3:65<=n
  ·by_cases h4:n<=90
   ·apply aq;simp[hC,h1,h3,h4];apply T.ret;apply aa.here;simp[Tryz.results138]
   ·apply aq;simp[hC,h1,h3,h4];apply T.ret;apply aa.here;simp[Tryz.results138]
  ·apply aq;simp[hC,h1,h3];apply T.ret;apply aa.here;simp[Tryz.results138]
theorem mN (c:UInt8):ae prog 139 [.int .u8 c.toNat] (.bool (dr c)):=by
 rw[Kp];generalize (c.toNat:Int)=n;refine ae.aE ah Tryz.func139 rfl Ix (by simp[Tryz.ntmps139]) rfl λ C hC RR=>?_;rw[Tryz.ntmps139] at hC;apply aq;simp[hC];by_cases h1:48<=n
 ·apply aq;simp[hC,h1];apply T.ret;apply aa.here;simp[Tryz.results139]
 ·apply aq;simp[hC,h1];apply T.ret;apply aa.here;simp[Tryz.results139]
def hasB (l:List ByteArray)(s:ByteArray):Bool:=l.any λ x=>decide (x=s)
theorem AR (l:List ByteArray)(s:ByteArray)(hl:l.length<=1000):ae prog 173 [strs l,.str s] (.bool (hasB l s)):=by
 refine ae.aE ah Tryz.func173 rfl Ix (by simp[Tryz.ntmps173]) rfl λ C hC RR=>?_;rw[Tryz.ntmps173] at hC;apply aq;simp[hC];apply aW;simp[hC];apply T.block;refine T.aH (λ m st=>∃ i:Nat,m=l.length-i/\i<=l.length/\hasB l s=hasB (l.drop i) s/\st=⟨[(5,I i),(0,strs l),(1,.str s)],[],0⟩) (n:=l.length) ?_ ?_
 ·refine aa.le (Le.env [5,0,1]) (aa.here ⟨0,by omega,by omega,by simp,?_⟩);simp
 ·rintro n st ⟨i,rfl,hi,hni,rfl⟩;by_cases Og:i<l.length
  ·have Qd:=ju Og;have hw:=cF ((i:Int)+1) yA yA;apply aW;simp[hC,strs,Og];refine gw ?_;simp;apply eN;apply aq;simp[hC,Og,Qd,jb];refine T.bu rfl (λ h=>?_) (λ h=>?_)
   ·have he:l.getD i eS=s:=by simpa [Og] using h
    apply aq;simp[hC];apply T.ret;apply aa.here;have hb:hasB l s=true:=by
     unfold hasB;rw[any_eq_true];exact⟨s,he ▸ jz Og eS,by simp⟩
    simp[Tryz.results173,hb]
   ·have he:¬ l.getD i eS=s:=by simpa [Og] using h
    apply T.skip;simp;apply aN;simp[hC,hw];refine⟨l.length-(i+1),by omega,?_⟩;refine aa.le (Le.env [5,0,1]) (aa.here ⟨i+1,rfl,by omega,?_,?_⟩)
    ·rw[hni,drop_eq_getElem_cons Og];have e2:l[i]=l.getD i eS:=by simp[Og]
     simp only[hasB,any_cons,e2,he,decide_false,Bool.false_or]
    ·simp
  ·have RU:i=l.length:=by omega
   have hb:hasB l s=false:=by rw[hni,RU,drop_length];rfl
   apply aW;simp[hC,strs,Og];refine a9 ?_;simp;apply T.exit;simp;apply aq;simp[hC];apply T.ret;apply aa.here;simp[Tryz.results173,hb]
def Pp:List ByteArray:=[⟨#[118,97,114]⟩,⟨#[109,117,116,101,120]⟩,⟨#[114,109,117,116,101,120]⟩,⟨#[102,117,110,99]⟩,⟨#[108,111,99,107]⟩,⟨#[117,110,108,111,99,107]⟩,⟨#[103,111]⟩,⟨#[105,102]⟩,⟨#[101,108,115,101]⟩,⟨#[119,104,105,108,101]⟩,⟨#[114,101,116,117,114,110]⟩]
theorem Mq:Pp.map bs=ua:=rfl
theorem QB {a b:ByteArray}(h:bs a=bs b):a=b:=by
 unfold bs at h;exact ByteArray.ext (Array.toList_inj.1 h)
theorem KB (s:ByteArray):hasB Pp s=decide (bs s∈ua):=by
 rw[Bool.eq_iff_iff,decide_eq_true_eq,<- Mq];unfold hasB;rw[any_eq_true,mem_map];constructor
 ·rintro⟨x,h1,h2⟩;exact⟨x,h1,by rw[of_decide_eq_true h2]⟩
 ·rintro⟨x,h1,h2⟩;exact⟨x,h1,by rw[QB h2];simp⟩
theorem uQ (s:ByteArray):ae prog 140 [.str s] (.bool (decide (bs s∈ua))):=by
 refine ae.aE ah Tryz.func140 rfl Ix (by simp[Tryz.ntmps140]) rfl λ C hC RR=>?_;rw[Tryz.ntmps140] at hC;apply aq;simp[hC];apply aq;simp[hC];refine TL.le (Le.dn (o:=0) rfl rfl) ?_;simp[cw];have h:=AR Pp s R1;rw[KB] at h;refine cX R2 (h) ?_;simp[hC];apply T.ret;apply aa.here;simp[Tryz.results140]
def dT (l:List UInt8):CV:=.ax (l.map λ x=>.int .u8 (x.toNat:Int)) l.length
theorem mc {l:List UInt8}{i:Nat}{c:UInt8}(h:l[i]? = some c):(l.map λ x=>CV.int .u8 (x.toNat:Int)).drop i=.int .u8 (c.toNat:Int)::(l.map λ x=>CV.int .u8 (x.toNat:Int)).drop (i+1):=by
 obtain⟨h1,h2⟩:=List.getElem?_eq_some_iff.1 h;rw[drop_eq_getElem_cons (by simpa using h1)];simp[h2]
theorem Nb (c:UInt8):ji c=((c.toNat:Int) == 32 || (c.toNat:Int) == 9 || (c.toNat:Int) == 10 || (c.toNat:Int) == 13):=by
 have h:∀ k:UInt8,(c == k)=((c.toNat:Int) == (k.toNat:Int)):=λ k=>by
  rw[Bool.eq_iff_iff,beq_iff_eq,beq_iff_eq];constructor
  ·intro h;rw[h]
  ·intro h;exact UInt8.toNat_inj.1 yA
 simp only[ji,h];rfl
theorem Jc {c:UInt8}{r:List UInt8}:sT (c::r)=if ji c=true then sT r+1 else 0:=by
 unfold sT;rw[takeWhile_cons];split<;>simp
theorem iI {l:List UInt8}{i:Nat}{c:UInt8}(h:l[i]? = some c):l.drop i=c::l.drop (i+1):=by
 obtain⟨h1,h2⟩:=List.getElem?_eq_some_iff.1 h;rw[drop_eq_getElem_cons h1,h2]
theorem FK (l:List UInt8)(Yq:Nat)(TJ:Yq<=l.length)(hl:l.length<=1000000)(Yp:∀ r,l.drop (Yq+sT (l.drop Yq))=47::r->r.head?≠some 47):ae prog 137 [dT l,I Yq] (I ((Yq+sT (l.drop Yq):Nat))):=by
 obtain⟨e,he⟩:∃ e,Yq+sT (l.drop Yq)=e:=⟨_,rfl⟩;rw[he] at Yp |-;refine ae.aE ah Tryz.func137 rfl Ix (by simp[Tryz.ntmps137]) rfl λ C hC RR=>?_;rw[Tryz.ntmps137] at hC;apply aq;simp[hC];apply eN;refine T.aH (λ m st=>∃ i:Nat,m=l.length-i/\i<=l.length/\i+sT (l.drop i)=e/\st=⟨[(0,dT l),(1,I i)],[],0⟩) (n:=l.length-Yq) ?_ ?_
 ·refine aa.le (Le.env [0,1]) (aa.here ⟨Yq,rfl,TJ,he,?_⟩);simp
 ·rintro n st ⟨i,rfl,hi,RU,rfl⟩;by_cases Og:i<l.length
  ·obtain⟨c,hc⟩:∃ c,l[i]? = some c:=⟨l[i],getElem?_eq_getElem Og⟩;have Qd:=mc hc;have hd:=iI hc;rw[hd,Jc] at RU;have hw:=cF ((i:Int)+1) yA yA;apply aW;simp[hC,dT,Og];refine gw ?_;simp;refine T.block (T.block ?_);refine T.cut (λ st=>st=⟨[(10,.bool (ji c)),(0,dT l),(1,I i)],[],0⟩) ?_ ?_
   ·rw[Nb];generalize (c.toNat:Int)=n at Qd;by_cases h1:n=32
    ·apply aN;simp[hC,h1,Og,Qd];refine aa.le (Le.env [10,0,1]) (aa.here ?_);simp[dT]
    have h1:(n == 32)=false:=by simp[h1]
    by_cases h2:n=9
    ·apply aN;simp[hC,h2,Og,Qd];refine aa.le (Le.env [10,0,1]) (aa.here ?_);simp[dT]
    have h2:(n == 9)=false:=by simp[h2]
    by_cases h3:n=10
    ·apply aN;simp[hC,h3,Og,Qd];refine aa.le (Le.env [10,0,1]) (aa.here ?_);simp[dT]
    have h3:(n == 10)=false:=by simp[h3]
    apply aN;simp[hC,h1,h2,h3,Og,Qd];refine aa.le (Le.env [10,0,1]) (aa.here ?_);simp[dT]
   ·rintro st rfl;refine T.bu rfl (λ h=>?_) (λ h=>?_)
    ·rw[h,if_pos rfl] at RU;apply aN;simp[hC,hw];refine⟨l.length-(i+1),by omega,?_⟩;refine aa.le (Le.env [0,1]) (aa.here ⟨i+1,rfl,by omega,by omega,?_⟩);simp[dT]
    ·have h':ji c=false:=by simpa using h
     rw[h',if_neg xr] at RU;have W3:e=i:=by omega
     subst W3;rw[hd] at Yp
          /- no comment -/
     refine T.cut (λ st=>st=⟨[(39,.bool false),(0,dT l),(1,I e)],[],0⟩) ?_ ?_
     ·by_cases h2:e+1<l.length
      ·obtain⟨c2,To⟩:∃ c2,l[e+1]? = some c2:=⟨l[e+1],getElem?_eq_getElem h2⟩;have Tt:=mc To;have Vt:=iI To;have Vx:(e:Int)+1<l.length:=by omega
       by_cases h4:(c.toNat:Int)=47
       ·have h5:¬ (c2.toNat:Int)=47:=by
         have hc47:c=47:=UInt8.toNat_inj.1 (by have:(47:UInt8).toNat=47:=rfl;omega);subst hc47;have Yp:=Yp _ rfl;rw[Vt] at Yp;have:c2≠47:=λ h=>Yp (by simp[h]);intro h;exact this (UInt8.toNat_inj.1 (by have:(47:UInt8).toNat=47:=rfl;omega))
        apply aN;simp[hC,h4,Og,Qd,hw,Vx,Tt,dT];refine aa.le (Le.env [39,0,1]) (aa.here ?_);simp[h5]
       ·have h4:((c.toNat:Int) == 47)=false:=by simp[h4]
        apply aN;simp[hC,h4,Og,Qd,hw,Vx,dT];refine aa.le (Le.env [39,0,1]) (aa.here ?_);simp
      ·have Vx:¬ (e:Int)+1<l.length:=by omega
       apply aN;simp[hC,hw,Vx,dT];refine aa.le (Le.env [39,0,1]) (aa.here ?_);simp
     ·rintro st rfl;refine a9 ?_;simp;apply aq;simp[hC];apply T.ret;apply aa.here;simp[Tryz.results137]
  ·have hie':i=l.length:=by omega
   have hee:e=i:=by
    rw[hie',drop_length] at RU;have:sT ([]:List UInt8)=0:=rfl;omega
   apply aW;simp[hC,dT,Og];refine a9 ?_;simp;apply T.exit;simp;apply aq;simp[hC];apply T.ret;apply aa.here;simp[Tryz.results137,hee]
theorem uz (w:List UInt8)(c:UInt8):l9 (w++[c])=10*l9 w+(c.toNat-48):=by simp[l9]
theorem Nq (w:List UInt8)(r:List UInt8):l9 w<=l9 (w++r):=by
 induction r generalizing w with
 | nil=>simp
 | cons c r ih=>
  have h1:=ih (w++[c]);rw[uz] at h1;rw[append_assoc] at h1;have:l9 w<=10*l9 w+(c.toNat-48):=by omega
  exact Nat.le_trans this h1
theorem yo (l:List UInt8)(hl:l.length<=1000000)(hd:l.all dr=true)(hv:l9 l<9223372036854775808):ae prog 141 [dT l] (I (l9 l)):=by
 refine ae.aE ah Tryz.func141 rfl Ix (by simp[Tryz.ntmps141]) rfl λ C hC RR=>?_;rw[Tryz.ntmps141] at hC;apply aq;simp[hC];apply aq;simp[hC];apply aW;simp[hC];apply T.block;refine T.aH (λ m st=>∃ i:Nat,m=l.length-i/\i<=l.length/\st=⟨[(4,I i),(3,I (l9 (l.take i))),(0,dT l)],[],0⟩) (n:=l.length) ?_ ?_
 ·refine aa.le (Le.env [4,3,0]) (aa.here ⟨0,by omega,by omega,?_⟩);simp[l9]
 ·rintro n st ⟨i,rfl,hi,rfl⟩;by_cases Og:i<l.length
  ·obtain⟨c,hc⟩:∃ c,l[i]? = some c:=⟨l[i],getElem?_eq_getElem Og⟩;have Qd:=mc hc;have R3:l.take (i+1)=l.take i++[c]:=by rw[take_add_one,hc];rfl
   have YX:48<=c.toNat/\c.toNat<=57:=by
    have:=all_eq_true.1 hd c (mem_of_getElem? hc)
    simpa [dr] using this
   have hle:=Nq (l.take (i+1)) (l.drop (i+1));rw[take_append_drop,R3,uz] at hle;have hw:=cF ((i:Int)+1) yA yA;generalize hdv:l9 (l.take i)=d at hle;have w1:IntKind.u8.wrap ((c.toNat:Int)-48)=(c.toNat:Int)-48:=IntWalk.u8_in _ yA;have w2:=cF ((c.toNat:Int)-48) yA yA;have w3:=cF (9223372036854775807-((c.toNat:Int)-48)) yA yA;have w4:(9223372036854775807-((c.toNat:Int)-48)).tdiv 10=(9223372036854775807-((c.toNat:Int)-48)) / 10:=Int.tdiv_eq_ediv_of_nonneg yA;have w5:=cF ((9223372036854775807-((c.toNat:Int)-48)) / 10) yA yA;have w6:=cF (10*(d:Int)) yA yA;have w7:=cF (10*(d:Int)+((c.toNat:Int)-48)) yA yA;have w8:¬ (9223372036854775807-((c.toNat:Int)-48)) / 10<(d:Int):=by omega
   apply aW;simp[hC,dT,Og];refine gw ?_;simp;apply eN;refine T.seq (T.DN ah ?_);simp[hC,Og,Qd,w1,w2];apply aW;simp[hC,w3,w4,w5];refine T.bu rfl (λ h=>?_) (λ h=>?_)
   ·simp at h;omega
   apply T.skip;simp;apply aN;simp[hC,w6,w7];apply aN;simp[hC,hw];refine⟨l.length-(i+1),by omega,?_⟩;refine aa.le (Le.env [4,3,0]) (aa.here ⟨i+1,rfl,by omega,?_⟩);rw[R3,uz,hdv];simp;omega
  ·have RU:i=l.length:=by omega
   apply aW;simp[hC,dT,Og];refine a9 ?_;simp;apply T.exit;simp;apply aq;simp[hC];apply T.ret;apply aa.here;simp[Tryz.results141,RU]
def O6:List ByteArray:=[⟨#[60,61]⟩,⟨#[62,61]⟩,⟨#[61,61]⟩,⟨#[33,61]⟩,⟨#[38,38]⟩,⟨#[124,124]⟩]
def ML:List ByteArray:=[⟨#[40]⟩,⟨#[41]⟩,⟨#[123]⟩,⟨#[125]⟩,⟨#[91]⟩,⟨#[93]⟩,⟨#[44]⟩,⟨#[59]⟩,⟨#[61]⟩,⟨#[43]⟩,⟨#[45]⟩,⟨#[42]⟩,⟨#[47]⟩,⟨#[37]⟩,⟨#[60]⟩,⟨#[62]⟩,⟨#[33]⟩]
theorem KA (a b:UInt8):hasB O6 ⟨#[a,b]⟩=decide ((a,b)∈s7):=by
 rw[Bool.eq_iff_iff,decide_eq_true_eq];simp only[hasB,O6,s7,any_cons,any_nil,Bool.or_eq_true,decide_eq_true_eq,ByteArray.mk.injEq,mem_cons,not_mem_nil,Prod.mk.injEq,Bool.false_eq_true];simp only[Array.mk.injEq,cons.injEq,and_true];constructor
 ·rintro (⟨rfl,rfl⟩ | ⟨rfl,rfl⟩ | ⟨rfl,rfl⟩ | ⟨rfl,rfl⟩ | ⟨rfl,rfl⟩ | ⟨rfl,rfl⟩ | h)<;>first | exact h.elim | simp
 ·rintro (⟨rfl,rfl⟩ | ⟨rfl,rfl⟩ | ⟨rfl,rfl⟩ | ⟨rfl,rfl⟩ | ⟨rfl,rfl⟩ | ⟨rfl,rfl⟩ | h)<;>first | exact h.elim | simp
theorem CW (a:UInt8):hasB ML ⟨#[a]⟩=decide (a∈nq):=by
 rw[Bool.eq_iff_iff,decide_eq_true_eq];simp only[hasB,ML,nq,any_cons,any_nil,Bool.or_eq_true,decide_eq_true_eq,ByteArray.mk.injEq,mem_cons,not_mem_nil,Bool.false_eq_true];simp only[Array.mk.injEq,cons.injEq,and_true];simp only[eq_comm]
theorem L2 (c:UInt8):(c.toNat:Int)<256:=by
 have:=c.toNat_lt;omega
theorem pe:∀ l:List UInt8,bytesOf (l.map λ x=>CV.int .u8 (x.toNat:Int))=some l
 | []=>rfl
 | c::r=>by
  have h:=L2 c;simp[bytesOf,pe r,h]
theorem Mh (l:List UInt8)(i:Nat)(Og:i<l.length)(hl:l.length<=1000000):ae prog 142 [dT l,I i] (I (vG (l.drop i))):=by
 obtain⟨c,hc⟩:∃ c,l[i]? = some c:=⟨l[i],getElem?_eq_getElem Og⟩;have Qd:=mc hc;have hd:=iI hc;have hw:=cF ((i:Int)+1) yA yA;have hw2:=cF ((i:Int)+2) yA yA;rw[hd];refine ae.aE ah Tryz.func142 rfl Ix (by simp[Tryz.ntmps142]) rfl λ C hC RR=>?_;rw[Tryz.ntmps142] at hC;apply aq;simp[hC];by_cases h2:i+1<l.length
 ·obtain⟨c2,To⟩:∃ c2,l[i+1]? = some c2:=⟨l[i+1],getElem?_eq_getElem h2⟩;have Tt:=mc To;have Vt:=iI To;rw[Vt];have Vx:(i:Int)+1<l.length:=by omega
  have h3:i+2<=l.length:=by omega
  have z2:(0:Int)<=(i:Int)+2:=by omega
  have t2:((i:Int)+2).toNat=i+2:=by omega
  have e2:i+2-i=2:=by omega
  refine T.seq (T.seq (T.DN ah ?_));simp[hC,dT,hw,hw2,Vx,h3,Qd,Tt,z2,t2,e2,L2];refine TL.le (Le.dn (o:=0) rfl rfl) ?_;simp[cw];have h:=AR O6 ⟨#[c,c2]⟩ R1;rw[KA] at h;refine TL.cM RT rfl rfl rfl rfl (bU.of rfl R2 (h)) (TL.go' ah ?_);simp[hC];refine T.bu rfl (λ h=>?_) (λ h=>?_)
  ·have h4:(c,c2)∈s7:=by simpa using h
   apply aq;simp[hC];apply T.ret;apply aa.here;simp[Tryz.results142,vG,h4]
  ·have h4:(c,c2)∉s7:=by simpa using h
   apply T.skip;simp;have hs:vG (c::c2::l.drop (i+1+1))=if c∈nq then 1 else 0:=by simp[vG,h4]
   rw[hs];clear hs;refine T.le (Le.trim [0,1,4] [] 0 xr yA) ?_;simp;have h1:i+1<=l.length:=by omega
   have z1:(0:Int)<=(i:Int)+1:=by omega
   have t1:((i:Int)+1).toNat=i+1:=by omega
   have e1:i+1-i=1:=by omega
   refine T.seq (T.seq (T.DN ah ?_));simp[hC,hw,h1,z1,t1,e1,Qd,L2];refine TL.le (Le.dn (o:=0) rfl rfl) ?_;simp[cw];have h:=AR ML ⟨#[c]⟩ R1;rw[CW] at h;refine cX R2 (h) ?_;simp;refine T.bu rfl (λ h=>?_) (λ h=>?_)
   ·have h5:c∈nq:=by simpa using h
    apply aq;simp[hC];apply T.ret;apply aa.here;simp[Tryz.results142,h5]
   ·have h5:c∉nq:=by simpa using h
    apply T.skip;simp;apply aq;simp[hC];apply T.ret;apply aa.here;simp[Tryz.results142,h5]
 ·have Vx:¬ (i:Int)+1<l.length:=by omega
  have Vt:l.drop (i+1)=[]:=drop_eq_nil_of_le yA;rw[Vt];have hs:vG [c]=if c∈nq then 1 else 0:=rfl
  rw[hs];clear hs;refine T.seq (T.seq (T.DN ah ?_));simp[hC,dT,hw,Vx];refine a9 ?_;simp;apply T.skip;simp;refine T.le (Le.trim [0,1,4] [] 0 xr yA) ?_;simp;have h1:i+1<=l.length:=by omega
  have z1:(0:Int)<=(i:Int)+1:=by omega
  have t1:((i:Int)+1).toNat=i+1:=by omega
  have e1:i+1-i=1:=by omega
  refine T.seq (T.seq (T.DN ah ?_));simp[hC,hw,h1,z1,t1,e1,Qd,L2];refine TL.le (Le.dn (o:=0) rfl rfl) ?_;simp[cw];have h:=AR ML ⟨#[c]⟩ R1;rw[CW] at h;refine cX R2 (h) ?_;simp;refine T.bu rfl (λ h=>?_) (λ h=>?_)
  ·have h5:c∈nq:=by simpa using h
   apply aq;simp[hC];apply T.ret;apply aa.here;simp[Tryz.results142,h5]
  ·have h5:c∉nq:=by simpa using h
   apply T.skip;simp;apply aq;simp[hC];apply T.ret;apply aa.here;simp[Tryz.results142,h5]
end Go.Proofs.YtlkmbdfhdknlgaaGreat
