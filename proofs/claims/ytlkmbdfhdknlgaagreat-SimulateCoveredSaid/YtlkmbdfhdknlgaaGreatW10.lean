/- Lemmas. -/
import Derived.Test.YtlkmbdfhdknlgaaGreatW09
namespace Go.aK
open Go.Can List
def I2 (ms:List Mx)(ps:List Pm)(vars:List ByteArray)(r:Rf):Prop:=
 (∃ m∈ms,r.name=m.name/\((r.index=none/\m.size=0)\/∃ e,r.index=some e/\0<m.size/\gC vars 1 e))\/(∃ p∈ps,p.mutex=true/\r.name=p.name/\r.index=none)
def ArW (ms:List Mx)(ps:List Pm)(vars:List ByteArray):Pm->Ar->Prop
 | p,.xF r=>p.mutex=true/\I2 ms ps vars r
 | p,.exp e=>p.mutex=false/\gC vars 2 e
def j0 (ms:List Mx)(ps:List Pm)(vars:List ByteArray):List Pm->List Ar->Prop
 | [],[]=>True
 | p::gp,a::l=>ArW ms ps vars p a/\j0 ms ps vars gp l
 | _,_=>False
def eJ:Sm->List ByteArray
 | .iU s _=>[s]
 | _=>[]
mutual
def eH (ms:List Mx)(fs:List (ByteArray×List Pm))(ps:List Pm):Nat->List ByteArray->Sm->Prop
 | _,V,.iU s e=>(∃ k,k<24/\s=gm k)/\s∉V/\gC V 2 e
 | _,V,.jx s e=>s∈V/\gC V 2 e
 | _,V,.eM _ s l=>∃ gp,(s,gp)∈fs/\j0 ms ps V gp l
 | _,V,.dS _ r=>I2 ms ps V r
 | 0,_,.mL _ _ _=>False
 | d+1,V,.mL e th el=>gC V 2 e/\dj ms fs ps d V th/\dj ms fs ps d V el
 | 0,_,.cX _ _=>False
 | d+1,V,.cX e th=>gC V 2 e/\dj ms fs ps d V th
 | _,_,.kj=>True
def dj (ms:List Mx)(fs:List (ByteArray×List Pm))(ps:List Pm):Nat->List ByteArray->List Sm->Prop
 | _,_,[]=>True
 | d,V,s::r=>eH ms fs ps d V s/\dj ms fs ps d (V++eJ s) r
end
mutual
def e9:Sm->Nat
 | .iU _ _=>24
 | .jx _ _=>24
 | .eM _ _ l=>8+20*l.length
 | .dS _ _=>12
 | .mL _ th el=>25+bY th+bY el
 | .cX _ th=>25+bY th
 | .kj=>8
def bY:List Sm->Nat
 | []=>0
 | s::r=>e9 s+bY r
end
theorem gC.mono {ns ns':List ByteArray}(h:∀ s∈ns,s∈ns'):∀ {d d':Nat} {e:Ex},d<=d'->gC ns d e->gC ns' d' e
 | _,_,.num n,_,hx=>by simpa [gC] using hx
 | _,_,.nm s,_,hx=>by simp only[gC] at hx |-;exact h s hx
 | d+1,d' + 1,.un k e,hd,hx=>by
  simp only[gC] at hx |-;exact⟨hx.1,gC.mono h (Nat.le_of_succ_le_succ hd) hx.2⟩
 | d+1,d' + 1,.bin k a b,hd,hx=>by
  simp only[gC] at hx |-;exact⟨hx.1,gC.mono h (Nat.le_of_succ_le_succ hd) hx.2.1,gC.mono h (Nat.le_of_succ_le_succ hd) hx.2.2⟩
 | d+1,0,.un k e,hd,_=>absurd hd yA
 | d+1,0,.bin k a b,hd,_=>absurd hd yA
 | 0,_,.un _ _,_,hx=>hx.elim
 | 0,_,.bin _ _ _,_,hx=>hx.elim
 | 0,_,.zero,_,hx=>hx.elim
 | 0,_,.loc _,_,hx=>hx.elim
 | 0,_,.jE _,_,hx=>hx.elim
 | _+1,_,.zero,_,hx=>hx.elim
 | _+1,_,.loc _,_,hx=>hx.elim
 | _+1,_,.jE _,_,hx=>hx.elim
theorem I2.mono {ms:List Mx}{ps:List Pm}{V V':List ByteArray}(h:∀ s∈V,s∈V'){r:Rf}(hr:I2 ms ps V r):I2 ms ps V' r:=by
 rcases hr with ⟨m,h1,h2,h3 | ⟨e,h3,h4,h5⟩⟩ | hr
 .exact .inl ⟨m,h1,h2,.inl h3⟩
 .exact .inl ⟨m,h1,h2,.inr ⟨e,h3,h4,h5.mono h (Nat.le_refl _)⟩⟩
 .exact .inr hr
theorem j0.mono {ms:List Mx}{ps:List Pm}{V V':List ByteArray}(h:∀ s∈V,s∈V'):∀ {gp:List Pm} {l:List Ar},j0 ms ps V gp l->j0 ms ps V' gp l
 | [],[],_=>trivial
 | p::gp,a::l,hx=>by
  simp only[j0] at hx |-;refine⟨?_,j0.mono h hx.2⟩
  cases a with
  | xF r=>exact⟨hx.1.1,hx.1.2.mono h⟩
  | exp e=>exact⟨hx.1.1,hx.1.2.mono h (Nat.le_refl _)⟩
 | [],_::_,hx=>hx.elim
 | _::_,[],hx=>hx.elim
theorem j0.len {ms:List Mx}{ps:List Pm}{V:List ByteArray}:∀ {gp:List Pm} {l:List Ar},j0 ms ps V gp l->l.length=gp.length
 | [],[],_=>rfl
 | p::gp,a::l,hx=>by
  simp only[j0] at hx;simp[j0.len hx.2]
 | [],_::_,hx=>hx.elim
 | _::_,[],hx=>hx.elim
def dR (l:List Sm):List ByteArray:=l.flatMap eJ
theorem dj.app {ms:List Mx}{fs:List (ByteArray×List Pm)}{ps:List Pm}{d:Nat}:∀ {a b:List Sm} {V:List ByteArray},dj ms fs ps d V a->dj ms fs ps d (V++dR a) b->dj ms fs ps d V (a++b)
 | [],b,V,_,hb=>by simpa [dR] using hb
 | s::r,b,V,ha,hb=>by
  simp only[dj,cons_append] at ha |-;refine⟨ha.1,dj.app ha.2 ?_⟩
  simpa [dR,append_assoc] using hb
theorem dj.up {ms:List Mx}{fs:List (ByteArray×List Pm)}{ps:List Pm}{a:List Sm}{V:List ByteArray}:∀ {d d':Nat},d<=d'->dj ms fs ps d V a->dj ms fs ps d' V a:=by
 suffices h:(∀ s:Sm,∀ V d d',d<=d'->eH ms fs ps d V s->eH ms fs ps d' V s)/\(∀ l:List Sm,∀ V d d',d<=d'->dj ms fs ps d V l->dj ms fs ps d' V l) from λ {d d'} hd hx=>h.2 a V d d' hd hx
 refine⟨λ s=>?_,λ l=>?_⟩
 .exact Sm.rec (motive_1:=λ s=>∀ V d d',d<=d'->eH ms fs ps d V s->eH ms fs ps d' V s) (motive_2:=λ l=>∀ V d d',d<=d'->dj ms fs ps d V l->dj ms fs ps d' V l)
   (λ s e V d d' _ hx=>by simpa [eH] using hx) (λ s e V d d' _ hx=>by simpa [eH] using hx) (λ g s l V d d' _ hx=>by simpa [eH] using hx) (λ u r V d d' _ hx=>by simpa [eH] using hx)
   (λ e th el h1 h2 V d d' hd hx=>by
    cases d with
    | zero=>simp[eH] at hx
    | succ d=>
     obtain⟨d',rfl⟩:∃ k,d'=k+1:=⟨d' - 1,by omega⟩;simp only[eH] at hx |-;exact⟨hx.1,h1 _ _ _ yA hx.2.1,h2 _ _ _ yA hx.2.2⟩)
   (λ e th h1 V d d' hd hx=>by
    cases d with
    | zero=>simp[eH] at hx
    | succ d=>
     obtain⟨d',rfl⟩:∃ k,d'=k+1:=⟨d' - 1,by omega⟩;simp only[eH] at hx |-;exact⟨hx.1,h1 _ _ _ yA hx.2⟩)
   (λ V d d' _ hx=>by simp[eH]) (λ V d d' _ hx=>by simp[dj])
   (λ s r h1 h2 V d d' hd hx=>by
    simp only[dj] at hx |-;exact⟨h1 _ _ _ hd hx.1,h2 _ _ _ hd hx.2⟩) s
 .exact Sm.rec_1 (motive_1:=λ s=>∀ V d d',d<=d'->eH ms fs ps d V s->eH ms fs ps d' V s) (motive_2:=λ l=>∀ V d d',d<=d'->dj ms fs ps d V l->dj ms fs ps d' V l)
   (λ s e V d d' _ hx=>by simpa [eH] using hx) (λ s e V d d' _ hx=>by simpa [eH] using hx) (λ g s l V d d' _ hx=>by simpa [eH] using hx) (λ u r V d d' _ hx=>by simpa [eH] using hx)
   (λ e th el h1 h2 V d d' hd hx=>by
    cases d with
    | zero=>simp[eH] at hx
    | succ d=>
     obtain⟨d',rfl⟩:∃ k,d'=k+1:=⟨d' - 1,by omega⟩;simp only[eH] at hx |-;exact⟨hx.1,h1 _ _ _ yA hx.2.1,h2 _ _ _ yA hx.2.2⟩)
   (λ e th h1 V d d' hd hx=>by
    cases d with
    | zero=>simp[eH] at hx
    | succ d=>
     obtain⟨d',rfl⟩:∃ k,d'=k+1:=⟨d' - 1,by omega⟩;simp only[eH] at hx |-;exact⟨hx.1,h1 _ _ _ yA hx.2⟩)
   (λ V d d' _ hx=>by simp[eH]) (λ V d d' _ hx=>by simp[dj])
   (λ s r h1 h2 V d d' hd hx=>by
    simp only[dj] at hx |-;exact⟨h1 _ _ _ hd hx.1,h2 _ _ _ hd hx.2⟩) l
theorem wZ:∀ a b:List Sm,bY (a++b)=bY a+bY b
 | [],b=>by simp[bY]
 | s::r,b=>by simp only[cons_append,bY,wZ r b];omega
theorem Fl (a b:List Sm):dR (a++b)=dR a++dR b:=by simp[dR]
theorem jV {α:Type}{l:List α}{i:Nat}(h:i<l.length)(d:α):l.getD i d∈l:=by
 simp[getD,getElem?_eq_getElem h]
theorem GD (L:List Int)(ns:List ByteArray)(d i:Nat):gC ns d (sJ L ns i).1:=by
 unfold sJ;split
 .rename_i h;simp only[gC];exact jV (dH _ _ h.1) _
 .simp only[gC];exact Nz _ _
theorem zS (L:List Int)(ns:List ByteArray):∀ d i:Nat,gC ns d (sS L ns d i).1
 | 0,i=>GD L ns 0 _
 | d+1,i=>by
  rw[sS];split
  .exact GD L ns _ _
  .split
   .simp only[gC];exact⟨Nat.mod_lt _ yA,zS L ns d _⟩
   .simp only[gC];exact⟨dH _ _ yA,zS L ns d _,zS L ns d _⟩
theorem sR (L:List Int)(ar:Bool)(vars:List ByteArray)(i:Nat):gC vars 2 (dJ L ar vars i).1:=by
 unfold dJ;split
 .refine (zS L vars _ _).mono (λ _ h=>h) ?_;have:=dH L i (show 0<2 by omega);omega
 .exact (zS L vars _ _).mono (λ _ h=>h) yA
theorem QN (L:List Int)(ar:Bool)(vars:List ByteArray)(size i:Nat)(hs:0<size)(hs2:size<=1000):gC vars 1 (qx L ar vars size i).1:=by
 unfold qx;split
 .exact zS _ _ _ _
 .simp only[gC];exact Nat.lt_of_lt_of_le (dH _ _ hs) yA
theorem AD (L:List Int)(ar:Bool)(ms:List Mx)(ps:List Pm)(vars:List ByteArray)(i:Nat)(hm:0<ms.length)(hz:∀ m∈ms,m.size<=1000):I2 ms ps vars (j6 L ar ms ps vars i).1:=by
 have hl:0<(cg ms ps).length:=by simp[cg];omega
 have hk:=dH L i hl;unfold j6;generalize cw L i (cg ms ps).length=k at hk;have Ux:∀ h:k.1<ms.length,(cg ms ps).getD k.1 eS=(ms[k.1]).name/\mg ms k.1=(ms[k.1]).size:=λ h=>by
  simp[cg,getD,mg,getElem?_append,h]
 split
 .rename_i h;obtain⟨e1,e2⟩:=Ux h.1;refine .inl ⟨ms[k.1],getElem_mem _,e1,.inr ⟨_,rfl,?_,?_⟩⟩
  .rw[<- e2];exact h.2
  .exact QN _ _ _ _ _ h.2 (by rw[e2];exact hz _ (getElem_mem _))
 .rename_i h;by_cases h1:k.1<ms.length
  .obtain⟨e1,e2⟩:=Ux h1;exact .inl ⟨ms[k.1],getElem_mem _,e1,.inl ⟨rfl,by omega⟩⟩
  .have h2:(cg ms ps).getD k.1 eS∈ps.flatMap IW:=by
    have h3:(cg ms ps).getD k.1 eS=(ps.flatMap IW).getD (k.1-ms.length) eS:=by
     simp only[cg,getD];rw[getElem?_append_right Tv];simp
    rw[h3];refine jV ?_ _;simp only[cg,length_append,length_map] at hk;omega
   rw[mem_flatMap] at h2;obtain⟨p,ZX,qa⟩:=h2;unfold IW at qa;split at qa
   .rename_i hp;refine .inr ⟨p,ZX,hp,?_,rfl⟩
    simpa using qa
   .simp at qa
theorem Bx (L:List Int)(ar:Bool)(ms:List Mx)(ps:List Pm)(vars:List ByteArray)(hm:0<ms.length)(hz:∀ m∈ms,m.size<=1000):∀ (gp:List Pm) (i:Nat),j0 ms ps vars gp (dC L ar ms ps vars gp i).1
 | [],_=>trivial
 | p::r,i=>by
  rw[dC];split
  .rename_i h;exact⟨⟨h,AD L ar ms ps vars i hm hz⟩,Bx L ar ms ps vars hm hz r _⟩
  .rename_i h;exact⟨⟨by simpa using h,sR L ar vars i⟩,Bx L ar ms ps vars hm hz r _⟩
def DW (V:List ByteArray)(left:Nat):Prop:=∀ k,k<left->gm k∉V
theorem gS (k:Nat):bs (gm k)=[118,UInt8.ofNat (97+k % 26),UInt8.ofNat (97+k / 26 % 26)]:=rfl
theorem Hn {j k:Nat}(hj:j<26)(hk:k<26)(h:gm j=gm k):j=k:=by
 have h1:=congrArg bs h;rw[gS,gS,Nat.mod_eq_of_lt hj,Nat.mod_eq_of_lt hk] at h1;simp only[cons.injEq,true_and] at h1;have h2:=congrArg UInt8.toNat h1.1;simp only[UInt8.toNat_ofNat'] at h2;omega
def IQ (w:Wr)(ps:List Pm)(N:Nat)(rec:Rec):Prop:=∀ vars deep most i left V,left<=N->left<=24->(∀ s∈vars,s∈V)->DW V left ->
 dj w.ms w.fs ps deep V (rec vars deep most i left).1/\DW (V++dR (rec vars deep most i left).1) (rec vars deep most i left).2.2/\(rec vars deep most i left).2.2<=left/\
 bY (rec vars deep most i left).1+48*(rec vars deep most i left).2.2<=48*left
structure Su (w:Wr)(ps:List Pm)(deep left:Nat)(V:List ByteArray)(b:PF):Prop where
 w:dj w.ms w.fs ps deep V b.out
 v:∀ s∈b.vars,s∈V++dR b.out
 l:DW (V++dR b.out) b.left
 n:b.left<=left
 k:bY b.out+48*b.left<=48*(left+1)
section
variable {w:Wr}{ps:List Pm}{rec:Rec}(hm:0<w.ms.length)(hz:∀ m∈w.ms,m.size<=1000)(hf:0<w.fs.length)(V7:∀ f∈w.fs,f.2.length<=2)
include hm hz
omit hm hz in
theorem Cz {s:Sm}{vars V:List ByteArray}{deep i left:Nat}(hv:∀ x∈vars,x∈V)(hl:DW V left)(hs:eH w.ms w.fs ps deep V s)(hd:eJ s=[])(hk:e9 s<=48):Su w ps deep left V ⟨[s],vars,i,left⟩:=by
 refine⟨⟨hs,trivial⟩,?_,?_,Nat.le_refl _,?_⟩
 .simpa [dR,hd] using hv
 .simpa [dR,hd] using hl
 .simp only[bY];omega
theorem Lw {N:Nat}(h:IQ w ps N rec){vars V:List ByteArray}(hv:∀ s∈vars,s∈V){deep i left:Nat}(hN:left<=N)(X7:left<=24)(hl:DW V left):Su w ps deep left V (Dp w rec ps vars i left):=by
 have hr:=AD w.L w.ar w.ms ps vars i hm hz;obtain⟨h1,h2,h3,h4⟩:=h vars 0 2 (j6 w.L w.ar w.ms ps vars i).2 left V hN X7 hv hl;unfold Dp;refine⟨?_,?_,?_,h3,?_⟩
 .simp only[cons_append,dj,eJ,append_nil];refine⟨by simp only[eH];exact hr.mono hv,dj.app (h1.up (Nat.zero_le _)) ?_⟩;simp only[dj,eH,and_true];exact hr.mono λ s hs=>mem_append_left _ (hv s hs)
 .intro s hs;exact mem_append_left _ (hv s hs)
 .simpa [dR,eJ] using h2
 .simp only[cons_append,bY,e9,wZ];omega
include hf V7 in
theorem G9 {vars V:List ByteArray}(hv:∀ s∈vars,s∈V){deep i left:Nat}(go:Bool)(hl:DW V left):Su w ps deep left V (iJ w ps vars go i left):=by
 have P1:=dH w.L i hf;have hg:=jV P1 (eS,[]);unfold iJ;generalize hgg:w.fs.getD (cw w.L i w.fs.length).1 (eS,[])=g at hg;have ha:=Bx w.L w.ar w.ms ps vars hm hz g.2 (cw w.L i w.fs.length).2;refine Cz hv hl ?_ rfl ?_
 .simp only[eH];exact⟨g.2,hg,ha.mono hv⟩
 .simp only[e9,ha.len];have:=V7 g hg;omega
omit hm hz in
theorem ifS_w {N:Nat}(h:IQ w ps N rec){vars V:List ByteArray}(hv:∀ s∈vars,s∈V){deep i left:Nat}(UQ:0<deep)(hN:left<=N)(X7:left<=24)(hl:DW V left):Su w ps deep left V (Se w rec vars deep i left):=by
 have he:=sR w.L w.ar vars i;obtain⟨d,rfl⟩:∃ d,deep=d+1:=⟨deep-1,by omega⟩;unfold Se;simp only[Nat.add_sub_cancel];obtain⟨h1,h2,h3,h4⟩:=h vars d 3 (dJ w.L w.ar vars i).2 left V hN X7 hv hl;generalize rec vars d 3 (dJ w.L w.ar vars i).2 left=th at h1 h2 h3 h4;have TO:DW V th.2.2:=λ k hk=>hl k yA;split
 .obtain⟨g1,g2,g3,g4⟩:=h vars d 3 (cw w.L th.2.1 2).2 th.2.2 V yA yA hv TO;generalize rec vars d 3 (cw w.L th.2.1 2).2 th.2.2=el at g1 g2 g3 g4;have hl3:DW V el.2.2:=λ k hk=>hl k yA;refine⟨?_,?_,?_,Nat.le_trans g3 h3,?_⟩
  .simp only[dj,eH,and_true];exact⟨he.mono hv (Nat.le_refl _),h1,g1⟩
  .simpa [dR,eJ] using hv
  .simpa [dR,eJ] using hl3
  .simp only[bY,e9];omega
 .refine⟨?_,?_,?_,by omega,?_⟩
  .simp only[dj,eH,and_true];exact⟨he.mono hv (Nat.le_refl _),h1⟩
  .simpa [dR,eJ] using hv
  .simpa [dR,eJ] using TO
  .simp only[bY,e9];omega
omit hm hz in
theorem whS_w {N:Nat}(h:IQ w ps N rec){vars V:List ByteArray}(hv:∀ s∈vars,s∈V){deep i left:Nat}(UQ:0<deep)(hN:left<=N)(X7:left<=24)(hl:DW V left):Su w ps deep left V (Rq w rec vars deep i left):=by
 have he:=sR w.L w.ar vars i;obtain⟨d,rfl⟩:∃ d,deep=d+1:=⟨deep-1,by omega⟩;unfold Rq;simp only[Nat.add_sub_cancel];obtain⟨h1,h2,h3,h4⟩:=h vars d 3 (dJ w.L w.ar vars i).2 left V hN X7 hv hl;generalize rec vars d 3 (dJ w.L w.ar vars i).2 left=th at h1 h2 h3 h4;have hl3:DW V th.2.2:=λ k hk=>hl k yA;refine⟨?_,?_,?_,by omega,?_⟩
 .simp only[dj,eH,and_true];exact⟨he.mono hv (Nat.le_refl _),h1⟩
 .simpa [dR,eJ] using hv
 .simpa [dR,eJ] using hl3
 .simp only[bY,e9];omega
include hf V7 in
theorem stS_w {N:Nat}(h:IQ w ps N rec){vars V:List ByteArray}(hv:∀ s∈vars,s∈V){deep i left:Nat}(hN:left<=N)(X7:left<24)(hl:DW V (left+1)):Su w ps deep left V (BG w rec ps vars deep i left):=by
 have TO:DW V left:=λ k hk=>hl k yA;unfold BG;simp only;split
 .exact Cz hv TO ((AD _ _ _ ps _ _ hm hz).mono hv) rfl (by simp[e9])
 split
 .exact Cz hv TO ((AD _ _ _ ps _ _ hm hz).mono hv) rfl (by simp[e9])
 split
 .refine⟨?_,?_,?_,Nat.le_refl _,?_⟩
  .simp only[dj,eH,and_true];exact⟨⟨left,X7,rfl⟩,hl left yA,(sR _ _ _ _).mono hv (Nat.le_refl _)⟩
  .intro s hs;simp only[mem_append,mem_singleton] at hs;simp only[dR,flatMap_cons,flatMap_nil,eJ,append_nil,mem_append,mem_singleton];exact hs.imp (hv s) id
  .intro k hk hc;simp only[dR,flatMap_cons,flatMap_nil,eJ,append_nil,mem_append,mem_singleton] at hc;rcases hc with hc | hc
   .exact TO k hk hc
   .have X0:k<left:=hk;have:=Hn yA yA hc;omega
  .simp only[bY,e9];omega
 split
 .rename_i h8;refine Cz hv TO ?_ rfl (by simp[e9]);simp only[eH];exact⟨hv _ (jV (dH _ _ h8.2) _),(sR _ _ _ _).mono hv (Nat.le_refl _)⟩
 split
 .exact G9 hm hz hf V7 hv _ TO
 split
 .exact G9 hm hz hf V7 hv _ TO
 split
 .rename_i h9;exact ifS_w h hv h9.2 hN yA TO
 split
 .rename_i h9;exact whS_w h hv h9.2 hN yA TO
 split
 .exact Cz hv TO (by simp[eH]) rfl (by simp[e9])
 split
 .exact Lw hm hz h hv hN yA TO
 .exact Lw hm hz h hv hN yA TO
include hf V7 in
theorem OX {N:Nat}(h:IQ w ps N rec)(deep:Nat):∀ (n:Nat) (vars:List ByteArray) (i left:Nat) (V:List ByteArray),left<=N+1->left<=24->(∀ s∈vars,s∈V)->DW V left ->
  dj w.ms w.fs ps deep V (vp w rec ps deep n vars i left).1/\DW (V++dR (vp w rec ps deep n vars i left).1) (vp w rec ps deep n vars i left).2.2/\(vp w rec ps deep n vars i left).2.2<=left/\
  bY (vp w rec ps deep n vars i left).1+48*(vp w rec ps deep n vars i left).2.2<=48*left
 | 0,vars,i,left,V,hN,X7,hv,hl=>by
  simp only[vp,dj,bY];exact⟨trivial,by simpa [dR] using hl,Nat.le_refl _,by omega⟩
 | n+1,vars,i,left,V,hN,X7,hv,hl=>by
  rw[vp];split
  .simp only[dj,bY];exact⟨trivial,by simpa [dR] using hl,Nat.le_refl _,by omega⟩
  .obtain⟨lf,rfl⟩:∃ lf,left=lf+1:=⟨left-1,by omega⟩;have hs:=stS_w hm hz hf V7 h (deep:=deep) (i:=i) hv yA yA hl;simp only[Nat.add_sub_cancel];generalize BG w rec ps vars deep i lf=b at hs;have:=hs.n;obtain⟨g1,g2,g3,g4⟩:=OX h deep n b.vars b.i b.left (V++dR b.out) yA yA hs.v hs.l;refine⟨dj.app hs.w g1,?_,by omega,?_⟩
   .rw[Fl,<- append_assoc];exact g2
   .rw[wZ];have:=hs.k;omega
include hf V7 in
theorem LW:∀ f:Nat,IQ w ps f (oQ w ps f)
 | 0=>λ vars deep most i left V hN X7 hv hl=>by
  obtain rfl:left=0:=by omega
  simp only[oQ,dj,bY];exact⟨trivial,by simpa [dR] using hl,Nat.le_refl _,by omega⟩
 | f+1=>λ vars deep most i left V hN X7 hv hl=>OX hm hz hf V7 (LW f) deep _ vars _ left V yA X7 hv hl
end
def nG:List ByteArray:=[⟨#[103,48]⟩,⟨#[103,49]⟩]
def nM:List ByteArray:=[⟨#[97]⟩,⟨#[98]⟩,⟨#[99]⟩,⟨#[100]⟩]
def nF:List ByteArray:=[⟨#[109,97,105,110]⟩,⟨#[102,49]⟩,⟨#[102,50]⟩,⟨#[102,51]⟩]
def nP:List ByteArray:=[⟨#[112,49]⟩,⟨#[112,50]⟩]
structure lN (p:Pg):Prop where
 gn:∃ k,k<=2/\p.gs.map (·.name)=nG.take k
 gi:∀ g∈p.gs,-2<=g.init/\g.init<=2
 mn:∃ k,1<=k/\k<=4/\p.ms.map (·.name)=nM.take k
 mz:∀ m∈p.ms,m.size<=3/\(m.re=true->m.size=0)
 fn:∃ k,1<=k/\k<=4/\p.fs.map (·.name)=nF.take k
 f0:∀ f,p.fs[0]? = some f->f.params=[]
 pn:∀ f∈p.fs,∃ k,k<=2/\f.params.map (·.name)=(nP.take k).reverse
 bd:∀ f∈p.fs,dj p.ms (p.fs.map λ f=>(f.name,f.params)) f.params 2 (ku p.gs f.params) f.body
 wt:(p.fs.map λ f=>bY f.body).sum<=1152
theorem CG (L:List Int):∀ (n j i:Nat),j+n<=4->(ue L n j i).1.map (·.name)=(nM.drop j).take n/\(ue L n j i).1.length=n/\(∀ m∈(ue L n j i).1,m.size<=3/\(m.re=true->m.size=0))/\(i<=L.length->(ue L n j i).2<=L.length)
 | 0,j,i,h=>⟨by simp[ue],by simp[ue],by simp[ue],λ h=>h⟩
 | n+1,j,i,h=>by
  have hd:nM.drop j=eR (97+j)::nM.drop (j+1):=by
   match j,h with
   | 0,_=>rfl
   | 1,_=>rfl
   | 2,_=>rfl
   | 3,_=>rfl
   | j+4,h=>omega
  rw[hd,take_succ_cons,ue];have h3:=dH L (cw L i 5).2 (show 0<3 by omega);split
  .obtain⟨i1,i2,i3,i4⟩:=CG L n (j+1) (cw L i 5).2 yA;refine⟨by simp[i1],by simp[i2],?_,λ h=>i4 (bq _ _ h)⟩;intro m hm;rcases mem_cons.1 hm with rfl | hm
   .exact⟨by simp,λ _=>rfl⟩
   .exact i3 m hm
  split
  .obtain⟨i1,i2,i3,i4⟩:=CG L n (j+1) (cw L (cw L i 5).2 3).2 yA;refine⟨by simp[i1],by simp[i2],?_,λ h=>i4 (bq _ _ (bq _ _ h))⟩;intro m hm;rcases mem_cons.1 hm with rfl | hm
   .exact⟨by simp only;omega,λ h=>by cases h⟩
   .exact i3 m hm
  .obtain⟨i1,i2,i3,i4⟩:=CG L n (j+1) (cw L i 5).2 yA;refine⟨by simp[i1],by simp[i2],?_,λ h=>i4 (bq _ _ h)⟩;intro m hm;rcases mem_cons.1 hm with rfl | hm
   .exact⟨by simp,λ _=>rfl⟩
   .exact i3 m hm
theorem La (L:List Int):∀ (n j i:Nat),j+n<=2->(yV L n j i).1.map (·.name)=(nG.drop j).take n/\(yV L n j i).1.length=n/\(∀ g∈(yV L n j i).1,-2<=g.init/\g.init<=2)/\(i<=L.length->(yV L n j i).2<=L.length)
 | 0,j,i,h=>⟨by simp[yV],by simp[yV],by simp[yV],λ h=>h⟩
 | n+1,j,i,h=>by
  have hd:nG.drop j=(⟨#[103]⟩++eR (48+j))::nG.drop (j+1):=by
   match j,h with
   | 0,_=>rfl
   | 1,_=>rfl
   | j+2,h=>omega
  rw[hd,take_succ_cons,yV];have h3:=dH L i (show 0<5 by omega);obtain⟨i1,i2,i3,i4⟩:=La L n (j+1) (cw L i 5).2 yA;refine⟨by simp[i1],by simp[i2],?_,λ h=>i4 (bq _ _ h)⟩;intro m hm;rcases mem_cons.1 hm with rfl | hm
  .simp only;omega
  .exact i3 m hm
theorem J8 (L:List Int):∀ (n i:Nat),n<=2->(Gd L n i).1.map (·.name)=(nP.take n).reverse/\(Gd L n i).1.length=n/\(i<=L.length->(Gd L n i).2<=L.length)
 | 0,i,_=>⟨rfl,rfl,λ h=>h⟩
 | n+1,i,h=>by
  have hd:(nP.take (n+1)).reverse=(⟨#[112]⟩++eR (48+(n+1)))::(nP.take n).reverse:=by
   match n,h with
   | 0,_=>rfl
   | 1,_=>rfl
   | n+2,h=>omega
  obtain⟨i1,i2,i3⟩:=J8 L n (cw L i 3).2 yA;rw[hd,Gd];exact⟨by simp[i1],by simp[i2],λ h=>i3 (bq _ _ h)⟩
theorem Lb (L:List Int):∀ (n j i:Nat),j+n<=4->(xT L n j i).1.map (·.name)=(nF.drop j).take n/\(xT L n j i).1.length=n/\(∀ f∈(xT L n j i).1,f.body=[]/\∃ k,k<=2/\f.params.map (·.name)=(nP.take k).reverse)/\(j=0->∀ f,(xT L n j i).1[0]? = some f->f.params=[])/\(i<=L.length->(xT L n j i).2<=L.length)
 | 0,j,i,h=>⟨by simp[xT],by simp[xT],by simp[xT],by simp[xT],λ h=>h⟩
 | n+1,j,i,h=>by
  have hd:nF.drop j=(if j=0 then ⟨#[109,97,105,110]⟩ else ⟨#[102]⟩++eR (48+j))::nF.drop (j+1):=by
   match j,h with
   | 0,_=>rfl
   | 1,_=>rfl
   | 2,_=>rfl
   | 3,_=>rfl
   | j+4,h=>omega
  rw[hd,take_succ_cons,xT];simp only;have hk:(if j=0 then 0 else (cw L i 3).1)<=2:=by
   have:=dH L i (show 0<3 by omega);split<;>omega
  obtain⟨p1,p2,p3⟩:=J8 L (if j=0 then 0 else (cw L i 3).1) (cw L i 3).2 hk;obtain⟨i1,i2,i3,i4,i5⟩:=Lb L n (j+1) (Gd L (if j=0 then 0 else (cw L i 3).1) (cw L i 3).2).2 yA;refine⟨by simp only[map_cons,i1],by simp[i2],?_,?_,λ h=>i5 (p3 (bq _ _ h))⟩
  .intro f hf;rcases mem_cons.1 hf with rfl | hf
   .exact⟨rfl,_,hk,p1⟩
   .exact i3 f hf
  .intro hj f hf;simp only[getElem?_cons_zero,Option.some.injEq] at hf;subst hf;simp[hj,Gd]
theorem xA {gs:List Gl}{ps:List Pm}{s:ByteArray}(h:s∈ku gs ps):s∈gs.map (·.name)\/s∈ps.map (·.name):=by
 simp only[ku,mem_append,mem_flatMap] at h;rcases h with h | ⟨p,h1,h2⟩
 .exact .inl h
 .split at h2
  .simp at h2
  .simp only[mem_singleton] at h2;exact .inr (h2 ▸ mem_map_of_mem h1)
theorem u7:∀ k,k<24->gm k∉nG/\gm k∉nM/\gm k∉nF/\gm k∉nP:=by
 intro k hk;have h:∀ s∈nG++nM++nF++nP,(bs s).length≠3\/(bs s)[0]?≠some 118:=by decide
 have h2:∀ s∈nG++nM++nF++nP,gm k≠s:=by
  rintro s hs rfl;have:=h _ hs;rw[gS] at this;simp at this
 refine⟨λ h=>h2 _ (by simp[h]) rfl,λ h=>h2 _ (by simp[h]) rfl,λ h=>h2 _ (by simp[h]) rfl,λ h=>h2 _ (by simp[h]) rfl⟩
theorem MU {l:List Fu}{j:Nat}{f:Fu}(hf:l[j]? = some f)(f':Fu)(hb:f.body=[]):((l.set j f').map λ f=>bY f.body).sum=(l.map λ f=>bY f.body).sum+bY f'.body:=by
 induction l generalizing j with
 | nil=>simp at hf
 | cons a r ih=>
  cases j with
  | zero=>
   simp only[getElem?_cons_zero,Option.some.injEq] at hf;subst hf;simp[hb,bY];omega
  | succ j=>
   simp only[getElem?_cons_succ] at hf;simp only[set_cons_succ,map_cons,sum_cons,ih hf];omega
def sg (f:Fu):ByteArray×List Pm:=(f.name,f.params)
theorem JN {l:List Fu}{j:Nat}{f f':Fu}(hf:l[j]? = some f)(h:sg f'=sg f):(l.set j f').map sg=l.map sg:=by
 rw[map_set,h];refine ext_getElem? λ i=>?_;rw[getElem?_set];split
 .rename_i e;subst e;have hl:j<l.length:=(List.getElem?_eq_some_iff.1 hf).1;simp[hl,(List.getElem?_eq_some_iff.1 hf).2]
 .rfl
theorem Pq (w:Wr)(gs:List Gl)(hm:0<w.ms.length)(hz:∀ m∈w.ms,m.size<=1000)(hf:0<w.fs.length)(V7:∀ f∈w.fs,f.2.length<=2)(Wz:∀ ps:List Pm,(∃ nm,(nm,ps)∈w.fs)->DW (ku gs ps) 24) :
  ∀ (n j:Nat) (fs:List Fu) (i left:Nat),fs.map sg=w.fs->(∀ k f,fs[k]? = some f->j<=k->f.body=[])->left<=24->i<=w.L.length ->
  (Ov w gs n j fs i left).map sg=w.fs/\(∀ k f,(Ov w gs n j fs i left)[k]? = some f->(j<=k->k<j+n->dj w.ms w.fs f.params 2 (ku gs f.params) f.body)/\(k<j\/j+n<=k->fs[k]? = some f))/\
  ((Ov w gs n j fs i left).map λ f=>bY f.body).sum<=(fs.map λ f=>bY f.body).sum+48*left
 | 0,j,fs,i,left,h1,h2,h3,h4=>⟨h1,λ k f hk=>⟨λ a b=>absurd a yA,λ _=>hk⟩,Nat.le_add_right _ _⟩
 | n+1,j,fs,i,left,h1,h2,h3,h4=>by
  rw[Ov];split
  .rename_i hn;refine⟨h1,λ k f hk=>⟨λ a b=>?_,λ _=>hk⟩,Nat.le_add_right _ _⟩;rw[List.getElem?_eq_none_iff] at hn;have:=(List.getElem?_eq_some_iff.1 hk).1;omega
  .rename_i f Z4;simp only;have Ub:(f.name,f.params)∈w.fs:=by
    rw[<- h1];exact mem_map_of_mem (f:=sg) (mem_of_getElem? Z4)
   have hb:=LW (w:=w) (ps:=f.params) hm hz hf V7 left (ku gs f.params) 2 6 i left (ku gs f.params) (Nat.le_refl _) h3 (λ _ h=>h) (λ k hk=>Wz _ ⟨_,Ub⟩ k yA);obtain⟨hbi,_⟩:=wG w f.params left (ku gs f.params) 2 6 i left h4;generalize oQ w f.params left (ku gs f.params) 2 6 i left=b at hb hbi;obtain⟨b1,b2,b3,b4⟩:=hb;have hs1:(fs.set j ⟨f.name,f.params,b.1⟩).map sg=w.fs:=by rw[JN (f':=⟨f.name,f.params,b.1⟩) Z4 rfl,h1]
   have hlj:j<fs.length:=(List.getElem?_eq_some_iff.1 Z4).1;obtain⟨r1,r2,r3⟩:=Pq w gs hm hz hf V7 Wz n (j+1) (fs.set j ⟨f.name,f.params,b.1⟩) b.2.1 b.2.2 hs1 (λ k f' hk hjk=>by
    rw[getElem?_set,if_neg yA] at hk;exact h2 k f' hk yA) yA hbi
   refine⟨r1,λ k f' hk=>?_,?_⟩
   .obtain⟨q1,q2⟩:=r2 k f' hk;refine⟨λ a c=>?_,λ a=>?_⟩
    .by_cases hkj:k=j
     .subst hkj;have:=q2 (.inl yA);rw[getElem?_set,if_pos rfl,if_pos hlj] at this;simp only[Option.some.injEq] at this;subst this;exact b1
     .exact q1 yA yA
    .have:=q2 yA;rw[getElem?_set,if_neg yA] at this;exact this
   .have hs:=MU Z4 ⟨f.name,f.params,b.1⟩ (h2 j f Z4 (Nat.le_refl _));rw[hs] at r3;simp only at r3;omega
theorem OW (l:List Int):lN (D0 l):=by
 unfold D0;simp only;generalize l.take 400=L;have ha:=bq L 3 (Nat.zero_le L.length);generalize cw L 0 3=a at ha;have Tu:=bq L 4 ha;have hnm2:=dH L a.2 (show 0<4 by omega);generalize cw L a.2 4=nm at Tu hnm2;obtain⟨m1,m2,m3,m4⟩:=CG L (1+nm.1) 0 nm.2 yA;generalize ue L (1+nm.1) 0 nm.2=ms at m1 m2 m3 m4;have Vs:=bq L 3 (m4 Tu);have Zq:=dH L ms.2 (show 0<3 by omega);generalize cw L ms.2 3=ng at Vs Zq;obtain⟨g1,g2,g3,g4⟩:=La L ng.1 0 ng.2 yA;generalize yV L ng.1 0 ng.2=gs at g1 g2 g3 g4;have hnf:=bq L 4 (g4 Vs);have hnf2:=dH L gs.2 (show 0<4 by omega);generalize cw L gs.2 4=nf at hnf hnf2;obtain⟨f1,f2,f3,f4,f5⟩:=Lb L (nf.1+1) 0 nf.2 yA;generalize xT L (nf.1+1) 0 nf.2=fs at f1 f2 f3 f4 f5;have Tx:∀ f∈fs.1,f.params.length<=2:=λ f hf=>by
  obtain⟨_,k,h1,h2⟩:=f3 f hf;have:=congrArg length h2;simp[nP] at this;omega
 have Wz:∀ ps:List Pm,(∃ nm,(nm,ps)∈fs.1.map sg)->DW (ku gs.1 ps) 24:=by
  rintro ps ⟨x,hx⟩ k hk hc;obtain⟨v1,_,_,v4⟩:=u7 k hk;rw[mem_map] at hx;obtain⟨f,hf,he⟩:=hx;rcases xA hc with h | h
  .rw[g1] at h;exact v1 (mem_of_mem_take UA)
  .have Uk:ps=f.params:=by
    simp only[sg,Prod.mk.injEq] at he;exact he.2.symm
   obtain⟨_,q,_,h2⟩:=f3 f hf;rw[Uk,h2] at h;exact v4 (mem_of_mem_take UA)
 obtain⟨r1,r2,r3⟩:=Pq ⟨L,decide (a.1=1),ms.1,fs.1.map λ f=>(f.name,f.params)⟩ gs.1 yBx (λ m hm=>by have:=(m3 m hm).1;omega) Tv
  (λ f hf=>by
   simp only[mem_map] at hf;obtain⟨f',h1,rfl⟩:=hf;exact Tx f' h1) Wz (nf.1+1) 0 fs.1 fs.2 24 rfl (λ k f hk _=>(f3 f (mem_of_getElem? hk)).1) (Nat.le_refl _) (f5 hnf)
 generalize Ov ⟨L,decide (a.1=1),ms.1,fs.1.map λ f=>(f.name,f.params)⟩ gs.1 (nf.1+1) 0 fs.1 fs.2 24=F at r1 r2 r3;have Ux:∀ (k:Nat) (f:Fu),F[k]? = some f->∃ f0:Fu,fs.1[k]? = some f0/\f0.name=f.name/\f0.params=f.params:=by
  intro k f hk;have h1:(F.map sg)[k]? = some (sg f):=by simp[hk]
  rw[r1] at h1;simp only[getElem?_map,Option.map_eq_some_iff] at h1;obtain⟨f0,h2,h3⟩:=h1;simp only[sg,Prod.mk.injEq] at h3;exact⟨f0,h2,h3.1,h3.2⟩
 have hlenF:F.length=nf.1+1:=by
  have:=congrArg length r1;simp at this;omega
 refine⟨⟨ng.1,by omega,by simpa using g1⟩,g3,⟨1+nm.1,by omega,by omega,by simpa using m1⟩,m3,⟨nf.1+1,by omega,by omega,?_⟩,?_,?_,?_,?_⟩
 .have h1:=congrArg (map Prod.fst) r1;have h2:(F.map sg).map Prod.fst=F.map (·.name):=by simp[sg]
  rw[h2] at h1;show F.map (·.name)=_;rw[h1]
  simpa [Function.comp_def] using f1
 .intro f hf;obtain⟨f0,h1,h2,h3⟩:=Ux 0 f hf;rw[<- h3];exact f4 rfl f0 h1
 .intro f hf;obtain⟨k,hk⟩:=getElem?_of_mem hf;obtain⟨f0,h1,h2,h3⟩:=Ux k f hk;rw[<- h3];exact (f3 f0 (mem_of_getElem? h1)).2
 .intro f hf;obtain⟨k,hk⟩:=getElem?_of_mem hf;have SO:k<F.length:=(List.getElem?_eq_some_iff.1 hk).1;have:=(r2 k f hk).1 (Nat.zero_le _) yA;show dj ms.1 (F.map sg) _ _ _ _;rw[r1];exact this
 .have h0:(fs.1.map λ f=>bY f.body).sum=0:=by
   have hz:∀ l:List Fu,(∀ f∈l,f.body=[])->(l.map λ f=>bY f.body).sum=0:=by
    intro l
    induction l with
    | nil=>intro _;rfl
    | cons a r ih=>
     intro h;simp only[map_cons,sum_cons,h a mem_cons_self,ih λ f hf=>h f (mem_cons_of_mem _ hf),bY]
   exact hz _ λ f hf=>(f3 f hf).1
  rw[h0] at r3;omega
end Go.aK
