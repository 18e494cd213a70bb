/- Programs of the right form -/
import Derived.Test.YtlkmbdfhdknlgaaGreatZ18
namespace Go.aJ
open Go.Can List
def Iz (ms:List Mx)(ps:List Pm)(vars:List ByteArray)(r:Rf):Prop:=
 (∃ m∈ms,r.name=m.name/\((r.index=none/\m.size=0)\/∃ e,r.index=some e/\0<m.size/\gu vars 1 e))\/(∃ p∈ps,p.mutex=true/\r.name=p.name/\r.index=none)
def ArW (ms:List Mx)(ps:List Pm)(vars:List ByteArray):Pm->Ar->Prop
 | p,.xf r=>p.mutex=true/\Iz ms ps vars r
 | p,.exp e=>p.mutex=false/\gu vars 2 e
def jD (ms:List Mx)(ps:List Pm)(vars:List ByteArray):List Pm->List Ar->Prop
 | [],[]=>True
 | p::gp,a::l=>ArW ms ps vars p a/\jD ms ps vars gp l
 | _,_=>False
def eH:Sm->List ByteArray
 | .iz s _=>[s]
 | _=>[]
mutual
def eD (ms:List Mx)(fs:List (ByteArray×List Pm))(ps:List Pm):Nat->List ByteArray->Sm->Prop
 | _,V,.iz s e=>(∃ k,k<24/\s=fY k)/\s∉V/\gu V 2 e
 | _,V,.jd s e=>s∈V/\gu V 2 e
 | _,V,.eJ _ s l=>∃ gp,(s,gp)∈fs/\jD ms ps V gp l
 | _,V,.dP _ r=>Iz ms ps V r
 | 0,_,.mf _ _ _=>False
 | d+1,V,.mf e th el=>gu V 2 e/\df ms fs ps d V th/\df ms fs ps d V el
 | 0,_,.cS _ _=>False
 | d+1,V,.cS e th=>gu V 2 e/\df ms fs ps d V th
 | _,_,.jP=>True
def df (ms:List Mx)(fs:List (ByteArray×List Pm))(ps:List Pm):Nat->List ByteArray->List Sm->Prop
 | _,_,[]=>True
 | d,V,s::r=>eD ms fs ps d V s/\df ms fs ps d (V++eH s) r
end
mutual
def fc:Sm->Nat
 | .iz _ _=>24
 | .jd _ _=>24
 | .eJ _ _ l=>8+20*l.length
 | .dP _ _=>12
 | .mf _ th el=>25+bV th+bV el
 | .cS _ th=>25+bV th
 | .jP=>8
def bV:List Sm->Nat
 | []=>0
 | s::r=>fc s+bV r
end
theorem gu.mono {ns ns':List ByteArray}(h:∀ s∈ns,s∈ns'):∀ {d d':Nat} {e:Ex},d<=d'->gu ns d e->gu ns' d' e
 | _,_,.num n,_,hx=>by simpa [gu] using hx
 | _,_,.nm s,_,hx=>by simp only[gu] at hx |-;exact h s hx
 | d+1,d' + 1,.un k e,hd,hx=>by
  simp only[gu] at hx |-;exact⟨hx.1,gu.mono h (Nat.le_of_succ_le_succ hd) hx.2⟩
 | d+1,d' + 1,.bin k a b,hd,hx=>by
  simp only[gu] at hx |-;exact⟨hx.1,gu.mono h (Nat.le_of_succ_le_succ hd) hx.2.1,gu.mono h (Nat.le_of_succ_le_succ hd) hx.2.2⟩
 | d+1,0,.un k e,hd,_=>absurd hd yA
 | d+1,0,.bin k a b,hd,_=>absurd hd yA
 | 0,_,.un _ _,_,hx=>hx.elim
 | 0,_,.bin _ _ _,_,hx=>hx.elim
 | 0,_,.zero,_,hx=>hx.elim
 | 0,_,.loc _,_,hx=>hx.elim
 | 0,_,.jk _,_,hx=>hx.elim
 | _+1,_,.zero,_,hx=>hx.elim
 | _+1,_,.loc _,_,hx=>hx.elim
 | _+1,_,.jk _,_,hx=>hx.elim
theorem Iz.mono {ms:List Mx}{ps:List Pm}{V V':List ByteArray}(h:∀ s∈V,s∈V'){r:Rf}(hr:Iz ms ps V r):Iz ms ps V' r:=by
 rcases hr with ⟨m,h1,h2,h3 | ⟨e,h3,h4,h5⟩⟩ | hr
 ·exact .inl ⟨m,h1,h2,.inl h3⟩
 ·exact .inl ⟨m,h1,h2,.inr ⟨e,h3,h4,h5.mono h (Nat.le_refl _)⟩⟩
 ·exact .inr hr
theorem jD.mono {ms:List Mx}{ps:List Pm}{V V':List ByteArray}(h:∀ s∈V,s∈V'):∀ {gp:List Pm} {l:List Ar},jD ms ps V gp l->jD ms ps V' gp l
 | [],[],_=>trivial
 | p::gp,a::l,hx=>by
  simp only[jD] at hx |-;refine⟨?_,jD.mono h hx.2⟩
  cases a with
  | xf r=>exact⟨hx.1.1,hx.1.2.mono h⟩
  | exp e=>exact⟨hx.1.1,hx.1.2.mono h (Nat.le_refl _)⟩
 | [],_::_,hx=>hx.elim
 | _::_,[],hx=>hx.elim
theorem jD.len {ms:List Mx}{ps:List Pm}{V:List ByteArray}:∀ {gp:List Pm} {l:List Ar},jD ms ps V gp l->l.length=gp.length
 | [],[],_=>rfl
 | p::gp,a::l,hx=>by
  simp only[jD] at hx;simp[jD.len hx.2]
 | [],_::_,hx=>hx.elim
 | _::_,[],hx=>hx.elim
def dO (l:List Sm):List ByteArray:=l.flatMap eH
theorem df.app {ms:List Mx}{fs:List (ByteArray×List Pm)}{ps:List Pm}{d:Nat}:∀ {a b:List Sm} {V:List ByteArray},df ms fs ps d V a->df ms fs ps d (V++dO a) b->df ms fs ps d V (a++b)
 | [],b,V,_,hb=>by simpa [dO] using hb
 | s::r,b,V,ha,hb=>by
  simp only[df,cons_append] at ha |-;refine⟨ha.1,df.app ha.2 ?_⟩
  simpa [dO,append_assoc] using hb
theorem df.up {ms:List Mx}{fs:List (ByteArray×List Pm)}{ps:List Pm}{a:List Sm}{V:List ByteArray}:∀ {d d':Nat},d<=d'->df ms fs ps d V a->df ms fs ps d' V a:=by
 suffices h:(∀ s:Sm,∀ V d d',d<=d'->eD ms fs ps d V s->eD ms fs ps d' V s)/\(∀ l:List Sm,∀ V d d',d<=d'->df ms fs ps d V l->df ms fs ps d' V l) from λ {d d'} hd hx=>h.2 a V d d' hd hx
 refine⟨λ s=>?_,λ l=>?_⟩
 ·exact Sm.rec (motive_1:=λ s=>∀ V d d',d<=d'->eD ms fs ps d V s->eD ms fs ps d' V s) (motive_2:=λ l=>∀ V d d',d<=d'->df ms fs ps d V l->df ms fs ps d' V l)
   (λ s e V d d' _ hx=>by simpa [eD] using hx) (λ s e V d d' _ hx=>by simpa [eD] using hx) (λ g s l V d d' _ hx=>by simpa [eD] using hx) (λ u r V d d' _ hx=>by simpa [eD] using hx)
   (λ e th el h1 h2 V d d' hd hx=>by
    cases d with
    | zero=>simp[eD] at hx
    | succ d=>
     obtain⟨d',rfl⟩:∃ k,d'=k+1:=⟨d' - 1,by omega⟩;simp only[eD] at hx |-;exact⟨hx.1,h1 _ _ _ yA hx.2.1,h2 _ _ _ yA hx.2.2⟩)
   (λ e th h1 V d d' hd hx=>by
    cases d with
    | zero=>simp[eD] at hx
    | succ d=>
     obtain⟨d',rfl⟩:∃ k,d'=k+1:=⟨d' - 1,by omega⟩;simp only[eD] at hx |-;exact⟨hx.1,h1 _ _ _ yA hx.2⟩)
   (λ V d d' _ hx=>by simp[eD]) (λ V d d' _ hx=>by simp[df])
   (λ s r h1 h2 V d d' hd hx=>by
    simp only[df] at hx |-;exact⟨h1 _ _ _ hd hx.1,h2 _ _ _ hd hx.2⟩) s
 ·exact Sm.rec_1 (motive_1:=λ s=>∀ V d d',d<=d'->eD ms fs ps d V s->eD ms fs ps d' V s) (motive_2:=λ l=>∀ V d d',d<=d'->df ms fs ps d V l->df ms fs ps d' V l)
   (λ s e V d d' _ hx=>by simpa [eD] using hx) (λ s e V d d' _ hx=>by simpa [eD] using hx) (λ g s l V d d' _ hx=>by simpa [eD] using hx) (λ u r V d d' _ hx=>by simpa [eD] using hx)
   (λ e th el h1 h2 V d d' hd hx=>by
    cases d with
    | zero=>simp[eD] at hx
    | succ d=>
     obtain⟨d',rfl⟩:∃ k,d'=k+1:=⟨d' - 1,by omega⟩;simp only[eD] at hx |-;exact⟨hx.1,h1 _ _ _ yA hx.2.1,h2 _ _ _ yA hx.2.2⟩)
   (λ e th h1 V d d' hd hx=>by
    cases d with
    | zero=>simp[eD] at hx
    | succ d=>
     obtain⟨d',rfl⟩:∃ k,d'=k+1:=⟨d' - 1,by omega⟩;simp only[eD] at hx |-;exact⟨hx.1,h1 _ _ _ yA hx.2⟩)
   (λ V d d' _ hx=>by simp[eD]) (λ V d d' _ hx=>by simp[df])
   (λ s r h1 h2 V d d' hd hx=>by
    simp only[df] at hx |-;exact⟨h1 _ _ _ hd hx.1,h2 _ _ _ hd hx.2⟩) l
theorem wA:∀ a b:List Sm,bV (a++b)=bV a+bV b
 | [],b=>by simp[bV]
 | s::r,b=>by simp only[cons_append,bV,wA r b];omega
theorem E1 (a b:List Sm):dO (a++b)=dO a++dO b:=by simp[dO]
theorem jz {α:Type}{l:List α}{i:Nat}(h:i<l.length)(d:α):l.getD i d∈l:=by
 simp[getD,getElem?_eq_getElem h]
theorem Ge (L:List Int)(ns:List ByteArray)(d i:Nat):gu ns d (sb L ns i).1:=by
 unfold sb;split
 ·rename_i h;simp only[gu];exact jz (dE _ _ h.1) _
 ·simp only[gu];exact MQ _ _
theorem zC (L:List Int)(ns:List ByteArray):∀ d i:Nat,gu ns d (su L ns d i).1
 | 0,i=>Ge L ns 0 _
 | d+1,i=>by
  rw[su];split
  ·exact Ge L ns _ _
  ·split
   ·simp only[gu];exact⟨Nat.mod_lt _ yA,zC L ns d _⟩
   ·simp only[gu];exact⟨dE _ _ yA,zC L ns d _,zC L ns d _⟩
theorem ss (L:List Int)(ar:Bool)(vars:List ByteArray)(i:Nat):gu vars 2 (dH L ar vars i).1:=by
 unfold dH;split
 ·refine (zC L vars _ _).mono (λ _ h=>h) ?_;have:=dE L i (show 0<2 by omega);omega
 ·exact (zC L vars _ _).mono (λ _ h=>h) yA
theorem P9 (L:List Int)(ar:Bool)(vars:List ByteArray)(size i:Nat)(hs:0<size)(ZY:size<=1000):gu vars 1 (qa L ar vars size i).1:=by
 unfold qa;split
 ·exact zC _ _ _ _
 ·simp only[gu];exact Nat.lt_of_lt_of_le (dE _ _ hs) yA
theorem As (L:List Int)(ar:Bool)(ms:List Mx)(ps:List Pm)(vars:List ByteArray)(i:Nat)(hm:0<ms.length)(hz:∀ m∈ms,m.size<=1000):Iz ms ps vars (jH L ar ms ps vars i).1:=by
 have hl:0<(cd ms ps).length:=by simp[cd];omega
 have hk:=dE L i hl;unfold jH;generalize cq L i (cd ms ps).length=k at hk;have TW:∀ h:k.1<ms.length,(cd ms ps).getD k.1 eS=(ms[k.1]).name/\lM ms k.1=(ms[k.1]).size:=λ h=>by
  simp[cd,getD,lM,getElem?_append,h]
 split
 ·rename_i h;obtain⟨e1,e2⟩:=TW h.1;refine .inl ⟨ms[k.1],getElem_mem _,e1,.inr ⟨_,rfl,?_,?_⟩⟩
  ·rw[<- e2];exact h.2
  ·exact P9 _ _ _ _ _ h.2 (by rw[e2];exact hz _ (getElem_mem _))
 ·rename_i h;by_cases h1:k.1<ms.length
  ·obtain⟨e1,e2⟩:=TW h1;exact .inl ⟨ms[k.1],getElem_mem _,e1,.inl ⟨rfl,by omega⟩⟩
  ·have h2:(cd ms ps).getD k.1 eS∈ps.flatMap Ir:=by
    have h3:(cd ms ps).getD k.1 eS=(ps.flatMap Ir).getD (k.1-ms.length) eS:=by
     simp only[cd,getD];rw[getElem?_append_right SO];simp
    rw[h3];refine jz ?_ _;simp only[cd,length_append,length_map] at hk;omega
   rw[mem_flatMap] at h2;obtain⟨p,Zj,iw⟩:=h2;unfold Ir at iw;split at iw
   ·rename_i hp;refine .inr ⟨p,Zj,hp,?_,rfl⟩
    simpa using iw
   ·simp at iw
theorem Bo (L:List Int)(ar:Bool)(ms:List Mx)(ps:List Pm)(vars:List ByteArray)(hm:0<ms.length)(hz:∀ m∈ms,m.size<=1000):∀ (gp:List Pm) (i:Nat),jD ms ps vars gp (dx L ar ms ps vars gp i).1
 | [],_=>trivial
 | p::r,i=>by
  rw[dx];split
  ·rename_i h;exact⟨⟨h,As L ar ms ps vars i hm hz⟩,Bo L ar ms ps vars hm hz r _⟩
  ·rename_i h;exact⟨⟨by simpa using h,ss L ar vars i⟩,Bo L ar ms ps vars hm hz r _⟩
def DI (V:List ByteArray)(left:Nat):Prop:=∀ k,k<left->fY k∉V
theorem gL (k:Nat):bs (fY k)=[118,UInt8.ofNat (97+k % 26),UInt8.ofNat (97+k / 26 % 26)]:=rfl
theorem G5 {j k:Nat}(hj:j<26)(hk:k<26)(h:fY j=fY k):j=k:=by
 have h1:=congrArg bs h;rw[gL,gL,Nat.mod_eq_of_lt hj,Nat.mod_eq_of_lt hk] at h1;simp only[cons.injEq,true_and] at h1;have h2:=congrArg UInt8.toNat h1.1;simp only[UInt8.toNat_ofNat'] at h2;omega
def Im (w:Wr)(ps:List Pm)(N:Nat)(rec:Rec):Prop:=∀ vars deep most i left V,left<=N->left<=24->(∀ s∈vars,s∈V)->DI V left ->
 df w.ms w.fs ps deep V (rec vars deep most i left).1/\DI (V++dO (rec vars deep most i left).1) (rec vars deep most i left).2.2/\(rec vars deep most i left).2.2<=left/\
 bV (rec vars deep most i left).1+48*(rec vars deep most i left).2.2<=48*left
structure RP (w:Wr)(ps:List Pm)(deep left:Nat)(V:List ByteArray)(b:OW):Prop where
 w:df w.ms w.fs ps deep V b.out
 v:∀ s∈b.vars,s∈V++dO b.out
 l:DI (V++dO b.out) b.left
 n:b.left<=left
 k:bV b.out+48*b.left<=48*(left+1)
section
variable {w:Wr}{ps:List Pm}{rec:Rec}(hm:0<w.ms.length)(hz:∀ m∈w.ms,m.size<=1000)(hf:0<w.fs.length)(Vr:∀ f∈w.fs,f.2.length<=2)
include hm hz
omit hm hz in
theorem Co {s:Sm}{vars V:List ByteArray}{deep i left:Nat}(hv:∀ x∈vars,x∈V)(hl:DI V left)(hs:eD w.ms w.fs ps deep V s)(hd:eH s=[])(hk:fc s<=48):RP w ps deep left V ⟨[s],vars,i,left⟩:=by
 refine⟨⟨hs,trivial⟩,?_,?_,Nat.le_refl _,?_⟩
 ·simpa [dO,hd] using hv
 ·simpa [dO,hd] using hl
 ·simp only[bV];omega
theorem KZ {N:Nat}(h:Im w ps N rec){vars V:List ByteArray}(hv:∀ s∈vars,s∈V){deep i left:Nat}(hN:left<=N)(Xn:left<=24)(hl:DI V left):RP w ps deep left V (De w rec ps vars i left):=by
 have hr:=As w.L w.ar w.ms ps vars i hm hz;obtain⟨h1,h2,h3,h4⟩:=h vars 0 2 (jH w.L w.ar w.ms ps vars i).2 left V hN Xn hv hl;unfold De;refine⟨?_,?_,?_,h3,?_⟩
 ·simp only[cons_append,df,eH,append_nil];refine⟨by simp only[eD];exact hr.mono hv,df.app (h1.up (Nat.zero_le _)) ?_⟩;simp only[df,eD,and_true];exact hr.mono λ s hs=>mem_append_left _ (hv s hs)
 ·intro s hs;exact mem_append_left _ (hv s hs)
 ·simpa [dO,eH] using h2
 ·simp only[cons_append,bV,fc,wA];omega
include hf Vr in
theorem GO {vars V:List ByteArray}(hv:∀ s∈vars,s∈V){deep i left:Nat}(go:Bool)(hl:DI V left):RP w ps deep left V (iq w ps vars go i left):=by
 have RS:=dE w.L i hf;have hg:=jz RS (eS,[]);unfold iq;generalize hgg:w.fs.getD (cq w.L i w.fs.length).1 (eS,[])=g at hg;have ha:=Bo w.L w.ar w.ms ps vars hm hz g.2 (cq w.L i w.fs.length).2;refine Co hv hl ?_ rfl ?_
 ·simp only[eD];exact⟨g.2,hg,ha.mono hv⟩
 ·simp only[fc,ha.len];have:=Vr g hg;omega
omit hm hz in
theorem ifS_w {N:Nat}(h:Im w ps N rec){vars V:List ByteArray}(hv:∀ s∈vars,s∈V){deep i left:Nat}(UL:0<deep)(hN:left<=N)(Xn:left<=24)(hl:DI V left):RP w ps deep left V (RA w rec vars deep i left):=by
 have he:=ss w.L w.ar vars i;obtain⟨d,rfl⟩:∃ d,deep=d+1:=⟨deep-1,by omega⟩;unfold RA;simp only[Nat.add_sub_cancel];obtain⟨h1,h2,h3,h4⟩:=h vars d 3 (dH w.L w.ar vars i).2 left V hN Xn hv hl;generalize rec vars d 3 (dH w.L w.ar vars i).2 left=th at h1 h2 h3 h4;have S8:DI V th.2.2:=λ k hk=>hl k yA;split
 ·obtain⟨g1,g2,g3,g4⟩:=h vars d 3 (cq w.L th.2.1 2).2 th.2.2 V yA yA hv S8;generalize rec vars d 3 (cq w.L th.2.1 2).2 th.2.2=el at g1 g2 g3 g4;have hl3:DI V el.2.2:=λ k hk=>hl k yA;refine⟨?_,?_,?_,Nat.le_trans g3 h3,?_⟩
  ·simp only[df,eD,and_true];exact⟨he.mono hv (Nat.le_refl _),h1,g1⟩
  ·simpa [dO,eH] using hv
  ·simpa [dO,eH] using hl3
  ·simp only[bV,fc];omega
 ·refine⟨?_,?_,?_,by omega,?_⟩
  ·simp only[df,eD,and_true];exact⟨he.mono hv (Nat.le_refl _),h1⟩
  ·simpa [dO,eH] using hv
  ·simpa [dO,eH] using S8
  ·simp only[bV,fc];omega
omit hm hz in
theorem whS_w {N:Nat}(h:Im w ps N rec){vars V:List ByteArray}(hv:∀ s∈vars,s∈V){deep i left:Nat}(UL:0<deep)(hN:left<=N)(Xn:left<=24)(hl:DI V left):RP w ps deep left V (QO w rec vars deep i left):=by
 have he:=ss w.L w.ar vars i;obtain⟨d,rfl⟩:∃ d,deep=d+1:=⟨deep-1,by omega⟩;unfold QO;simp only[Nat.add_sub_cancel];obtain⟨h1,h2,h3,h4⟩:=h vars d 3 (dH w.L w.ar vars i).2 left V hN Xn hv hl;generalize rec vars d 3 (dH w.L w.ar vars i).2 left=th at h1 h2 h3 h4;have hl3:DI V th.2.2:=λ k hk=>hl k yA;refine⟨?_,?_,?_,by omega,?_⟩
 ·simp only[df,eD,and_true];exact⟨he.mono hv (Nat.le_refl _),h1⟩
 ·simpa [dO,eH] using hv
 ·simpa [dO,eH] using hl3
 ·simp only[bV,fc];omega
include hf Vr in
theorem stS_w {N:Nat}(h:Im w ps N rec){vars V:List ByteArray}(hv:∀ s∈vars,s∈V){deep i left:Nat}(hN:left<=N)(Xn:left<24)(hl:DI V (left+1)):RP w ps deep left V (Bx w rec ps vars deep i left):=by
 have S8:DI V left:=λ k hk=>hl k yA;unfold Bx;simp only;split
 ·exact Co hv S8 ((As _ _ _ ps _ _ hm hz).mono hv) rfl (by simp[fc])
 split
 ·exact Co hv S8 ((As _ _ _ ps _ _ hm hz).mono hv) rfl (by simp[fc])
 split
 ·refine⟨?_,?_,?_,Nat.le_refl _,?_⟩
  ·simp only[df,eD,and_true];exact⟨⟨left,Xn,rfl⟩,hl left yA,(ss _ _ _ _).mono hv (Nat.le_refl _)⟩
  ·intro s hs;simp only[mem_append,mem_singleton] at hs;simp only[dO,flatMap_cons,flatMap_nil,eH,append_nil,mem_append,mem_singleton];exact hs.imp (hv s) id
  ·intro k hk hc;simp only[dO,flatMap_cons,flatMap_nil,eH,append_nil,mem_append,mem_singleton] at hc;rcases hc with hc | hc
   ·exact S8 k hk hc
   ·have Xg:k<left:=hk;have:=G5 yA yA hc;omega
  ·simp only[bV,fc];omega
 split
 ·rename_i h8;refine Co hv S8 ?_ rfl (by simp[fc]);simp only[eD];exact⟨hv _ (jz (dE _ _ h8.2) _),(ss _ _ _ _).mono hv (Nat.le_refl _)⟩
 split
 ·exact GO hm hz hf Vr hv _ S8
 split
 ·exact GO hm hz hf Vr hv _ S8
 split
 ·rename_i h9;exact ifS_w h hv h9.2 hN yA S8
 split
 ·rename_i h9;exact whS_w h hv h9.2 hN yA S8
 split
 ·exact Co hv S8 (by simp[eD]) rfl (by simp[fc])
 split
 ·exact KZ hm hz h hv hN yA S8
 ·exact KZ hm hz h hv hN yA S8
include hf Vr in
theorem Oe {N:Nat}(h:Im w ps N rec)(deep:Nat):∀ (n:Nat) (vars:List ByteArray) (i left:Nat) (V:List ByteArray),left<=N+1->left<=24->(∀ s∈vars,s∈V)->DI V left ->
  df w.ms w.fs ps deep V (uZ w rec ps deep n vars i left).1/\DI (V++dO (uZ w rec ps deep n vars i left).1) (uZ w rec ps deep n vars i left).2.2/\(uZ w rec ps deep n vars i left).2.2<=left/\
  bV (uZ w rec ps deep n vars i left).1+48*(uZ w rec ps deep n vars i left).2.2<=48*left
 | 0,vars,i,left,V,hN,Xn,hv,hl=>by
  simp only[uZ,df,bV];exact⟨trivial,by simpa [dO] using hl,Nat.le_refl _,by omega⟩
 | n+1,vars,i,left,V,hN,Xn,hv,hl=>by
  rw[uZ];split
  ·simp only[df,bV];exact⟨trivial,by simpa [dO] using hl,Nat.le_refl _,by omega⟩
  ·obtain⟨lf,rfl⟩:∃ lf,left=lf+1:=⟨left-1,by omega⟩;have hs:=stS_w hm hz hf Vr h (deep:=deep) (i:=i) hv yA yA hl;simp only[Nat.add_sub_cancel];generalize Bx w rec ps vars deep i lf=b at hs;have:=hs.n;obtain⟨g1,g2,g3,g4⟩:=Oe h deep n b.vars b.i b.left (V++dO b.out) yA yA hs.v hs.l;refine⟨df.app hs.w g1,?_,by omega,?_⟩
   ·rw[E1,<- append_assoc];exact g2
   ·rw[wA];have:=hs.k;omega
include hf Vr in
theorem Ll:∀ f:Nat,Im w ps f (oq w ps f)
 | 0=>λ vars deep most i left V hN Xn hv hl=>by
  obtain rfl:left=0:=by omega
  simp only[oq,df,bV];exact⟨trivial,by simpa [dO] using hl,Nat.le_refl _,by omega⟩
 | f+1=>λ vars deep most i left V hN Xn hv hl=>Oe hm hz hf Vr (Ll f) deep _ vars _ left V yA Xn hv hl
end
def nG:List ByteArray:=[⟨#[103,48]⟩,⟨#[103,49]⟩]
def nM:List ByteArray:=[⟨#[97]⟩,⟨#[98]⟩,⟨#[99]⟩,⟨#[100]⟩]
def nF:List ByteArray:=[⟨#[109,97,105,110]⟩,⟨#[102,49]⟩,⟨#[102,50]⟩,⟨#[102,51]⟩]
def nP:List ByteArray:=[⟨#[112,49]⟩,⟨#[112,50]⟩]
structure k9 (p:Pg):Prop where
 gn:∃ k,k<=2/\p.gs.map (·.name)=nG.take k
 gi:∀ g∈p.gs,-2<=g.init/\g.init<=2
 mn:∃ k,1<=k/\k<=4/\p.ms.map (·.name)=nM.take k
 mz:∀ m∈p.ms,m.size<=3/\(m.re=true->m.size=0)
 fn:∃ k,1<=k/\k<=4/\p.fs.map (·.name)=nF.take k
 f0:∀ f,p.fs[0]? = some f->f.params=[]
 pn:∀ f∈p.fs,∃ k,k<=2/\f.params.map (·.name)=(nP.take k).reverse
 bd:∀ f∈p.fs,df p.ms (p.fs.map λ f=>(f.name,f.params)) f.params 2 (jS p.gs f.params) f.body
 wt:(p.fs.map λ f=>bV f.body).sum<=1152
theorem Cu (L:List Int):∀ (n j i:Nat),j+n<=4->(sU L n j i).1.map (·.name)=(nM.drop j).take n/\(sU L n j i).1.length=n/\(∀ m∈(sU L n j i).1,m.size<=3/\(m.re=true->m.size=0))/\(i<=L.length->(sU L n j i).2<=L.length)
 | 0,j,i,h=>⟨by simp[sU],by simp[sU],by simp[sU],λ h=>h⟩
 | n+1,j,i,h=>by
  have hd:nM.drop j=eP (97+j)::nM.drop (j+1):=by
   match j,h with
   | 0,_=>rfl
   | 1,_=>rfl
   | 2,_=>rfl
   | 3,_=>rfl
   | j+4,h=>omega
  rw[hd,take_succ_cons,sU];have h3:=dE L (cq L i 5).2 (show 0<3 by omega);split
  ·obtain⟨i1,i2,i3,i4⟩:=Cu L n (j+1) (cq L i 5).2 yA;refine⟨by simp[i1],by simp[i2],?_,λ h=>i4 (bq _ _ h)⟩;intro m hm;rcases mem_cons.1 hm with rfl | hm
   ·exact⟨by simp,λ _=>rfl⟩
   ·exact i3 m hm
  split
  ·obtain⟨i1,i2,i3,i4⟩:=Cu L n (j+1) (cq L (cq L i 5).2 3).2 yA;refine⟨by simp[i1],by simp[i2],?_,λ h=>i4 (bq _ _ (bq _ _ h))⟩;intro m hm;rcases mem_cons.1 hm with rfl | hm
   ·exact⟨by simp only;omega,λ h=>by cases h⟩
   ·exact i3 m hm
  ·obtain⟨i1,i2,i3,i4⟩:=Cu L n (j+1) (cq L i 5).2 yA;refine⟨by simp[i1],by simp[i2],?_,λ h=>i4 (bq _ _ h)⟩;intro m hm;rcases mem_cons.1 hm with rfl | hm
   ·exact⟨by simp,λ _=>rfl⟩
   ·exact i3 m hm
theorem KF (L:List Int):∀ (n j i:Nat),j+n<=2->(yu L n j i).1.map (·.name)=(nG.drop j).take n/\(yu L n j i).1.length=n/\(∀ g∈(yu L n j i).1,-2<=g.init/\g.init<=2)/\(i<=L.length->(yu L n j i).2<=L.length)
 | 0,j,i,h=>⟨by simp[yu],by simp[yu],by simp[yu],λ h=>h⟩
 | n+1,j,i,h=>by
  have hd:nG.drop j=(⟨#[103]⟩++eP (48+j))::nG.drop (j+1):=by
   match j,h with
   | 0,_=>rfl
   | 1,_=>rfl
   | j+2,h=>omega
  rw[hd,take_succ_cons,yu];have h3:=dE L i (show 0<5 by omega);obtain⟨i1,i2,i3,i4⟩:=KF L n (j+1) (cq L i 5).2 yA;refine⟨by simp[i1],by simp[i2],?_,λ h=>i4 (bq _ _ h)⟩;intro m hm;rcases mem_cons.1 hm with rfl | hm
  ·simp only;omega
  ·exact i3 m hm
theorem Jz (L:List Int):∀ (n i:Nat),n<=2->(FT L n i).1.map (·.name)=(nP.take n).reverse/\(FT L n i).1.length=n/\(i<=L.length->(FT L n i).2<=L.length)
 | 0,i,_=>⟨rfl,rfl,λ h=>h⟩
 | n+1,i,h=>by
  have hd:(nP.take (n+1)).reverse=(⟨#[112]⟩++eP (48+(n+1)))::(nP.take n).reverse:=by
   match n,h with
   | 0,_=>rfl
   | 1,_=>rfl
   | n+2,h=>omega
  obtain⟨i1,i2,i3⟩:=Jz L n (cq L i 3).2 yA;rw[hd,FT];exact⟨by simp[i1],by simp[i2],λ h=>i3 (bq _ _ h)⟩
theorem KH (L:List Int):∀ (n j i:Nat),j+n<=4->(xz L n j i).1.map (·.name)=(nF.drop j).take n/\(xz L n j i).1.length=n/\(∀ f∈(xz L n j i).1,f.body=[]/\∃ k,k<=2/\f.params.map (·.name)=(nP.take k).reverse)/\(j=0->∀ f,(xz L n j i).1[0]? = some f->f.params=[])/\(i<=L.length->(xz L n j i).2<=L.length)
 | 0,j,i,h=>⟨by simp[xz],by simp[xz],by simp[xz],by simp[xz],λ h=>h⟩
 | n+1,j,i,h=>by
  have hd:nF.drop j=(if j=0 then ⟨#[109,97,105,110]⟩ else ⟨#[102]⟩++eP (48+j))::nF.drop (j+1):=by
   match j,h with
   | 0,_=>rfl
   | 1,_=>rfl
   | 2,_=>rfl
   | 3,_=>rfl
   | j+4,h=>omega
  rw[hd,take_succ_cons,xz];simp only;have hk:(if j=0 then 0 else (cq L i 3).1)<=2:=by
   have:=dE L i (show 0<3 by omega);split<;>omega
  obtain⟨p1,p2,p3⟩:=Jz L (if j=0 then 0 else (cq L i 3).1) (cq L i 3).2 hk;obtain⟨i1,i2,i3,i4,i5⟩:=KH L n (j+1) (FT L (if j=0 then 0 else (cq L i 3).1) (cq L i 3).2).2 yA;refine⟨by simp only[map_cons,i1],by simp[i2],?_,?_,λ h=>i5 (p3 (bq _ _ h))⟩
  ·intro f hf;rcases mem_cons.1 hf with rfl | hf
   ·exact⟨rfl,_,hk,p1⟩
   ·exact i3 f hf
  ·intro hj f hf;simp only[getElem?_cons_zero,Option.some.injEq] at hf;subst hf;simp[hj,FT]
theorem wZ {gs:List Gl}{ps:List Pm}{s:ByteArray}(h:s∈jS gs ps):s∈gs.map (·.name)\/s∈ps.map (·.name):=by
 simp only[jS,mem_append,mem_flatMap] at h;rcases h with h | ⟨p,h1,h2⟩
 ·exact .inl h
 ·split at h2
  ·simp at h2
  ·simp only[mem_singleton] at h2;exact .inr (h2 ▸ mem_map_of_mem h1)
theorem uL:∀ k,k<24->fY k∉nG/\fY k∉nM/\fY k∉nF/\fY k∉nP:=by
 intro k hk;have h:∀ s∈nG++nM++nF++nP,(bs s).length≠3\/(bs s)[0]?≠some 118:=by decide
 have h2:∀ s∈nG++nM++nF++nP,fY k≠s:=by
  rintro s hs rfl;have:=h _ hs;rw[gL] at this;simp at this
 refine⟨λ h=>h2 _ (by simp[h]) rfl,λ h=>h2 _ (by simp[h]) rfl,λ h=>h2 _ (by simp[h]) rfl,λ h=>h2 _ (by simp[h]) rfl⟩
theorem Mj {l:List Fu}{j:Nat}{f:Fu}(hf:l[j]? = some f)(f':Fu)(hb:f.body=[]):((l.set j f').map λ f=>bV f.body).sum=(l.map λ f=>bV f.body).sum+bV f'.body:=by
 induction l generalizing j with
 | nil=>simp at hf
 | cons a r ih=>
  cases j with
  | zero=>
   simp only[getElem?_cons_zero,Option.some.injEq] at hf;subst hf;simp[hb,bV];omega
  | succ j=>
   simp only[getElem?_cons_succ] at hf;simp only[set_cons_succ,map_cons,sum_cons,ih hf];omega
def sg (f:Fu):ByteArray×List Pm:=(f.name,f.params)
theorem Ji {l:List Fu}{j:Nat}{f f':Fu}(hf:l[j]? = some f)(h:sg f'=sg f):(l.set j f').map sg=l.map sg:=by
 rw[map_set,h];refine ext_getElem? λ i=>?_;rw[getElem?_set];split
 ·rename_i e;subst e;have hl:j<l.length:=(List.getElem?_eq_some_iff.1 hf).1;simp[hl,(List.getElem?_eq_some_iff.1 hf).2]
 ·rfl
theorem OH (w:Wr)(gs:List Gl)(hm:0<w.ms.length)(hz:∀ m∈w.ms,m.size<=1000)(hf:0<w.fs.length)(Vr:∀ f∈w.fs,f.2.length<=2)(VS:∀ ps:List Pm,(∃ nm,(nm,ps)∈w.fs)->DI (jS gs ps) 24) :
  ∀ (n j:Nat) (fs:List Fu) (i left:Nat),fs.map sg=w.fs->(∀ k f,fs[k]? = some f->j<=k->f.body=[])->left<=24->i<=w.L.length ->
  (NK w gs n j fs i left).map sg=w.fs/\(∀ k f,(NK w gs n j fs i left)[k]? = some f->(j<=k->k<j+n->df w.ms w.fs f.params 2 (jS gs f.params) f.body)/\(k<j\/j+n<=k->fs[k]? = some f))/\
  ((NK w gs n j fs i left).map λ f=>bV f.body).sum<=(fs.map λ f=>bV f.body).sum+48*left
 | 0,j,fs,i,left,h1,h2,h3,h4=>⟨h1,λ k f hk=>⟨λ a b=>absurd a yA,λ _=>hk⟩,Nat.le_add_right _ _⟩
 | n+1,j,fs,i,left,h1,h2,h3,h4=>by
  rw[NK];split
  ·rename_i hn;refine⟨h1,λ k f hk=>⟨λ a b=>?_,λ _=>hk⟩,Nat.le_add_right _ _⟩;rw[List.getElem?_eq_none_iff] at hn;have:=(List.getElem?_eq_some_iff.1 hk).1;omega
  ·rename_i f Zr;simp only;have Tr:(f.name,f.params)∈w.fs:=by
    rw[<- h1];exact mem_map_of_mem (f:=sg) (mem_of_getElem? Zr)
   have hb:=Ll (w:=w) (ps:=f.params) hm hz hf Vr left (jS gs f.params) 2 6 i left (jS gs f.params) (Nat.le_refl _) h3 (λ _ h=>h) (λ k hk=>VS _ ⟨_,Tr⟩ k yA);obtain⟨hbi,_⟩:=vU w f.params left (jS gs f.params) 2 6 i left h4;generalize oq w f.params left (jS gs f.params) 2 6 i left=b at hb hbi;obtain⟨b1,b2,b3,b4⟩:=hb;have hs1:(fs.set j ⟨f.name,f.params,b.1⟩).map sg=w.fs:=by rw[Ji (f':=⟨f.name,f.params,b.1⟩) Zr rfl,h1]
   have hlj:j<fs.length:=(List.getElem?_eq_some_iff.1 Zr).1;obtain⟨r1,r2,r3⟩:=OH w gs hm hz hf Vr VS n (j+1) (fs.set j ⟨f.name,f.params,b.1⟩) b.2.1 b.2.2 hs1 (λ k f' hk hjk=>by
    rw[getElem?_set,if_neg yA] at hk;exact h2 k f' hk yA) yA hbi
   refine⟨r1,λ k f' hk=>?_,?_⟩
   ·obtain⟨q1,q2⟩:=r2 k f' hk;refine⟨λ a c=>?_,λ a=>?_⟩
    ·by_cases hkj:k=j
     ·subst hkj;have:=q2 (.inl yA);rw[getElem?_set,if_pos rfl,if_pos hlj] at this;simp only[Option.some.injEq] at this;subst this;exact b1
     ·exact q1 yA yA
    ·have:=q2 yA;rw[getElem?_set,if_neg yA] at this;exact this
   ·have hs:=Mj Zr ⟨f.name,f.params,b.1⟩ (h2 j f Zr (Nat.le_refl _));rw[hs] at r3;simp only at r3;omega
theorem Od (l:List Int):k9 (DL l):=by
 unfold DL;simp only;generalize l.take 400=L;have ha:=bq L 3 (Nat.zero_le L.length);generalize cq L 0 3=a at ha;have SW:=bq L 4 ha;have hnm2:=dE L a.2 (show 0<4 by omega);generalize cq L a.2 4=nm at SW hnm2;obtain⟨m1,m2,m3,m4⟩:=Cu L (1+nm.1) 0 nm.2 yA;generalize sU L (1+nm.1) 0 nm.2=ms at m1 m2 m3 m4;have UJ:=bq L 3 (m4 SW);have YJ:=dE L ms.2 (show 0<3 by omega);generalize cq L ms.2 3=ng at UJ YJ;obtain⟨g1,g2,g3,g4⟩:=KF L ng.1 0 ng.2 yA;generalize yu L ng.1 0 ng.2=gs at g1 g2 g3 g4;have hnf:=bq L 4 (g4 UJ);have hnf2:=dE L gs.2 (show 0<4 by omega);generalize cq L gs.2 4=nf at hnf hnf2;obtain⟨f1,f2,f3,f4,f5⟩:=KH L (nf.1+1) 0 nf.2 yA;generalize xz L (nf.1+1) 0 nf.2=fs at f1 f2 f3 f4 f5;have SR:∀ f∈fs.1,f.params.length<=2:=λ f hf=>by
  obtain⟨_,k,h1,h2⟩:=f3 f hf;have:=congrArg length h2;simp[nP] at this;omega
 have VS:∀ ps:List Pm,(∃ nm,(nm,ps)∈fs.1.map sg)->DI (jS gs.1 ps) 24:=by
  rintro ps ⟨x,hx⟩ k hk hc;obtain⟨v1,_,_,v4⟩:=uL k hk;rw[mem_map] at hx;obtain⟨f,hf,he⟩:=hx;rcases wZ hc with h | h
  ·rw[g1] at h;exact v1 (mem_of_mem_take TK)
  ·have TC:ps=f.params:=by
    simp only[sg,Prod.mk.injEq] at he;exact he.2.symm
   obtain⟨_,q,_,h2⟩:=f3 f hf;rw[TC,h2] at h;exact v4 (mem_of_mem_take TK)
 obtain⟨r1,r2,r3⟩:=OH ⟨L,decide (a.1=1),ms.1,fs.1.map λ f=>(f.name,f.params)⟩ gs.1 ZE (λ m hm=>by have:=(m3 m hm).1;omega) SO
  (λ f hf=>by
   simp only[mem_map] at hf;obtain⟨f',h1,rfl⟩:=hf;exact SR f' h1) VS (nf.1+1) 0 fs.1 fs.2 24 rfl (λ k f hk _=>(f3 f (mem_of_getElem? hk)).1) (Nat.le_refl _) (f5 hnf)
 generalize NK ⟨L,decide (a.1=1),ms.1,fs.1.map λ f=>(f.name,f.params)⟩ gs.1 (nf.1+1) 0 fs.1 fs.2 24=F at r1 r2 r3;have TW:∀ (k:Nat) (f:Fu),F[k]? = some f->∃ f0:Fu,fs.1[k]? = some f0/\f0.name=f.name/\f0.params=f.params:=by
  intro k f hk;have h1:(F.map sg)[k]? = some (sg f):=by simp[hk]
  rw[r1] at h1;simp only[getElem?_map,Option.map_eq_some_iff] at h1;obtain⟨f0,h2,h3⟩:=h1;simp only[sg,Prod.mk.injEq] at h3;exact⟨f0,h2,h3.1,h3.2⟩
 have hlenF:F.length=nf.1+1:=by
  have:=congrArg length r1;simp at this;omega
 refine⟨⟨ng.1,by omega,by simpa using g1⟩,g3,⟨1+nm.1,by omega,by omega,by simpa using m1⟩,m3,⟨nf.1+1,by omega,by omega,?_⟩,?_,?_,?_,?_⟩
 ·have h1:=congrArg (map Prod.fst) r1;have h2:(F.map sg).map Prod.fst=F.map (·.name):=by simp[sg]
  rw[h2] at h1;show F.map (·.name)=_;rw[h1]
  simpa [Function.comp_def] using f1
 ·intro f hf;obtain⟨f0,h1,h2,h3⟩:=TW 0 f hf;rw[<- h3];exact f4 rfl f0 h1
 ·intro f hf;obtain⟨k,hk⟩:=getElem?_of_mem hf;obtain⟨f0,h1,h2,h3⟩:=TW k f hk;rw[<- h3];exact (f3 f0 (mem_of_getElem? h1)).2
 ·intro f hf;obtain⟨k,hk⟩:=getElem?_of_mem hf;have R8:k<F.length:=(List.getElem?_eq_some_iff.1 hk).1;have:=(r2 k f hk).1 (Nat.zero_le _) yA;show df ms.1 (F.map sg) _ _ _ _;rw[r1];exact this
 ·have h0:(fs.1.map λ f=>bV f.body).sum=0:=by
   have hz:∀ l:List Fu,(∀ f∈l,f.body=[])->(l.map λ f=>bV f.body).sum=0:=by
    intro l
    induction l with
    | nil=>intro _;rfl
    | cons a r ih=>
     intro h;simp only[map_cons,sum_cons,h a mem_cons_self,ih λ f hf=>h f (mem_cons_of_mem _ hf),bV]
   exact hz _ λ f hf=>(f3 f hf).1
  rw[h0] at r3;omega
end Go.aJ
