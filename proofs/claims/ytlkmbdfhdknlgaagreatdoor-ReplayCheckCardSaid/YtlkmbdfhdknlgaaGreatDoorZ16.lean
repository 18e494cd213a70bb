/- Programs of the right form; lockordermade's programs are of  -/
import Derived.Test.YtlkmbdfhdknlgaaGreatDoorZ15
namespace Go.aT
open Go.Can
def BX (ms:List Mx)(ps:List Pm)(vars:List ByteArray)(r:Rf):Prop:=
 (∃ m∈ms,r.name=m.name∧((r.index=none∧m.size=0)∨∃ e,r.index=some e∧0<m.size∧eO vars 1 e))∨(∃ p∈ps,p.mutex=true∧r.name=p.name∧r.index=none)
def ArW (ms:List Mx)(ps:List Pm)(vars:List ByteArray):Pm→Ar→Prop
 | p,.ru r=>p.mutex=true∧BX ms ps vars r
 | p,.exp e=>p.mutex=false∧eO vars 2 e
def gZ (ms:List Mx)(ps:List Pm)(vars:List ByteArray):List Pm→List Ar→Prop
 | [],[]=>True
 | p::gp,a::l=>ArW ms ps vars p a∧gZ ms ps vars gp l
 | _,_=>False
def di:Sm→List ByteArray
 | .fN s _=>[s]
 | _=>[]
mutual
def dh (ms:List Mx)(fs:List (ByteArray×List Pm))(ps:List Pm):Nat→List ByteArray→Sm→Prop
 | _,V,.fN s e=>(∃ k,k<24∧s=eA k)∧s∉V∧eO V 2 e
 | _,V,.gz s e=>s∈V∧eO V 2 e
 | _,V,.dm _ s l=>∃ gp,(s,gp)∈fs∧gZ ms ps V gp l
 | _,V,.cR _ r=>BX ms ps V r
 | 0,_,.jS _ _ _=>False
 | d+1,V,.jS e th el=>eO V 2 e∧ck ms fs ps d V th∧ck ms fs ps d V el
 | 0,_,.cb _ _=>False
 | d+1,V,.cb e th=>eO V 2 e∧ck ms fs ps d V th
 | _,_,.ia=>True
def ck (ms:List Mx)(fs:List (ByteArray×List Pm))(ps:List Pm):Nat→List ByteArray→List Sm→Prop
 | _,_,[]=>True
 | d,V,s::r=>dh ms fs ps d V s∧ck ms fs ps d (V++di s) r
end
mutual
def dB:Sm→Nat
 | .fN _ _=>24
 | .gz _ _=>24
 | .dm _ _ l=>8+20*l.length
 | .cR _ _=>12
 | .jS _ th el=>25+bz th+bz el
 | .cb _ th=>25+bz th
 | .ia=>8
def bz:List Sm→Nat
 | []=>0
 | s::r=>dB s+bz r
end
theorem eO.mono {ns XK:List ByteArray}(h:∀ s∈ns,s∈XK):∀ {d d':Nat} {e:Ex},d≤d'→eO ns d e→eO XK d' e
 | _,_,.num n,_,hx=>by simpa [eO] using hx
 | _,_,.nm s,_,hx=>by simp only[eO] at hx ⊢;exact h s hx
 | d+1,d' + 1,.un k e,hd,hx=>by
  simp only[eO] at hx ⊢;exact⟨hx.1,eO.mono h (Nat.le_of_succ_le_succ hd) hx.2⟩
 | d+1,d' + 1,.bin k a b,hd,hx=>by
  simp only[eO] at hx ⊢;exact⟨hx.1,eO.mono h (Nat.le_of_succ_le_succ hd) hx.2.1,eO.mono h (Nat.le_of_succ_le_succ hd) hx.2.2⟩
 | d+1,0,.un k e,hd,_=>absurd hd yA
 | d+1,0,.bin k a b,hd,_=>absurd hd yA
 | 0,_,.un _ _,_,hx=>hx.elim
 | 0,_,.bin _ _ _,_,hx=>hx.elim
 | 0,_,.zero,_,hx=>hx.elim
 | 0,_,.loc _,_,hx=>hx.elim
 | 0,_,.iV _,_,hx=>hx.elim
 | _+1,_,.zero,_,hx=>hx.elim
 | _+1,_,.loc _,_,hx=>hx.elim
 | _+1,_,.iV _,_,hx=>hx.elim
theorem BX.mono {ms:List Mx}{ps:List Pm}{V V':List ByteArray}(h:∀ s∈V,s∈V'){r:Rf}(hr:BX ms ps V r):BX ms ps V' r:=by
 rcases hr with ⟨m,h1,h2,h3 | ⟨e,h3,h4,h5⟩⟩ | hr
 ·exact .inl ⟨m,h1,h2,.inl h3⟩
 ·exact .inl ⟨m,h1,h2,.inr ⟨e,h3,h4,h5.mono h (Nat.le_refl _)⟩⟩
 ·exact .inr hr
theorem gZ.mono {ms:List Mx}{ps:List Pm}{V V':List ByteArray}(h:∀ s∈V,s∈V'):∀ {gp:List Pm} {l:List Ar},gZ ms ps V gp l→gZ ms ps V' gp l
 | [],[],_=>trivial
 | p::gp,a::l,hx=>by
  simp only[gZ] at hx ⊢;refine⟨?_,gZ.mono h hx.2⟩
  cases a with
  | ru r=>exact⟨hx.1.1,hx.1.2.mono h⟩
  | exp e=>exact⟨hx.1.1,hx.1.2.mono h (Nat.le_refl _)⟩
 | [],_::_,hx=>hx.elim
 | _::_,[],hx=>hx.elim
theorem gZ.len {ms:List Mx}{ps:List Pm}{V:List ByteArray}:∀ {gp:List Pm} {l:List Ar},gZ ms ps V gp l→l.length=gp.length
 | [],[],_=>rfl
 | p::gp,a::l,hx=>by
  simp only[gZ] at hx;simp[gZ.len hx.2]
 | [],_::_,hx=>hx.elim
 | _::_,[],hx=>hx.elim
def cQ (l:List Sm):List ByteArray:=l.flatMap di
theorem ck.app {ms:List Mx}{fs:List (ByteArray×List Pm)}{ps:List Pm}{d:Nat}:∀ {a b:List Sm} {V:List ByteArray},ck ms fs ps d V a→ck ms fs ps d (V++cQ a) b→ck ms fs ps d V (a++b)
 | [],b,V,_,hb=>by simpa [cQ] using hb
 | s::r,b,V,ha,hb=>by
  simp only[ck,List.cons_append] at ha ⊢;refine⟨ha.1,ck.app ha.2 ?_⟩
  simpa [cQ,List.append_assoc] using hb
theorem ck.up {ms:List Mx}{fs:List (ByteArray×List Pm)}{ps:List Pm}{a:List Sm}{V:List ByteArray}:∀ {d d':Nat},d≤d'→ck ms fs ps d V a→ck ms fs ps d' V a:=by
 suffices h:(∀ s:Sm,∀ V d d',d≤d'→dh ms fs ps d V s→dh ms fs ps d' V s)∧(∀ l:List Sm,∀ V d d',d≤d'→ck ms fs ps d V l→ck ms fs ps d' V l) from fun {d d'} hd hx=>h.2 a V d d' hd hx
 refine⟨fun s=>?_,fun l=>?_⟩
 ·exact Sm.rec (motive_1:=fun s=>∀ V d d',d≤d'→dh ms fs ps d V s→dh ms fs ps d' V s) (motive_2:=fun l=>∀ V d d',d≤d'→ck ms fs ps d V l→ck ms fs ps d' V l)
   (fun s e V d d' _ hx=>by simpa [dh] using hx) (fun s e V d d' _ hx=>by simpa [dh] using hx) (fun g s l V d d' _ hx=>by simpa [dh] using hx) (fun u r V d d' _ hx=>by simpa [dh] using hx)
   (fun e th el h1 h2 V d d' hd hx=>by
    cases d with
    | zero=>simp[dh] at hx
    | succ d=>
     obtain⟨d',rfl⟩:∃ k,d'=k+1:=⟨d' - 1,by omega⟩;simp only[dh] at hx ⊢;exact⟨hx.1,h1 _ _ _ yA hx.2.1,h2 _ _ _ yA hx.2.2⟩)
   (fun e th h1 V d d' hd hx=>by
    cases d with
    | zero=>simp[dh] at hx
    | succ d=>
     obtain⟨d',rfl⟩:∃ k,d'=k+1:=⟨d' - 1,by omega⟩;simp only[dh] at hx ⊢;exact⟨hx.1,h1 _ _ _ yA hx.2⟩)
   (fun V d d' _ hx=>by simp[dh]) (fun V d d' _ hx=>by simp[ck])
   (fun s r h1 h2 V d d' hd hx=>by
    simp only[ck] at hx ⊢;exact⟨h1 _ _ _ hd hx.1,h2 _ _ _ hd hx.2⟩) s
 ·exact Sm.rec_1 (motive_1:=fun s=>∀ V d d',d≤d'→dh ms fs ps d V s→dh ms fs ps d' V s) (motive_2:=fun l=>∀ V d d',d≤d'→ck ms fs ps d V l→ck ms fs ps d' V l)
   (fun s e V d d' _ hx=>by simpa [dh] using hx) (fun s e V d d' _ hx=>by simpa [dh] using hx) (fun g s l V d d' _ hx=>by simpa [dh] using hx) (fun u r V d d' _ hx=>by simpa [dh] using hx)
   (fun e th el h1 h2 V d d' hd hx=>by
    cases d with
    | zero=>simp[dh] at hx
    | succ d=>
     obtain⟨d',rfl⟩:∃ k,d'=k+1:=⟨d' - 1,by omega⟩;simp only[dh] at hx ⊢;exact⟨hx.1,h1 _ _ _ yA hx.2.1,h2 _ _ _ yA hx.2.2⟩)
   (fun e th h1 V d d' hd hx=>by
    cases d with
    | zero=>simp[dh] at hx
    | succ d=>
     obtain⟨d',rfl⟩:∃ k,d'=k+1:=⟨d' - 1,by omega⟩;simp only[dh] at hx ⊢;exact⟨hx.1,h1 _ _ _ yA hx.2⟩)
   (fun V d d' _ hx=>by simp[dh]) (fun V d d' _ hx=>by simp[ck])
   (fun s r h1 h2 V d d' hd hx=>by
    simp only[ck] at hx ⊢;exact⟨h1 _ _ _ hd hx.1,h2 _ _ _ hd hx.2⟩) l
theorem qL:∀ a b:List Sm,bz (a++b)=bz a+bz b
 | [],b=>by simp[bz]
 | s::r,b=>by simp only[List.cons_append,bz,qL r b];omega
theorem zd (a b:List Sm):cQ (a++b)=cQ a++cQ b:=by simp[cQ]
theorem gV {α:Type}{l:List α}{i:Nat}(h:i<l.length)(d:α):l.getD i d∈l:=by
 simp[List.getD,List.getElem?_eq_getElem h]
theorem z0 (L:List Int)(ns:List ByteArray)(d i:Nat):eO ns d (oa L ns i).1:=by
 unfold oa;split
 ·rename_i h;simp only[eO];exact gV (cI _ _ h.1) _
 ·simp only[eO];exact FC _ _
theorem tW (L:List Int)(ns:List ByteArray):∀ d i:Nat,eO ns d (ov L ns d i).1
 | 0,i=>z0 L ns 0 _
 | d+1,i=>by
  rw[ov];split
  ·exact z0 L ns _ _
  ·split
   ·simp only[eO];exact⟨Nat.mod_lt _ yA,tW L ns d _⟩
   ·simp only[eO];exact⟨cI _ _ yA,tW L ns d _,tW L ns d _⟩
theorem ou (L:List Int)(ar:Bool)(vars:List ByteArray)(i:Nat):eO vars 2 (cL L ar vars i).1:=by
 unfold cL;split
 ·refine (tW L vars _ _).mono (fun _ h=>h) ?_;have:=cI L i (show 0<2 by omega);omega
 ·exact (tW L vars _ _).mono (fun _ h=>h) yA
theorem H8 (L:List Int)(ar:Bool)(vars:List ByteArray)(size i:Nat)(hs:0<size)(Q2:size≤1000):eO vars 1 (mv L ar vars size i).1:=by
 unfold mv;split
 ·exact tW _ _ _ _
 ·simp only[eO];exact Nat.lt_of_lt_of_le (cI _ _ hs) yA
theorem uN (L:List Int)(ar:Bool)(ms:List Mx)(ps:List Pm)(vars:List ByteArray)(i:Nat)(hm:0<ms.length)(hz:∀ m∈ms,m.size≤1000):BX ms ps vars (g7 L ar ms ps vars i).1:=by
 have hl:0<(bH ms ps).length:=by simp[bH];omega
 have hk:=cI L i hl;unfold g7;generalize bO L i (bH ms ps).length=k at hk;have LG:∀ h:k.1<ms.length,(bH ms ps).getD k.1 eS=(ms[k.1]).name∧jv ms k.1=(ms[k.1]).size:=fun h=>by
  simp[bH,List.getD,jv,List.getElem?_append,h]
 split
 ·rename_i h;obtain⟨e1,e2⟩:=LG h.1;refine .inl ⟨ms[k.1],List.getElem_mem _,e1,.inr ⟨_,rfl,?_,?_⟩⟩
  ·rw[← e2];exact h.2
  ·exact H8 _ _ _ _ _ h.2 (by rw[e2];exact hz _ (List.getElem_mem _))
 ·rename_i h;by_cases h1:k.1<ms.length
  ·obtain⟨e1,e2⟩:=LG h1;exact .inl ⟨ms[k.1],List.getElem_mem _,e1,.inl ⟨rfl,by omega⟩⟩
  ·have h2:(bH ms ps).getD k.1 eS∈ps.flatMap BT:=by
    have h3:(bH ms ps).getD k.1 eS=(ps.flatMap BT).getD (k.1-ms.length) eS:=by
     simp only[bH,List.getD];rw[List.getElem?_append_right Lv];simp
    rw[h3];refine gV ?_ _;simp only[bH,List.length_append,List.length_map] at hk;omega
   rw[List.mem_flatMap] at h2;obtain⟨p,Mf,mw⟩:=h2;unfold BT at mw;split at mw
   ·rename_i hp;refine .inr ⟨p,Mf,hp,?_,rfl⟩
    simpa using mw
   ·simp at mw
theorem vz (L:List Int)(ar:Bool)(ms:List Mx)(ps:List Pm)(vars:List ByteArray)(hm:0<ms.length)(hz:∀ m∈ms,m.size≤1000):∀ (gp:List Pm) (i:Nat),gZ ms ps vars gp (cE L ar ms ps vars gp i).1
 | [],_=>trivial
 | p::r,i=>by
  rw[cE];split
  ·rename_i h;exact⟨⟨h,uN L ar ms ps vars i hm hz⟩,vz L ar ms ps vars hm hz r _⟩
  ·rename_i h;exact⟨⟨by simpa using h,ou L ar vars i⟩,vz L ar ms ps vars hm hz r _⟩
def ya (V:List ByteArray)(left:Nat):Prop:=∀ k,k<left→eA k∉V
theorem fh (k:Nat):bs (eA k)=[118,UInt8.ofNat (97+k % 26),UInt8.ofNat (97+k / 26 % 26)]:=rfl
theorem AF {j k:Nat}(hj:j<26)(hk:k<26)(h:eA j=eA k):j=k:=by
 have h1:=congrArg bs h;rw[fh,fh,Nat.mod_eq_of_lt hj,Nat.mod_eq_of_lt hk] at h1;simp only[List.cons.injEq,true_and] at h1;have h2:=congrArg UInt8.toNat h1.1;simp only[UInt8.toNat_ofNat'] at h2;omega
def BP (w:Wr)(ps:List Pm)(N:Nat)(rec:Rec):Prop:=∀ vars deep most i left V,left≤N→left≤24→(∀ s∈vars,s∈V)→ya V left →
 ck w.ms w.fs ps deep V (rec vars deep most i left).1∧ya (V++cQ (rec vars deep most i left).1) (rec vars deep most i left).2.2∧(rec vars deep most i left).2.2≤left∧
 bz (rec vars deep most i left).1+48*(rec vars deep most i left).2.2≤48*left
structure JL (w:Wr)(ps:List Pm)(deep left:Nat)(V:List ByteArray)(b:G5):Prop where
 w:ck w.ms w.fs ps deep V b.out
 v:∀ s∈b.vars,s∈V++cQ b.out
 l:ya (V++cQ b.out) b.left
 n:b.left≤left
 k:bz b.out+48*b.left≤48*(left+1)
section
variable {w:Wr}{ps:List Pm}{rec:Rec}(hm:0<w.ms.length)(hz:∀ m∈w.ms,m.size≤1000)(hf:0<w.fs.length)(Ng:∀ f∈w.fs,f.2.length≤2)
include hm hz
omit hm hz in
theorem wO {s:Sm}{vars V:List ByteArray}{deep i left:Nat}(hv:∀ x∈vars,x∈V)(hl:ya V left)(hs:dh w.ms w.fs ps deep V s)(hd:di s=[])(hk:dB s≤48):JL w ps deep left V ⟨[s],vars,i,left⟩:=by
 refine⟨⟨hs,trivial⟩,?_,?_,Nat.le_refl _,?_⟩
 ·simpa [cQ,hd] using hv
 ·simpa [cQ,hd] using hl
 ·simp only[bz];omega
theorem D0 {N:Nat}(h:BP w ps N rec){vars V:List ByteArray}(hv:∀ s∈vars,s∈V){deep i left:Nat}(hN:left≤N)(O1:left≤24)(hl:ya V left):JL w ps deep left V (xE w rec ps vars i left):=by
 have hr:=uN w.L w.ar w.ms ps vars i hm hz;obtain⟨h1,h2,h3,h4⟩:=h vars 0 2 (g7 w.L w.ar w.ms ps vars i).2 left V hN O1 hv hl;unfold xE;refine⟨?_,?_,?_,h3,?_⟩
 ·simp only[List.cons_append,ck,di,List.append_nil];refine⟨by simp only[dh];exact hr.mono hv,ck.app (h1.up (Nat.zero_le _)) ?_⟩;simp only[ck,dh,and_true];exact hr.mono fun s hs=>List.mem_append_left _ (hv s hs)
 ·intro s hs;exact List.mem_append_left _ (hv s hs)
 ·simpa [cQ,di] using h2
 ·simp only[List.cons_append,bz,dB,qL];omega
include hf Ng in
theorem Av {vars V:List ByteArray}(hv:∀ s∈vars,s∈V){deep i left:Nat}(go:Bool)(hl:ya V left):JL w ps deep left V (fH w ps vars go i left):=by
 have yN:=cI w.L i hf;have hg:=gV yN (eS,[]);unfold fH;generalize hgg:w.fs.getD (bO w.L i w.fs.length).1 (eS,[])=g at hg;have ha:=vz w.L w.ar w.ms ps vars hm hz g.2 (bO w.L i w.fs.length).2;refine wO hv hl ?_ rfl ?_
 ·simp only[dh];exact⟨g.2,hg,ha.mono hv⟩
 ·simp only[dB,ha.len];have:=Ng g hg;omega
omit hm hz in
theorem ifS_w {N:Nat}(h:BP w ps N rec){vars V:List ByteArray}(hv:∀ s∈vars,s∈V){deep i left:Nat}(UI:0<deep)(hN:left≤N)(O1:left≤24)(hl:ya V left):JL w ps deep left V (Jz w rec vars deep i left):=by
 have he:=ou w.L w.ar vars i;obtain⟨d,rfl⟩:∃ d,deep=d+1:=⟨deep-1,by omega⟩;unfold Jz;simp only[Nat.add_sub_cancel];obtain⟨h1,h2,h3,h4⟩:=h vars d 3 (cL w.L w.ar vars i).2 left V hN O1 hv hl;generalize rec vars d 3 (cL w.L w.ar vars i).2 left=th at h1 h2 h3 h4;have KR:ya V th.2.2:=fun k hk=>hl k yA;split
 ·obtain⟨g1,g2,g3,g4⟩:=h vars d 3 (bO w.L th.2.1 2).2 th.2.2 V yA yA hv KR;generalize rec vars d 3 (bO w.L th.2.1 2).2 th.2.2=el at g1 g2 g3 g4;have Wf:ya V el.2.2:=fun k hk=>hl k yA;refine⟨?_,?_,?_,Nat.le_trans g3 h3,?_⟩
  ·simp only[ck,dh,and_true];exact⟨he.mono hv (Nat.le_refl _),h1,g1⟩
  ·simpa [cQ,di] using hv
  ·simpa [cQ,di] using Wf
  ·simp only[bz,dB];omega
 ·refine⟨?_,?_,?_,by omega,?_⟩
  ·simp only[ck,dh,and_true];exact⟨he.mono hv (Nat.le_refl _),h1⟩
  ·simpa [cQ,di] using hv
  ·simpa [cQ,di] using KR
  ·simp only[bz,dB];omega
omit hm hz in
theorem whS_w {N:Nat}(h:BP w ps N rec){vars V:List ByteArray}(hv:∀ s∈vars,s∈V){deep i left:Nat}(UI:0<deep)(hN:left≤N)(O1:left≤24)(hl:ya V left):JL w ps deep left V (IS w rec vars deep i left):=by
 have he:=ou w.L w.ar vars i;obtain⟨d,rfl⟩:∃ d,deep=d+1:=⟨deep-1,by omega⟩;unfold IS;simp only[Nat.add_sub_cancel];obtain⟨h1,h2,h3,h4⟩:=h vars d 3 (cL w.L w.ar vars i).2 left V hN O1 hv hl;generalize rec vars d 3 (cL w.L w.ar vars i).2 left=th at h1 h2 h3 h4;have Wf:ya V th.2.2:=fun k hk=>hl k yA;refine⟨?_,?_,?_,by omega,?_⟩
 ·simp only[ck,dh,and_true];exact⟨he.mono hv (Nat.le_refl _),h1⟩
 ·simpa [cQ,di] using hv
 ·simpa [cQ,di] using Wf
 ·simp only[bz,dB];omega
include hf Ng in
theorem stS_w {N:Nat}(h:BP w ps N rec){vars V:List ByteArray}(hv:∀ s∈vars,s∈V){deep i left:Nat}(hN:left≤N)(O1:left<24)(hl:ya V (left+1)):JL w ps deep left V (vC w rec ps vars deep i left):=by
 have KR:ya V left:=fun k hk=>hl k yA;unfold vC;simp only;split
 ·exact wO hv KR ((uN _ _ _ ps _ _ hm hz).mono hv) rfl (by simp[dB])
 split
 ·exact wO hv KR ((uN _ _ _ ps _ _ hm hz).mono hv) rfl (by simp[dB])
 split
 ·refine⟨?_,?_,?_,Nat.le_refl _,?_⟩
  ·simp only[ck,dh,and_true];exact⟨⟨left,O1,rfl⟩,hl left yA,(ou _ _ _ _).mono hv (Nat.le_refl _)⟩
  ·intro s hs;simp only[List.mem_append,List.mem_singleton] at hs;simp only[cQ,List.flatMap_cons,List.flatMap_nil,di,List.append_nil,List.mem_append,List.mem_singleton];exact hs.imp (hv s) id
  ·intro k hk hc;simp only[cQ,List.flatMap_cons,List.flatMap_nil,di,List.append_nil,List.mem_append,List.mem_singleton] at hc;rcases hc with hc | hc
   ·exact KR k hk hc
   ·have MX:k<left:=hk;have:=AF yA yA hc;omega
  ·simp only[bz,dB];omega
 split
 ·rename_i h8;refine wO hv KR ?_ rfl (by simp[dB]);simp only[dh];exact⟨hv _ (gV (cI _ _ h8.2) _),(ou _ _ _ _).mono hv (Nat.le_refl _)⟩
 split
 ·exact Av hm hz hf Ng hv _ KR
 split
 ·exact Av hm hz hf Ng hv _ KR
 split
 ·rename_i h9;exact ifS_w h hv h9.2 hN yA KR
 split
 ·rename_i h9;exact whS_w h hv h9.2 hN yA KR
 split
 ·exact wO hv KR (by simp[dh]) rfl (by simp[dB])
 split
 ·exact D0 hm hz h hv hN yA KR
 ·exact D0 hm hz h hv hN yA KR
include hf Ng in
theorem Gx {N:Nat}(h:BP w ps N rec)(deep:Nat):∀ (n:Nat) (vars:List ByteArray) (i left:Nat) (V:List ByteArray),left≤N+1→left≤24→(∀ s∈vars,s∈V)→ya V left →
  ck w.ms w.fs ps deep V (pT w rec ps deep n vars i left).1∧ya (V++cQ (pT w rec ps deep n vars i left).1) (pT w rec ps deep n vars i left).2.2∧(pT w rec ps deep n vars i left).2.2≤left∧
  bz (pT w rec ps deep n vars i left).1+48*(pT w rec ps deep n vars i left).2.2≤48*left
 | 0,vars,i,left,V,hN,O1,hv,hl=>by
  simp only[pT,ck,bz];exact⟨trivial,by simpa [cQ] using hl,Nat.le_refl _,by omega⟩
 | n+1,vars,i,left,V,hN,O1,hv,hl=>by
  rw[pT];split
  ·simp only[ck,bz];exact⟨trivial,by simpa [cQ] using hl,Nat.le_refl _,by omega⟩
  ·obtain⟨lf,rfl⟩:∃ lf,left=lf+1:=⟨left-1,by omega⟩;have hs:=stS_w hm hz hf Ng h (deep:=deep) (i:=i) hv yA yA hl;simp only[Nat.add_sub_cancel];generalize vC w rec ps vars deep i lf=b at hs;have:=hs.n;obtain⟨g1,g2,g3,g4⟩:=Gx h deep n b.vars b.i b.left (V++cQ b.out) yA yA hs.v hs.l;refine⟨ck.app hs.w g1,?_,by omega,?_⟩
   ·rw[zd,← List.append_assoc];exact g2
   ·rw[qL];have:=hs.k;omega
include hf Ng in
theorem Eo:∀ f:Nat,BP w ps f (k9 w ps f)
 | 0=>fun vars deep most i left V hN O1 hv hl=>by
  obtain rfl:left=0:=by omega
  simp only[k9,ck,bz];exact⟨trivial,by simpa [cQ] using hl,Nat.le_refl _,by omega⟩
 | f+1=>fun vars deep most i left V hN O1 hv hl=>Gx hm hz hf Ng (Eo f) deep _ vars _ left V yA O1 hv hl
end
def nG:List ByteArray:=[⟨#[103,48]⟩,⟨#[103,49]⟩]
def nM:List ByteArray:=[⟨#[97]⟩,⟨#[98]⟩,⟨#[99]⟩,⟨#[100]⟩]
def nF:List ByteArray:=[⟨#[109,97,105,110]⟩,⟨#[102,49]⟩,⟨#[102,50]⟩,⟨#[102,51]⟩]
def nP:List ByteArray:=[⟨#[112,49]⟩,⟨#[112,50]⟩]
structure jg (p:Pg):Prop where
 gn:∃ k,k≤2∧p.gs.map (·.name)=nG.take k
 gi:∀ g∈p.gs,-2≤g.init∧g.init≤2
 mn:∃ k,1≤k∧k≤4∧p.ms.map (·.name)=nM.take k
 mz:∀ m∈p.ms,m.size≤3∧(m.re=true→m.size=0)
 fn:∃ k,1≤k∧k≤4∧p.fs.map (·.name)=nF.take k
 f0:∀ f,p.fs[0]? = some f→f.params=[]
 pn:∀ f∈p.fs,∃ k,k≤2∧f.params.map (·.name)=(nP.take k).reverse
 bd:∀ f∈p.fs,ck p.ms (p.fs.map fun f=>(f.name,f.params)) f.params 2 (ij p.gs f.params) f.body
 wt:(p.fs.map fun f=>bz f.body).sum≤1152
theorem wV (L:List Int):∀ (n j i:Nat),j+n≤4→(oO L n j i).1.map (·.name)=(nM.drop j).take n∧(oO L n j i).1.length=n∧(∀ m∈(oO L n j i).1,m.size≤3∧(m.re=true→m.size=0))∧(i≤L.length→(oO L n j i).2≤L.length)
 | 0,j,i,h=>⟨by simp[oO],by simp[oO],by simp[oO],fun h=>h⟩
 | n+1,j,i,h=>by
  have hd:nM.drop j=dr (97+j)::nM.drop (j+1):=by
   match j,h with
   | 0,_=>rfl
   | 1,_=>rfl
   | 2,_=>rfl
   | 3,_=>rfl
   | j+4,h=>omega
  rw[hd,List.take_succ_cons,oO];have h3:=cI L (bO L i 5).2 (show 0<3 by omega);split
  ·obtain⟨i1,i2,i3,i4⟩:=wV L n (j+1) (bO L i 5).2 yA;refine⟨by simp[i1],by simp[i2],?_,fun h=>i4 (aV _ _ h)⟩;intro m hm;rcases List.mem_cons.1 hm with rfl | hm
   ·exact⟨by simp,fun _=>rfl⟩
   ·exact i3 m hm
  split
  ·obtain⟨i1,i2,i3,i4⟩:=wV L n (j+1) (bO L (bO L i 5).2 3).2 yA;refine⟨by simp[i1],by simp[i2],?_,fun h=>i4 (aV _ _ (aV _ _ h))⟩;intro m hm;rcases List.mem_cons.1 hm with rfl | hm
   ·exact⟨by simp only;omega,fun h=>by cases h⟩
   ·exact i3 m hm
  ·obtain⟨i1,i2,i3,i4⟩:=wV L n (j+1) (bO L i 5).2 yA;refine⟨by simp[i1],by simp[i2],?_,fun h=>i4 (aV _ _ h)⟩;intro m hm;rcases List.mem_cons.1 hm with rfl | hm
   ·exact⟨by simp,fun _=>rfl⟩
   ·exact i3 m hm
theorem DH (L:List Int):∀ (n j i:Nat),j+n≤2→(sJ L n j i).1.map (·.name)=(nG.drop j).take n∧(sJ L n j i).1.length=n∧(∀ g∈(sJ L n j i).1,-2≤g.init∧g.init≤2)∧(i≤L.length→(sJ L n j i).2≤L.length)
 | 0,j,i,h=>⟨by simp[sJ],by simp[sJ],by simp[sJ],fun h=>h⟩
 | n+1,j,i,h=>by
  have hd:nG.drop j=(⟨#[103]⟩++dr (48+j))::nG.drop (j+1):=by
   match j,h with
   | 0,_=>rfl
   | 1,_=>rfl
   | j+2,h=>omega
  rw[hd,List.take_succ_cons,sJ];have h3:=cI L i (show 0<5 by omega);obtain⟨i1,i2,i3,i4⟩:=DH L n (j+1) (bO L i 5).2 yA;refine⟨by simp[i1],by simp[i2],?_,fun h=>i4 (aV _ _ h)⟩;intro m hm;rcases List.mem_cons.1 hm with rfl | hm
  ·simp only;omega
  ·exact i3 m hm
theorem CP (L:List Int):∀ (n i:Nat),n≤2→(zH L n i).1.map (·.name)=(nP.take n).reverse∧(zH L n i).1.length=n∧(i≤L.length→(zH L n i).2≤L.length)
 | 0,i,_=>⟨rfl,rfl,fun h=>h⟩
 | n+1,i,h=>by
  have hd:(nP.take (n+1)).reverse=(⟨#[112]⟩++dr (48+(n+1)))::(nP.take n).reverse:=by
   match n,h with
   | 0,_=>rfl
   | 1,_=>rfl
   | n+2,h=>omega
  obtain⟨i1,i2,i3⟩:=CP L n (bO L i 3).2 yA;rw[hd,zH];exact⟨by simp[i1],by simp[i2],fun h=>i3 (aV _ _ h)⟩
theorem DI (L:List Int):∀ (n j i:Nat),j+n≤4→(rJ L n j i).1.map (·.name)=(nF.drop j).take n∧(rJ L n j i).1.length=n∧(∀ f∈(rJ L n j i).1,f.body=[]∧∃ k,k≤2∧f.params.map (·.name)=(nP.take k).reverse)∧(j=0→∀ f,(rJ L n j i).1[0]? = some f→f.params=[])∧(i≤L.length→(rJ L n j i).2≤L.length)
 | 0,j,i,h=>⟨by simp[rJ],by simp[rJ],by simp[rJ],by simp[rJ],fun h=>h⟩
 | n+1,j,i,h=>by
  have hd:nF.drop j=(if j=0 then ⟨#[109,97,105,110]⟩ else ⟨#[102]⟩++dr (48+j))::nF.drop (j+1):=by
   match j,h with
   | 0,_=>rfl
   | 1,_=>rfl
   | 2,_=>rfl
   | 3,_=>rfl
   | j+4,h=>omega
  rw[hd,List.take_succ_cons,rJ];simp only;have hk:(if j=0 then 0 else (bO L i 3).1)≤2:=by
   have:=cI L i (show 0<3 by omega);split<;>omega
  obtain⟨p1,p2,p3⟩:=CP L (if j=0 then 0 else (bO L i 3).1) (bO L i 3).2 hk;obtain⟨i1,i2,i3,i4,i5⟩:=DI L n (j+1) (zH L (if j=0 then 0 else (bO L i 3).1) (bO L i 3).2).2 yA;refine⟨by simp only[List.map_cons,i1],by simp[i2],?_,?_,fun h=>i5 (p3 (aV _ _ h))⟩
  ·intro f hf;rcases List.mem_cons.1 hf with rfl | hf
   ·exact⟨rfl,_,hk,p1⟩
   ·exact i3 f hf
  ·intro hj f hf;simp only[List.getElem?_cons_zero,Option.some.injEq] at hf;subst hf;simp[hj,zH]
theorem rj {gs:List Gl}{ps:List Pm}{s:ByteArray}(h:s∈ij gs ps):s∈gs.map (·.name)∨s∈ps.map (·.name):=by
 simp only[ij,List.mem_append,List.mem_flatMap] at h;rcases h with h | ⟨p,h1,h2⟩
 ·exact .inl h
 ·split at h2
  ·simp at h2
  ·simp only[List.mem_singleton] at h2;exact .inr (h2 ▸ List.mem_map_of_mem h1)
theorem pF:∀ k,k<24→eA k∉nG∧eA k∉nM∧eA k∉nF∧eA k∉nP:=by
 intro k hk;have h:∀ s∈nG++nM++nF++nP,(bs s).length≠3∨(bs s)[0]?≠some 118:=by decide
 have h2:∀ s∈nG++nM++nF++nP,eA k≠s:=by
  rintro s hs rfl;have:=h _ hs;rw[fh] at this;simp at this
 refine⟨fun h=>h2 _ (by simp[h]) rfl,fun h=>h2 _ (by simp[h]) rfl,fun h=>h2 _ (by simp[h]) rfl,fun h=>h2 _ (by simp[h]) rfl⟩
theorem E5 {l:List Fu}{j:Nat}{f:Fu}(hf:l[j]? = some f)(f':Fu)(hb:f.body=[]):((l.set j f').map fun f=>bz f.body).sum=(l.map fun f=>bz f.body).sum+bz f'.body:=by
 induction l generalizing j with
 | nil=>simp at hf
 | cons a r ih=>
  cases j with
  | zero=>
   simp only[List.getElem?_cons_zero,Option.some.injEq] at hf;subst hf;simp[hb,bz];omega
  | succ j=>
   simp only[List.getElem?_cons_succ] at hf;simp only[List.set_cons_succ,List.map_cons,List.sum_cons,ih hf];omega
def sg (f:Fu):ByteArray×List Pm:=(f.name,f.params)
theorem CD {l:List Fu}{j:Nat}{f f':Fu}(hf:l[j]? = some f)(h:sg f'=sg f):(l.set j f').map sg=l.map sg:=by
 rw[List.map_set,h];refine List.ext_getElem? fun i=>?_;rw[List.getElem?_set];split
 ·rename_i e;subst e;have hl:j<l.length:=(List.getElem?_eq_some_iff.1 hf).1;simp[hl,(List.getElem?_eq_some_iff.1 hf).2]
 ·rfl
theorem GU (w:Wr)(gs:List Gl)(hm:0<w.ms.length)(hz:∀ m∈w.ms,m.size≤1000)(hf:0<w.fs.length)(Ng:∀ f∈w.fs,f.2.length≤2)(NB:∀ ps:List Pm,(∃ nm,(nm,ps)∈w.fs)→ya (ij gs ps) 24) :
  ∀ (n j:Nat) (fs:List Fu) (i left:Nat),fs.map sg=w.fs→(∀ k f,fs[k]? = some f→j≤k→f.body=[])→left≤24→i≤w.L.length →
  (Ge w gs n j fs i left).map sg=w.fs∧(∀ k f,(Ge w gs n j fs i left)[k]? = some f→(j≤k→k<j+n→ck w.ms w.fs f.params 2 (ij gs f.params) f.body)∧(k<j∨j+n≤k→fs[k]? = some f))∧
  ((Ge w gs n j fs i left).map fun f=>bz f.body).sum≤(fs.map fun f=>bz f.body).sum+48*left
 | 0,j,fs,i,left,h1,h2,h3,h4=>⟨h1,fun k f hk=>⟨fun a b=>absurd a yA,fun _=>hk⟩,Nat.le_add_right _ _⟩
 | n+1,j,fs,i,left,h1,h2,h3,h4=>by
  rw[Ge];split
  ·rename_i hn;refine⟨h1,fun k f hk=>⟨fun a b=>?_,fun _=>hk⟩,Nat.le_add_right _ _⟩;rw[List.getElem?_eq_none_iff] at hn;have:=(List.getElem?_eq_some_iff.1 hk).1;omega
  ·rename_i f QI;simp only;have Li:(f.name,f.params)∈w.fs:=by
    rw[← h1];exact List.mem_map_of_mem (f:=sg) (List.mem_of_getElem? QI)
   have hb:=Eo (w:=w) (ps:=f.params) hm hz hf Ng left (ij gs f.params) 2 6 i left (ij gs f.params) (Nat.le_refl _) h3 (fun _ h=>h) (fun k hk=>NB _ ⟨_,Li⟩ k yA);obtain⟨Se,_⟩:=qB w f.params left (ij gs f.params) 2 6 i left h4;generalize k9 w f.params left (ij gs f.params) 2 6 i left=b at hb Se;obtain⟨b1,b2,b3,b4⟩:=hb;have Ux:(fs.set j ⟨f.name,f.params,b.1⟩).map sg=w.fs:=by rw[CD (f':=⟨f.name,f.params,b.1⟩) QI rfl,h1]
   have ZG:j<fs.length:=(List.getElem?_eq_some_iff.1 QI).1;obtain⟨r1,r2,r3⟩:=GU w gs hm hz hf Ng NB n (j+1) (fs.set j ⟨f.name,f.params,b.1⟩) b.2.1 b.2.2 Ux (fun k f' hk hjk=>by
    rw[List.getElem?_set,if_neg yA] at hk;exact h2 k f' hk yA) yA Se
   refine⟨r1,fun k f' hk=>?_,?_⟩
   ·obtain⟨q1,q2⟩:=r2 k f' hk;refine⟨fun a c=>?_,fun a=>?_⟩
    ·by_cases ZI:k=j
     ·subst ZI;have:=q2 (.inl yA);rw[List.getElem?_set,if_pos rfl,if_pos ZG] at this;simp only[Option.some.injEq] at this;subst this;exact b1
     ·exact q1 yA yA
    ·have:=q2 yA;rw[List.getElem?_set,if_neg yA] at this;exact this
   ·have hs:=E5 QI ⟨f.name,f.params,b.1⟩ (h2 j f QI (Nat.le_refl _));rw[hs] at r3;simp only at r3;omega
theorem Gw (l:List Int):jg (zV l):=by
 unfold zV;simp only;generalize l.take 400=L;have ha:=aV L 3 (Nat.zero_le L.length);generalize bO L 0 3=a at ha;have KV:=aV L 4 ha;have VX:=cI L a.2 (show 0<4 by omega);generalize bO L a.2 4=nm at KV VX;obtain⟨m1,m2,m3,m4⟩:=wV L (1+nm.1) 0 nm.2 yA;generalize oO L (1+nm.1) 0 nm.2=ms at m1 m2 m3 m4;have Mz:=aV L 3 (m4 KV);have VY:=cI L ms.2 (show 0<3 by omega);generalize bO L ms.2 3=ng at Mz VY;obtain⟨g1,g2,g3,g4⟩:=DH L ng.1 0 ng.2 yA;generalize sJ L ng.1 0 ng.2=gs at g1 g2 g3 g4;have Ti:=aV L 4 (g4 Mz);have VZ:=cI L gs.2 (show 0<4 by omega);generalize bO L gs.2 4=nf at Ti VZ;obtain⟨f1,f2,f3,f4,f5⟩:=DI L (nf.1+1) 0 nf.2 yA;generalize rJ L (nf.1+1) 0 nf.2=fs at f1 f2 f3 f4 f5;have LX:∀ f∈fs.1,f.params.length≤2:=fun f hf=>by
  obtain⟨_,k,h1,h2⟩:=f3 f hf;have:=congrArg List.length h2;simp[nP] at this;omega
 have NB:∀ ps:List Pm,(∃ nm,(nm,ps)∈fs.1.map sg)→ya (ij gs.1 ps) 24:=by
  rintro ps ⟨x,hx⟩ k hk hc;obtain⟨v1,_,_,v4⟩:=pF k hk;rw[List.mem_map] at hx;obtain⟨f,hf,he⟩:=hx;rcases rj hc with h | h
  ·rw[g1] at h;exact v1 (List.mem_of_mem_take ON)
  ·have Lt:ps=f.params:=by
    simp only[sg,Prod.mk.injEq] at he;exact he.2.symm
   obtain⟨_,q,_,h2⟩:=f3 f hf;rw[Lt,h2] at h;exact v4 (List.mem_of_mem_take ON)
 obtain⟨r1,r2,r3⟩:=GU ⟨L,decide (a.1=1),ms.1,fs.1.map fun f=>(f.name,f.params)⟩ gs.1 (by simp only;omega) (fun m hm=>by have:=(m3 m hm).1;omega) Lv
  (fun f hf=>by
   simp only[List.mem_map] at hf;obtain⟨f',h1,rfl⟩:=hf;exact LX f' h1) NB (nf.1+1) 0 fs.1 fs.2 24 rfl (fun k f hk _=>(f3 f (List.mem_of_getElem? hk)).1) (Nat.le_refl _) (f5 Ti)
 generalize Ge ⟨L,decide (a.1=1),ms.1,fs.1.map fun f=>(f.name,f.params)⟩ gs.1 (nf.1+1) 0 fs.1 fs.2 24=F at r1 r2 r3;have LG:∀ (k:Nat) (f:Fu),F[k]? = some f→∃ f0:Fu,fs.1[k]? = some f0∧f0.name=f.name∧f0.params=f.params:=by
  intro k f hk;have h1:(F.map sg)[k]? = some (sg f):=by simp[hk]
  rw[r1] at h1;simp only[List.getElem?_map,Option.map_eq_some_iff] at h1;obtain⟨f0,h2,h3⟩:=h1;simp only[sg,Prod.mk.injEq] at h3;exact⟨f0,h2,h3.1,h3.2⟩
 have X9:F.length=nf.1+1:=by
  have:=congrArg List.length r1;simp at this;omega
 refine⟨⟨ng.1,by omega,by simpa using g1⟩,g3,⟨1+nm.1,by omega,by omega,by simpa using m1⟩,m3,⟨nf.1+1,by omega,by omega,?_⟩,?_,?_,?_,?_⟩
 ·have h1:=congrArg (List.map Prod.fst) r1;have h2:(F.map sg).map Prod.fst=F.map (·.name):=by simp[sg]
  rw[h2] at h1;show F.map (·.name)=_;rw[h1]
  simpa [Function.comp_def] using f1
 ·intro f hf;obtain⟨f0,h1,h2,h3⟩:=LG 0 f hf;rw[← h3];exact f4 rfl f0 h1
 ·intro f hf;obtain⟨k,hk⟩:=List.getElem?_of_mem hf;obtain⟨f0,h1,h2,h3⟩:=LG k f hk;rw[← h3];exact (f3 f0 (List.mem_of_getElem? h1)).2
 ·intro f hf;obtain⟨k,hk⟩:=List.getElem?_of_mem hf;have Ke:k<F.length:=(List.getElem?_eq_some_iff.1 hk).1;have:=(r2 k f hk).1 (Nat.zero_le _) yA;show ck ms.1 (F.map sg) _ _ _ _;rw[r1];exact this
 ·have h0:(fs.1.map fun f=>bz f.body).sum=0:=by
   have hz:∀ l:List Fu,(∀ f∈l,f.body=[])→(l.map fun f=>bz f.body).sum=0:=by
    intro l
    induction l with
    | nil=>intro _;rfl
    | cons a r ih=>
     intro h;simp only[List.map_cons,List.sum_cons,h a List.mem_cons_self,ih fun f hf=>h f (List.mem_cons_of_mem _ hf),bz]
   exact hz _ fun f hf=>(f3 f hf).1
  rw[h0] at r3;omega
end Go.aT
