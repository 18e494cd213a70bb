/- Programs of the right form; lockordermade's programs are of  -/
import Derived.Test.YtnecpnjdonibmaaGreatZ15
namespace Go.aP
open Go.Can
def FC (ms:List Mx)(ps:List Pm)(vars:List ByteArray)(r:Rf):Prop:=
 (∃ m∈ms,r.name=m.name∧((r.index=none∧m.size=0)∨∃ e,r.index=some e∧0<m.size∧fc vars 1 e))∨(∃ p∈ps,p.mutex=true∧r.name=p.name∧r.index=none)
def ArW (ms:List Mx)(ps:List Pm)(vars:List ByteArray):Pm→Ar→Prop
 | p,.ua r=>p.mutex=true∧FC ms ps vars r
 | p,.exp e=>p.mutex=false∧fc vars 2 e
def iR (ms:List Mx)(ps:List Pm)(vars:List ByteArray):List Pm→List Ar→Prop
 | [],[]=>True
 | p::gp,a::l=>ArW ms ps vars p a∧iR ms ps vars gp l
 | _,_=>False
def dE:Sm→List ByteArray
 | .gA s _=>[s]
 | _=>[]
mutual
def dB (ms:List Mx)(fs:List (ByteArray×List Pm))(ps:List Pm):Nat→List ByteArray→Sm→Prop
 | _,V,.gA s e=>(∃ k,k<24∧s=eR k)∧s∉V∧fc V 2 e
 | _,V,.hD s e=>s∈V∧fc V 2 e
 | _,V,.dI _ s l=>∃ gp,(s,gp)∈fs∧iR ms ps V gp l
 | _,V,.di _ r=>FC ms ps V r
 | 0,_,.kG _ _ _=>False
 | d+1,V,.kG e th el=>fc V 2 e∧cI ms fs ps d V th∧cI ms fs ps d V el
 | 0,_,.cC _ _=>False
 | d+1,V,.cC e th=>fc V 2 e∧cI ms fs ps d V th
 | _,_,.jb=>True
def cI (ms:List Mx)(fs:List (ByteArray×List Pm))(ps:List Pm):Nat→List ByteArray→List Sm→Prop
 | _,_,[]=>True
 | d,V,s::r=>dB ms fs ps d V s∧cI ms fs ps d (V++dE s) r
end
mutual
def dO:Sm→Nat
 | .gA _ _=>24
 | .hD _ _=>24
 | .dI _ _ l=>8+20*l.length
 | .di _ _=>12
 | .kG _ th el=>25+bH th+bH el
 | .cC _ th=>25+bH th
 | .jb=>8
def bH:List Sm→Nat
 | []=>0
 | s::r=>dO s+bH r
end
theorem fc.mono {ns ns':List ByteArray}(h:∀ s∈ns,s∈ns'):∀ {d d':Nat} {e:Ex},d≤d'→fc ns d e→fc ns' d' e
 | _,_,.num n,_,hx=>by simpa [fc] using hx
 | _,_,.nm s,_,hx=>by simp only[fc] at hx ⊢;exact h s hx
 | d+1,d' + 1,.un k e,hd,hx=>by
  simp only[fc] at hx ⊢;exact⟨hx.1,fc.mono h (Nat.le_of_succ_le_succ hd) hx.2⟩
 | d+1,d' + 1,.bin k a b,hd,hx=>by
  simp only[fc] at hx ⊢;exact⟨hx.1,fc.mono h (Nat.le_of_succ_le_succ hd) hx.2.1,fc.mono h (Nat.le_of_succ_le_succ hd) hx.2.2⟩
 | d+1,0,.un k e,hd,_=>absurd hd yA
 | d+1,0,.bin k a b,hd,_=>absurd hd yA
 | 0,_,.un _ _,_,hx=>hx.elim
 | 0,_,.bin _ _ _,_,hx=>hx.elim
 | 0,_,.zero,_,hx=>hx.elim
 | 0,_,.loc _,_,hx=>hx.elim
 | 0,_,.jE _,_,hx=>hx.elim
 | _+1,_,.zero,_,hx=>hx.elim
 | _+1,_,.loc _,_,hx=>hx.elim
 | _+1,_,.jE _,_,hx=>hx.elim
theorem FC.mono {ms:List Mx}{ps:List Pm}{V V':List ByteArray}(h:∀ s∈V,s∈V'){r:Rf}(hr:FC ms ps V r):FC ms ps V' r:=by
 rcases hr with ⟨m,h1,h2,h3 | ⟨e,h3,h4,h5⟩⟩ | hr
 ·exact .inl ⟨m,h1,h2,.inl h3⟩
 ·exact .inl ⟨m,h1,h2,.inr ⟨e,h3,h4,h5.mono h (Nat.le_refl _)⟩⟩
 ·exact .inr hr
theorem iR.mono {ms:List Mx}{ps:List Pm}{V V':List ByteArray}(h:∀ s∈V,s∈V'):∀ {gp:List Pm} {l:List Ar},iR ms ps V gp l→iR ms ps V' gp l
 | [],[],_=>trivial
 | p::gp,a::l,hx=>by
  simp only[iR] at hx ⊢;refine⟨?_,iR.mono h hx.2⟩
  cases a with
  | ua r=>exact⟨hx.1.1,hx.1.2.mono h⟩
  | exp e=>exact⟨hx.1.1,hx.1.2.mono h (Nat.le_refl _)⟩
 | [],_::_,hx=>hx.elim
 | _::_,[],hx=>hx.elim
theorem iR.len {ms:List Mx}{ps:List Pm}{V:List ByteArray}:∀ {gp:List Pm} {l:List Ar},iR ms ps V gp l→l.length=gp.length
 | [],[],_=>rfl
 | p::gp,a::l,hx=>by
  simp only[iR] at hx;simp[iR.len hx.2]
 | [],_::_,hx=>hx.elim
 | _::_,[],hx=>hx.elim
def dg (l:List Sm):List ByteArray:=l.flatMap dE
theorem cI.app {ms:List Mx}{fs:List (ByteArray×List Pm)}{ps:List Pm}{d:Nat}:∀ {a b:List Sm} {V:List ByteArray},cI ms fs ps d V a→cI ms fs ps d (V++dg a) b→cI ms fs ps d V (a++b)
 | [],b,V,_,hb=>by simpa [dg] using hb
 | s::r,b,V,ha,hb=>by
  simp only[cI,List.cons_append] at ha ⊢;refine⟨ha.1,cI.app ha.2 ?_⟩
  simpa [dg,List.append_assoc] using hb
theorem cI.up {ms:List Mx}{fs:List (ByteArray×List Pm)}{ps:List Pm}{a:List Sm}{V:List ByteArray}:∀ {d d':Nat},d≤d'→cI ms fs ps d V a→cI ms fs ps d' V a:=by
 suffices h:(∀ s:Sm,∀ V d d',d≤d'→dB ms fs ps d V s→dB ms fs ps d' V s)∧(∀ l:List Sm,∀ V d d',d≤d'→cI ms fs ps d V l→cI ms fs ps d' V l) from fun {d d'} hd hx=>h.2 a V d d' hd hx
 refine⟨fun s=>?_,fun l=>?_⟩
 ·exact Sm.rec (motive_1:=fun s=>∀ V d d',d≤d'→dB ms fs ps d V s→dB ms fs ps d' V s) (motive_2:=fun l=>∀ V d d',d≤d'→cI ms fs ps d V l→cI ms fs ps d' V l)
   (fun s e V d d' _ hx=>by simpa [dB] using hx) (fun s e V d d' _ hx=>by simpa [dB] using hx) (fun g s l V d d' _ hx=>by simpa [dB] using hx) (fun u r V d d' _ hx=>by simpa [dB] using hx)
   (fun e th el h1 h2 V d d' hd hx=>by
    cases d with
    | zero=>simp[dB] at hx
    | succ d=>
     obtain⟨d',rfl⟩:∃ k,d'=k+1:=⟨d' - 1,by omega⟩;simp only[dB] at hx ⊢;exact⟨hx.1,h1 _ _ _ yA hx.2.1,h2 _ _ _ yA hx.2.2⟩)
   (fun e th h1 V d d' hd hx=>by
    cases d with
    | zero=>simp[dB] at hx
    | succ d=>
     obtain⟨d',rfl⟩:∃ k,d'=k+1:=⟨d' - 1,by omega⟩;simp only[dB] at hx ⊢;exact⟨hx.1,h1 _ _ _ yA hx.2⟩)
   (fun V d d' _ hx=>by simp[dB]) (fun V d d' _ hx=>by simp[cI])
   (fun s r h1 h2 V d d' hd hx=>by
    simp only[cI] at hx ⊢;exact⟨h1 _ _ _ hd hx.1,h2 _ _ _ hd hx.2⟩) s
 ·exact Sm.rec_1 (motive_1:=fun s=>∀ V d d',d≤d'→dB ms fs ps d V s→dB ms fs ps d' V s) (motive_2:=fun l=>∀ V d d',d≤d'→cI ms fs ps d V l→cI ms fs ps d' V l)
   (fun s e V d d' _ hx=>by simpa [dB] using hx) (fun s e V d d' _ hx=>by simpa [dB] using hx) (fun g s l V d d' _ hx=>by simpa [dB] using hx) (fun u r V d d' _ hx=>by simpa [dB] using hx)
   (fun e th el h1 h2 V d d' hd hx=>by
    cases d with
    | zero=>simp[dB] at hx
    | succ d=>
     obtain⟨d',rfl⟩:∃ k,d'=k+1:=⟨d' - 1,by omega⟩;simp only[dB] at hx ⊢;exact⟨hx.1,h1 _ _ _ yA hx.2.1,h2 _ _ _ yA hx.2.2⟩)
   (fun e th h1 V d d' hd hx=>by
    cases d with
    | zero=>simp[dB] at hx
    | succ d=>
     obtain⟨d',rfl⟩:∃ k,d'=k+1:=⟨d' - 1,by omega⟩;simp only[dB] at hx ⊢;exact⟨hx.1,h1 _ _ _ yA hx.2⟩)
   (fun V d d' _ hx=>by simp[dB]) (fun V d d' _ hx=>by simp[cI])
   (fun s r h1 h2 V d d' hd hx=>by
    simp only[cI] at hx ⊢;exact⟨h1 _ _ _ hd hx.1,h2 _ _ _ hd hx.2⟩) l
theorem sV:∀ a b:List Sm,bH (a++b)=bH a+bH b
 | [],b=>by simp[bH]
 | s::r,b=>by simp only[List.cons_append,bH,sV r b];omega
theorem BR (a b:List Sm):dg (a++b)=dg a++dg b:=by simp[dg]
theorem iK {α:Type}{l:List α}{i:Nat}(h:i<l.length)(d:α):l.getD i d∈l:=by
 simp[List.getD,List.getElem?_eq_getElem h]
theorem Da (L:List Int)(ns:List ByteArray)(d i:Nat):fc ns d (pf L ns i).1:=by
 unfold pf;split
 ·rename_i h;simp only[fc];exact iK (da _ _ h.1) _
 ·simp only[fc];exact JQ _ _
theorem wE (L:List Int)(ns:List ByteArray):∀ d i:Nat,fc ns d (py L ns d i).1
 | 0,i=>Da L ns 0 _
 | d+1,i=>by
  rw[py];split
  ·exact Da L ns _ _
  ·split
   ·simp only[fc];exact⟨Nat.mod_lt _ yA,wE L ns d _⟩
   ·simp only[fc];exact⟨da _ _ yA,wE L ns d _,wE L ns d _⟩
theorem px (L:List Int)(ar:Bool)(vars:List ByteArray)(i:Nat):fc vars 2 (dc L ar vars i).1:=by
 unfold dc;split
 ·refine (wE L vars _ _).mono (fun _ h=>h) ?_;have:=da L i (show 0<2 by omega);omega
 ·exact (wE L vars _ _).mono (fun _ h=>h) yA
theorem MN (L:List Int)(ar:Bool)(vars:List ByteArray)(size i:Nat)(hs:0<size)(XG:size≤1000):fc vars 1 (nH L ar vars size i).1:=by
 unfold nH;split
 ·exact wE _ _ _ _
 ·simp only[fc];exact Nat.lt_of_lt_of_le (da _ _ hs) yA
theorem xJ (L:List Int)(ar:Bool)(ms:List Mx)(ps:List Pm)(vars:List ByteArray)(i:Nat)(hm:0<ms.length)(hz:∀ m∈ms,m.size≤1000):FC ms ps vars (iU L ar ms ps vars i).1:=by
 have hl:0<(bQ ms ps).length:=by simp[bQ];omega
 have hk:=da L i hl;unfold iU;generalize bZ L i (bQ ms ps).length=k at hk;have RK:∀ h:k.1<ms.length,(bQ ms ps).getD k.1 eS=(ms[k.1]).name∧j8 ms k.1=(ms[k.1]).size:=fun h=>by
  simp[bQ,List.getD,j8,List.getElem?_append,h]
 split
 ·rename_i h;obtain⟨e1,e2⟩:=RK h.1;refine .inl ⟨ms[k.1],List.getElem_mem _,e1,.inr ⟨_,rfl,?_,?_⟩⟩
  ·rw[← e2];exact h.2
  ·exact MN _ _ _ _ _ h.2 (by rw[e2];exact hz _ (List.getElem_mem _))
 ·rename_i h;by_cases h1:k.1<ms.length
  ·obtain⟨e1,e2⟩:=RK h1;exact .inl ⟨ms[k.1],List.getElem_mem _,e1,.inl ⟨rfl,by omega⟩⟩
  ·have h2:(bQ ms ps).getD k.1 eS∈ps.flatMap Fw:=by
    have h3:(bQ ms ps).getD k.1 eS=(ps.flatMap Fw).getD (k.1-ms.length) eS:=by
     simp only[bQ,List.getD];rw[List.getElem?_append_right Ru];simp
    rw[h3];refine iK ?_ _;simp only[bQ,List.length_append,List.length_map] at hk;omega
   rw[List.mem_flatMap] at h2;obtain⟨p,V7,ir⟩:=h2;unfold Fw at ir;split at ir
   ·rename_i hp;refine .inr ⟨p,V7,hp,?_,rfl⟩
    simpa using ir
   ·simp at ir
theorem yD (L:List Int)(ar:Bool)(ms:List Mx)(ps:List Pm)(vars:List ByteArray)(hm:0<ms.length)(hz:∀ m∈ms,m.size≤1000):∀ (gp:List Pm) (i:Nat),iR ms ps vars gp (cV L ar ms ps vars gp i).1
 | [],_=>trivial
 | p::r,i=>by
  rw[cV];split
  ·rename_i h;exact⟨⟨h,xJ L ar ms ps vars i hm hz⟩,yD L ar ms ps vars hm hz r _⟩
  ·rename_i h;exact⟨⟨by simpa using h,px L ar vars i⟩,yD L ar ms ps vars hm hz r _⟩
def AK (V:List ByteArray)(left:Nat):Prop:=∀ k,k<left→eR k∉V
theorem fH (k:Nat):bs (eR k)=[118,UInt8.ofNat (97+k % 26),UInt8.ofNat (97+k / 26 % 26)]:=rfl
theorem DN {j k:Nat}(hj:j<26)(hk:k<26)(h:eR j=eR k):j=k:=by
 have h1:=congrArg bs h;rw[fH,fH,Nat.mod_eq_of_lt hj,Nat.mod_eq_of_lt hk] at h1;simp only[List.cons.injEq,true_and] at h1;have h2:=congrArg UInt8.toNat h1.1;simp only[UInt8.toNat_ofNat'] at h2;omega
def Fk (w:Wr)(ps:List Pm)(N:Nat)(rec:Rec):Prop:=∀ vars deep most i left V,left≤N→left≤24→(∀ s∈vars,s∈V)→AK V left →
 cI w.ms w.fs ps deep V (rec vars deep most i left).1∧AK (V++dg (rec vars deep most i left).1) (rec vars deep most i left).2.2∧(rec vars deep most i left).2.2≤left∧
 bH (rec vars deep most i left).1+48*(rec vars deep most i left).2.2≤48*left
structure Oy (w:Wr)(ps:List Pm)(deep left:Nat)(V:List ByteArray)(b:Lt):Prop where
 w:cI w.ms w.fs ps deep V b.out
 v:∀ s∈b.vars,s∈V++dg b.out
 l:AK (V++dg b.out) b.left
 n:b.left≤left
 k:bH b.out+48*b.left≤48*(left+1)
section
variable {w:Wr}{ps:List Pm}{rec:Rec}(hm:0<w.ms.length)(hz:∀ m∈w.ms,m.size≤1000)(hf:0<w.fs.length)(Td:∀ f∈w.fs,f.2.length≤2)
include hm hz
omit hm hz in
theorem zt {s:Sm}{vars V:List ByteArray}{deep i left:Nat}(hv:∀ x∈vars,x∈V)(hl:AK V left)(hs:dB w.ms w.fs ps deep V s)(hd:dE s=[])(hk:dO s≤48):Oy w ps deep left V ⟨[s],vars,i,left⟩:=by
 refine⟨⟨hs,trivial⟩,?_,?_,Nat.le_refl _,?_⟩
 ·simpa [dg,hd] using hv
 ·simpa [dg,hd] using hl
 ·simp only[bH];omega
theorem H4 {N:Nat}(h:Fk w ps N rec){vars V:List ByteArray}(hv:∀ s∈vars,s∈V){deep i left:Nat}(hN:left≤N)(U5:left≤24)(hl:AK V left):Oy w ps deep left V (Af w rec ps vars i left):=by
 have hr:=xJ w.L w.ar w.ms ps vars i hm hz;obtain⟨h1,h2,h3,h4⟩:=h vars 0 2 (iU w.L w.ar w.ms ps vars i).2 left V hN U5 hv hl;unfold Af;refine⟨?_,?_,?_,h3,?_⟩
 ·simp only[List.cons_append,cI,dE,List.append_nil];refine⟨by simp only[dB];exact hr.mono hv,cI.app (h1.up (Nat.zero_le _)) ?_⟩;simp only[cI,dB,and_true];exact hr.mono fun s hs=>List.mem_append_left _ (hv s hs)
 ·intro s hs;exact List.mem_append_left _ (hv s hs)
 ·simpa [dg,dE] using h2
 ·simp only[List.cons_append,bH,dO,sV];omega
include hf Td in
theorem DD {vars V:List ByteArray}(hv:∀ s∈vars,s∈V){deep i left:Nat}(go:Bool)(hl:AK V left):Oy w ps deep left V (gu w ps vars go i left):=by
 have PQ:=da w.L i hf;have hg:=iK PQ (eS,[]);unfold gu;generalize hgg:w.fs.getD (bZ w.L i w.fs.length).1 (eS,[])=g at hg;have ha:=yD w.L w.ar w.ms ps vars hm hz g.2 (bZ w.L i w.fs.length).2;refine zt hv hl ?_ rfl ?_
 ·simp only[dB];exact⟨g.2,hg,ha.mono hv⟩
 ·simp only[dO,ha.len];have:=Td g hg;omega
omit hm hz in
theorem ifS_w {N:Nat}(h:Fk w ps N rec){vars V:List ByteArray}(hv:∀ s∈vars,s∈V){deep i left:Nat}(Ur:0<deep)(hN:left≤N)(U5:left≤24)(hl:AK V left):Oy w ps deep left V (Oj w rec vars deep i left):=by
 have he:=px w.L w.ar vars i;obtain⟨d,rfl⟩:∃ d,deep=d+1:=⟨deep-1,by omega⟩;unfold Oj;simp only[Nat.add_sub_cancel];obtain⟨h1,h2,h3,h4⟩:=h vars d 3 (dc w.L w.ar vars i).2 left V hN U5 hv hl;generalize rec vars d 3 (dc w.L w.ar vars i).2 left=th at h1 h2 h3 h4;have Q0:AK V th.2.2:=fun k hk=>hl k yA;split
 ·obtain⟨g1,g2,g3,g4⟩:=h vars d 3 (bZ w.L th.2.1 2).2 th.2.2 V yA yA hv Q0;generalize rec vars d 3 (bZ w.L th.2.1 2).2 th.2.2=el at g1 g2 g3 g4;have WC:AK V el.2.2:=fun k hk=>hl k yA;refine⟨?_,?_,?_,Nat.le_trans g3 h3,?_⟩
  ·simp only[cI,dB,and_true];exact⟨he.mono hv (Nat.le_refl _),h1,g1⟩
  ·simpa [dg,dE] using hv
  ·simpa [dg,dE] using WC
  ·simp only[bH,dO];omega
 ·refine⟨?_,?_,?_,by omega,?_⟩
  ·simp only[cI,dB,and_true];exact⟨he.mono hv (Nat.le_refl _),h1⟩
  ·simpa [dg,dE] using hv
  ·simpa [dg,dE] using Q0
  ·simp only[bH,dO];omega
omit hm hz in
theorem whS_w {N:Nat}(h:Fk w ps N rec){vars V:List ByteArray}(hv:∀ s∈vars,s∈V){deep i left:Nat}(Ur:0<deep)(hN:left≤N)(U5:left≤24)(hl:AK V left):Oy w ps deep left V (Nt w rec vars deep i left):=by
 have he:=px w.L w.ar vars i;obtain⟨d,rfl⟩:∃ d,deep=d+1:=⟨deep-1,by omega⟩;unfold Nt;simp only[Nat.add_sub_cancel];obtain⟨h1,h2,h3,h4⟩:=h vars d 3 (dc w.L w.ar vars i).2 left V hN U5 hv hl;generalize rec vars d 3 (dc w.L w.ar vars i).2 left=th at h1 h2 h3 h4;have WC:AK V th.2.2:=fun k hk=>hl k yA;refine⟨?_,?_,?_,by omega,?_⟩
 ·simp only[cI,dB,and_true];exact⟨he.mono hv (Nat.le_refl _),h1⟩
 ·simpa [dg,dE] using hv
 ·simpa [dg,dE] using WC
 ·simp only[bH,dO];omega
include hf Td in
theorem stS_w {N:Nat}(h:Fk w ps N rec){vars V:List ByteArray}(hv:∀ s∈vars,s∈V){deep i left:Nat}(hN:left≤N)(U5:left<24)(hl:AK V (left+1)):Oy w ps deep left V (yI w rec ps vars deep i left):=by
 have Q0:AK V left:=fun k hk=>hl k yA;unfold yI;simp only;split
 ·exact zt hv Q0 ((xJ _ _ _ ps _ _ hm hz).mono hv) rfl (by simp[dO])
 split
 ·exact zt hv Q0 ((xJ _ _ _ ps _ _ hm hz).mono hv) rfl (by simp[dO])
 split
 ·refine⟨?_,?_,?_,Nat.le_refl _,?_⟩
  ·simp only[cI,dB,and_true];exact⟨⟨left,U5,rfl⟩,hl left yA,(px _ _ _ _).mono hv (Nat.le_refl _)⟩
  ·intro s hs;simp only[List.mem_append,List.mem_singleton] at hs;simp only[dg,List.flatMap_cons,List.flatMap_nil,dE,List.append_nil,List.mem_append,List.mem_singleton];exact hs.imp (hv s) id
  ·intro k hk hc;simp only[dg,List.flatMap_cons,List.flatMap_nil,dE,List.append_nil,List.mem_append,List.mem_singleton] at hc;rcases hc with hc | hc
   ·exact Q0 k hk hc
   ·have UX:k<left:=hk;have:=DN yA yA hc;omega
  ·simp only[bH,dO];omega
 split
 ·rename_i h8;refine zt hv Q0 ?_ rfl (by simp[dO]);simp only[dB];exact⟨hv _ (iK (da _ _ h8.2) _),(px _ _ _ _).mono hv (Nat.le_refl _)⟩
 split
 ·exact DD hm hz hf Td hv _ Q0
 split
 ·exact DD hm hz hf Td hv _ Q0
 split
 ·rename_i h9;exact ifS_w h hv h9.2 hN yA Q0
 split
 ·rename_i h9;exact whS_w h hv h9.2 hN yA Q0
 split
 ·exact zt hv Q0 (by simp[dB]) rfl (by simp[dO])
 split
 ·exact H4 hm hz h hv hN yA Q0
 ·exact H4 hm hz h hv hN yA Q0
include hf Td in
theorem KV {N:Nat}(h:Fk w ps N rec)(deep:Nat):∀ (n:Nat) (vars:List ByteArray) (i left:Nat) (V:List ByteArray),left≤N+1→left≤24→(∀ s∈vars,s∈V)→AK V left →
  cI w.ms w.fs ps deep V (qP w rec ps deep n vars i left).1∧AK (V++dg (qP w rec ps deep n vars i left).1) (qP w rec ps deep n vars i left).2.2∧(qP w rec ps deep n vars i left).2.2≤left∧
  bH (qP w rec ps deep n vars i left).1+48*(qP w rec ps deep n vars i left).2.2≤48*left
 | 0,vars,i,left,V,hN,U5,hv,hl=>by
  simp only[qP,cI,bH];exact⟨trivial,by simpa [dg] using hl,Nat.le_refl _,by omega⟩
 | n+1,vars,i,left,V,hN,U5,hv,hl=>by
  rw[qP];split
  ·simp only[cI,bH];exact⟨trivial,by simpa [dg] using hl,Nat.le_refl _,by omega⟩
  ·obtain⟨lf,rfl⟩:∃ lf,left=lf+1:=⟨left-1,by omega⟩;have hs:=stS_w hm hz hf Td h (deep:=deep) (i:=i) hv yA yA hl;simp only[Nat.add_sub_cancel];generalize yI w rec ps vars deep i lf=b at hs;have:=hs.n;obtain⟨g1,g2,g3,g4⟩:=KV h deep n b.vars b.i b.left (V++dg b.out) yA yA hs.v hs.l;refine⟨cI.app hs.w g1,?_,by omega,?_⟩
   ·rw[BR,← List.append_assoc];exact g2
   ·rw[sV];have:=hs.k;omega
include hf Td in
theorem Iy:∀ f:Nat,Fk w ps f (l7 w ps f)
 | 0=>fun vars deep most i left V hN U5 hv hl=>by
  obtain rfl:left=0:=by omega
  simp only[l7,cI,bH];exact⟨trivial,by simpa [dg] using hl,Nat.le_refl _,by omega⟩
 | f+1=>fun vars deep most i left V hN U5 hv hl=>KV hm hz hf Td (Iy f) deep _ vars _ left V yA U5 hv hl
end
def nG:List ByteArray:=[⟨#[103,48]⟩,⟨#[103,49]⟩]
def nM:List ByteArray:=[⟨#[97]⟩,⟨#[98]⟩,⟨#[99]⟩,⟨#[100]⟩]
def nF:List ByteArray:=[⟨#[109,97,105,110]⟩,⟨#[102,49]⟩,⟨#[102,50]⟩,⟨#[102,51]⟩]
def nP:List ByteArray:=[⟨#[112,49]⟩,⟨#[112,50]⟩]
structure jP (p:Pg):Prop where
 gn:∃ k,k≤2∧p.gs.map (·.name)=nG.take k
 gi:∀ g∈p.gs,-2≤g.init∧g.init≤2
 mn:∃ k,1≤k∧k≤4∧p.ms.map (·.name)=nM.take k
 mz:∀ m∈p.ms,m.size≤3∧(m.re=true→m.size=0)
 fn:∃ k,1≤k∧k≤4∧p.fs.map (·.name)=nF.take k
 f0:∀ f,p.fs[0]? = some f→f.params=[]
 pn:∀ f∈p.fs,∃ k,k≤2∧f.params.map (·.name)=(nP.take k).reverse
 bd:∀ f∈p.fs,cI p.ms (p.fs.map fun f=>(f.name,f.params)) f.params 2 (jf p.gs f.params) f.body
 wt:(p.fs.map fun f=>bH f.body).sum≤1152
theorem zB (L:List Int):∀ (n j i:Nat),j+n≤4→(pZ L n j i).1.map (·.name)=(nM.drop j).take n∧(pZ L n j i).1.length=n∧(∀ m∈(pZ L n j i).1,m.size≤3∧(m.re=true→m.size=0))∧(i≤L.length→(pZ L n j i).2≤L.length)
 | 0,j,i,h=>⟨by simp[pZ],by simp[pZ],by simp[pZ],fun h=>h⟩
 | n+1,j,i,h=>by
  have hd:nM.drop j=dK (97+j)::nM.drop (j+1):=by
   match j,h with
   | 0,_=>rfl
   | 1,_=>rfl
   | 2,_=>rfl
   | 3,_=>rfl
   | j+4,h=>omega
  rw[hd,List.take_succ_cons,pZ];have h3:=da L (bZ L i 5).2 (show 0<3 by omega);split
  ·obtain⟨i1,i2,i3,i4⟩:=zB L n (j+1) (bZ L i 5).2 yA;refine⟨by simp[i1],by simp[i2],?_,fun h=>i4 (a8 _ _ h)⟩;intro m hm;rcases List.mem_cons.1 hm with rfl | hm
   ·exact⟨by simp,fun _=>rfl⟩
   ·exact i3 m hm
  split
  ·obtain⟨i1,i2,i3,i4⟩:=zB L n (j+1) (bZ L (bZ L i 5).2 3).2 yA;refine⟨by simp[i1],by simp[i2],?_,fun h=>i4 (a8 _ _ (a8 _ _ h))⟩;intro m hm;rcases List.mem_cons.1 hm with rfl | hm
   ·exact⟨by simp only;omega,fun h=>by cases h⟩
   ·exact i3 m hm
  ·obtain⟨i1,i2,i3,i4⟩:=zB L n (j+1) (bZ L i 5).2 yA;refine⟨by simp[i1],by simp[i2],?_,fun h=>i4 (a8 _ _ h)⟩;intro m hm;rcases List.mem_cons.1 hm with rfl | hm
   ·exact⟨by simp,fun _=>rfl⟩
   ·exact i3 m hm
theorem HH (L:List Int):∀ (n j i:Nat),j+n≤2→(vj L n j i).1.map (·.name)=(nG.drop j).take n∧(vj L n j i).1.length=n∧(∀ g∈(vj L n j i).1,-2≤g.init∧g.init≤2)∧(i≤L.length→(vj L n j i).2≤L.length)
 | 0,j,i,h=>⟨by simp[vj],by simp[vj],by simp[vj],fun h=>h⟩
 | n+1,j,i,h=>by
  have hd:nG.drop j=(⟨#[103]⟩++dK (48+j))::nG.drop (j+1):=by
   match j,h with
   | 0,_=>rfl
   | 1,_=>rfl
   | j+2,h=>omega
  rw[hd,List.take_succ_cons,vj];have h3:=da L i (show 0<5 by omega);obtain⟨i1,i2,i3,i4⟩:=HH L n (j+1) (bZ L i 5).2 yA;refine⟨by simp[i1],by simp[i2],?_,fun h=>i4 (a8 _ _ h)⟩;intro m hm;rcases List.mem_cons.1 hm with rfl | hm
  ·simp only;omega
  ·exact i3 m hm
theorem GP (L:List Int):∀ (n i:Nat),n≤2→(CL L n i).1.map (·.name)=(nP.take n).reverse∧(CL L n i).1.length=n∧(i≤L.length→(CL L n i).2≤L.length)
 | 0,i,_=>⟨rfl,rfl,fun h=>h⟩
 | n+1,i,h=>by
  have hd:(nP.take (n+1)).reverse=(⟨#[112]⟩++dK (48+(n+1)))::(nP.take n).reverse:=by
   match n,h with
   | 0,_=>rfl
   | 1,_=>rfl
   | n+2,h=>omega
  obtain⟨i1,i2,i3⟩:=GP L n (bZ L i 3).2 yA;rw[hd,CL];exact⟨by simp[i1],by simp[i2],fun h=>i3 (a8 _ _ h)⟩
theorem HI (L:List Int):∀ (n j i:Nat),j+n≤4→(uu L n j i).1.map (·.name)=(nF.drop j).take n∧(uu L n j i).1.length=n∧(∀ f∈(uu L n j i).1,f.body=[]∧∃ k,k≤2∧f.params.map (·.name)=(nP.take k).reverse)∧(j=0→∀ f,(uu L n j i).1[0]? = some f→f.params=[])∧(i≤L.length→(uu L n j i).2≤L.length)
 | 0,j,i,h=>⟨by simp[uu],by simp[uu],by simp[uu],by simp[uu],fun h=>h⟩
 | n+1,j,i,h=>by
  have hd:nF.drop j=(if j=0 then ⟨#[109,97,105,110]⟩ else ⟨#[102]⟩++dK (48+j))::nF.drop (j+1):=by
   match j,h with
   | 0,_=>rfl
   | 1,_=>rfl
   | 2,_=>rfl
   | 3,_=>rfl
   | j+4,h=>omega
  rw[hd,List.take_succ_cons,uu];simp only;have hk:(if j=0 then 0 else (bZ L i 3).1)≤2:=by
   have:=da L i (show 0<3 by omega);split<;>omega
  obtain⟨p1,p2,p3⟩:=GP L (if j=0 then 0 else (bZ L i 3).1) (bZ L i 3).2 hk;obtain⟨i1,i2,i3,i4,i5⟩:=HI L n (j+1) (CL L (if j=0 then 0 else (bZ L i 3).1) (bZ L i 3).2).2 yA;refine⟨by simp only[List.map_cons,i1],by simp[i2],?_,?_,fun h=>i5 (p3 (a8 _ _ h))⟩
  ·intro f hf;rcases List.mem_cons.1 hf with rfl | hf
   ·exact⟨rfl,_,hk,p1⟩
   ·exact i3 f hf
  ·intro hj f hf;simp only[List.getElem?_cons_zero,Option.some.injEq] at hf;subst hf;simp[hj,CL]
theorem tV {gs:List Gl}{ps:List Pm}{s:ByteArray}(h:s∈jf gs ps):s∈gs.map (·.name)∨s∈ps.map (·.name):=by
 simp only[jf,List.mem_append,List.mem_flatMap] at h;rcases h with h | ⟨p,h1,h2⟩
 ·exact .inl h
 ·split at h2
  ·simp at h2
  ·simp only[List.mem_singleton] at h2;exact .inr (h2 ▸ List.mem_map_of_mem h1)
theorem qE:∀ k,k<24→eR k∉nG∧eR k∉nM∧eR k∉nF∧eR k∉nP:=by
 intro k hk;have h:∀ s∈nG++nM++nF++nP,(bs s).length≠3∨(bs s)[0]?≠some 118:=by decide
 have h2:∀ s∈nG++nM++nF++nP,eR k≠s:=by
  rintro s hs rfl;have:=h _ hs;rw[fH] at this;simp at this
 refine⟨fun h=>h2 _ (by simp[h]) rfl,fun h=>h2 _ (by simp[h]) rfl,fun h=>h2 _ (by simp[h]) rfl,fun h=>h2 _ (by simp[h]) rfl⟩
theorem Jk {l:List Fu}{j:Nat}{f:Fu}(hf:l[j]? = some f)(f':Fu)(hb:f.body=[]):((l.set j f').map fun f=>bH f.body).sum=(l.map fun f=>bH f.body).sum+bH f'.body:=by
 induction l generalizing j with
 | nil=>simp at hf
 | cons a r ih=>
  cases j with
  | zero=>
   simp only[List.getElem?_cons_zero,Option.some.injEq] at hf;subst hf;simp[hb,bH];omega
  | succ j=>
   simp only[List.getElem?_cons_succ] at hf;simp only[List.set_cons_succ,List.map_cons,List.sum_cons,ih hf];omega
def sg (f:Fu):ByteArray×List Pm:=(f.name,f.params)
theorem Gv {l:List Fu}{j:Nat}{f f':Fu}(hf:l[j]? = some f)(h:sg f'=sg f):(l.set j f').map sg=l.map sg:=by
 rw[List.map_set,h];refine List.ext_getElem? fun i=>?_;rw[List.getElem?_set];split
 ·rename_i e;subst e;have hl:j<l.length:=(List.getElem?_eq_some_iff.1 hf).1;simp[hl,(List.getElem?_eq_some_iff.1 hf).2]
 ·rfl
theorem Li (w:Wr)(gs:List Gl)(hm:0<w.ms.length)(hz:∀ m∈w.ms,m.size≤1000)(hf:0<w.fs.length)(Td:∀ f∈w.fs,f.2.length≤2)(Tx:∀ ps:List Pm,(∃ nm,(nm,ps)∈w.fs)→AK (jf gs ps) 24) :
  ∀ (n j:Nat) (fs:List Fu) (i left:Nat),fs.map sg=w.fs→(∀ k f,fs[k]? = some f→j≤k→f.body=[])→left≤24→i≤w.L.length →
  (Ky w gs n j fs i left).map sg=w.fs∧(∀ k f,(Ky w gs n j fs i left)[k]? = some f→(j≤k→k<j+n→cI w.ms w.fs f.params 2 (jf gs f.params) f.body)∧(k<j∨j+n≤k→fs[k]? = some f))∧
  ((Ky w gs n j fs i left).map fun f=>bH f.body).sum≤(fs.map fun f=>bH f.body).sum+48*left
 | 0,j,fs,i,left,h1,h2,h3,h4=>⟨h1,fun k f hk=>⟨fun a b=>absurd a yA,fun _=>hk⟩,Nat.le_add_right _ _⟩
 | n+1,j,fs,i,left,h1,h2,h3,h4=>by
  rw[Ky];split
  ·rename_i hn;refine⟨h1,fun k f hk=>⟨fun a b=>?_,fun _=>hk⟩,Nat.le_add_right _ _⟩;rw[List.getElem?_eq_none_iff] at hn;have:=(List.getElem?_eq_some_iff.1 hk).1;omega
  ·rename_i f Xe;simp only;have Q1:(f.name,f.params)∈w.fs:=by
    rw[← h1];exact List.mem_map_of_mem (f:=sg) (List.mem_of_getElem? Xe)
   have hb:=Iy (w:=w) (ps:=f.params) hm hz hf Td left (jf gs f.params) 2 6 i left (jf gs f.params) (Nat.le_refl _) h3 (fun _ h=>h) (fun k hk=>Tx _ ⟨_,Q1⟩ k yA);obtain⟨YL,_⟩:=sE w f.params left (jf gs f.params) 2 6 i left h4;generalize l7 w f.params left (jf gs f.params) 2 6 i left=b at hb YL;obtain⟨b1,b2,b3,b4⟩:=hb;have hs1:(fs.set j ⟨f.name,f.params,b.1⟩).map sg=w.fs:=by rw[Gv (f':=⟨f.name,f.params,b.1⟩) Xe rfl,h1]
   have hlj:j<fs.length:=(List.getElem?_eq_some_iff.1 Xe).1;obtain⟨r1,r2,r3⟩:=Li w gs hm hz hf Td Tx n (j+1) (fs.set j ⟨f.name,f.params,b.1⟩) b.2.1 b.2.2 hs1 (fun k f' hk hjk=>by
    rw[List.getElem?_set,if_neg yA] at hk;exact h2 k f' hk yA) yA YL
   refine⟨r1,fun k f' hk=>?_,?_⟩
   ·obtain⟨q1,q2⟩:=r2 k f' hk;refine⟨fun a c=>?_,fun a=>?_⟩
    ·by_cases hkj:k=j
     ·subst hkj;have:=q2 (.inl yA);rw[List.getElem?_set,if_pos rfl,if_pos hlj] at this;simp only[Option.some.injEq] at this;subst this;exact b1
     ·exact q1 yA yA
    ·have:=q2 yA;rw[List.getElem?_set,if_neg yA] at this;exact this
   ·have hs:=Jk Xe ⟨f.name,f.params,b.1⟩ (h2 j f Xe (Nat.le_refl _));rw[hs] at r3;simp only at r3;omega
theorem KU (l:List Int):jP (C2 l):=by
 unfold C2;simp only;generalize l.take 400=L;have ha:=a8 L 3 (Nat.zero_le L.length);generalize bZ L 0 3=a at ha;have QH:=a8 L 4 ha;have hnm2:=da L a.2 (show 0<4 by omega);generalize bZ L a.2 4=nm at QH hnm2;obtain⟨m1,m2,m3,m4⟩:=zB L (1+nm.1) 0 nm.2 yA;generalize pZ L (1+nm.1) 0 nm.2=ms at m1 m2 m3 m4;have Vx:=a8 L 3 (m4 QH);have hng2:=da L ms.2 (show 0<3 by omega);generalize bZ L ms.2 3=ng at Vx hng2;obtain⟨g1,g2,g3,g4⟩:=HH L ng.1 0 ng.2 yA;generalize vj L ng.1 0 ng.2=gs at g1 g2 g3 g4;have ZK:=a8 L 4 (g4 Vx);have hnf2:=da L gs.2 (show 0<4 by omega);generalize bZ L gs.2 4=nf at ZK hnf2;obtain⟨f1,f2,f3,f4,f5⟩:=HI L (nf.1+1) 0 nf.2 yA;generalize uu L (nf.1+1) 0 nf.2=fs at f1 f2 f3 f4 f5;have Qy:∀ f∈fs.1,f.params.length≤2:=fun f hf=>by
  obtain⟨_,k,h1,h2⟩:=f3 f hf;have:=congrArg List.length h2;simp[nP] at this;omega
 have Tx:∀ ps:List Pm,(∃ nm,(nm,ps)∈fs.1.map sg)→AK (jf gs.1 ps) 24:=by
  rintro ps ⟨x,hx⟩ k hk hc;obtain⟨v1,_,_,v4⟩:=qE k hk;rw[List.mem_map] at hx;obtain⟨f,hf,he⟩:=hx;rcases tV hc with h | h
  ·rw[g1] at h;exact v1 (List.mem_of_mem_take Sr)
  ·have Rc:ps=f.params:=by
    simp only[sg,Prod.mk.injEq] at he;exact he.2.symm
   obtain⟨_,q,_,h2⟩:=f3 f hf;rw[Rc,h2] at h;exact v4 (List.mem_of_mem_take Sr)
 obtain⟨r1,r2,r3⟩:=Li ⟨L,decide (a.1=1),ms.1,fs.1.map fun f=>(f.name,f.params)⟩ gs.1 (by simp only;omega) (fun m hm=>by have:=(m3 m hm).1;omega) Ru
  (fun f hf=>by
   simp only[List.mem_map] at hf;obtain⟨f',h1,rfl⟩:=hf;exact Qy f' h1) Tx (nf.1+1) 0 fs.1 fs.2 24 rfl (fun k f hk _=>(f3 f (List.mem_of_getElem? hk)).1) (Nat.le_refl _) (f5 ZK)
 generalize Ky ⟨L,decide (a.1=1),ms.1,fs.1.map fun f=>(f.name,f.params)⟩ gs.1 (nf.1+1) 0 fs.1 fs.2 24=F at r1 r2 r3;have RK:∀ (k:Nat) (f:Fu),F[k]? = some f→∃ f0:Fu,fs.1[k]? = some f0∧f0.name=f.name∧f0.params=f.params:=by
  intro k f hk;have h1:(F.map sg)[k]? = some (sg f):=by simp[hk]
  rw[r1] at h1;simp only[List.getElem?_map,Option.map_eq_some_iff] at h1;obtain⟨f0,h2,h3⟩:=h1;simp only[sg,Prod.mk.injEq] at h3;exact⟨f0,h2,h3.1,h3.2⟩
 have hlenF:F.length=nf.1+1:=by
  have:=congrArg List.length r1;simp at this;omega
 refine⟨⟨ng.1,by omega,by simpa using g1⟩,g3,⟨1+nm.1,by omega,by omega,by simpa using m1⟩,m3,⟨nf.1+1,by omega,by omega,?_⟩,?_,?_,?_,?_⟩
 ·have h1:=congrArg (List.map Prod.fst) r1;have h2:(F.map sg).map Prod.fst=F.map (·.name):=by simp[sg]
  rw[h2] at h1;show F.map (·.name)=_;rw[h1]
  simpa [Function.comp_def] using f1
 ·intro f hf;obtain⟨f0,h1,h2,h3⟩:=RK 0 f hf;rw[← h3];exact f4 rfl f0 h1
 ·intro f hf;obtain⟨k,hk⟩:=List.getElem?_of_mem hf;obtain⟨f0,h1,h2,h3⟩:=RK k f hk;rw[← h3];exact (f3 f0 (List.mem_of_getElem? h1)).2
 ·intro f hf;obtain⟨k,hk⟩:=List.getElem?_of_mem hf;have Qh:k<F.length:=(List.getElem?_eq_some_iff.1 hk).1;have:=(r2 k f hk).1 (Nat.zero_le _) yA;show cI ms.1 (F.map sg) _ _ _ _;rw[r1];exact this
 ·have h0:(fs.1.map fun f=>bH f.body).sum=0:=by
   have hz:∀ l:List Fu,(∀ f∈l,f.body=[])→(l.map fun f=>bH f.body).sum=0:=by
    intro l
    induction l with
    | nil=>intro _;rfl
    | cons a r ih=>
     intro h;simp only[List.map_cons,List.sum_cons,h a List.mem_cons_self,ih fun f hf=>h f (List.mem_cons_of_mem _ hf),bH]
   exact hz _ fun f hf=>(f3 f hf).1
  rw[h0] at r3;omega
end Go.aP
