/- Programs of the right form; lockordermade's programs are of  -/
import Derived.Test.YtnecpnjdonibmaaGreatZ17
namespace Go.aP
open Go.Can
def Gy (ms:List Mx)(ps:List Pm)(vars:List ByteArray)(r:Rf):Prop:=
 (∃ m∈ms,r.name=m.name∧((r.index=none∧m.size=0)∨∃ e,r.index=some e∧0<m.size∧fS vars 1 e))∨(∃ p∈ps,p.mutex=true∧r.name=p.name∧r.index=none)
def ArW (ms:List Mx)(ps:List Pm)(vars:List ByteArray):Pm→Ar→Prop
 | p,.vm r=>p.mutex=true∧Gy ms ps vars r
 | p,.exp e=>p.mutex=false∧fS vars 2 e
def jw (ms:List Mx)(ps:List Pm)(vars:List ByteArray):List Pm→List Ar→Prop
 | [],[]=>True
 | p::gp,a::l=>ArW ms ps vars p a∧jw ms ps vars gp l
 | _,_=>False
def dZ:Sm→List ByteArray
 | .g6 s _=>[s]
 | _=>[]
mutual
def dU (ms:List Mx)(fs:List (ByteArray×List Pm))(ps:List Pm):Nat→List ByteArray→Sm→Prop
 | _,V,.g6 s e=>(∃ k,k<24∧s=fG k)∧s∉V∧fS V 2 e
 | _,V,.iD s e=>s∈V∧fS V 2 e
 | _,V,.ef _ s l=>∃ gp,(s,gp)∈fs∧jw ms ps V gp l
 | _,V,.dA _ r=>Gy ms ps V r
 | 0,_,.lE _ _ _=>False
 | d+1,V,.lE e th el=>fS V 2 e∧cR ms fs ps d V th∧cR ms fs ps d V el
 | 0,_,.cJ _ _=>False
 | d+1,V,.cJ e th=>fS V 2 e∧cR ms fs ps d V th
 | _,_,.jF=>True
def cR (ms:List Mx)(fs:List (ByteArray×List Pm))(ps:List Pm):Nat→List ByteArray→List Sm→Prop
 | _,_,[]=>True
 | d,V,s::r=>dU ms fs ps d V s∧cR ms fs ps d (V++dZ s) r
end
mutual
def eB:Sm→Nat
 | .g6 _ _=>24
 | .iD _ _=>24
 | .ef _ _ l=>8+20*l.length
 | .dA _ _=>12
 | .lE _ th el=>25+bO th+bO el
 | .cJ _ th=>25+bO th
 | .jF=>8
def bO:List Sm→Nat
 | []=>0
 | s::r=>eB s+bO r
end
theorem fS.mono {ns ns':List ByteArray}(h:∀ s∈ns,s∈ns'):∀ {d d':Nat} {e:Ex},d≤d'→fS ns d e→fS ns' d' e
 | _,_,.num n,_,hx=>by simpa [fS] using hx
 | _,_,.nm s,_,hx=>by simp only[fS] at hx ⊢;exact h s hx
 | d+1,d' + 1,.un k e,hd,hx=>by
  simp only[fS] at hx ⊢;exact⟨hx.1,fS.mono h (Nat.le_of_succ_le_succ hd) hx.2⟩
 | d+1,d' + 1,.bin k a b,hd,hx=>by
  simp only[fS] at hx ⊢;exact⟨hx.1,fS.mono h (Nat.le_of_succ_le_succ hd) hx.2.1,fS.mono h (Nat.le_of_succ_le_succ hd) hx.2.2⟩
 | d+1,0,.un k e,hd,_=>absurd hd yA
 | d+1,0,.bin k a b,hd,_=>absurd hd yA
 | 0,_,.un _ _,_,hx=>hx.elim
 | 0,_,.bin _ _ _,_,hx=>hx.elim
 | 0,_,.zero,_,hx=>hx.elim
 | 0,_,.loc _,_,hx=>hx.elim
 | 0,_,.ke _,_,hx=>hx.elim
 | _+1,_,.zero,_,hx=>hx.elim
 | _+1,_,.loc _,_,hx=>hx.elim
 | _+1,_,.ke _,_,hx=>hx.elim
theorem Gy.mono {ms:List Mx}{ps:List Pm}{V V':List ByteArray}(h:∀ s∈V,s∈V'){r:Rf}(hr:Gy ms ps V r):Gy ms ps V' r:=by
 rcases hr with ⟨m,h1,h2,h3 | ⟨e,h3,h4,h5⟩⟩ | hr
 ·exact .inl ⟨m,h1,h2,.inl h3⟩
 ·exact .inl ⟨m,h1,h2,.inr ⟨e,h3,h4,h5.mono h (Nat.le_refl _)⟩⟩
 ·exact .inr hr
theorem jw.mono {ms:List Mx}{ps:List Pm}{V V':List ByteArray}(h:∀ s∈V,s∈V'):∀ {gp:List Pm} {l:List Ar},jw ms ps V gp l→jw ms ps V' gp l
 | [],[],_=>trivial
 | p::gp,a::l,hx=>by
  simp only[jw] at hx ⊢;refine⟨?_,jw.mono h hx.2⟩
  cases a with
  | vm r=>exact⟨hx.1.1,hx.1.2.mono h⟩
  | exp e=>exact⟨hx.1.1,hx.1.2.mono h (Nat.le_refl _)⟩
 | [],_::_,hx=>hx.elim
 | _::_,[],hx=>hx.elim
theorem jw.len {ms:List Mx}{ps:List Pm}{V:List ByteArray}:∀ {gp:List Pm} {l:List Ar},jw ms ps V gp l→l.length=gp.length
 | [],[],_=>rfl
 | p::gp,a::l,hx=>by
  simp only[jw] at hx;simp[jw.len hx.2]
 | [],_::_,hx=>hx.elim
 | _::_,[],hx=>hx.elim
def dy (l:List Sm):List ByteArray:=l.flatMap dZ
theorem cR.app {ms:List Mx}{fs:List (ByteArray×List Pm)}{ps:List Pm}{d:Nat}:∀ {a b:List Sm} {V:List ByteArray},cR ms fs ps d V a→cR ms fs ps d (V++dy a) b→cR ms fs ps d V (a++b)
 | [],b,V,_,hb=>by simpa [dy] using hb
 | s::r,b,V,ha,hb=>by
  simp only[cR,List.cons_append] at ha ⊢;refine⟨ha.1,cR.app ha.2 ?_⟩
  simpa [dy,List.append_assoc] using hb
theorem cR.up {ms:List Mx}{fs:List (ByteArray×List Pm)}{ps:List Pm}{a:List Sm}{V:List ByteArray}:∀ {d d':Nat},d≤d'→cR ms fs ps d V a→cR ms fs ps d' V a:=by
 suffices h:(∀ s:Sm,∀ V d d',d≤d'→dU ms fs ps d V s→dU ms fs ps d' V s)∧(∀ l:List Sm,∀ V d d',d≤d'→cR ms fs ps d V l→cR ms fs ps d' V l) from fun {d d'} hd hx=>h.2 a V d d' hd hx
 refine⟨fun s=>?_,fun l=>?_⟩
 ·exact Sm.rec (motive_1:=fun s=>∀ V d d',d≤d'→dU ms fs ps d V s→dU ms fs ps d' V s) (motive_2:=fun l=>∀ V d d',d≤d'→cR ms fs ps d V l→cR ms fs ps d' V l)
   (fun s e V d d' _ hx=>by simpa [dU] using hx) (fun s e V d d' _ hx=>by simpa [dU] using hx) (fun g s l V d d' _ hx=>by simpa [dU] using hx) (fun u r V d d' _ hx=>by simpa [dU] using hx)
   (fun e th el h1 h2 V d d' hd hx=>by
    cases d with
    | zero=>simp[dU] at hx
    | succ d=>
     obtain⟨d',rfl⟩:∃ k,d'=k+1:=⟨d' - 1,by omega⟩;simp only[dU] at hx ⊢;exact⟨hx.1,h1 _ _ _ yA hx.2.1,h2 _ _ _ yA hx.2.2⟩)
   (fun e th h1 V d d' hd hx=>by
    cases d with
    | zero=>simp[dU] at hx
    | succ d=>
     obtain⟨d',rfl⟩:∃ k,d'=k+1:=⟨d' - 1,by omega⟩;simp only[dU] at hx ⊢;exact⟨hx.1,h1 _ _ _ yA hx.2⟩)
   (fun V d d' _ hx=>by simp[dU]) (fun V d d' _ hx=>by simp[cR])
   (fun s r h1 h2 V d d' hd hx=>by
    simp only[cR] at hx ⊢;exact⟨h1 _ _ _ hd hx.1,h2 _ _ _ hd hx.2⟩) s
 ·exact Sm.rec_1 (motive_1:=fun s=>∀ V d d',d≤d'→dU ms fs ps d V s→dU ms fs ps d' V s) (motive_2:=fun l=>∀ V d d',d≤d'→cR ms fs ps d V l→cR ms fs ps d' V l)
   (fun s e V d d' _ hx=>by simpa [dU] using hx) (fun s e V d d' _ hx=>by simpa [dU] using hx) (fun g s l V d d' _ hx=>by simpa [dU] using hx) (fun u r V d d' _ hx=>by simpa [dU] using hx)
   (fun e th el h1 h2 V d d' hd hx=>by
    cases d with
    | zero=>simp[dU] at hx
    | succ d=>
     obtain⟨d',rfl⟩:∃ k,d'=k+1:=⟨d' - 1,by omega⟩;simp only[dU] at hx ⊢;exact⟨hx.1,h1 _ _ _ yA hx.2.1,h2 _ _ _ yA hx.2.2⟩)
   (fun e th h1 V d d' hd hx=>by
    cases d with
    | zero=>simp[dU] at hx
    | succ d=>
     obtain⟨d',rfl⟩:∃ k,d'=k+1:=⟨d' - 1,by omega⟩;simp only[dU] at hx ⊢;exact⟨hx.1,h1 _ _ _ yA hx.2⟩)
   (fun V d d' _ hx=>by simp[dU]) (fun V d d' _ hx=>by simp[cR])
   (fun s r h1 h2 V d d' hd hx=>by
    simp only[cR] at hx ⊢;exact⟨h1 _ _ _ hd hx.1,h2 _ _ _ hd hx.2⟩) l
theorem uS:∀ a b:List Sm,bO (a++b)=bO a+bO b
 | [],b=>by simp[bO]
 | s::r,b=>by simp only[List.cons_append,bO,uS r b];omega
theorem CZ (a b:List Sm):dy (a++b)=dy a++dy b:=by simp[dy]
theorem jm {α:Type}{l:List α}{i:Nat}(h:i<l.length)(d:α):l.getD i d∈l:=by
 simp[List.getD,List.getElem?_eq_getElem h]
theorem D7 (L:List Int)(ns:List ByteArray)(d i:Nat):fS ns d (qA L ns i).1:=by
 unfold qA;split
 ·rename_i h;simp only[fS];exact jm (dm _ _ h.1) _
 ·simp only[fS];exact Kz _ _
theorem x9 (L:List Int)(ns:List ByteArray):∀ d i:Nat,fS ns d (qK L ns d i).1
 | 0,i=>D7 L ns 0 _
 | d+1,i=>by
  rw[qK];split
  ·exact D7 L ns _ _
  ·split
   ·simp only[fS];exact⟨Nat.mod_lt _ yA,x9 L ns d _⟩
   ·simp only[fS];exact⟨dm _ _ yA,x9 L ns d _,x9 L ns d _⟩
theorem qJ (L:List Int)(ar:Bool)(vars:List ByteArray)(i:Nat):fS vars 2 (dq L ar vars i).1:=by
 unfold dq;split
 ·refine (x9 L vars _ _).mono (fun _ h=>h) ?_;have:=dm L i (show 0<2 by omega);omega
 ·exact (x9 L vars _ _).mono (fun _ h=>h) yA
theorem Nk (L:List Int)(ar:Bool)(vars:List ByteArray)(size i:Nat)(hs:0<size)(Wi:size≤1000):fS vars 1 (pa L ar vars size i).1:=by
 unfold pa;split
 ·exact x9 _ _ _ _
 ·simp only[fS];exact Nat.lt_of_lt_of_le (dm _ _ hs) yA
theorem zb (L:List Int)(ar:Bool)(ms:List Mx)(ps:List Pm)(vars:List ByteArray)(i:Nat)(hm:0<ms.length)(hz:∀ m∈ms,m.size≤1000):Gy ms ps vars (jz L ar ms ps vars i).1:=by
 have hl:0<(bX ms ps).length:=by simp[bX];omega
 have hk:=dm L i hl;unfold jz;generalize cd L i (bX ms ps).length=k at hk;have Q0:∀ h:k.1<ms.length,(bX ms ps).getD k.1 eS=(ms[k.1]).name∧kX ms k.1=(ms[k.1]).size:=fun h=>by
  simp[bX,List.getD,kX,List.getElem?_append,h]
 split
 ·rename_i h;obtain⟨e1,e2⟩:=Q0 h.1;refine .inl ⟨ms[k.1],List.getElem_mem _,e1,.inr ⟨_,rfl,?_,?_⟩⟩
  ·rw[← e2];exact h.2
  ·exact Nk _ _ _ _ _ h.2 (by rw[e2];exact hz _ (List.getElem_mem _))
 ·rename_i h;by_cases h1:k.1<ms.length
  ·obtain⟨e1,e2⟩:=Q0 h1;exact .inl ⟨ms[k.1],List.getElem_mem _,e1,.inl ⟨rfl,by omega⟩⟩
  ·have h2:(bX ms ps).getD k.1 eS∈ps.flatMap Gt:=by
    have h3:(bX ms ps).getD k.1 eS=(ps.flatMap Gt).getD (k.1-ms.length) eS:=by
     simp only[bX,List.getD];rw[List.getElem?_append_right QS];simp
    rw[h3];refine jm ?_ _;simp only[bX,List.length_append,List.length_map] at hk;omega
   rw[List.mem_flatMap] at h2;obtain⟨p,UK,dY⟩:=h2;unfold Gt at dY;split at dY
   ·rename_i hp;refine .inr ⟨p,UK,hp,?_,rfl⟩
    simpa using dY
   ·simp at dY
theorem zY (L:List Int)(ar:Bool)(ms:List Mx)(ps:List Pm)(vars:List ByteArray)(hm:0<ms.length)(hz:∀ m∈ms,m.size≤1000):∀ (gp:List Pm) (i:Nat),jw ms ps vars gp (de L ar ms ps vars gp i).1
 | [],_=>trivial
 | p::r,i=>by
  rw[de];split
  ·rename_i h;exact⟨⟨h,zb L ar ms ps vars i hm hz⟩,zY L ar ms ps vars hm hz r _⟩
  ·rename_i h;exact⟨⟨by simpa using h,qJ L ar vars i⟩,zY L ar ms ps vars hm hz r _⟩
def BT (V:List ByteArray)(left:Nat):Prop:=∀ k,k<left→fG k∉V
theorem gx (k:Nat):bs (fG k)=[118,UInt8.ofNat (97+k % 26),UInt8.ofNat (97+k / 26 % 26)]:=rfl
theorem EZ {j k:Nat}(hj:j<26)(hk:k<26)(h:fG j=fG k):j=k:=by
 have h1:=congrArg bs h;rw[gx,gx,Nat.mod_eq_of_lt hj,Nat.mod_eq_of_lt hk] at h1;simp only[List.cons.injEq,true_and] at h1;have h2:=congrArg UInt8.toNat h1.1;simp only[UInt8.toNat_ofNat'] at h2;omega
def Gk (w:Wr)(ps:List Pm)(N:Nat)(rec:Rec):Prop:=∀ vars deep most i left V,left≤N→left≤24→(∀ s∈vars,s∈V)→BT V left →
 cR w.ms w.fs ps deep V (rec vars deep most i left).1∧BT (V++dy (rec vars deep most i left).1) (rec vars deep most i left).2.2∧(rec vars deep most i left).2.2≤left∧
 bO (rec vars deep most i left).1+48*(rec vars deep most i left).2.2≤48*left
structure OT (w:Wr)(ps:List Pm)(deep left:Nat)(V:List ByteArray)(b:L6):Prop where
 w:cR w.ms w.fs ps deep V b.out
 v:∀ s∈b.vars,s∈V++dy b.out
 l:BT (V++dy b.out) b.left
 n:b.left≤left
 k:bO b.out+48*b.left≤48*(left+1)
section
variable {w:Wr}{ps:List Pm}{rec:Rec}(hm:0<w.ms.length)(hz:∀ m∈w.ms,m.size≤1000)(hf:0<w.fs.length)(Sn:∀ f∈w.fs,f.2.length≤2)
include hm hz
omit hm hz in
theorem AN {s:Sm}{vars V:List ByteArray}{deep i left:Nat}(hv:∀ x∈vars,x∈V)(hl:BT V left)(hs:dU w.ms w.fs ps deep V s)(hd:dZ s=[])(hk:eB s≤48):OT w ps deep left V ⟨[s],vars,i,left⟩:=by
 refine⟨⟨hs,trivial⟩,?_,?_,Nat.le_refl _,?_⟩
 ·simpa [dy,hd] using hv
 ·simpa [dy,hd] using hl
 ·simp only[bO];omega
theorem I2 {N:Nat}(h:Gk w ps N rec){vars V:List ByteArray}(hv:∀ s∈vars,s∈V){deep i left:Nat}(hN:left≤N)(Uo:left≤24)(hl:BT V left):OT w ps deep left V (Bv w rec ps vars i left):=by
 have hr:=zb w.L w.ar w.ms ps vars i hm hz;obtain⟨h1,h2,h3,h4⟩:=h vars 0 2 (jz w.L w.ar w.ms ps vars i).2 left V hN Uo hv hl;unfold Bv;refine⟨?_,?_,?_,h3,?_⟩
 ·simp only[List.cons_append,cR,dZ,List.append_nil];refine⟨by simp only[dU];exact hr.mono hv,cR.app (h1.up (Nat.zero_le _)) ?_⟩;simp only[cR,dU,and_true];exact hr.mono fun s hs=>List.mem_append_left _ (hv s hs)
 ·intro s hs;exact List.mem_append_left _ (hv s hs)
 ·simpa [dy,dZ] using h2
 ·simp only[List.cons_append,bO,eB,uS];omega
include hf Sn in
theorem EN {vars V:List ByteArray}(hv:∀ s∈vars,s∈V){deep i left:Nat}(go:Bool)(hl:BT V left):OT w ps deep left V (gX w ps vars go i left):=by
 have O1:=dm w.L i hf;have hg:=jm O1 (eS,[]);unfold gX;generalize hgg:w.fs.getD (cd w.L i w.fs.length).1 (eS,[])=g at hg;have ha:=zY w.L w.ar w.ms ps vars hm hz g.2 (cd w.L i w.fs.length).2;refine AN hv hl ?_ rfl ?_
 ·simp only[dU];exact⟨g.2,hg,ha.mono hv⟩
 ·simp only[eB,ha.len];have:=Sn g hg;omega
omit hm hz in
theorem ifS_w {N:Nat}(h:Gk w ps N rec){vars V:List ByteArray}(hv:∀ s∈vars,s∈V){deep i left:Nat}(Uk:0<deep)(hN:left≤N)(Uo:left≤24)(hl:BT V left):OT w ps deep left V (OK w rec vars deep i left):=by
 have he:=qJ w.L w.ar vars i;obtain⟨d,rfl⟩:∃ d,deep=d+1:=⟨deep-1,by omega⟩;unfold OK;simp only[Nat.add_sub_cancel];obtain⟨h1,h2,h3,h4⟩:=h vars d 3 (dq w.L w.ar vars i).2 left V hN Uo hv hl;generalize rec vars d 3 (dq w.L w.ar vars i).2 left=th at h1 h2 h3 h4;have Qj:BT V th.2.2:=fun k hk=>hl k yA;split
 ·obtain⟨g1,g2,g3,g4⟩:=h vars d 3 (cd w.L th.2.1 2).2 th.2.2 V yA yA hv Qj;generalize rec vars d 3 (cd w.L th.2.1 2).2 th.2.2=el at g1 g2 g3 g4;have VO:BT V el.2.2:=fun k hk=>hl k yA;refine⟨?_,?_,?_,Nat.le_trans g3 h3,?_⟩
  ·simp only[cR,dU,and_true];exact⟨he.mono hv (Nat.le_refl _),h1,g1⟩
  ·simpa [dy,dZ] using hv
  ·simpa [dy,dZ] using VO
  ·simp only[bO,eB];omega
 ·refine⟨?_,?_,?_,by omega,?_⟩
  ·simp only[cR,dU,and_true];exact⟨he.mono hv (Nat.le_refl _),h1⟩
  ·simpa [dy,dZ] using hv
  ·simpa [dy,dZ] using Qj
  ·simp only[bO,eB];omega
omit hm hz in
theorem whS_w {N:Nat}(h:Gk w ps N rec){vars V:List ByteArray}(hv:∀ s∈vars,s∈V){deep i left:Nat}(Uk:0<deep)(hN:left≤N)(Uo:left≤24)(hl:BT V left):OT w ps deep left V (NV w rec vars deep i left):=by
 have he:=qJ w.L w.ar vars i;obtain⟨d,rfl⟩:∃ d,deep=d+1:=⟨deep-1,by omega⟩;unfold NV;simp only[Nat.add_sub_cancel];obtain⟨h1,h2,h3,h4⟩:=h vars d 3 (dq w.L w.ar vars i).2 left V hN Uo hv hl;generalize rec vars d 3 (dq w.L w.ar vars i).2 left=th at h1 h2 h3 h4;have VO:BT V th.2.2:=fun k hk=>hl k yA;refine⟨?_,?_,?_,by omega,?_⟩
 ·simp only[cR,dU,and_true];exact⟨he.mono hv (Nat.le_refl _),h1⟩
 ·simpa [dy,dZ] using hv
 ·simpa [dy,dZ] using VO
 ·simp only[bO,eB];omega
include hf Sn in
theorem stS_w {N:Nat}(h:Gk w ps N rec){vars V:List ByteArray}(hv:∀ s∈vars,s∈V){deep i left:Nat}(hN:left≤N)(Uo:left<24)(hl:BT V (left+1)):OT w ps deep left V (z5 w rec ps vars deep i left):=by
 have Qj:BT V left:=fun k hk=>hl k yA;unfold z5;simp only;split
 ·exact AN hv Qj ((zb _ _ _ ps _ _ hm hz).mono hv) rfl (by simp[eB])
 split
 ·exact AN hv Qj ((zb _ _ _ ps _ _ hm hz).mono hv) rfl (by simp[eB])
 split
 ·refine⟨?_,?_,?_,Nat.le_refl _,?_⟩
  ·simp only[cR,dU,and_true];exact⟨⟨left,Uo,rfl⟩,hl left yA,(qJ _ _ _ _).mono hv (Nat.le_refl _)⟩
  ·intro s hs;simp only[List.mem_append,List.mem_singleton] at hs;simp only[dy,List.flatMap_cons,List.flatMap_nil,dZ,List.append_nil,List.mem_append,List.mem_singleton];exact hs.imp (hv s) id
  ·intro k hk hc;simp only[dy,List.flatMap_cons,List.flatMap_nil,dZ,List.append_nil,List.mem_append,List.mem_singleton] at hc;rcases hc with hc | hc
   ·exact Qj k hk hc
   ·have Ug:k<left:=hk;have:=EZ yA yA hc;omega
  ·simp only[bO,eB];omega
 split
 ·rename_i h8;refine AN hv Qj ?_ rfl (by simp[eB]);simp only[dU];exact⟨hv _ (jm (dm _ _ h8.2) _),(qJ _ _ _ _).mono hv (Nat.le_refl _)⟩
 split
 ·exact EN hm hz hf Sn hv _ Qj
 split
 ·exact EN hm hz hf Sn hv _ Qj
 split
 ·rename_i h9;exact ifS_w h hv h9.2 hN yA Qj
 split
 ·rename_i h9;exact whS_w h hv h9.2 hN yA Qj
 split
 ·exact AN hv Qj (by simp[dU]) rfl (by simp[eB])
 split
 ·exact I2 hm hz h hv hN yA Qj
 ·exact I2 hm hz h hv hN yA Qj
include hf Sn in
theorem Lw {N:Nat}(h:Gk w ps N rec)(deep:Nat):∀ (n:Nat) (vars:List ByteArray) (i left:Nat) (V:List ByteArray),left≤N+1→left≤24→(∀ s∈vars,s∈V)→BT V left →
  cR w.ms w.fs ps deep V (sT w rec ps deep n vars i left).1∧BT (V++dy (sT w rec ps deep n vars i left).1) (sT w rec ps deep n vars i left).2.2∧(sT w rec ps deep n vars i left).2.2≤left∧
  bO (sT w rec ps deep n vars i left).1+48*(sT w rec ps deep n vars i left).2.2≤48*left
 | 0,vars,i,left,V,hN,Uo,hv,hl=>by
  simp only[sT,cR,bO];exact⟨trivial,by simpa [dy] using hl,Nat.le_refl _,by omega⟩
 | n+1,vars,i,left,V,hN,Uo,hv,hl=>by
  rw[sT];split
  ·simp only[cR,bO];exact⟨trivial,by simpa [dy] using hl,Nat.le_refl _,by omega⟩
  ·obtain⟨lf,rfl⟩:∃ lf,left=lf+1:=⟨left-1,by omega⟩;have hs:=stS_w hm hz hf Sn h (deep:=deep) (i:=i) hv yA yA hl;simp only[Nat.add_sub_cancel];generalize z5 w rec ps vars deep i lf=b at hs;have:=hs.n;obtain⟨g1,g2,g3,g4⟩:=Lw h deep n b.vars b.i b.left (V++dy b.out) yA yA hs.v hs.l;refine⟨cR.app hs.w g1,?_,by omega,?_⟩
   ·rw[CZ,← List.append_assoc];exact g2
   ·rw[uS];have:=hs.k;omega
include hf Sn in
theorem Jr:∀ f:Nat,Gk w ps f (nu w ps f)
 | 0=>fun vars deep most i left V hN Uo hv hl=>by
  obtain rfl:left=0:=by omega
  simp only[nu,cR,bO];exact⟨trivial,by simpa [dy] using hl,Nat.le_refl _,by omega⟩
 | f+1=>fun vars deep most i left V hN Uo hv hl=>Lw hm hz hf Sn (Jr f) deep _ vars _ left V yA Uo hv hl
end
def nG:List ByteArray:=[⟨#[103,48]⟩,⟨#[103,49]⟩]
def nM:List ByteArray:=[⟨#[97]⟩,⟨#[98]⟩,⟨#[99]⟩,⟨#[100]⟩]
def nF:List ByteArray:=[⟨#[109,97,105,110]⟩,⟨#[102,49]⟩,⟨#[102,50]⟩,⟨#[102,51]⟩]
def nP:List ByteArray:=[⟨#[112,49]⟩,⟨#[112,50]⟩]
structure kC (p:Pg):Prop where
 gn:∃ k,k≤2∧p.gs.map (·.name)=nG.take k
 gi:∀ g∈p.gs,-2≤g.init∧g.init≤2
 mn:∃ k,1≤k∧k≤4∧p.ms.map (·.name)=nM.take k
 mz:∀ m∈p.ms,m.size≤3∧(m.re=true→m.size=0)
 fn:∃ k,1≤k∧k≤4∧p.fs.map (·.name)=nF.take k
 f0:∀ f,p.fs[0]? = some f→f.params=[]
 pn:∀ f∈p.fs,∃ k,k≤2∧f.params.map (·.name)=(nP.take k).reverse
 bd:∀ f∈p.fs,cR p.ms (p.fs.map fun f=>(f.name,f.params)) f.params 2 (jJ p.gs f.params) f.body
 wt:(p.fs.map fun f=>bO f.body).sum≤1152
theorem AT (L:List Int):∀ (n j i:Nat),j+n≤4→(ru L n j i).1.map (·.name)=(nM.drop j).take n∧(ru L n j i).1.length=n∧(∀ m∈(ru L n j i).1,m.size≤3∧(m.re=true→m.size=0))∧(i≤L.length→(ru L n j i).2≤L.length)
 | 0,j,i,h=>⟨by simp[ru],by simp[ru],by simp[ru],fun h=>h⟩
 | n+1,j,i,h=>by
  have hd:nM.drop j=ep (97+j)::nM.drop (j+1):=by
   match j,h with
   | 0,_=>rfl
   | 1,_=>rfl
   | 2,_=>rfl
   | 3,_=>rfl
   | j+4,h=>omega
  rw[hd,List.take_succ_cons,ru];have h3:=dm L (cd L i 5).2 (show 0<3 by omega);split
  ·obtain⟨i1,i2,i3,i4⟩:=AT L n (j+1) (cd L i 5).2 yA;refine⟨by simp[i1],by simp[i2],?_,fun h=>i4 (ba _ _ h)⟩;intro m hm;rcases List.mem_cons.1 hm with rfl | hm
   ·exact⟨by simp,fun _=>rfl⟩
   ·exact i3 m hm
  split
  ·obtain⟨i1,i2,i3,i4⟩:=AT L n (j+1) (cd L (cd L i 5).2 3).2 yA;refine⟨by simp[i1],by simp[i2],?_,fun h=>i4 (ba _ _ (ba _ _ h))⟩;intro m hm;rcases List.mem_cons.1 hm with rfl | hm
   ·exact⟨by simp only;omega,fun h=>by cases h⟩
   ·exact i3 m hm
  ·obtain⟨i1,i2,i3,i4⟩:=AT L n (j+1) (cd L i 5).2 yA;refine⟨by simp[i1],by simp[i2],?_,fun h=>i4 (ba _ _ h)⟩;intro m hm;rcases List.mem_cons.1 hm with rfl | hm
   ·exact⟨by simp,fun _=>rfl⟩
   ·exact i3 m hm
theorem IF (L:List Int):∀ (n j i:Nat),j+n≤2→(wZ L n j i).1.map (·.name)=(nG.drop j).take n∧(wZ L n j i).1.length=n∧(∀ g∈(wZ L n j i).1,-2≤g.init∧g.init≤2)∧(i≤L.length→(wZ L n j i).2≤L.length)
 | 0,j,i,h=>⟨by simp[wZ],by simp[wZ],by simp[wZ],fun h=>h⟩
 | n+1,j,i,h=>by
  have hd:nG.drop j=(⟨#[103]⟩++ep (48+j))::nG.drop (j+1):=by
   match j,h with
   | 0,_=>rfl
   | 1,_=>rfl
   | j+2,h=>omega
  rw[hd,List.take_succ_cons,wZ];have h3:=dm L i (show 0<5 by omega);obtain⟨i1,i2,i3,i4⟩:=IF L n (j+1) (cd L i 5).2 yA;refine⟨by simp[i1],by simp[i2],?_,fun h=>i4 (ba _ _ h)⟩;intro m hm;rcases List.mem_cons.1 hm with rfl | hm
  ·simp only;omega
  ·exact i3 m hm
theorem HM (L:List Int):∀ (n i:Nat),n≤2→(DQ L n i).1.map (·.name)=(nP.take n).reverse∧(DQ L n i).1.length=n∧(i≤L.length→(DQ L n i).2≤L.length)
 | 0,i,_=>⟨rfl,rfl,fun h=>h⟩
 | n+1,i,h=>by
  have hd:(nP.take (n+1)).reverse=(⟨#[112]⟩++ep (48+(n+1)))::(nP.take n).reverse:=by
   match n,h with
   | 0,_=>rfl
   | 1,_=>rfl
   | n+2,h=>omega
  obtain⟨i1,i2,i3⟩:=HM L n (cd L i 3).2 yA;rw[hd,DQ];exact⟨by simp[i1],by simp[i2],fun h=>i3 (ba _ _ h)⟩
theorem IG (L:List Int):∀ (n j i:Nat),j+n≤4→(vJ L n j i).1.map (·.name)=(nF.drop j).take n∧(vJ L n j i).1.length=n∧(∀ f∈(vJ L n j i).1,f.body=[]∧∃ k,k≤2∧f.params.map (·.name)=(nP.take k).reverse)∧(j=0→∀ f,(vJ L n j i).1[0]? = some f→f.params=[])∧(i≤L.length→(vJ L n j i).2≤L.length)
 | 0,j,i,h=>⟨by simp[vJ],by simp[vJ],by simp[vJ],by simp[vJ],fun h=>h⟩
 | n+1,j,i,h=>by
  have hd:nF.drop j=(if j=0 then ⟨#[109,97,105,110]⟩ else ⟨#[102]⟩++ep (48+j))::nF.drop (j+1):=by
   match j,h with
   | 0,_=>rfl
   | 1,_=>rfl
   | 2,_=>rfl
   | 3,_=>rfl
   | j+4,h=>omega
  rw[hd,List.take_succ_cons,vJ];simp only;have hk:(if j=0 then 0 else (cd L i 3).1)≤2:=by
   have:=dm L i (show 0<3 by omega);split<;>omega
  obtain⟨p1,p2,p3⟩:=HM L (if j=0 then 0 else (cd L i 3).1) (cd L i 3).2 hk;obtain⟨i1,i2,i3,i4,i5⟩:=IG L n (j+1) (DQ L (if j=0 then 0 else (cd L i 3).1) (cd L i 3).2).2 yA;refine⟨by simp only[List.map_cons,i1],by simp[i2],?_,?_,fun h=>i5 (p3 (ba _ _ h))⟩
  ·intro f hf;rcases List.mem_cons.1 hf with rfl | hf
   ·exact⟨rfl,_,hk,p1⟩
   ·exact i3 f hf
  ·intro hj f hf;simp only[List.getElem?_cons_zero,Option.some.injEq] at hf;subst hf;simp[hj,DQ]
theorem vh {gs:List Gl}{ps:List Pm}{s:ByteArray}(h:s∈jJ gs ps):s∈gs.map (·.name)∨s∈ps.map (·.name):=by
 simp only[jJ,List.mem_append,List.mem_flatMap] at h;rcases h with h | ⟨p,h1,h2⟩
 ·exact .inl h
 ·split at h2
  ·simp at h2
  ·simp only[List.mem_singleton] at h2;exact .inr (h2 ▸ List.mem_map_of_mem h1)
theorem sH:∀ k,k<24→fG k∉nG∧fG k∉nM∧fG k∉nF∧fG k∉nP:=by
 intro k hk;have h:∀ s∈nG++nM++nF++nP,(bs s).length≠3∨(bs s)[0]?≠some 118:=by decide
 have h2:∀ s∈nG++nM++nF++nP,fG k≠s:=by
  rintro s hs rfl;have:=h _ hs;rw[gx] at this;simp at this
 refine⟨fun h=>h2 _ (by simp[h]) rfl,fun h=>h2 _ (by simp[h]) rfl,fun h=>h2 _ (by simp[h]) rfl,fun h=>h2 _ (by simp[h]) rfl⟩
theorem J6 {l:List Fu}{j:Nat}{f:Fu}(hf:l[j]? = some f)(f':Fu)(hb:f.body=[]):((l.set j f').map fun f=>bO f.body).sum=(l.map fun f=>bO f.body).sum+bO f'.body:=by
 induction l generalizing j with
 | nil=>simp at hf
 | cons a r ih=>
  cases j with
  | zero=>
   simp only[List.getElem?_cons_zero,Option.some.injEq] at hf;subst hf;simp[hb,bO];omega
  | succ j=>
   simp only[List.getElem?_cons_succ] at hf;simp only[List.set_cons_succ,List.map_cons,List.sum_cons,ih hf];omega
def sg (f:Fu):ByteArray×List Pm:=(f.name,f.params)
theorem Hr {l:List Fu}{j:Nat}{f f':Fu}(hf:l[j]? = some f)(h:sg f'=sg f):(l.set j f').map sg=l.map sg:=by
 rw[List.map_set,h];refine List.ext_getElem? fun i=>?_;rw[List.getElem?_set];split
 ·rename_i e;subst e;have hl:j<l.length:=(List.getElem?_eq_some_iff.1 hf).1;simp[hl,(List.getElem?_eq_some_iff.1 hf).2]
 ·rfl
theorem LV (w:Wr)(gs:List Gl)(hm:0<w.ms.length)(hz:∀ m∈w.ms,m.size≤1000)(hf:0<w.fs.length)(Sn:∀ f∈w.fs,f.2.length≤2)(R8:∀ ps:List Pm,(∃ nm,(nm,ps)∈w.fs)→BT (jJ gs ps) 24) :
  ∀ (n j:Nat) (fs:List Fu) (i left:Nat),fs.map sg=w.fs→(∀ k f,fs[k]? = some f→j≤k→f.body=[])→left≤24→i≤w.L.length →
  (Lb w gs n j fs i left).map sg=w.fs∧(∀ k f,(Lb w gs n j fs i left)[k]? = some f→(j≤k→k<j+n→cR w.ms w.fs f.params 2 (jJ gs f.params) f.body)∧(k<j∨j+n≤k→fs[k]? = some f))∧
  ((Lb w gs n j fs i left).map fun f=>bO f.body).sum≤(fs.map fun f=>bO f.body).sum+48*left
 | 0,j,fs,i,left,h1,h2,h3,h4=>⟨h1,fun k f hk=>⟨fun a b=>absurd a yA,fun _=>hk⟩,Nat.le_add_right _ _⟩
 | n+1,j,fs,i,left,h1,h2,h3,h4=>by
  rw[Lb];split
  ·rename_i hn;refine⟨h1,fun k f hk=>⟨fun a b=>?_,fun _=>hk⟩,Nat.le_add_right _ _⟩;rw[List.getElem?_eq_none_iff] at hn;have:=(List.getElem?_eq_some_iff.1 hk).1;omega
  ·rename_i f Wq;simp only;have QD:(f.name,f.params)∈w.fs:=by
    rw[← h1];exact List.mem_map_of_mem (f:=sg) (List.mem_of_getElem? Wq)
   have hb:=Jr (w:=w) (ps:=f.params) hm hz hf Sn left (jJ gs f.params) 2 6 i left (jJ gs f.params) (Nat.le_refl _) h3 (fun _ h=>h) (fun k hk=>R8 _ ⟨_,QD⟩ k yA);obtain⟨X5,_⟩:=uD w f.params left (jJ gs f.params) 2 6 i left h4;generalize nu w f.params left (jJ gs f.params) 2 6 i left=b at hb X5;obtain⟨b1,b2,b3,b4⟩:=hb;have hs1:(fs.set j ⟨f.name,f.params,b.1⟩).map sg=w.fs:=by rw[Hr (f':=⟨f.name,f.params,b.1⟩) Wq rfl,h1]
   have hlj:j<fs.length:=(List.getElem?_eq_some_iff.1 Wq).1;obtain⟨r1,r2,r3⟩:=LV w gs hm hz hf Sn R8 n (j+1) (fs.set j ⟨f.name,f.params,b.1⟩) b.2.1 b.2.2 hs1 (fun k f' hk hjk=>by
    rw[List.getElem?_set,if_neg yA] at hk;exact h2 k f' hk yA) yA X5
   refine⟨r1,fun k f' hk=>?_,?_⟩
   ·obtain⟨q1,q2⟩:=r2 k f' hk;refine⟨fun a c=>?_,fun a=>?_⟩
    ·by_cases hkj:k=j
     ·subst hkj;have:=q2 (.inl yA);rw[List.getElem?_set,if_pos rfl,if_pos hlj] at this;simp only[Option.some.injEq] at this;subst this;exact b1
     ·exact q1 yA yA
    ·have:=q2 yA;rw[List.getElem?_set,if_neg yA] at this;exact this
   ·have hs:=J6 Wq ⟨f.name,f.params,b.1⟩ (h2 j f Wq (Nat.le_refl _));rw[hs] at r3;simp only at r3;omega
theorem Lv (l:List Int):kC (D2 l):=by
 unfold D2;simp only;generalize l.take 400=L;have ha:=ba L 3 (Nat.zero_le L.length);generalize cd L 0 3=a at ha;have P2:=ba L 4 ha;have hnm2:=dm L a.2 (show 0<4 by omega);generalize cd L a.2 4=nm at P2 hnm2;obtain⟨m1,m2,m3,m4⟩:=AT L (1+nm.1) 0 nm.2 yA;generalize ru L (1+nm.1) 0 nm.2=ms at m1 m2 m3 m4;have UO:=ba L 3 (m4 P2);have hng2:=dm L ms.2 (show 0<3 by omega);generalize cd L ms.2 3=ng at UO hng2;obtain⟨g1,g2,g3,g4⟩:=IF L ng.1 0 ng.2 yA;generalize wZ L ng.1 0 ng.2=gs at g1 g2 g3 g4;have Y3:=ba L 4 (g4 UO);have hnf2:=dm L gs.2 (show 0<4 by omega);generalize cd L gs.2 4=nf at Y3 hnf2;obtain⟨f1,f2,f3,f4,f5⟩:=IG L (nf.1+1) 0 nf.2 yA;generalize vJ L (nf.1+1) 0 nf.2=fs at f1 f2 f3 f4 f5;have PR:∀ f∈fs.1,f.params.length≤2:=fun f hf=>by
  obtain⟨_,k,h1,h2⟩:=f3 f hf;have:=congrArg List.length h2;simp[nP] at this;omega
 have R8:∀ ps:List Pm,(∃ nm,(nm,ps)∈fs.1.map sg)→BT (jJ gs.1 ps) 24:=by
  rintro ps ⟨x,hx⟩ k hk hc;obtain⟨v1,_,_,v4⟩:=sH k hk;rw[List.mem_map] at hx;obtain⟨f,hf,he⟩:=hx;rcases vh hc with h | h
  ·rw[g1] at h;exact v1 (List.mem_of_mem_take RC)
  ·have QN:ps=f.params:=by
    simp only[sg,Prod.mk.injEq] at he;exact he.2.symm
   obtain⟨_,q,_,h2⟩:=f3 f hf;rw[QN,h2] at h;exact v4 (List.mem_of_mem_take RC)
 obtain⟨r1,r2,r3⟩:=LV ⟨L,decide (a.1=1),ms.1,fs.1.map fun f=>(f.name,f.params)⟩ gs.1 (by simp only;omega) (fun m hm=>by have:=(m3 m hm).1;omega) QS
  (fun f hf=>by
   simp only[List.mem_map] at hf;obtain⟨f',h1,rfl⟩:=hf;exact PR f' h1) R8 (nf.1+1) 0 fs.1 fs.2 24 rfl (fun k f hk _=>(f3 f (List.mem_of_getElem? hk)).1) (Nat.le_refl _) (f5 Y3)
 generalize Lb ⟨L,decide (a.1=1),ms.1,fs.1.map fun f=>(f.name,f.params)⟩ gs.1 (nf.1+1) 0 fs.1 fs.2 24=F at r1 r2 r3;have Q0:∀ (k:Nat) (f:Fu),F[k]? = some f→∃ f0:Fu,fs.1[k]? = some f0∧f0.name=f.name∧f0.params=f.params:=by
  intro k f hk;have h1:(F.map sg)[k]? = some (sg f):=by simp[hk]
  rw[r1] at h1;simp only[List.getElem?_map,Option.map_eq_some_iff] at h1;obtain⟨f0,h2,h3⟩:=h1;simp only[sg,Prod.mk.injEq] at h3;exact⟨f0,h2,h3.1,h3.2⟩
 have hlenF:F.length=nf.1+1:=by
  have:=congrArg List.length r1;simp at this;omega
 refine⟨⟨ng.1,by omega,by simpa using g1⟩,g3,⟨1+nm.1,by omega,by omega,by simpa using m1⟩,m3,⟨nf.1+1,by omega,by omega,?_⟩,?_,?_,?_,?_⟩
 ·have h1:=congrArg (List.map Prod.fst) r1;have h2:(F.map sg).map Prod.fst=F.map (·.name):=by simp[sg]
  rw[h2] at h1;show F.map (·.name)=_;rw[h1]
  simpa [Function.comp_def] using f1
 ·intro f hf;obtain⟨f0,h1,h2,h3⟩:=Q0 0 f hf;rw[← h3];exact f4 rfl f0 h1
 ·intro f hf;obtain⟨k,hk⟩:=List.getElem?_of_mem hf;obtain⟨f0,h1,h2,h3⟩:=Q0 k f hk;rw[← h3];exact (f3 f0 (List.mem_of_getElem? h1)).2
 ·intro f hf;obtain⟨k,hk⟩:=List.getElem?_of_mem hf;have PD:k<F.length:=(List.getElem?_eq_some_iff.1 hk).1;have:=(r2 k f hk).1 (Nat.zero_le _) yA;show cR ms.1 (F.map sg) _ _ _ _;rw[r1];exact this
 ·have h0:(fs.1.map fun f=>bO f.body).sum=0:=by
   have hz:∀ l:List Fu,(∀ f∈l,f.body=[])→(l.map fun f=>bO f.body).sum=0:=by
    intro l
    induction l with
    | nil=>intro _;rfl
    | cons a r ih=>
     intro h;simp only[List.map_cons,List.sum_cons,h a List.mem_cons_self,ih fun f hf=>h f (List.mem_cons_of_mem _ hf),bO]
   exact hz _ fun f hf=>(f3 f hf).1
  rw[h0] at r3;omega
end Go.aP
