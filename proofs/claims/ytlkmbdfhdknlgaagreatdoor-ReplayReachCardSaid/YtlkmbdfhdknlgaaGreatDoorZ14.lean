/- Programs of the right form; lockordermade's programs are of  -/
import Derived.Test.YtlkmbdfhdknlgaaGreatDoorZ13
namespace Go.aN
open Go.Can
def FR (ms:List Mx)(ps:List Pm)(vars:List ByteArray)(r:Rf):Prop:=
 (∃ m∈ms,r.name=m.name∧((r.index=none∧m.size=0)∨∃ e,r.index=some e∧0<m.size∧fK vars 1 e))∨(∃ p∈ps,p.mutex=true∧r.name=p.name∧r.index=none)
def ArW (ms:List Mx)(ps:List Pm)(vars:List ByteArray):Pm→Ar→Prop
 | p,.uX r=>p.mutex=true∧FR ms ps vars r
 | p,.exp e=>p.mutex=false∧fK vars 2 e
def ja (ms:List Mx)(ps:List Pm)(vars:List ByteArray):List Pm→List Ar→Prop
 | [],[]=>True
 | p::gp,a::l=>ArW ms ps vars p a∧ja ms ps vars gp l
 | _,_=>False
def dS:Sm→List ByteArray
 | .gP s _=>[s]
 | _=>[]
mutual
def dQ (ms:List Mx)(fs:List (ByteArray×List Pm))(ps:List Pm):Nat→List ByteArray→Sm→Prop
 | _,V,.gP s e=>(∃ k,k<24∧s=fq k)∧s∉V∧fK V 2 e
 | _,V,.iy s e=>s∈V∧fK V 2 e
 | _,V,.dU _ s l=>∃ gp,(s,gp)∈fs∧ja ms ps V gp l
 | _,V,.dx _ r=>FR ms ps V r
 | 0,_,.lu _ _ _=>False
 | d+1,V,.lu e th el=>fK V 2 e∧cM ms fs ps d V th∧cM ms fs ps d V el
 | 0,_,.cE _ _=>False
 | d+1,V,.cE e th=>fK V 2 e∧cM ms fs ps d V th
 | _,_,.jm=>True
def cM (ms:List Mx)(fs:List (ByteArray×List Pm))(ps:List Pm):Nat→List ByteArray→List Sm→Prop
 | _,_,[]=>True
 | d,V,s::r=>dQ ms fs ps d V s∧cM ms fs ps d (V++dS s) r
end
mutual
def en:Sm→Nat
 | .gP _ _=>24
 | .iy _ _=>24
 | .dU _ _ l=>8+20*l.length
 | .dx _ _=>12
 | .lu _ th el=>25+bJ th+bJ el
 | .cE _ th=>25+bJ th
 | .jm=>8
def bJ:List Sm→Nat
 | []=>0
 | s::r=>en s+bJ r
end
theorem fK.mono {ns ns':List ByteArray}(h:∀ s∈ns,s∈ns'):∀ {d d':Nat} {e:Ex},d≤d'→fK ns d e→fK ns' d' e
 | _,_,.num n,_,hx=>by simpa [fK] using hx
 | _,_,.nm s,_,hx=>by simp only[fK] at hx ⊢;exact h s hx
 | d+1,d' + 1,.un k e,hd,hx=>by
  simp only[fK] at hx ⊢;exact⟨hx.1,fK.mono h (Nat.le_of_succ_le_succ hd) hx.2⟩
 | d+1,d' + 1,.bin k a b,hd,hx=>by
  simp only[fK] at hx ⊢;exact⟨hx.1,fK.mono h (Nat.le_of_succ_le_succ hd) hx.2.1,fK.mono h (Nat.le_of_succ_le_succ hd) hx.2.2⟩
 | d+1,0,.un k e,hd,_=>absurd hd yA
 | d+1,0,.bin k a b,hd,_=>absurd hd yA
 | 0,_,.un _ _,_,hx=>hx.elim
 | 0,_,.bin _ _ _,_,hx=>hx.elim
 | 0,_,.zero,_,hx=>hx.elim
 | 0,_,.loc _,_,hx=>hx.elim
 | 0,_,.jX _,_,hx=>hx.elim
 | _+1,_,.zero,_,hx=>hx.elim
 | _+1,_,.loc _,_,hx=>hx.elim
 | _+1,_,.jX _,_,hx=>hx.elim
theorem FR.mono {ms:List Mx}{ps:List Pm}{V V':List ByteArray}(h:∀ s∈V,s∈V'){r:Rf}(hr:FR ms ps V r):FR ms ps V' r:=by
 rcases hr with ⟨m,h1,h2,h3 | ⟨e,h3,h4,h5⟩⟩ | hr
 ·exact .inl ⟨m,h1,h2,.inl h3⟩
 ·exact .inl ⟨m,h1,h2,.inr ⟨e,h3,h4,h5.mono h (Nat.le_refl _)⟩⟩
 ·exact .inr hr
theorem ja.mono {ms:List Mx}{ps:List Pm}{V V':List ByteArray}(h:∀ s∈V,s∈V'):∀ {gp:List Pm} {l:List Ar},ja ms ps V gp l→ja ms ps V' gp l
 | [],[],_=>trivial
 | p::gp,a::l,hx=>by
  simp only[ja] at hx ⊢;refine⟨?_,ja.mono h hx.2⟩
  cases a with
  | uX r=>exact⟨hx.1.1,hx.1.2.mono h⟩
  | exp e=>exact⟨hx.1.1,hx.1.2.mono h (Nat.le_refl _)⟩
 | [],_::_,hx=>hx.elim
 | _::_,[],hx=>hx.elim
theorem ja.len {ms:List Mx}{ps:List Pm}{V:List ByteArray}:∀ {gp:List Pm} {l:List Ar},ja ms ps V gp l→l.length=gp.length
 | [],[],_=>rfl
 | p::gp,a::l,hx=>by
  simp only[ja] at hx;simp[ja.len hx.2]
 | [],_::_,hx=>hx.elim
 | _::_,[],hx=>hx.elim
def du (l:List Sm):List ByteArray:=l.flatMap dS
theorem cM.app {ms:List Mx}{fs:List (ByteArray×List Pm)}{ps:List Pm}{d:Nat}:∀ {a b:List Sm} {V:List ByteArray},cM ms fs ps d V a→cM ms fs ps d (V++du a) b→cM ms fs ps d V (a++b)
 | [],b,V,_,hb=>by simpa [du] using hb
 | s::r,b,V,ha,hb=>by
  simp only[cM,List.cons_append] at ha ⊢;refine⟨ha.1,cM.app ha.2 ?_⟩
  simpa [du,List.append_assoc] using hb
theorem cM.up {ms:List Mx}{fs:List (ByteArray×List Pm)}{ps:List Pm}{a:List Sm}{V:List ByteArray}:∀ {d d':Nat},d≤d'→cM ms fs ps d V a→cM ms fs ps d' V a:=by
 suffices h:(∀ s:Sm,∀ V d d',d≤d'→dQ ms fs ps d V s→dQ ms fs ps d' V s)∧(∀ l:List Sm,∀ V d d',d≤d'→cM ms fs ps d V l→cM ms fs ps d' V l) from fun {d d'} hd hx=>h.2 a V d d' hd hx
 refine⟨fun s=>?_,fun l=>?_⟩
 ·exact Sm.rec (motive_1:=fun s=>∀ V d d',d≤d'→dQ ms fs ps d V s→dQ ms fs ps d' V s) (motive_2:=fun l=>∀ V d d',d≤d'→cM ms fs ps d V l→cM ms fs ps d' V l)
   (fun s e V d d' _ hx=>by simpa [dQ] using hx) (fun s e V d d' _ hx=>by simpa [dQ] using hx) (fun g s l V d d' _ hx=>by simpa [dQ] using hx) (fun u r V d d' _ hx=>by simpa [dQ] using hx)
   (fun e th el h1 h2 V d d' hd hx=>by
    cases d with
    | zero=>simp[dQ] at hx
    | succ d=>
     obtain⟨d',rfl⟩:∃ k,d'=k+1:=⟨d' - 1,by omega⟩;simp only[dQ] at hx ⊢;exact⟨hx.1,h1 _ _ _ yA hx.2.1,h2 _ _ _ yA hx.2.2⟩)
   (fun e th h1 V d d' hd hx=>by
    cases d with
    | zero=>simp[dQ] at hx
    | succ d=>
     obtain⟨d',rfl⟩:∃ k,d'=k+1:=⟨d' - 1,by omega⟩;simp only[dQ] at hx ⊢;exact⟨hx.1,h1 _ _ _ yA hx.2⟩)
   (fun V d d' _ hx=>by simp[dQ]) (fun V d d' _ hx=>by simp[cM])
   (fun s r h1 h2 V d d' hd hx=>by
    simp only[cM] at hx ⊢;exact⟨h1 _ _ _ hd hx.1,h2 _ _ _ hd hx.2⟩) s
 ·exact Sm.rec_1 (motive_1:=fun s=>∀ V d d',d≤d'→dQ ms fs ps d V s→dQ ms fs ps d' V s) (motive_2:=fun l=>∀ V d d',d≤d'→cM ms fs ps d V l→cM ms fs ps d' V l)
   (fun s e V d d' _ hx=>by simpa [dQ] using hx) (fun s e V d d' _ hx=>by simpa [dQ] using hx) (fun g s l V d d' _ hx=>by simpa [dQ] using hx) (fun u r V d d' _ hx=>by simpa [dQ] using hx)
   (fun e th el h1 h2 V d d' hd hx=>by
    cases d with
    | zero=>simp[dQ] at hx
    | succ d=>
     obtain⟨d',rfl⟩:∃ k,d'=k+1:=⟨d' - 1,by omega⟩;simp only[dQ] at hx ⊢;exact⟨hx.1,h1 _ _ _ yA hx.2.1,h2 _ _ _ yA hx.2.2⟩)
   (fun e th h1 V d d' hd hx=>by
    cases d with
    | zero=>simp[dQ] at hx
    | succ d=>
     obtain⟨d',rfl⟩:∃ k,d'=k+1:=⟨d' - 1,by omega⟩;simp only[dQ] at hx ⊢;exact⟨hx.1,h1 _ _ _ yA hx.2⟩)
   (fun V d d' _ hx=>by simp[dQ]) (fun V d d' _ hx=>by simp[cM])
   (fun s r h1 h2 V d d' hd hx=>by
    simp only[cM] at hx ⊢;exact⟨h1 _ _ _ hd hx.1,h2 _ _ _ hd hx.2⟩) l
theorem ux:∀ a b:List Sm,bJ (a++b)=bJ a+bJ b
 | [],b=>by simp[bJ]
 | s::r,b=>by simp only[List.cons_append,bJ,ux r b];omega
theorem CC (a b:List Sm):du (a++b)=du a++du b:=by simp[du]
theorem iX {α:Type}{l:List α}{i:Nat}(h:i<l.length)(d:α):l.getD i d∈l:=by
 simp[List.getD,List.getElem?_eq_getElem h]
theorem Dz (L:List Int)(ns:List ByteArray)(d i:Nat):fK ns d (qv L ns i).1:=by
 unfold qv;split
 ·rename_i h;simp only[fK];exact iX (cH _ _ h.1) _
 ·simp only[fK];exact JH _ _
theorem xz (L:List Int)(ns:List ByteArray):∀ d i:Nat,fK ns d (qF L ns d i).1
 | 0,i=>Dz L ns 0 _
 | d+1,i=>by
  rw[qF];split
  ·exact Dz L ns _ _
  ·split
   ·simp only[fK];exact⟨Nat.mod_lt _ yA,xz L ns d _⟩
   ·simp only[fK];exact⟨cH _ _ yA,xz L ns d _,xz L ns d _⟩
theorem qE (L:List Int)(ar:Bool)(vars:List ByteArray)(i:Nat):fK vars 2 (dj L ar vars i).1:=by
 unfold dj;split
 ·refine (xz L vars _ _).mono (fun _ h=>h) ?_;have:=cH L i (show 0<2 by omega);omega
 ·exact (xz L vars _ _).mono (fun _ h=>h) yA
theorem Mm (L:List Int)(ar:Bool)(vars:List ByteArray)(size i:Nat)(hs:0<size)(Wt:size≤1000):fK vars 1 (oO L ar vars size i).1:=by
 unfold oO;split
 ·exact xz _ _ _ _
 ·simp only[fK];exact Nat.lt_of_lt_of_le (cH _ _ hs) yA
theorem yk (L:List Int)(ar:Bool)(ms:List Mx)(ps:List Pm)(vars:List ByteArray)(i:Nat)(hm:0<ms.length)(hz:∀ m∈ms,m.size≤1000):FR ms ps vars (jd L ar ms ps vars i).1:=by
 have hl:0<(bT ms ps).length:=by simp[bT];omega
 have hk:=cH L i hl;unfold jd;generalize bN L i (bT ms ps).length=k at hk;have P9:∀ h:k.1<ms.length,(bT ms ps).getD k.1 eS=(ms[k.1]).name∧kN ms k.1=(ms[k.1]).size:=fun h=>by
  simp[bT,List.getD,kN,List.getElem?_append,h]
 split
 ·rename_i h;obtain⟨e1,e2⟩:=P9 h.1;refine .inl ⟨ms[k.1],List.getElem_mem _,e1,.inr ⟨_,rfl,?_,?_⟩⟩
  ·rw[← e2];exact h.2
  ·exact Mm _ _ _ _ _ h.2 (by rw[e2];exact hz _ (List.getElem_mem _))
 ·rename_i h;by_cases h1:k.1<ms.length
  ·obtain⟨e1,e2⟩:=P9 h1;exact .inl ⟨ms[k.1],List.getElem_mem _,e1,.inl ⟨rfl,by omega⟩⟩
  ·have h2:(bT ms ps).getD k.1 eS∈ps.flatMap FN:=by
    have h3:(bT ms ps).getD k.1 eS=(ps.flatMap FN).getD (k.1-ms.length) eS:=by
     simp only[bT,List.getD];rw[List.getElem?_append_right PX];simp
    rw[h3];refine iX ?_ _;simp only[bT,List.length_append,List.length_map] at hk;omega
   rw[List.mem_flatMap] at h2;obtain⟨p,QM,eY⟩:=h2;unfold FN at eY;split at eY
   ·rename_i hp;refine .inr ⟨p,QM,hp,?_,rfl⟩
    simpa using eY
   ·simp at eY
theorem zc (L:List Int)(ar:Bool)(ms:List Mx)(ps:List Pm)(vars:List ByteArray)(hm:0<ms.length)(hz:∀ m∈ms,m.size≤1000):∀ (gp:List Pm) (i:Nat),ja ms ps vars gp (db L ar ms ps vars gp i).1
 | [],_=>trivial
 | p::r,i=>by
  rw[db];split
  ·rename_i h;exact⟨⟨h,yk L ar ms ps vars i hm hz⟩,zc L ar ms ps vars hm hz r _⟩
  ·rename_i h;exact⟨⟨by simpa using h,qE L ar vars i⟩,zc L ar ms ps vars hm hz r _⟩
def Bt (V:List ByteArray)(left:Nat):Prop:=∀ k,k<left→fq k∉V
theorem gh (k:Nat):bs (fq k)=[118,UInt8.ofNat (97+k % 26),UInt8.ofNat (97+k / 26 % 26)]:=rfl
theorem Em {j k:Nat}(hj:j<26)(hk:k<26)(h:fq j=fq k):j=k:=by
 have h1:=congrArg bs h;rw[gh,gh,Nat.mod_eq_of_lt hj,Nat.mod_eq_of_lt hk] at h1;simp only[List.cons.injEq,true_and] at h1;have h2:=congrArg UInt8.toNat h1.1;simp only[UInt8.toNat_ofNat'] at h2;omega
def FI (w:Wr)(ps:List Pm)(N:Nat)(rec:Rec):Prop:=∀ vars deep most i left V,left≤N→left≤24→(∀ s∈vars,s∈V)→Bt V left →
 cM w.ms w.fs ps deep V (rec vars deep most i left).1∧Bt (V++du (rec vars deep most i left).1) (rec vars deep most i left).2.2∧(rec vars deep most i left).2.2≤left∧
 bJ (rec vars deep most i left).1+48*(rec vars deep most i left).2.2≤48*left
structure N1 (w:Wr)(ps:List Pm)(deep left:Nat)(V:List ByteArray)(b:Ld):Prop where
 w:cM w.ms w.fs ps deep V b.out
 v:∀ s∈b.vars,s∈V++du b.out
 l:Bt (V++du b.out) b.left
 n:b.left≤left
 k:bJ b.out+48*b.left≤48*(left+1)
section
variable {w:Wr}{ps:List Pm}{rec:Rec}(hm:0<w.ms.length)(hz:∀ m∈w.ms,m.size≤1000)(hf:0<w.fs.length)(RM:∀ f∈w.fs,f.2.length≤2)
include hm hz
omit hm hz in
theorem Ab {s:Sm}{vars V:List ByteArray}{deep i left:Nat}(hv:∀ x∈vars,x∈V)(hl:Bt V left)(hs:dQ w.ms w.fs ps deep V s)(hd:dS s=[])(hk:en s≤48):N1 w ps deep left V ⟨[s],vars,i,left⟩:=by
 refine⟨⟨hs,trivial⟩,?_,?_,Nat.le_refl _,?_⟩
 ·simpa [du,hd] using hv
 ·simpa [du,hd] using hl
 ·simp only[bJ];omega
theorem H4 {N:Nat}(h:FI w ps N rec){vars V:List ByteArray}(hv:∀ s∈vars,s∈V){deep i left:Nat}(hN:left≤N)(TR:left≤24)(hl:Bt V left):N1 w ps deep left V (AS w rec ps vars i left):=by
 have hr:=yk w.L w.ar w.ms ps vars i hm hz;obtain⟨h1,h2,h3,h4⟩:=h vars 0 2 (jd w.L w.ar w.ms ps vars i).2 left V hN TR hv hl;unfold AS;refine⟨?_,?_,?_,h3,?_⟩
 ·simp only[List.cons_append,cM,dS,List.append_nil];refine⟨by simp only[dQ];exact hr.mono hv,cM.app (h1.up (Nat.zero_le _)) ?_⟩;simp only[cM,dQ,and_true];exact hr.mono fun s hs=>List.mem_append_left _ (hv s hs)
 ·intro s hs;exact List.mem_append_left _ (hv s hs)
 ·simpa [du,dS] using h2
 ·simp only[List.cons_append,bJ,en,ux];omega
include hf RM in
theorem D5 {vars V:List ByteArray}(hv:∀ s∈vars,s∈V){deep i left:Nat}(go:Bool)(hl:Bt V left):N1 w ps deep left V (gJ w ps vars go i left):=by
 have Oa:=cH w.L i hf;have hg:=iX Oa (eS,[]);unfold gJ;generalize hgg:w.fs.getD (bN w.L i w.fs.length).1 (eS,[])=g at hg;have ha:=zc w.L w.ar w.ms ps vars hm hz g.2 (bN w.L i w.fs.length).2;refine Ab hv hl ?_ rfl ?_
 ·simp only[dQ];exact⟨g.2,hg,ha.mono hv⟩
 ·simp only[en,ha.len];have:=RM g hg;omega
omit hm hz in
theorem ifS_w {N:Nat}(h:FI w ps N rec){vars V:List ByteArray}(hv:∀ s∈vars,s∈V){deep i left:Nat}(Uz:0<deep)(hN:left≤N)(TR:left≤24)(hl:Bt V left):N1 w ps deep left V (NO w rec vars deep i left):=by
 have he:=qE w.L w.ar vars i;obtain⟨d,rfl⟩:∃ d,deep=d+1:=⟨deep-1,by omega⟩;unfold NO;simp only[Nat.add_sub_cancel];obtain⟨h1,h2,h3,h4⟩:=h vars d 3 (dj w.L w.ar vars i).2 left V hN TR hv hl;generalize rec vars d 3 (dj w.L w.ar vars i).2 left=th at h1 h2 h3 h4;have O7:Bt V th.2.2:=fun k hk=>hl k yA;split
 ·obtain⟨g1,g2,g3,g4⟩:=h vars d 3 (bN w.L th.2.1 2).2 th.2.2 V yA yA hv O7;generalize rec vars d 3 (bN w.L th.2.1 2).2 th.2.2=el at g1 g2 g3 g4;have XI:Bt V el.2.2:=fun k hk=>hl k yA;refine⟨?_,?_,?_,Nat.le_trans g3 h3,?_⟩
  ·simp only[cM,dQ,and_true];exact⟨he.mono hv (Nat.le_refl _),h1,g1⟩
  ·simpa [du,dS] using hv
  ·simpa [du,dS] using XI
  ·simp only[bJ,en];omega
 ·refine⟨?_,?_,?_,by omega,?_⟩
  ·simp only[cM,dQ,and_true];exact⟨he.mono hv (Nat.le_refl _),h1⟩
  ·simpa [du,dS] using hv
  ·simpa [du,dS] using O7
  ·simp only[bJ,en];omega
omit hm hz in
theorem whS_w {N:Nat}(h:FI w ps N rec){vars V:List ByteArray}(hv:∀ s∈vars,s∈V){deep i left:Nat}(Uz:0<deep)(hN:left≤N)(TR:left≤24)(hl:Bt V left):N1 w ps deep left V (M3 w rec vars deep i left):=by
 have he:=qE w.L w.ar vars i;obtain⟨d,rfl⟩:∃ d,deep=d+1:=⟨deep-1,by omega⟩;unfold M3;simp only[Nat.add_sub_cancel];obtain⟨h1,h2,h3,h4⟩:=h vars d 3 (dj w.L w.ar vars i).2 left V hN TR hv hl;generalize rec vars d 3 (dj w.L w.ar vars i).2 left=th at h1 h2 h3 h4;have XI:Bt V th.2.2:=fun k hk=>hl k yA;refine⟨?_,?_,?_,by omega,?_⟩
 ·simp only[cM,dQ,and_true];exact⟨he.mono hv (Nat.le_refl _),h1⟩
 ·simpa [du,dS] using hv
 ·simpa [du,dS] using XI
 ·simp only[bJ,en];omega
include hf RM in
theorem stS_w {N:Nat}(h:FI w ps N rec){vars V:List ByteArray}(hv:∀ s∈vars,s∈V){deep i left:Nat}(hN:left≤N)(TR:left<24)(hl:Bt V (left+1)):N1 w ps deep left V (zh w rec ps vars deep i left):=by
 have O7:Bt V left:=fun k hk=>hl k yA;unfold zh;simp only;split
 ·exact Ab hv O7 ((yk _ _ _ ps _ _ hm hz).mono hv) rfl (by simp[en])
 split
 ·exact Ab hv O7 ((yk _ _ _ ps _ _ hm hz).mono hv) rfl (by simp[en])
 split
 ·refine⟨?_,?_,?_,Nat.le_refl _,?_⟩
  ·simp only[cM,dQ,and_true];exact⟨⟨left,TR,rfl⟩,hl left yA,(qE _ _ _ _).mono hv (Nat.le_refl _)⟩
  ·intro s hs;simp only[List.mem_append,List.mem_singleton] at hs;simp only[du,List.flatMap_cons,List.flatMap_nil,dS,List.append_nil,List.mem_append,List.mem_singleton];exact hs.imp (hv s) id
  ·intro k hk hc;simp only[du,List.flatMap_cons,List.flatMap_nil,dS,List.append_nil,List.mem_append,List.mem_singleton] at hc;rcases hc with hc | hc
   ·exact O7 k hk hc
   ·have Ry:k<left:=hk;have:=Em yA yA hc;omega
  ·simp only[bJ,en];omega
 split
 ·rename_i h8;refine Ab hv O7 ?_ rfl (by simp[en]);simp only[dQ];exact⟨hv _ (iX (cH _ _ h8.2) _),(qE _ _ _ _).mono hv (Nat.le_refl _)⟩
 split
 ·exact D5 hm hz hf RM hv _ O7
 split
 ·exact D5 hm hz hf RM hv _ O7
 split
 ·rename_i h9;exact ifS_w h hv h9.2 hN yA O7
 split
 ·rename_i h9;exact whS_w h hv h9.2 hN yA O7
 split
 ·exact Ab hv O7 (by simp[dQ]) rfl (by simp[en])
 split
 ·exact H4 hm hz h hv hN yA O7
 ·exact H4 hm hz h hv hN yA O7
include hf RM in
theorem KG {N:Nat}(h:FI w ps N rec)(deep:Nat):∀ (n:Nat) (vars:List ByteArray) (i left:Nat) (V:List ByteArray),left≤N+1→left≤24→(∀ s∈vars,s∈V)→Bt V left →
  cM w.ms w.fs ps deep V (sJ w rec ps deep n vars i left).1∧Bt (V++du (sJ w rec ps deep n vars i left).1) (sJ w rec ps deep n vars i left).2.2∧(sJ w rec ps deep n vars i left).2.2≤left∧
  bJ (sJ w rec ps deep n vars i left).1+48*(sJ w rec ps deep n vars i left).2.2≤48*left
 | 0,vars,i,left,V,hN,TR,hv,hl=>by
  simp only[sJ,cM,bJ];exact⟨trivial,by simpa [du] using hl,Nat.le_refl _,by omega⟩
 | n+1,vars,i,left,V,hN,TR,hv,hl=>by
  rw[sJ];split
  ·simp only[cM,bJ];exact⟨trivial,by simpa [du] using hl,Nat.le_refl _,by omega⟩
  ·obtain⟨lf,rfl⟩:∃ lf,left=lf+1:=⟨left-1,by omega⟩;have hs:=stS_w hm hz hf RM h (deep:=deep) (i:=i) hv yA yA hl;simp only[Nat.add_sub_cancel];generalize zh w rec ps vars deep i lf=b at hs;have:=hs.n;obtain⟨g1,g2,g3,g4⟩:=KG h deep n b.vars b.i b.left (V++du b.out) yA yA hs.v hs.l;refine⟨cM.app hs.w g1,?_,by omega,?_⟩
   ·rw[CC,← List.append_assoc];exact g2
   ·rw[ux];have:=hs.k;omega
include hf RM in
theorem Iw:∀ f:Nat,FI w ps f (mQ w ps f)
 | 0=>fun vars deep most i left V hN TR hv hl=>by
  obtain rfl:left=0:=by omega
  simp only[mQ,cM,bJ];exact⟨trivial,by simpa [du] using hl,Nat.le_refl _,by omega⟩
 | f+1=>fun vars deep most i left V hN TR hv hl=>KG hm hz hf RM (Iw f) deep _ vars _ left V yA TR hv hl
end
def nG:List ByteArray:=[⟨#[103,48]⟩,⟨#[103,49]⟩]
def nM:List ByteArray:=[⟨#[97]⟩,⟨#[98]⟩,⟨#[99]⟩,⟨#[100]⟩]
def nF:List ByteArray:=[⟨#[109,97,105,110]⟩,⟨#[102,49]⟩,⟨#[102,50]⟩,⟨#[102,51]⟩]
def nP:List ByteArray:=[⟨#[112,49]⟩,⟨#[112,50]⟩]
structure km (p:Pg):Prop where
 gn:∃ k,k≤2∧p.gs.map (·.name)=nG.take k
 gi:∀ g∈p.gs,-2≤g.init∧g.init≤2
 mn:∃ k,1≤k∧k≤4∧p.ms.map (·.name)=nM.take k
 mz:∀ m∈p.ms,m.size≤3∧(m.re=true→m.size=0)
 fn:∃ k,1≤k∧k≤4∧p.fs.map (·.name)=nF.take k
 f0:∀ f,p.fs[0]? = some f→f.params=[]
 pn:∀ f∈p.fs,∃ k,k≤2∧f.params.map (·.name)=(nP.take k).reverse
 bd:∀ f∈p.fs,cM p.ms (p.fs.map fun f=>(f.name,f.params)) f.params 2 (jq p.gs f.params) f.body
 wt:(p.fs.map fun f=>bJ f.body).sum≤1152
theorem Ah (L:List Int):∀ (n j i:Nat),j+n≤4→(qY L n j i).1.map (·.name)=(nM.drop j).take n∧(qY L n j i).1.length=n∧(∀ m∈(qY L n j i).1,m.size≤3∧(m.re=true→m.size=0))∧(i≤L.length→(qY L n j i).2≤L.length)
 | 0,j,i,h=>⟨by simp[qY],by simp[qY],by simp[qY],fun h=>h⟩
 | n+1,j,i,h=>by
  have hd:nM.drop j=dY (97+j)::nM.drop (j+1):=by
   match j,h with
   | 0,_=>rfl
   | 1,_=>rfl
   | 2,_=>rfl
   | 3,_=>rfl
   | j+4,h=>omega
  rw[hd,List.take_succ_cons,qY];have h3:=cH L (bN L i 5).2 (show 0<3 by omega);split
  ·obtain⟨i1,i2,i3,i4⟩:=Ah L n (j+1) (bN L i 5).2 yA;refine⟨by simp[i1],by simp[i2],?_,fun h=>i4 (aV _ _ h)⟩;intro m hm;rcases List.mem_cons.1 hm with rfl | hm
   ·exact⟨by simp,fun _=>rfl⟩
   ·exact i3 m hm
  split
  ·obtain⟨i1,i2,i3,i4⟩:=Ah L n (j+1) (bN L (bN L i 5).2 3).2 yA;refine⟨by simp[i1],by simp[i2],?_,fun h=>i4 (aV _ _ (aV _ _ h))⟩;intro m hm;rcases List.mem_cons.1 hm with rfl | hm
   ·exact⟨by simp only;omega,fun h=>by cases h⟩
   ·exact i3 m hm
  ·obtain⟨i1,i2,i3,i4⟩:=Ah L n (j+1) (bN L i 5).2 yA;refine⟨by simp[i1],by simp[i2],?_,fun h=>i4 (aV _ _ h)⟩;intro m hm;rcases List.mem_cons.1 hm with rfl | hm
   ·exact⟨by simp,fun _=>rfl⟩
   ·exact i3 m hm
theorem HH (L:List Int):∀ (n j i:Nat),j+n≤2→(v9 L n j i).1.map (·.name)=(nG.drop j).take n∧(v9 L n j i).1.length=n∧(∀ g∈(v9 L n j i).1,-2≤g.init∧g.init≤2)∧(i≤L.length→(v9 L n j i).2≤L.length)
 | 0,j,i,h=>⟨by simp[v9],by simp[v9],by simp[v9],fun h=>h⟩
 | n+1,j,i,h=>by
  have hd:nG.drop j=(⟨#[103]⟩++dY (48+j))::nG.drop (j+1):=by
   match j,h with
   | 0,_=>rfl
   | 1,_=>rfl
   | j+2,h=>omega
  rw[hd,List.take_succ_cons,v9];have h3:=cH L i (show 0<5 by omega);obtain⟨i1,i2,i3,i4⟩:=HH L n (j+1) (bN L i 5).2 yA;refine⟨by simp[i1],by simp[i2],?_,fun h=>i4 (aV _ _ h)⟩;intro m hm;rcases List.mem_cons.1 hm with rfl | hm
  ·simp only;omega
  ·exact i3 m hm
theorem GO (L:List Int):∀ (n i:Nat),n≤2→(De L n i).1.map (·.name)=(nP.take n).reverse∧(De L n i).1.length=n∧(i≤L.length→(De L n i).2≤L.length)
 | 0,i,_=>⟨rfl,rfl,fun h=>h⟩
 | n+1,i,h=>by
  have hd:(nP.take (n+1)).reverse=(⟨#[112]⟩++dY (48+(n+1)))::(nP.take n).reverse:=by
   match n,h with
   | 0,_=>rfl
   | 1,_=>rfl
   | n+2,h=>omega
  obtain⟨i1,i2,i3⟩:=GO L n (bN L i 3).2 yA;rw[hd,De];exact⟨by simp[i1],by simp[i2],fun h=>i3 (aV _ _ h)⟩
theorem HI (L:List Int):∀ (n j i:Nat),j+n≤4→(vf L n j i).1.map (·.name)=(nF.drop j).take n∧(vf L n j i).1.length=n∧(∀ f∈(vf L n j i).1,f.body=[]∧∃ k,k≤2∧f.params.map (·.name)=(nP.take k).reverse)∧(j=0→∀ f,(vf L n j i).1[0]? = some f→f.params=[])∧(i≤L.length→(vf L n j i).2≤L.length)
 | 0,j,i,h=>⟨by simp[vf],by simp[vf],by simp[vf],by simp[vf],fun h=>h⟩
 | n+1,j,i,h=>by
  have hd:nF.drop j=(if j=0 then ⟨#[109,97,105,110]⟩ else ⟨#[102]⟩++dY (48+j))::nF.drop (j+1):=by
   match j,h with
   | 0,_=>rfl
   | 1,_=>rfl
   | 2,_=>rfl
   | 3,_=>rfl
   | j+4,h=>omega
  rw[hd,List.take_succ_cons,vf];simp only;have hk:(if j=0 then 0 else (bN L i 3).1)≤2:=by
   have:=cH L i (show 0<3 by omega);split<;>omega
  obtain⟨p1,p2,p3⟩:=GO L (if j=0 then 0 else (bN L i 3).1) (bN L i 3).2 hk;obtain⟨i1,i2,i3,i4,i5⟩:=HI L n (j+1) (De L (if j=0 then 0 else (bN L i 3).1) (bN L i 3).2).2 yA;refine⟨by simp only[List.map_cons,i1],by simp[i2],?_,?_,fun h=>i5 (p3 (aV _ _ h))⟩
  ·intro f hf;rcases List.mem_cons.1 hf with rfl | hf
   ·exact⟨rfl,_,hk,p1⟩
   ·exact i3 f hf
  ·intro hj f hf;simp only[List.getElem?_cons_zero,Option.some.injEq] at hf;subst hf;simp[hj,De]
theorem uR {gs:List Gl}{ps:List Pm}{s:ByteArray}(h:s∈jq gs ps):s∈gs.map (·.name)∨s∈ps.map (·.name):=by
 simp only[jq,List.mem_append,List.mem_flatMap] at h;rcases h with h | ⟨p,h1,h2⟩
 ·exact .inl h
 ·split at h2
  ·simp at h2
  ·simp only[List.mem_singleton] at h2;exact .inr (h2 ▸ List.mem_map_of_mem h1)
theorem su:∀ k,k<24→fq k∉nG∧fq k∉nM∧fq k∉nF∧fq k∉nP:=by
 intro k hk;have h:∀ s∈nG++nM++nF++nP,(bs s).length≠3∨(bs s)[0]?≠some 118:=by decide
 have h2:∀ s∈nG++nM++nF++nP,fq k≠s:=by
  rintro s hs rfl;have:=h _ hs;rw[gh] at this;simp at this
 refine⟨fun h=>h2 _ (by simp[h]) rfl,fun h=>h2 _ (by simp[h]) rfl,fun h=>h2 _ (by simp[h]) rfl,fun h=>h2 _ (by simp[h]) rfl⟩
theorem Jd {l:List Fu}{j:Nat}{f:Fu}(hf:l[j]? = some f)(f':Fu)(hb:f.body=[]):((l.set j f').map fun f=>bJ f.body).sum=(l.map fun f=>bJ f.body).sum+bJ f'.body:=by
 induction l generalizing j with
 | nil=>simp at hf
 | cons a r ih=>
  cases j with
  | zero=>
   simp only[List.getElem?_cons_zero,Option.some.injEq] at hf;subst hf;simp[hb,bJ];omega
  | succ j=>
   simp only[List.getElem?_cons_succ] at hf;simp only[List.set_cons_succ,List.map_cons,List.sum_cons,ih hf];omega
def sg (f:Fu):ByteArray×List Pm:=(f.name,f.params)
theorem Gz {l:List Fu}{j:Nat}{f f':Fu}(hf:l[j]? = some f)(h:sg f'=sg f):(l.set j f').map sg=l.map sg:=by
 rw[List.map_set,h];refine List.ext_getElem? fun i=>?_;rw[List.getElem?_set];split
 ·rename_i e;subst e;have hl:j<l.length:=(List.getElem?_eq_some_iff.1 hf).1;simp[hl,(List.getElem?_eq_some_iff.1 hf).2]
 ·rfl
theorem K2 (w:Wr)(gs:List Gl)(hm:0<w.ms.length)(hz:∀ m∈w.ms,m.size≤1000)(hf:0<w.fs.length)(RM:∀ f∈w.fs,f.2.length≤2)(R7:∀ ps:List Pm,(∃ nm,(nm,ps)∈w.fs)→Bt (jq gs ps) 24) :
  ∀ (n j:Nat) (fs:List Fu) (i left:Nat),fs.map sg=w.fs→(∀ k f,fs[k]? = some f→j≤k→f.body=[])→left≤24→i≤w.L.length →
  (Kk w gs n j fs i left).map sg=w.fs∧(∀ k f,(Kk w gs n j fs i left)[k]? = some f→(j≤k→k<j+n→cM w.ms w.fs f.params 2 (jq gs f.params) f.body)∧(k<j∨j+n≤k→fs[k]? = some f))∧
  ((Kk w gs n j fs i left).map fun f=>bJ f.body).sum≤(fs.map fun f=>bJ f.body).sum+48*left
 | 0,j,fs,i,left,h1,h2,h3,h4=>⟨h1,fun k f hk=>⟨fun a b=>absurd a yA,fun _=>hk⟩,Nat.le_add_right _ _⟩
 | n+1,j,fs,i,left,h1,h2,h3,h4=>by
  rw[Kk];split
  ·rename_i hn;refine⟨h1,fun k f hk=>⟨fun a b=>?_,fun _=>hk⟩,Nat.le_add_right _ _⟩;rw[List.getElem?_eq_none_iff] at hn;have:=(List.getElem?_eq_some_iff.1 hk).1;omega
  ·rename_i f VZ;simp only;have PL:(f.name,f.params)∈w.fs:=by
    rw[← h1];exact List.mem_map_of_mem (f:=sg) (List.mem_of_getElem? VZ)
   have hb:=Iw (w:=w) (ps:=f.params) hm hz hf RM left (jq gs f.params) 2 6 i left (jq gs f.params) (Nat.le_refl _) h3 (fun _ h=>h) (fun k hk=>R7 _ ⟨_,PL⟩ k yA);obtain⟨XO,_⟩:=uh w f.params left (jq gs f.params) 2 6 i left h4;generalize mQ w f.params left (jq gs f.params) 2 6 i left=b at hb XO;obtain⟨b1,b2,b3,b4⟩:=hb;have hs1:(fs.set j ⟨f.name,f.params,b.1⟩).map sg=w.fs:=by rw[Gz (f':=⟨f.name,f.params,b.1⟩) VZ rfl,h1]
   have hlj:j<fs.length:=(List.getElem?_eq_some_iff.1 VZ).1;obtain⟨r1,r2,r3⟩:=K2 w gs hm hz hf RM R7 n (j+1) (fs.set j ⟨f.name,f.params,b.1⟩) b.2.1 b.2.2 hs1 (fun k f' hk hjk=>by
    rw[List.getElem?_set,if_neg yA] at hk;exact h2 k f' hk yA) yA XO
   refine⟨r1,fun k f' hk=>?_,?_⟩
   ·obtain⟨q1,q2⟩:=r2 k f' hk;refine⟨fun a c=>?_,fun a=>?_⟩
    ·by_cases WL:k=j
     ·subst WL;have:=q2 (.inl yA);rw[List.getElem?_set,if_pos rfl,if_pos hlj] at this;simp only[Option.some.injEq] at this;subst this;exact b1
     ·exact q1 yA yA
    ·have:=q2 yA;rw[List.getElem?_set,if_neg yA] at this;exact this
   ·have hs:=Jd VZ ⟨f.name,f.params,b.1⟩ (h2 j f VZ (Nat.le_refl _));rw[hs] at r3;simp only at r3;omega
theorem KF (l:List Int):km (Dt l):=by
 unfold Dt;simp only;generalize l.take 400=L;have ha:=aV L 3 (Nat.zero_le L.length);generalize bN L 0 3=a at ha;have Pp:=aV L 4 ha;have hnm2:=cH L a.2 (show 0<4 by omega);generalize bN L a.2 4=nm at Pp hnm2;obtain⟨m1,m2,m3,m4⟩:=Ah L (1+nm.1) 0 nm.2 yA;generalize qY L (1+nm.1) 0 nm.2=ms at m1 m2 m3 m4;have Rc:=aV L 3 (m4 Pp);have hng2:=cH L ms.2 (show 0<3 by omega);generalize bN L ms.2 3=ng at Rc hng2;obtain⟨g1,g2,g3,g4⟩:=HH L ng.1 0 ng.2 yA;generalize v9 L ng.1 0 ng.2=gs at g1 g2 g3 g4;have Y1:=aV L 4 (g4 Rc);have hnf2:=cH L gs.2 (show 0<4 by omega);generalize bN L gs.2 4=nf at Y1 hnf2;obtain⟨f1,f2,f3,f4,f5⟩:=HI L (nf.1+1) 0 nf.2 yA;generalize vf L (nf.1+1) 0 nf.2=fs at f1 f2 f3 f4 f5;have Po:∀ f∈fs.1,f.params.length≤2:=fun f hf=>by
  obtain⟨_,k,h1,h2⟩:=f3 f hf;have:=congrArg List.length h2;simp[nP] at this;omega
 have R7:∀ ps:List Pm,(∃ nm,(nm,ps)∈fs.1.map sg)→Bt (jq gs.1 ps) 24:=by
  rintro ps ⟨x,hx⟩ k hk hc;obtain⟨v1,_,_,v4⟩:=su k hk;rw[List.mem_map] at hx;obtain⟨f,hf,he⟩:=hx;rcases uR hc with h | h
  ·rw[g1] at h;exact v1 (List.mem_of_mem_take QW)
  ·have PW:ps=f.params:=by
    simp only[sg,Prod.mk.injEq] at he;exact he.2.symm
   obtain⟨_,q,_,h2⟩:=f3 f hf;rw[PW,h2] at h;exact v4 (List.mem_of_mem_take QW)
 obtain⟨r1,r2,r3⟩:=K2 ⟨L,decide (a.1=1),ms.1,fs.1.map fun f=>(f.name,f.params)⟩ gs.1 (by simp only;omega) (fun m hm=>by have:=(m3 m hm).1;omega) PX
  (fun f hf=>by
   simp only[List.mem_map] at hf;obtain⟨f',h1,rfl⟩:=hf;exact Po f' h1) R7 (nf.1+1) 0 fs.1 fs.2 24 rfl (fun k f hk _=>(f3 f (List.mem_of_getElem? hk)).1) (Nat.le_refl _) (f5 Y1)
 generalize Kk ⟨L,decide (a.1=1),ms.1,fs.1.map fun f=>(f.name,f.params)⟩ gs.1 (nf.1+1) 0 fs.1 fs.2 24=F at r1 r2 r3;have P9:∀ (k:Nat) (f:Fu),F[k]? = some f→∃ f0:Fu,fs.1[k]? = some f0∧f0.name=f.name∧f0.params=f.params:=by
  intro k f hk;have h1:(F.map sg)[k]? = some (sg f):=by simp[hk]
  rw[r1] at h1;simp only[List.getElem?_map,Option.map_eq_some_iff] at h1;obtain⟨f0,h2,h3⟩:=h1;simp only[sg,Prod.mk.injEq] at h3;exact⟨f0,h2,h3.1,h3.2⟩
 have hlenF:F.length=nf.1+1:=by
  have:=congrArg List.length r1;simp at this;omega
 refine⟨⟨ng.1,by omega,by simpa using g1⟩,g3,⟨1+nm.1,by omega,by omega,by simpa using m1⟩,m3,⟨nf.1+1,by omega,by omega,?_⟩,?_,?_,?_,?_⟩
 ·have h1:=congrArg (List.map Prod.fst) r1;have h2:(F.map sg).map Prod.fst=F.map (·.name):=by simp[sg]
  rw[h2] at h1;show F.map (·.name)=_;rw[h1]
  simpa [Function.comp_def] using f1
 ·intro f hf;obtain⟨f0,h1,h2,h3⟩:=P9 0 f hf;rw[← h3];exact f4 rfl f0 h1
 ·intro f hf;obtain⟨k,hk⟩:=List.getElem?_of_mem hf;obtain⟨f0,h1,h2,h3⟩:=P9 k f hk;rw[← h3];exact (f3 f0 (List.mem_of_getElem? h1)).2
 ·intro f hf;obtain⟨k,hk⟩:=List.getElem?_of_mem hf;have Ot:k<F.length:=(List.getElem?_eq_some_iff.1 hk).1;have:=(r2 k f hk).1 (Nat.zero_le _) yA;show cM ms.1 (F.map sg) _ _ _ _;rw[r1];exact this
 ·have h0:(fs.1.map fun f=>bJ f.body).sum=0:=by
   have hz:∀ l:List Fu,(∀ f∈l,f.body=[])→(l.map fun f=>bJ f.body).sum=0:=by
    intro l
    induction l with
    | nil=>intro _;rfl
    | cons a r ih=>
     intro h;simp only[List.map_cons,List.sum_cons,h a List.mem_cons_self,ih fun f hf=>h f (List.mem_cons_of_mem _ hf),bJ]
   exact hz _ fun f hf=>(f3 f hf).1
  rw[h0] at r3;omega
end Go.aN
