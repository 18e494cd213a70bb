/- signs, strength, inner, Height, shape, ValidExpr. -/
import Derived.Test.YtlkmbdfhdknlgaaGreatDoorZ19
namespace Go.Proofs.YtlkmbdfhdknlgaaGreatDoor
open Go.Can Go.aN
def ral:List Nat:=[131,132]
def rip:IP:=⟨av,[],fun g=>ral.contains g,fun _=>true,fun _ _=>none,[],[],[]⟩
theorem rgd:AB Tryz.prog rip ral=true:=by kernel_rfl
theorem uF:La Tryz.prog rip:=⟨by simp[rip],af,py N4,by intro x hx;simp[rip] at hx,by intro x hx;simp[rip] at hx,follows,AA (l:=ral) rgd fun g ha=>by simpa [rip] using ha⟩
def uS (k:Nat):List ByteArray×List Int:=match k with
 | 0=>([⟨#[124,124]⟩],[17])
 | 1=>([⟨#[38,38]⟩],[16])
 | 2=>([⟨#[61,61]⟩,⟨#[33,61]⟩,⟨#[60]⟩,⟨#[60,61]⟩,⟨#[62]⟩,⟨#[62,61]⟩],[14,15,10,11,12,13])
 | 3=>([⟨#[43]⟩,⟨#[45]⟩],[8,9])
 | _=>([⟨#[42]⟩,⟨#[47]⟩,⟨#[37]⟩],[5,6,7])
set_option maxRecDepth 100000 in
theorem fx:∀ k:Nat,k≤17→ae Tryz.prog 132 [I k] (I (mY k))
 | 0,_=>ef (I:=rip) uF 300 N4
 | 1,_=>ef (I:=rip) uF 300 N4
 | 2,_=>ef (I:=rip) uF 300 N4
 | 3,_=>ef (I:=rip) uF 300 N4
 | 4,_=>ef (I:=rip) uF 300 N4
 | 5,_=>ef (I:=rip) uF 300 N4
 | 6,_=>ef (I:=rip) uF 300 N4
 | 7,_=>ef (I:=rip) uF 300 N4
 | 8,_=>ef (I:=rip) uF 300 N4
 | 9,_=>ef (I:=rip) uF 300 N4
 | 10,_=>ef (I:=rip) uF 300 N4
 | 11,_=>ef (I:=rip) uF 300 N4
 | 12,_=>ef (I:=rip) uF 300 N4
 | 13,_=>ef (I:=rip) uF 300 N4
 | 14,_=>ef (I:=rip) uF 300 N4
 | 15,_=>ef (I:=rip) uF 300 N4
 | 16,_=>ef (I:=rip) uF 300 N4
 | 17,_=>ef (I:=rip) uF 300 N4
 | _+18,h=>absurd h yA
set_option maxRecDepth 100000 in
theorem Gv:∀ k:Nat,k≤4→ae Tryz.prog 131 [I k] (.dI [strs (uS k).1,ints (uS k).2])
 | 0,_=>ef (I:=rip) uF 300 N4
 | 1,_=>ef (I:=rip) uF 300 N4
 | 2,_=>ef (I:=rip) uF 300 N4
 | 3,_=>ef (I:=rip) uF 300 N4
 | 4,_=>ef (I:=rip) uF 300 N4
 | _+5,h=>absurd h yA
def bu (gs:List Gl)(ms:List Mx)(nf left:Nat)(ar:Bool):Ob:=⟨102,0,[.aq 0 0,.az (gs.flatMap o0) gs.length,.az (ms.flatMap eM) ms.length,.bp 2 0 nf,I left,.bool ar]⟩
@[simp] theorem wrOb_frz (gs:List Gl)(ms:List Mx)(nf left:Nat)(ar:Bool)(o:Nat)(h:o≠0)(h2:o≠2)(cs:List CV)(n:Nat):(⟨(bu gs ms nf left ar).elem,(bu gs ms nf left ar).sz,(bu gs ms nf left ar).cells.map (bQ o cs n)⟩:Ob)=bu gs ms nf left ar:=by
 have h':¬ 0=o:=fun e=>h e.symm;have Q4:¬ 2=o:=fun e=>h2 e.symm;simp[bu,h',Q4]
@[simp] theorem Na (ρ:Nat→Nat)(h0:ρ 0=0)(h2:ρ 2=2)(gs:List Gl)(ms:List Mx)(nf left:Nat)(ar:Bool):cc ρ (bu gs ms nf left ar)=bu gs ms nf left ar:=by
 simp only[cc,bu,bV,dT,h0,h2]
@[simp] theorem M8 (L:List Int)(i n:Nat):(aA L i).cells.all (ba n)=true:=rfl
@[simp] theorem M6 (L:List Int)(i n:Nat):a6 n (aA L i).cells=true:=rfl
@[simp] theorem F5 (gs:List Gl)(ms:List Mx)(nf left:Nat)(ar:Bool)(n:Nat)(h:2<n):(bu gs ms nf left ar).cells.all (ba n)=true:=by
 have h':0<n:=by omega
 simp[bu,h,h']
@[simp] theorem wrOb_lts (gs:List Gl)(ms:List Mx)(nf left:Nat)(ar:Bool)(n:Nat)(h:2<n):a6 n (bu gs ms nf left ar).cells=true:=by rw[ch];exact F5 gs ms nf left ar n h
theorem wF (r:Rf):trees (kO r)=true:=by
 rcases r with ⟨_,_ | _⟩<;>rfl
theorem mV (L:List Int)(hL:L.length≤1000)(vars:List ByteArray)(hv:vars.length≤1000)(gs:List Gl)(ms:List Mx)(nf left:Nat)(ar:Bool)(i:Nat)(hi:i≤L.length) :
  Body Tryz.prog av 79 [.aq 1 0,.bp 3 0 vars.length] [(0,aA L i),(1,bu gs ms nf left ar),(3,bf vars)] 4 (jA (.agg (bM (dj L ar vars i).1)) [(0,aA L (dj L ar vars i).2),(1,bu gs ms nf left ar),(3,bf vars)] 4):=by
 refine Body.iV Tryz.func79 rfl N4 (by simp[Tryz.ntmps79]) fun C hC N8=>?_;rw[Tryz.ntmps79] at hC;apply ai;simp[hC]
 cases ar with
 | false=>
  apply aL;simp[hC,bu];refine cB ?_;simp;apply ai;simp[hC];refine TL.bS af [0,3] 4 (uA L hL vars hv 0 i yA hi) Oc rfl rfl rfl rfl N3 OP OO rfl (TL.go' af ?_);simp[bK];apply T.ret;refine aa.le (Le.trim [4] [0,1,3,4] 5 XW yA) ?_;simp;refine aa.le (Le.nz [] [4]) ?_;simp;refine aa.le (Le.cV (o:=4) rfl TV) ?_;simp;refine aa.trim [4] [0,1,3] 4 Sf yA ⟨_,?_,rfl,?_,rfl⟩
  ·simp[dj,qa,bK]
  ·simp[dj]
 | true=>
  apply aL;simp[hC,bu];refine dv ?_;simp;have Oa:=cH L i (show 0<2 by omega);have w1:=cf (1+((bN L i 2).1:Int)) yA yA;apply T.seq;refine T.rx af follows [0,1,2,3,4,5,6,7,8,9,10,11,12] [(3,9)] N4 ?_;simp[hC];refine RX.bS [0] [0] 1 (bF L i 2 hi hL yA yA) rfl N3 rfl rfl rfl rfl N3 OP OO rfl rfl rfl N3 ?_;simp[w1];refine RX.bS [0,3] [0] 4 (uA L hL vars hv (1+(bN L i 2).1) _ yA (aV _ _ hi)) rfl N3 rfl rfl rfl rfl N3 OP OO rfl rfl rfl N3 ?_;simp[bK];apply T.ret;refine aa.le (Le.trim [4] [0,1,3,4] 18 XW yA) ?_;simp;refine aa.le (Le.nz [] [4]) ?_;simp;refine aa.le (Le.cV (o:=4) rfl TV) ?_;simp;refine aa.trim [4] [0,1,3] 4 Sf yA ⟨_,?_,rfl,?_,rfl⟩
  ·simp[dj,qa,bK]
  ·simp[dj]
theorem Ej (L:List Int)(hL:L.length≤1000)(vars:List ByteArray)(hv:vars.length≤1000)(gs:List Gl)(ms:List Mx)(nf left size:Nat)(hs:0<size)(Wt:size≤1000)(ar:Bool)(i:Nat)(hi:i≤L.length) :
  Body Tryz.prog av 102 [.aq 1 0,.bp 3 0 vars.length,I size] [(0,aA L i),(1,bu gs ms nf left ar),(3,bf vars)] 4 (jA (.agg (bM (oO L ar vars size i).1)) [(0,aA L (oO L ar vars size i).2),(1,bu gs ms nf left ar),(3,bf vars)] 4):=by
 refine Body.iV Tryz.func102 rfl N4 (by simp[Tryz.ntmps102]) fun C hC N8=>?_;rw[Tryz.ntmps102] at hC;apply ai;simp[hC];have Rg:=aV L 3 hi
 cases ar with
 | false=>
  apply aL;simp[hC,bu];refine dv ?_;simp;apply ai;simp[hC];refine TL.bS af [0] 1 (bF L i size hi hL hs yA) Oc rfl rfl rfl rfl N3 OP OO rfl (TL.go' af ?_);simp[hC];apply T.ret;refine aa.le (Le.trim [6] [0,1,3,4] 5 ZU yA) ?_;simp;refine aa.le (Le.nz [] [4]) ?_;simp;refine aa.le (Le.cV (o:=4) rfl TV) ?_;simp;refine aa.trim [6] [0,1,3] 4 Sf yA ⟨_,?_,rfl,?_,rfl⟩
  ·simp[oO,bM,eS]
  ·simp[oO]
 | true=>
  apply aL;simp[hC,bu];refine TL.bS af [0] 1 (bF L i 3 hi hL yA yA) Oc rfl rfl rfl rfl N3 OP OO rfl (TL.go' af ?_);simp[hC];refine T.bg rfl (fun h=>?_) (fun h=>?_)
  ·have h1:(bN L i 3).1=1:=by simpa using h
   apply ai;simp[hC];refine TL.bS af [0,3] 4 (uA L hL vars hv 1 _ yA Rg) Oc rfl rfl rfl rfl N3 OP OO rfl (TL.go' af ?_);simp[bK];apply T.ret;refine aa.le (Le.trim [6] [0,1,3,4] 5 XW yA) ?_;simp;refine aa.le (Le.nz [] [4]) ?_;simp;refine aa.le (Le.cV (o:=4) rfl TV) ?_;simp;refine aa.trim [6] [0,1,3] 4 Sf yA ⟨_,?_,rfl,?_,rfl⟩
   ·simp[oO,h1,qa,bK]
   ·simp[oO,h1]
  ·have h1:¬ (bN L i 3).1=1:=by simpa using h
   apply T.skip;simp;apply ai;simp[hC];refine TL.bS af [0] 1 (bF L _ size Rg hL hs yA) Oc rfl rfl rfl rfl N3 OP OO rfl (TL.go' af ?_);simp[hC];apply T.ret;refine aa.le (Le.trim [6] [0,1,3,4] 5 ZU yA) ?_;simp;refine aa.le (Le.nz [] [4]) ?_;simp;refine aa.le (Le.cV (o:=4) rfl TV) ?_;simp;refine aa.trim [6] [0,1,3] 4 Sf yA ⟨_,?_,rfl,?_,rfl⟩
   ·simp[oO,bM,eS,h1]
   ·simp[oO,h1]
def kP:List CV:=[.str ⟨#[]⟩,.aj]
def gz (nm:ByteArray)(ps:List Pm)(bc:List CV)(bn:Nat):List CV:=[.str nm,.az (ps.flatMap kT) ps.length,.az bc bn]
section
variable (L:List Int)(vars:List ByteArray)(gs:List Gl)(ms:List Mx)(nf left:Nat)(ar:Bool)(i:Nat)(nm:ByteArray)(ps:List Pm)(bc:List CV)(bn:Nat)
def J86 (m:Nat)(s:St):Prop:=∃ k:Nat,m=ms.length-k∧k≤ms.length∧
 s=⟨[(8,I k),(7,.bp 6 0 k),(6,.aq 5 0),(4,.aq 4 0),(0,.aq 1 0),(2,.bp 3 0 vars.length)],[(0,aA L i),(1,bu gs ms nf left ar),(3,bf vars),(4,⟨109,0,gz nm ps bc bn⟩),(5,⟨167,0,kP⟩),(6,bf ((ms.take k).map (·.name)))],7⟩
def K86 (m:Nat)(s:St):Prop:=∃ k:Nat,m=ps.length-k∧k≤ps.length∧
 s=⟨[(10,I k),(9,I ms.length),(7,.bp 6 0 (bT ms (ps.take k)).length),(6,.aq 5 0),(4,.aq 4 0),(0,.aq 1 0),(2,.bp 3 0 vars.length)],[(0,aA L i),(1,bu gs ms nf left ar),(3,bf vars),(4,⟨109,0,gz nm ps bc bn⟩),(5,⟨167,0,kP⟩),(6,bf (bT ms (ps.take k)))],7⟩
end
theorem tj (L:List Int)(hL:L.length≤1000)(vars:List ByteArray)(hv:vars.length≤1000)(gs:List Gl)(ms:List Mx)(hm:0<ms.length)(UQ:ms.length≤100)(Oh:∀ m∈ms,m.size≤1000)(nf left:Nat)(ar:Bool)(i:Nat)(hi:i≤L.length)
  (nm:ByteArray) (ps:List Pm) (hp:ps.length≤100) (bc:List CV) (bn:Nat) :
  Body Tryz.prog av 78 [.aq 1 0,.agg (gz nm ps bc bn),.bp 3 0 vars.length] [(0,aA L i),(1,bu gs ms nf left ar),(3,bf vars)] 4 (jA (.agg (kO (jd L ar ms ps vars i).1)) [(0,aA L (jd L ar ms ps vars i).2),(1,bu gs ms nf left ar),(3,bf vars)] 4):=by
 generalize PA:jd L ar ms ps vars i=res;refine Body.iV Tryz.func78 rfl N4 (by simp[Tryz.ntmps78]) fun C hC N8=>?_;rw[Tryz.ntmps78] at hC;apply ai;simp[hC,gz];apply ai;simp[hC];apply aL;simp[hC];apply T.block;refine T.aI (J86 L vars gs ms nf left ar i nm ps bc bn) (n:=ms.length) ?_ ?_
 ·refine aa.le (Le.own 7 9 1 rfl) (aa.trim [8,7,6,4,0,2] [0,1,3,4,5,6] 7 (by simp[aA,bu]) yA ⟨0,rfl,Nat.zero_le _,?_⟩);simp[bf,kP,gz]
 ·rintro n s ⟨k,rfl,hk,rfl⟩;have V8:((ms.take k).map (·.name)).length=k:=by simp;omega
  generalize hN:(ms.take k).map (·.name)=N at V8;apply aL;simp[hC,bu];refine T.bg rfl (fun h=>?_) (fun h=>?_)
  ·have Ot:k<ms.length:=by simpa using h
   obtain⟨m,WE⟩:∃ m,ms[k]? = some m:=⟨ms[k],List.getElem?_eq_getElem Ot⟩;have hd:=aD (f:=eM) (n:=3) (fun _=>rfl) WE;have wi:=cf ((k:Int)+1) yA yA;have hb:(k+1)*16≤140737488355328:=by omega
   have On:ms.take (k+1)=ms.take k++[m]:=by rw[List.take_add_one,WE];rfl
   have hN':(ms.take (k+1)).map (·.name)=N++[m.name]:=by rw[On,List.map_append,hN];rfl
   apply T.skip;simp;refine T.seq (T.block (T.go' af ?_));simp[hC,Ot,hd,eM,bf,hb,V8];apply aY;simp[hC,wi];refine⟨ms.length-(k+1),by omega,aa.le (Le.trim [8,7,6,4,0,2] [0,1,3,4,5,8] 9 (by simp[aA,gz,kP]) yA) ?_⟩;simp;refine aa.le (Le.oJ 8 6 rfl rfl yA N3 (by simp ) (by simp[aA,ints,gz,kP])) ?_;simp[aA,ints,gz,kP];refine aa.trim [8,7,6,4,0,2] [0,1,3,4,5,6] 7 N3 yA ⟨k+1,rfl,Ot,?_⟩;simp only[hN'];simp[bf,kP,gz,bu,aA,ints]
  ·have Ot:k=ms.length:=by
    have:¬ k<ms.length:=by simpa using h
    omega
   subst Ot;rw[List.take_length] at hN;apply T.exit;simp;refine T.le (Le.trim [7,6,4,0,2] [0,1,3,4,5,6] 7 (by simp[aA,gz,kP,bf]) yA) ?_;simp;apply ai;simp[hC,bf];apply aL;simp[hC];apply T.block;refine T.aI (K86 L vars gs ms nf left ar i nm ps bc bn) (n:=ps.length) ?_ ?_
   ·refine aa.trim [10,9,7,6,4,0,2] [0,1,3,4,5,6] 7 (by simp[aA,gz,kP]) yA ⟨0,rfl,Nat.zero_le _,?_⟩;simp[bf,kP,gz,bT,← hN,bu]
   ·rintro n s ⟨j,rfl,hj,rfl⟩;have hNl2:(bT ms (ps.take j)).length≤300:=by
     have:∀ l:List Pm,(l.flatMap FN).length≤l.length*2:=by
      intro l
      induction l with
      | nil=>simp
      | cons a r ih=>
       simp only[List.flatMap_cons,List.length_append,List.length_cons];have:(FN a).length≤2:=by unfold FN;split<;>simp
       omega
     have h1:=this (ps.take j);simp only[bT,List.length_append,List.length_map];simp only[List.length_take] at h1;omega
    generalize hN2:bT ms (ps.take j)=N2 at hNl2;apply aL;simp[hC,gz];refine T.bg rfl (fun h=>?_) (fun h=>?_)
    ·have OD:j<ps.length:=by simpa using h
     obtain⟨p,hpj⟩:∃ p,ps[j]? = some p:=⟨ps[j],List.getElem?_eq_getElem OD⟩;have hd:=aD (f:=kT) (n:=2) (fun _=>rfl) hpj;have PZ:=a8 (f:=kT) (n:=2) (fun _=>rfl) hpj 1 yA;have wi:=cf ((j:Int)+1) yA yA;have On:ps.take (j+1)=ps.take j++[p]:=by rw[List.take_add_one,hpj];rfl
     have XP:bT ms (ps.take (j+1))=N2++FN p:=by rw[On,← hN2];simp[bT]
     apply T.skip;simp;refine T.seq (T.block (ai ?_));simp[hC,OD,PZ,kT];refine T.cond (b:=p.mutex) rfl ?_
     cases Vl:p.mutex with
     | true=>
      have Q2:FN p=[p.name,p.name]:=by simp[FN,Vl]
      have hb:(N2.length+2)*16≤140737488355328:=by omega
      simp;refine T.rx af follows [0,1,2,3,4,5,6,7,8,9,10,11,12,13,14,15] [] N4 ?_;simp[hC,OD,hd,kT,bf,hb];apply aY;simp[hC,wi];refine⟨ps.length-(j+1),by omega,aa.le (Le.trim [10,9,7,6,4,0,2] [0,1,3,4,5,23] 24 (by simp[aA,kP,bu]) yA) ?_⟩;simp;refine aa.le (Le.oJ 23 6 rfl rfl yA N3 (by simp ) (by simp[aA,ints,kP,bu])) ?_;simp[aA,ints,kP,bu];refine aa.trim [10,9,7,6,4,0,2] [0,1,3,4,5,6] 7 N3 yA ⟨j+1,rfl,OD,?_⟩;simp only[XP,Q2];simp[bf,kP,gz,bu,aA,ints]
     | false=>
      have Q2:FN p=[]:=by simp[FN,Vl]
      simp;apply T.skip;simp;apply aY;simp[hC,wi];refine⟨ps.length-(j+1),by omega,aa.trim [10,9,7,6,4,0,2] [0,1,3,4,5,6] 7 (by simp[aA,kP,bu,bf]) yA ⟨j+1,rfl,OD,?_⟩⟩;simp only[XP,Q2];simp[bf,kP,gz,bu,aA,ints]
    ·have OD:j=ps.length:=by
      have:¬ j<ps.length:=by simpa using h
      omega
     subst OD;rw[List.take_length] at hN2;apply T.exit;simp;refine T.le (Le.trim [9,7,6,4,0,2] [0,1,3,4,5,6] 7 (by simp[aA,kP,bf,bu]) yA) ?_;simp;have ZS:0<N2.length:=by rw[← hN2];simp[bT];omega
     apply ai;simp[hC,bu];refine TL.bS af [0] 1 (bF L i N2.length hi hL ZS yA) Oc rfl rfl rfl rfl N3 OP OO rfl (TL.go' af ?_);simp[hC];have OL:=aV L N2.length hi;have Oa:=cH L i ZS;have QK:res=if (bN L i N2.length).1<ms.length∧0<kN ms (bN L i N2.length).1 then
       (⟨N2.getD (bN L i N2.length).1 eS,some (oO L ar vars (kN ms (bN L i N2.length).1) (bN L i N2.length).2).1⟩,(oO L ar vars (kN ms (bN L i N2.length).1) (bN L i N2.length).2).2)
       else (⟨N2.getD (bN L i N2.length).1 eS,none⟩,(bN L i N2.length).2):=by rw[← hN2,← PA];rfl
     generalize bN L i N2.length=k at OL Oa QK;have N7:=iT Oa;apply ai;simp[hC,bf,Oa,N7];have Qy:N2.getD k.1 eS=N2[k.1]:=by simp[List.getD,Oa]
     rw[Qy] at QK;refine T.le (Le.trim [12,11,9,6,0,2] [0,1,3,5,7] 8 (by simp[aA,kP]) yA) ?_;simp;refine T.seq (T.seq ?_);by_cases WK:k.1<ms.length
     ·obtain⟨m,WE⟩:∃ m,ms[k.1]? = some m:=⟨ms[k.1],List.getElem?_eq_getElem WK⟩;have hd:=a8 (f:=eM) (n:=3) (fun _=>rfl) WE 2 yA;have hsa:kN ms k.1=m.size:=by simp[kN,WE]
      have Py:=Oh m (List.mem_of_getElem? WE);have Zz:=a8 (f:=eM) (n:=3) (fun _=>rfl) WE 0 yA;rw[hsa] at QK;apply aY;simp[hC,WK,hd,eM];refine T.bg rfl (fun h=>?_) (fun h=>?_)
      ·have SX:0<m.size:=by simpa using h
       rw[if_pos ⟨WK,SX⟩] at QK;apply aY;simp[hC,WK,hd,eM];refine TL.bS af [0,1,3] 4 (Ej L hL vars hv gs ms nf left m.size SX Py ar k.2 OL) Oc rfl rfl rfl rfl N3 rfl (by first | rfl | simp[aA,ints,bu]) rfl (TL.go' af ?_);simp[hC,bK,aS];apply ai;simp[hC,kP];apply T.ret;refine aa.le (Le.trim [6] [0,1,3,5,8] 9 (by simp[aA,bu,-List.all_eq_true,iM]) yA) ?_;simp;refine aa.le (Le.cV (o:=8) rfl (bz _)) ?_;simp;refine aa.le (Le.cV (o:=5) rfl rfl) ?_;simp;refine aa.trim [6] [0,1,3] 4 (by simp[aA,bu]) yA ⟨_,?_,rfl,?_,rfl⟩
       ·simp[QK,kO,oZ]
       ·simp[QK,bu,bf]
      ·have SX:¬ 0<m.size:=by simpa using h
       rw[if_neg fun h=>SX h.2] at QK;apply T.skip;simp;apply ai;simp[hC,kP];apply T.ret;refine aa.le (Le.trim [6] [0,1,3,5] 8 ZU yA) ?_;simp;refine aa.le (Le.nz [] [5]) ?_;simp;refine aa.le (Le.cV (o:=5) rfl TV) ?_;simp;refine aa.trim [6] [0,1,3] 4 Sf yA ⟨_,?_,rfl,?_,rfl⟩
       ·simp[QK,kO,oZ]
       ·simp[QK]
     ·rw[if_neg fun h=>WK h.1] at QK;apply aY;simp[hC,WK];refine dv ?_;simp;apply ai;simp[hC,kP];apply T.ret;refine aa.le (Le.trim [6] [0,1,3,5] 8 ZU yA) ?_;simp;refine aa.le (Le.nz [] [5]) ?_;simp;refine aa.le (Le.cV (o:=5) rfl TV) ?_;simp;refine aa.trim [6] [0,1,3] 4 Sf yA ⟨_,?_,rfl,?_,rfl⟩
      ·simp[QK,kO,oZ]
      ·simp[QK]
theorem ui (x:Ar):(oR x).length=7:=by cases x<;>simp[oR,kO,kQ,bK]
theorem pT (L:List Int)(ar:Bool)(ms:List Mx)(ps:List Pm)(vars:List ByteArray)(p:Pm):∀ (l:List Pm) (i:Nat),db L ar ms ps vars (l++[p]) i=((db L ar ms ps vars l i).1++(db L ar ms ps vars [p] (db L ar ms ps vars l i).2).1,(db L ar ms ps vars [p] (db L ar ms ps vars l i).2).2)
 | [],i=>by simp[db]
 | q::r,i=>by
  rw[List.cons_append,db,db];split
  ·rw[pT L ar ms ps vars p r];simp
  ·rw[pT L ar ms ps vars p r];simp
theorem sq (L:List Int)(ar:Bool)(ms:List Mx)(ps:List Pm)(vars:List ByteArray):∀ (l:List Pm) (i:Nat),(db L ar ms ps vars l i).1.length=l.length
 | [],i=>rfl
 | q::r,i=>by
  rw[db];split<;>simp[sq L ar ms ps vars r]
@[simp] theorem L4 (l:List Ar):(l.flatMap oR).map nz=l.flatMap oR:=by
 induction l with
 | nil=>rfl
 | cons a r ih=>
  rw[List.flatMap_cons,List.map_append,ih];congr 1;rcases a with ⟨_,_ | _⟩ | e<;>simp[oR,kO,kQ,oZ,bM]
@[simp] theorem nz_opC (e:Option Ex):nz (oZ e)=oZ e:=by cases e<;>rfl
@[simp] theorem tree_opC (e:Option Ex):tree (oZ e)=true:=by cases e<;>rfl
@[simp] theorem LO (n:Nat)(e:Option Ex):ba n (oZ e)=true:=by cases e<;>rfl
@[simp] theorem Nw (n:Nat)(e:Option Ex):aJ n (oZ e)=true:=by cases e<;>rfl
@[simp] theorem ok1_opC (o q:Nat)(e:Option Ex):kU o q (oZ e)=true:=by cases e<;>rfl
@[simp] theorem ren1_opC (o q:Nat)(e:Option Ex):dg o q (oZ e)=oZ e:=by cases e<;>rfl
@[simp] theorem frzV_opC (o:Nat)(cs:List CV)(n:Nat)(e:Option Ex):bQ o cs n (oZ e)=oZ e:=by cases e<;>rfl
theorem yu (o q:Nat)(e:Ex):(bM e).all (kU o q)=true:=bh (bz e) o q
@[simp] theorem ren1_exC (o q:Nat)(e:Ex):(bM e).map (dg o q)=bM e:=a7 (bz e) o q
theorem Eo (l:List Ar):trees (l.flatMap oR)=true:=by
 induction l with
 | nil=>rfl
 | cons a r ih=>
  rw[List.flatMap_cons,aZ,ih,Bool.and_true];rcases a with ⟨_,_ | _⟩ | e<;>simp only[oR,kO,kQ,oZ,List.cons_append,List.nil_append,trees,tree,bz,Bool.and_self]
section
variable (L:List Int)(vars:List ByteArray)(gs:List Gl)(ms:List Mx)(nf left:Nat)(ar:Bool)(i:Nat)(nm:ByteArray)(ps:List Pm)(bc:List CV)(bn:Nat)(Z7:ByteArray)(PT:List Pm)(bc':List CV)(bn':Nat)
def J88 (m:Nat)(s:St):Prop:=∃ k:Nat,m=PT.length-k∧k≤PT.length∧
 s=⟨[(10,I k),(9,.bp 6 0 k),(6,.aq 5 0),(5,.aq 4 0),(0,.aq 1 0),(3,.bp 3 0 vars.length)],[(0,aA L (db L ar ms ps vars (PT.take k) i).2),(1,bu gs ms nf left ar),(3,bf vars),(4,⟨109,0,gz nm ps bc bn⟩),(5,⟨109,0,gz Z7 PT bc' bn'⟩),(6,⟨195,7,(db L ar ms ps vars (PT.take k) i).1.flatMap oR⟩)],7⟩
end
theorem F7 (L:List Int)(hL:L.length≤1000)(vars:List ByteArray)(hv:vars.length≤1000)(gs:List Gl)(ms:List Mx)(hm:0<ms.length)(UQ:ms.length≤100)(Oh:∀ m∈ms,m.size≤1000)(nf left:Nat)(ar:Bool)(i:Nat)(hi:i≤L.length)
  (nm:ByteArray) (ps:List Pm) (hp:ps.length≤100) (bc:List CV) (bn:Nat) (Z7:ByteArray) (PT:List Pm) (R1:PT.length≤100) (bc':List CV) (bn':Nat) :
  Body Tryz.prog av 80 [.aq 1 0,.agg (gz nm ps bc bn),.agg (gz Z7 PT bc' bn'),.bp 3 0 vars.length] [(0,aA L i),(1,bu gs ms nf left ar),(3,bf vars)] 4
   (jA (.az ((db L ar ms ps vars PT i).1.flatMap oR) PT.length) [(0,aA L (db L ar ms ps vars PT i).2),(1,bu gs ms nf left ar),(3,bf vars)] 4):=by
 refine Body.iV Tryz.func80 rfl N4 (by simp[Tryz.ntmps80]) fun C hC N8=>?_;rw[Tryz.ntmps80] at hC;apply ai;simp[hC,gz];apply ai;simp[hC];apply aL;simp[hC];apply T.block;refine T.aI (J88 L vars gs ms nf left ar i nm ps bc bn Z7 PT bc' bn') (n:=PT.length) ?_ ?_
 ·refine aa.le (Le.own 9 195 7 rfl) (aa.trim [10,9,6,5,0,3] [0,1,3,4,5,6] 7 (by simp[aA,bu]) yA ⟨0,rfl,Nat.zero_le _,?_⟩);simp[db,gz]
 ·rintro n s ⟨k,rfl,hk,rfl⟩;have U0:(db L ar ms ps vars (PT.take k) i).1.length=k:=by rw[sq];simp;omega
  have OL:(db L ar ms ps vars (PT.take k) i).2≤L.length:=qS _ _ _ _ _ _ hi;have O8:=aM (f:=oR) (n:=7) ui (db L ar ms ps vars (PT.take k) i).1;rw[U0] at O8;have OH:=Eo (db L ar ms ps vars (PT.take k) i).1;generalize hA:db L ar ms ps vars (PT.take k) i=A at U0 OL O8 OH;have hnz:=L4 A.1;generalize hX:A.1.flatMap oR=X at O8 OH hnz;have hl8:=ah OH 9;have Om:=bh OH 8 6;have Qi:=a7 OH 8 6;have hl6:=ah OH 7;apply aL;simp[hC,gz];refine T.bg rfl (fun h=>?_) (fun h=>?_)
  ·have Ot:k<PT.length:=by simpa using h
   obtain⟨p,QL⟩:∃ p,PT[k]? = some p:=⟨PT[k],List.getElem?_eq_getElem Ot⟩;have PZ:=a8 (f:=kT) (n:=2) (fun _=>rfl) QL 1 yA;have wi:=cf ((k:Int)+1) yA yA;have On:PT.take (k+1)=PT.take k++[p]:=by rw[List.take_add_one,QL];rfl
   have Vy:db L ar ms ps vars (PT.take (k+1)) i=(A.1++(db L ar ms ps vars [p] A.2).1,(db L ar ms ps vars [p] A.2).2):=by rw[On,pT,hA]
   have hb:(k+1)*104≤140737488355328:=by omega
   apply T.skip;simp;refine T.seq (T.block (ai ?_));simp[hC,Ot,PZ,kT];refine T.cond (b:=p.mutex) rfl ?_
   cases Vl:p.mutex with
   | true=>
    have QK:db L ar ms ps vars [p] A.2=([.uX (jd L ar ms ps vars A.2).1],(jd L ar ms ps vars A.2).2):=by simp[db,Vl]
    rw[QK] at Vy;simp;apply aY;simp[hC];refine TL.bS af [0,1,3] 4 (tj L hL vars hv gs ms hm UQ Oh nf left ar A.2 OL nm ps hp bc bn) Oc rfl rfl rfl rfl N3 rfl (by first | rfl | simp[aA,ints,bu]) rfl (TL.go' af ?_);simp[hC,kO,aS,O8,hb];apply aY;simp[hC,wi];refine⟨PT.length-(k+1),by omega,aa.le (Le.trim [10,9,6,5,0,3] [0,1,3,4,5,8] 9 (by simp[aA,bu,-List.all_eq_true,hl8]) yA) ?_⟩;simp;refine aa.le (Le.nz [] [8]) ?_;simp[hnz];refine aa.le (Le.oJ 8 6 rfl rfl yA N3 (by simp ) (by simp[aA,ints,bu,-List.all_eq_true,Om])) ?_;simp[aA,ints,bu,Qi];refine aa.trim [10,9,6,5,0,3] [0,1,3,4,5,6] 7 (by simp[-List.all_eq_true,hl6]) yA ⟨k+1,rfl,Ot,?_⟩;simp only[Vy];simp[gz,bu,aA,ints,oR,kO,bM,eS,hX]
   | false=>
    have QK:db L ar ms ps vars [p] A.2=([.exp (dj L ar vars A.2).1],(dj L ar vars A.2).2):=by simp[db,Vl]
    rw[QK] at Vy;simp;apply aY;simp[hC];refine TL.bS af [0,1,3] 4 (mV L hL vars hv gs ms nf left ar A.2 OL) Oc rfl rfl rfl rfl N3 rfl (by first | rfl | simp[aA,ints,bu]) rfl (TL.go' af ?_);simp[hC,bK,aS,O8,hb];apply aY;simp[hC,wi];refine⟨PT.length-(k+1),by omega,aa.le (Le.trim [10,9,6,5,0,3] [0,1,3,4,5,8] 9 (by simp[aA,bu,-List.all_eq_true,hl8,iM]) yA) ?_⟩;simp;refine aa.le (Le.nz [] [8]) ?_;simp[hnz];refine aa.le (Le.oJ 8 6 rfl rfl yA N3 (by simp ) (by simp[aA,ints,bu,-List.all_eq_true,Om,yu])) ?_;simp[aA,ints,bu,Qi];refine aa.trim [10,9,6,5,0,3] [0,1,3,4,5,6] 7 (by simp[-List.all_eq_true,hl6,iM]) yA ⟨k+1,rfl,Ot,?_⟩;simp only[Vy];simp[gz,bu,aA,ints,oR,kQ,eS,hX]
  ·have Ot:k=PT.length:=by
    have:¬ k<PT.length:=by simpa using h
    omega
   subst Ot;rw[List.take_length] at hA;rw[hA];apply T.exit;simp;apply ai;simp[hC];apply T.ret;refine aa.le (Le.trim [8] [0,1,3,6] 7 (by simp[aA,bu,-List.all_eq_true,hl6]) yA) ?_;simp;refine aa.le (Le.cV (o:=6) rfl OH) ?_;have Yo:X.take (PT.length*7)=X:=List.take_of_length_le yA;simp[Yo];refine aa.trim [8] [0,1,3] 4 (by simp[aA,bu]) yA ⟨_,?_,rfl,?_,rfl⟩
   ·simp[hX]
   ·simp[bu]
end Go.Proofs.YtlkmbdfhdknlgaaGreatDoor
