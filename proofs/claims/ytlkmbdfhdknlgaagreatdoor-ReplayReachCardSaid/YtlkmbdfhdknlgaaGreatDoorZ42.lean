/- Made certificates: cited. -/
import Derived.Test.YtlkmbdfhdknlgaaGreatDoorZ41
namespace Go.Proofs.YtlkmbdfhdknlgaaGreatDoor
open Go.Can Go.aN
def CG (l:List Ru)(inst:Int)(Xf:Nat):Nat→Nat→Int
 | 0,_=>-1
 | n+1,i=>match l[(Xf+i) % l.length]? with
  | some q=>if q.inst=inst∧q.ct=false then ((Xf+i) % l.length:Nat) else CG l inst Xf n (i+1)
  | none=>-1
def Fp (L:List Int)(l:List Ru)(inst:Int)(i:Nat):Int×Nat:=(CG l inst (bN L i (l.length+1)).1 l.length 0,(bN L i (l.length+1)).2)
def cw (l:List Ru):Ob:=⟨55,3,l.flatMap cj⟩
@[simp] theorem Ji (l:List Ru)(n:Nat):(cw l).cells.all (ba n)=true:=ah (cQ l) n
@[simp] theorem rlOb_lts (l:List Ru)(n:Nat):a6 n (cw l).cells=true:=by rw[ch];exact ah (cQ l) n
@[simp] theorem rlOb_all (l:List Ru)(n:Nat):∀ x∈(cw l).cells,ba n x=true:=List.all_eq_true.1 (Ji l n)
@[simp] theorem rlOb_frz (l:List Ru)(o:Nat)(cs:List CV)(n:Nat):(cw l).cells.map (bQ o cs n)=(cw l).cells:=dk (cQ l) o cs n
@[simp] theorem rlOb_eta (l:List Ru):(⟨(cw l).elem,(cw l).sz,(cw l).cells⟩:Ob)=cw l:=rfl
def J210 (L:List Int)(l:List Ru)(inst:Int)(Xf i2:Nat)(m:Nat)(s:St):Prop:=∃ i:Nat,m=l.length-i∧i≤l.length∧CG l inst Xf l.length 0=CG l inst Xf (l.length-i) i∧s=⟨[(8,I i),(7,I Xf),(1,.bp 1 0 l.length),(2,I inst)],[(0,aA L i2),(1,cw l)],2⟩
set_option maxHeartbeats 1000000 in
theorem Il (L:List Int)(i0:Nat)(hi:i0≤L.length)(hL:L.length≤1000)(l:List Ru)(hl:l.length≤1000)(inst:Int) :
  Body Tryz.prog av 53 [.aq 0 0,.bp 1 0 l.length,I inst] [(0,aA L i0),(1,cw l)] 2 (jA (I (Fp L l inst i0).1) [(0,aA L (Fp L l inst i0).2),(1,cw l)] 2):=by
 have Rj:=cQ l;have wn:=cf ((l.length:Int)+1) yA yA;have OV:=cH L i0 (show 0<l.length+1 by omega);refine Body.iV Tryz.func53 rfl N4 (by simp[Tryz.ntmps53]) fun C hC N8=>?_;rw[Tryz.ntmps53] at hC;have hs:(cw l).sz=3:=rfl;have OJ:(cw l).cells=l.flatMap cj:=rfl;have Ou:(cw l).elem=55:=rfl;apply ai;simp[hC];apply ai;simp[hC,wn];refine TL.bS af [0] 1 (bF L i0 (l.length+1) hi hL yA yA) Oc rfl rfl rfl rfl N3 OP OO rfl (TL.go' af ?_);simp[hC];obtain⟨k,hk⟩:∃ k,bN L i0 (l.length+1)=k:=⟨_,rfl⟩;have W6:Fp L l inst i0=(CG l inst k.1 l.length 0,k.2):=by rw[Fp,hk]
 rw[W6];rw[hk] at OV ⊢;apply aL;simp[hC];apply T.block;refine T.aI (J210 L l inst k.1 k.2) (n:=l.length) ?_ ?_
 ·refine aa.trim [8,7,1,2] [0,1] 2 X2 yA ⟨0,by omega,by omega,by simp,?_⟩;simp
 ·rintro m s ⟨i,rfl,N6,hD,rfl⟩;by_cases Oa:i<l.length
  ·obtain⟨q,hq⟩:∃ q,l[(k.1+i) % l.length]? = some q:=⟨_,List.getElem?_eq_getElem (Nat.mod_lt _ yA)⟩;have P6:=(List.getElem?_eq_some_iff.1 hq).1;have RB:=aD (f:=cj) (n:=3) cI hq;have Rh:=a8 (f:=cj) (n:=3) cI hq 1 yA;have wa:=cf ((k.1:Int)+i) yA yA;have wi:=cf ((i:Int)+1) yA yA;have Ok:l≠[]:=fun h=>by simp[h] at Oa
   have hmod:Int.tmod ((k.1:Int)+i) l.length=(((k.1+i) % l.length:Nat):Int):=by rw[← Int.natCast_add];exact (Int.ofNat_tmod _ _)
   have wm:=cf (((k.1+i) % l.length:Nat):Int) yA yA;rw[show l.length-i=(l.length-(i+1))+1 by omega,CG,hq] at hD;simp only at hD;generalize (k.1+i) % l.length=r at *;apply aL;simp[hC,Oa];refine fh ?_;simp;apply eG;apply ai;simp[hC,wa,Ok,hmod];by_cases Rk:q.inst=inst
   ·cases SD:q.ct with
    | false=>
     rw[if_pos ⟨Rk,SD⟩] at hD;apply ai;simp[hC,OJ,P6,RB,Rh,cj,Rk,SD];refine cB ?_;simp;apply ai;simp[hC];apply T.ret;refine aa.trim [6] [0,1] 2 X2 yA ⟨_,rfl,?_⟩;simp[jA,hD]
    | true=>
     rw[if_neg (by simp[SD])] at hD;apply ai;simp[hC,OJ,P6,RB,Rh,cj,Rk,SD];refine dv ?_;simp;apply aY;simp[hC,wi];refine⟨l.length-(i+1),by omega,aa.trim [8,7,1,2] [0,1] 2 X2 yA ⟨i+1,rfl,by omega,hD,?_⟩⟩;simp
   ·have QD:(q.inst == inst)=false:=by rw[beq_eq_false_iff_ne];exact Rk
    rw[if_neg (by simp[Rk])] at hD;apply ai;simp[hC,OJ,P6,RB,cj,QD];refine dv ?_;simp;apply aY;simp[hC,wi];refine⟨l.length-(i+1),by omega,aa.trim [8,7,1,2] [0,1] 2 X2 yA ⟨i+1,rfl,by omega,hD,?_⟩⟩;simp
  ·have Oe:i=l.length:=by omega
   subst Oe;rw[Nat.sub_self,CG] at hD;apply aL;simp[hC];refine aX ?_;simp;apply T.exit;simp;apply ai;simp[hC];apply T.ret;refine aa.trim [6] [0,1] 2 X2 yA ⟨_,rfl,?_⟩;simp[jA,hD]
end Go.Proofs.YtlkmbdfhdknlgaaGreatDoor
