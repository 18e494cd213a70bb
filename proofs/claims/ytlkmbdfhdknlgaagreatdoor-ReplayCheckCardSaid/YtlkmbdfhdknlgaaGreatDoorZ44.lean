/- Made certificates: cited. -/
import Derived.Test.YtlkmbdfhdknlgaaGreatDoorZ43
namespace Go.Proofs.YtlkmbdfhdknlgaaGreatDoor
open Go.Can Go.aT
def JV (l:List Ru)(inst:Int)(RJ:Nat):Nat→Nat→Int
 | 0,_=>-1
 | n+1,i=>match l[(RJ+i) % l.length]? with
  | some q=>if q.inst=inst∧q.dU=false then ((RJ+i) % l.length:Nat) else JV l inst RJ n (i+1)
  | none=>-1
def JZ (L:List Int)(l:List Ru)(inst:Int)(i:Nat):Int×Nat:=(JV l inst (bO L i (l.length+1)).1 l.length 0,(bO L i (l.length+1)).2)
def ec (l:List Ru):Ob:=⟨55,3,l.flatMap cZ⟩
@[simp] theorem J4 (l:List Ru)(n:Nat):(ec l).cells.all (aZ n)=true:=aj (du l) n
@[simp] theorem rlOb_lts (l:List Ru)(n:Nat):aO n (ec l).cells=true:=by rw[bU];exact aj (du l) n
@[simp] theorem rlOb_all (l:List Ru)(n:Nat):∀ x∈(ec l).cells,aZ n x=true:=List.all_eq_true.1 (J4 l n)
@[simp] theorem rlOb_frz (l:List Ru)(o:Nat)(cs:List CV)(n:Nat):(ec l).cells.map (bZ o cs n)=(ec l).cells:=dv (du l) o cs n
@[simp] theorem rlOb_eta (l:List Ru):(⟨(ec l).elem,(ec l).sz,(ec l).cells⟩:Ob)=ec l:=rfl
def J210 (L:List Int)(l:List Ru)(inst:Int)(RJ i2:Nat)(m:Nat)(s:St):Prop:=∃ i:Nat,m=l.length-i∧i≤l.length∧JV l inst RJ l.length 0=JV l inst RJ (l.length-i) i∧s=⟨[(8,I i),(7,I RJ),(1,.bw 1 0 l.length),(2,I inst)],[(0,ax L i2),(1,ec l)],2⟩
set_option maxHeartbeats 1000000 in
theorem J2 (L:List Int)(i0:Nat)(hi:i0≤L.length)(hL:L.length≤1000)(l:List Ru)(hl:l.length≤1000)(inst:Int) :
  Body Tryz.prog ak 53 [.ai 0 0,.bw 1 0 l.length,I inst] [(0,ax L i0),(1,ec l)] 2 (jQ (I (JZ L l inst i0).1) [(0,ax L (JZ L l inst i0).2),(1,ec l)] 2):=by
 have KE:=du l;have wn:=cm ((l.length:Int)+1) yA yA;have KB:=cI L i0 (show 0<l.length+1 by omega);refine Body.je Tryz.func53 rfl lz (by simp[Tryz.ntmps53]) fun C hC xJ=>?_;rw[Tryz.ntmps53] at hC;have hs:(ec l).sz=3:=rfl;have Kr:(ec l).cells=l.flatMap cZ:=rfl;have Ki:(ec l).elem=55:=rfl;apply ah;simp[hC];apply ah;simp[hC,wn];refine TL.cd af [0] 1 (bX L i0 (l.length+1) hi hL yA yA) yI rfl rfl rfl rfl j5 Ku Kt rfl (TL.go' af ?_);simp[hC];obtain⟨k,hk⟩:∃ k,bO L i0 (l.length+1)=k:=⟨_,rfl⟩;have RC:JZ L l inst i0=(JV l inst k.1 l.length 0,k.2):=by rw[JZ,hk]
 rw[RC];rw[hk] at KB ⊢;apply aL;simp[hC];apply T.block;refine T.aI (J210 L l inst k.1 k.2) (n:=l.length) ?_ ?_
 ·refine aa.trim [8,7,1,2] [0,1] 2 (by simp[ax,ints,ec,-List.all_eq_true,-List.all_flatMap,aj KE]) yA ⟨0,by omega,by omega,by simp,?_⟩;simp
 ·rintro m s ⟨i,rfl,nr,hD,rfl⟩;by_cases yN:i<l.length
  ·obtain⟨q,hq⟩:∃ q,l[(k.1+i) % l.length]? = some q:=⟨_,List.getElem?_eq_getElem (Nat.mod_lt _ yA)⟩;have Nc:=(List.getElem?_eq_some_iff.1 hq).1;have M3:=az (f:=cZ) (n:=3) cj hq;have LP:=bb (f:=cZ) (n:=3) cj hq 1 yA;have wa:=cm ((k.1:Int)+i) yA yA;have wi:=cm ((i:Int)+1) yA yA;have F0:l≠[]:=fun h=>by simp[h] at yN
   have V1:Int.tmod ((k.1:Int)+i) l.length=(((k.1+i) % l.length:Nat):Int):=by rw[← Int.natCast_add];exact (Int.ofNat_tmod _ _)
   have wm:=cm (((k.1+i) % l.length:Nat):Int) yA yA;rw[show l.length-i=(l.length-(i+1))+1 by omega,JV,hq] at hD;simp only at hD;generalize (k.1+i) % l.length=r at *;apply aL;simp[hC,yN];refine gF ?_;simp;apply fw;apply ah;simp[hC,wa,F0,V1];by_cases Nd:q.inst=inst
   ·cases N1:q.dU with
    | false=>
     rw[if_pos ⟨Nd,N1⟩] at hD;apply ah;simp[hC,Kr,Nc,M3,LP,cZ,Nd,N1];refine cz ?_;simp;apply ah;simp[hC];apply T.ret;refine aa.trim [6] [0,1] 2 (by simp[ax,ints,ec,-List.all_eq_true,-List.all_flatMap,aj KE]) yA ⟨_,rfl,?_⟩;simp[jQ,hD]
    | true=>
     rw[if_neg (by simp[N1])] at hD;apply ah;simp[hC,Kr,Nc,M3,LP,cZ,Nd,N1];refine dg ?_;simp;apply a8;simp[hC,wi];refine⟨l.length-(i+1),by omega,aa.trim [8,7,1,2] [0,1] 2 (by simp[ax,ints,ec,-List.all_eq_true,-List.all_flatMap,aj KE]) yA ⟨i+1,rfl,by omega,hD,?_⟩⟩;simp
   ·have Nb:(q.inst == inst)=false:=by rw[beq_eq_false_iff_ne];exact Nd
    rw[if_neg (by simp[Nd])] at hD;apply ah;simp[hC,Kr,Nc,M3,cZ,Nb];refine dg ?_;simp;apply a8;simp[hC,wi];refine⟨l.length-(i+1),by omega,aa.trim [8,7,1,2] [0,1] 2 (by simp[ax,ints,ec,-List.all_eq_true,-List.all_flatMap,aj KE]) yA ⟨i+1,rfl,by omega,hD,?_⟩⟩;simp
  ·have CW:i=l.length:=by omega
   subst CW;rw[Nat.sub_self,JV] at hD;apply aL;simp[hC];refine aU ?_;simp;apply T.exit;simp;apply ah;simp[hC];apply T.ret;refine aa.trim [6] [0,1] 2 (by simp[ax,ints,ec,-List.all_eq_true,-List.all_flatMap,aj KE]) yA ⟨_,rfl,?_⟩;simp[jQ,hD]
end Go.Proofs.YtlkmbdfhdknlgaaGreatDoor
