/- Effects of the reference: the effects of the rules. -/
import Derived.Test.YtlkmbdfhdknlgaaGreatDoorZ37
namespace Go.Proofs.YtlkmbdfhdknlgaaGreatDoor
open Go.Can Go.aN
theorem tV {u:Un}{c:Cl}{l:List Ru}{k i:Nat}{ct:Bool}{x:Is}:∀ (t:List It) (ws:List Nat),lL u c l k i ct x t ws=true→∀ it∈t,∃ z,fV u x it.pc=some z∧0≤it.pc∧(au u x)[it.pc.toNat]? = some z∧(it.l8=-1∨0≤it.l8∧it.l8<k)
 | [],_,_,it,h=>by cases h
 | a::t,ws,h,it,hm=>by
  rw[lL] at h
  cases hz:fV u x a.pc with
  | none=>rw[hz] at h;cases h
  | some z=>
   rw[hz] at h;simp only[Bool.and_eq_true] at h;rcases List.mem_cons.1 hm with rfl | hm
   ·have O0:=hz;unfold fV at O0;split at O0
    ·cases O0
    ·refine⟨z,hz,by omega,O0,?_⟩;have hc:=h.1.2;unfold dH at hc;split at hc
     ·split at hc
      ·cases hc
      ·right;omega
     ·left;simpa using hc
   ·exact tV t _ h.2 it hm
theorem od {u:Un}{c:Cl}{l:List Ru}{k:Nat}{r:Ru}(h:dm u c l k r=true):∃ (ii:Nat) (x:Is),r.inst=ii∧c.is[ii]? = some x∧Fc c r.inst=x∧lL u c l k ii r.ct x r.items [0]=true:=by
 unfold dm at h;split at h
 ·cases h
 ·rename_i h0;split at h
  ·cases h
  ·rename_i x hx;simp only[Bool.and_eq_true] at h;exact⟨r.inst.toNat,x,by omega,hx,by simp[Fc,List.getD_eq_getElem?_getD,hx],h.2⟩
theorem j3 (u:Un)(x:Is)(m:Nat)(P2:List Et)(e:Et):lg u x m P2 [] e=e:=rfl
theorem jH (u:Un)(x:Is)(m:Nat)(P2:List Et)(it:It)(t:List It)(e:Et):lg u x m P2 (it::t) e=lg u x m P2 t (gk e (je u x m P2 it)):=rfl
theorem fv (l:List Et):trees (l.flatMap eE)=true:=aO (fun _=>rfl) l
theorem nS (l:List Et):tree (lS l)=true:=by simp only[lS,tree]
theorem jD (x:Ce):trees (qL x)=true:=by simp only[qL,trees,nR];rfl
def gW (l:List Et):Ob:=⟨47,3,l.flatMap eE⟩
def er (u:Un)(x:Ce):List Et×Nat×Int:=if x.lock<0∨(u.ms.length:Int)≤x.lock then ([],0,6) else eA u (ak u) x.rules x.lock.toNat x.rules []
def MY (x:Ce):Prop:=x.rules.length≤1000∧∀ r∈x.rules,r.items.length≤1000
def JV (u:Un)(x:Ce):List (Nat×Ob):=(2,⟨39,0,qL x⟩)::eY u
def J203 (u:Un)(x:Ce)(m n:Nat)(s:St):Prop:=∃ (i:Nat) (out:List Et),n=x.rules.length-i∧i≤x.rules.length∧out.length=i∧eA u (ak u) x.rules m x.rules []=eA u (ak u) x.rules m (x.rules.drop i) out∧
 s=⟨[(10,I i),(9,.bp 3 0 i),(5,.aq 2 0),(4,.aq 1 0),(3,.aq 0 0)],(3,gW out)::JV u x,4⟩
def J204 (u:Un)(x:Ce)(m i:Nat)(out:List Et)(r:Ru)(y:Is)(n:Nat)(s:St):Prop:=∃ (j:Nat) (e:Et),n=r.items.length-j∧j≤r.items.length∧lg u y m out r.items ⟨0,0,0⟩=lg u y m out (r.items.drop j) e∧
 s=⟨[(13,I j),(12,.aq 5 0),(11,.aq 4 0),(10,I i),(9,.bp 3 0 i),(5,.aq 2 0),(4,.aq 1 0),(3,.aq 0 0)],(5,⟨55,0,cj r⟩)::(4,⟨47,0,eE e⟩)::(3,gW out)::JV u x,6⟩
set_option maxRecDepth 100000 in
set_option maxHeartbeats 4000000 in
theorem zT {u:Un}(hu:im u)(x:Ce)(hb:MY x):ae Tryz.prog 9 [cK u,eP (ak u),pX x] (.dI [lS (er u x).1,I (er u x).2.1,I (er u x).2.2]):=by
 have Oj:=aP u;have Ox:=bL (ak u);have Rj:=cQ x.rules;obtain⟨Pq,O2⟩:=hb;refine ae.aH af Tryz.func9 rfl N4 (by simp[Tryz.ntmps9]) (by simp only[tree,trees,nS,Bool.true_and]) fun C hC N8=>?_;rw[Tryz.ntmps9] at hC;simp only[bX,cD,ints] at Oj Ox;simp only[cK,eP,bX,cD,ints,pX,qL,df];apply ai;simp[hC];by_cases h0:x.lock<0
 ·have hv:er u x=([],0,6):=by simp[er,h0]
  apply aL;simp[hC,h0];refine cB ?_;simp;apply ai;simp[hC];apply T.ret;simp;refine aa.le (Le.nz [6] []) ?_;apply aa.here;simp[Tryz.results9,hv,lS]
 obtain⟨m,hm⟩:∃ m:Nat,x.lock=m:=⟨x.lock.toNat,by omega⟩;have Ty:¬ (m:Int)<0:=by omega
 by_cases h1:m<u.ms.length
 case neg=>
  have h2:(u.ms.length:Int)≤m:=by omega
  have hv:er u x=([],0,6):=by simp[er,hm,h2]
  apply aL;simp[hC,hm,Ty,h2];refine cB ?_;simp;apply ai;simp[hC];apply T.ret;simp;refine aa.le (Le.nz [6] []) ?_;apply aa.here;simp[Tryz.results9,hv,lS]
 have h2:¬ (u.ms.length:Int)≤m:=by omega
 have hv:er u x=eA u (ak u) x.rules m x.rules []:=by rw[er,if_neg yA,hm,Int.toNat_natCast]
 apply aL;simp[hC,hm,Ty,h2];refine dv ?_;simp;apply ai;simp[hC];apply aL;simp[hC];apply T.block;refine T.aI (J203 u x m) (n:=x.rules.length) ?_ ?_
 ·refine aa.le (Le.own 9 47 3 rfl) ?_;simp[St.own];refine aa.trim [10,9,5,4,3] [3,2,1,0] 4 Xn yA ⟨0,[],by omega,by omega,rfl,by simp,?_⟩;simp[JV,eY,bX,cD,ints,qL,df,gW,hm]
 ·rintro n s ⟨i,out,rfl,Oo,Si,hD,rfl⟩;simp only[JV,eY,bX,cD,ints,qL,df,hm];by_cases N6:i<x.rules.length
  ·obtain⟨r,hr⟩:∃ r,x.rules[i]? = some r:=⟨_,List.getElem?_eq_getElem N6⟩;have Tn:=O2 r (List.mem_of_getElem? hr);have N7:=aD (f:=cj) (n:=3) cI hr;have wi:=cf ((i:Int)+1) yA yA;have YM:=EE hu x.rules i r hr Pq Tn;have X6:trees [cK u,eP (ak u),df x.rules,I (i:Int)]=true:=by simp only[trees,tree,cK,eP,aP,bL,nR,Bool.and_self]
   rw[xD hr,eA,Si] at hD;simp only[cK,eP,bX,cD,ints,df] at YM X6;apply aL;simp[hC,N6];refine fh ?_;simp;apply eG;apply aL;simp[hC];refine dc X6 YM ?_
   cases Vf:dm u (ak u) x.rules i r with
   | false=>
    rw[Vf,if_neg N3] at hD;rw[hD] at hv;simp[hC];refine cB ?_;simp;apply ai;simp[hC];apply T.ret;refine aa.le (Le.trim [6,7,8] [] 0 N3 yA) ?_;simp;refine aa.le (Le.nz [6] []) ?_;apply aa.here;simp[hv,lS]
   | true=>
    rw[Vf,if_pos rfl] at hD;obtain⟨ii,y,O4,hy,Yl,QQ⟩:=od Vf;have Sw:=kH hu hy;have Sv:=(List.getElem?_eq_some_iff.1 hy).1;have Qz:=aD (f:=cC) (n:=2) dM hy;have ON:=tV _ _ QQ;have WZ:te u (ak u) m out r=lg u y m out r.items ⟨0,0,0⟩:=by rw[te,Yl]
    rw[WZ] at hD;simp[hC];refine dv ?_;simp;apply T.seq;have rU:=fun ρ=>ay ρ _ Oj;have rC:=fun ρ=>ay ρ _ Ox;have rT:=fun ρ=>ay ρ _ (fv out);have X8:=aE (ak u).roots;refine T.rx af follows [0,1,2,3,4,5,6,7,8,9] [(2,6),(2,7),(2,8),(5,6),(5,7),(5,8),(6,7)] N4 ?_;simp[hC,N6,N7,cj,di,O4];apply aL;simp[hC];apply T.block;refine T.aI (J204 u x m i out r y) (n:=r.items.length) ?_ ?_
    ·refine aa.le (Le.norm [13,12,11,10,9,5,4,3] [(11,5),(10,4),(3,3),(2,2),(1,1),(0,0)] 0 6 Pn Pk (by simp[cX,qx,ox,tree,assoc,-List.all_eq_true,-List.all_flatMap,gW,aC Oj,aC Ox,aC (fv out)]) yA) ?_;simp[cT,cc,bV,dT,fc,assoc,gW,rT,fy];refine aa.here ⟨0,⟨0,0,0⟩,by omega,by omega,by simp,?_⟩;simp[JV,eY,bX,cD,ints,qL,df,hm,cj,di,O4,gW,eE]
    ·rintro n s ⟨j,e,rfl,hjn,hE,rfl⟩;simp only[JV,eY,bX,cD,ints,qL,df,hm,cj,di,O4];by_cases OD:j<r.items.length
     ·obtain⟨it,Oq⟩:∃ it,r.items[j]? = some it:=⟨_,List.getElem?_eq_getElem OD⟩;have Sl:=aD (f:=eX) (n:=2) dq Oq;have W1:=a8 (f:=eX) (n:=2) dq Oq 1 yA;have wj:=cf ((j:Int)+1) yA yA;obtain⟨z,VH,R0,hz,O5⟩:=ON it (List.mem_of_getElem? Oq);obtain⟨p,rl⟩:=it;obtain⟨pn,rfl⟩:∃ pn:Nat,p=pn:=⟨p.toNat,by simp only at R0;omega⟩;simp only[Int.toNat_natCast] at hz VH O5;rw[xD Oq,jH] at hE;have TE:=eK hu y;have Ra:=(List.getElem?_eq_some_iff.1 hz).1;apply aL;simp[hC,OD];refine fh ?_;simp;apply eG;rcases O5 with O5 | O5
      ·subst O5;have PY:je u y m out ⟨pn,-1⟩=xg (dw y m z):=by simp[je,VH]
       rw[PY] at hE;have Rp:=uJ hu Sw hz m;have ti:=bD y;have Tj:trees [cK u,.agg (cC y),I (pn:Int),I (m:Int)]=true:=by simp only[trees,tree,cK,aP,ti,Bool.and_self]
       have SE:=rof_e (dw y m z);have RW:=zM e (xg (dw y m z));simp only[cK,bX,cC,ints] at Rp Tj;apply ai;simp[hC,OD,W1,eX];refine aX ?_;simp;refine T.rx af follows [0,1,2,3,4,5,6,7,8,9,10,11,12,13,14,15,16,17,18,19] [(0,16),(0,17)] N4 ?_;simp[hC,OD,Sl,eX,Qz,cC,Sv,eE];refine RX.call rfl N3 rfl rfl rfl Tj Rp ?_;simp;refine RX.call rfl N3 rfl rfl rfl rfl SE ?_;simp;refine RX.call rfl N3 rfl rfl rfl rfl RW ?_;simp[eE];apply aY;simp[hC,wj];refine⟨r.items.length-(j+1),by omega,aa.trim [13,12,11,10,9,5,4,3] [5,4,3,2,1,0] 6 (by simp[gW,-List.all_eq_true,-List.all_flatMap,ah Oj,ah Ox,ah (fv _)]) yA ⟨j+1,gk e (xg (dw y m z)),rfl,by omega,hE,?_⟩⟩;simp[JV,eY,bX,cD,ints,qL,df,hm,cj,di,O4,gW,eE]
      ·obtain⟨rn,rfl⟩:∃ rn:Nat,rl=rn:=⟨rl.toNat,by omega⟩;obtain⟨e2,Zv⟩:∃ e2,out[rn]? = some e2:=⟨_,List.getElem?_eq_getElem yA⟩;have PY:je u y m out ⟨pn,rn⟩=e2:=by
        have:¬ (rn:Int)=-1:=by omega
        simp[je,this,List.getD_eq_getElem?_getD,Zv]
       rw[PY] at hE;have Zx:=aD (f:=eE) (n:=3) gX Zv;have Qi:rn<i:=by omega
       have RW:=zM e e2;have Rt:(0:Int)≤rn:=by omega
       apply ai;simp[hC,OD,W1,eX];refine cB ?_;simp;refine T.rx af follows [0,1,2,3,4,5,6,7,8,9,10,11] [] N4 ?_;simp[hC,OD,W1,eX,Qi,gW,Zx,eE];refine RX.call rfl N3 rfl rfl rfl rfl RW ?_;simp[eE];apply aY;simp[hC,wj];refine⟨r.items.length-(j+1),by omega,aa.trim [13,12,11,10,9,5,4,3] [5,4,3,2,1,0] 6 (by simp[-List.all_eq_true,-List.all_flatMap,ah Oj,ah Ox,ah (fv _)]) yA ⟨j+1,gk e (e2),rfl,by omega,hE,?_⟩⟩;simp[JV,eY,bX,cD,ints,qL,df,hm,cj,di,O4,gW,eE]
     ·have QG:j=r.items.length:=by omega
      subst QG;rw[List.drop_length] at hE;rw[j3] at hE;apply aL;simp[hC];refine aX ?_;simp;apply T.exit;simp;have Ou:(gW out).cells.length=out.length*3:=aM (f:=eE) (n:=3) gX out;have RI:(i+1)*24≤140737488355328:=by omega
      apply aY;simp[hC,aS,Ou,Si,RI,eE,show (gW out).sz=3 from rfl,show (gW out).elem=47 from rfl];have P3:trees ((gW out).cells++[I e.lo,I e.hi,I e.fo])=true:=by rw[aZ,show trees (gW out).cells=true from fv out];rfl
      have rN:=fun ρ=>ay ρ _ P3;apply aY;simp[hC,wi];refine⟨x.rules.length-(i+1),by omega,?_⟩;refine aa.le (Le.norm [10,9,5,4,3] [(7,3),(2,2),(1,1),(0,0)] 0 4 Pn Pk (by simp[cX,qx,ox,tree,assoc,-List.all_eq_true,-List.all_flatMap,aC Oj,aC Ox,aC P3]) yA) ?_;simp[cT,cc,bV,dT,fc,assoc,rN,fy];rw[hE] at hD;refine aa.here ⟨i+1,out++[e],rfl,by omega,by simp[Si],hD,?_⟩;simp[JV,eY,bX,cD,ints,qL,df,hm,gW,eE]
  ·have Oe:i=x.rules.length:=by omega
   subst Oe;rw[List.drop_length,eA] at hD;rw[hD] at hv;have Qq:=fv out;apply aL;simp[hC];refine aX ?_;simp;apply T.exit;simp;apply ai;simp[hC];apply T.ret;have On:List.take (x.rules.length*3) (out.flatMap eE)=out.flatMap eE:=List.take_of_length_le (by rw[aM gX,Si];omega);refine aa.le (Le.trim [6,7,8] [3] 4 (by simp[gW,-List.all_eq_true,ah (fv out)]) yA) ?_;simp;refine aa.le (Le.cV (o:=3) rfl Qq) ?_;apply aa.here;simp[hv,lS,gW,bQ,Si,On]
end Go.Proofs.YtlkmbdfhdknlgaaGreatDoor
