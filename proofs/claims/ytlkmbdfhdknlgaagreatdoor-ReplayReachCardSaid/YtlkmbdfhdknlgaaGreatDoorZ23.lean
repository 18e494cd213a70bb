/- lockordermade.Program. -/
import Derived.Test.YtlkmbdfhdknlgaaGreatDoorZ21
import Derived.Test.YtlkmbdfhdknlgaaGreatDoorZ22
namespace Go.Proofs.YtlkmbdfhdknlgaaGreatDoor
open Go.Can Go.aN
def fX (l:List Mx):Ob:=⟨89,3,l.flatMap eM⟩
def gN (l:List Gl):Ob:=⟨105,2,l.flatMap o0⟩
def lY:List CV:=[.aj,.aj,.aj]
def dF (ng nm nf left:Nat)(ar:Bool):Ob:=⟨102,0,[.aq 0 0,.bp 5 0 ng,.bp 4 0 nm,.bp 2 0 nf,I left,.bool ar]⟩
def J34 (L:List Int)(ar:Bool)(MS:List Mx×Nat)(N:Nat)(m:Nat)(s:St):Prop:=∃ (out:List Mx) (i:Nat),MS=(out++(qY L m out.length i).1,(qY L m out.length i).2)∧m+out.length=N∧i≤L.length∧
 s=⟨[(4,I out.length),(5,I N),(3,.aq 1 0),(2,.aq 19 0)],[(0,aA L i),(1,dF 0 out.length 0 24 ar),(2,⟨109,3,[]⟩),(4,fX out),(5,⟨105,2,[]⟩),(19,⟨27,0,lY⟩)],20⟩
def J34b (L:List Int)(ar:Bool)(ms:List Mx)(MS:List Gl×Nat)(N:Nat)(m:Nat)(s:St):Prop:=∃ (out:List Gl) (i:Nat),MS=(out++(v9 L m out.length i).1,(v9 L m out.length i).2)∧m+out.length=N∧i≤L.length∧
 s=⟨[(8,I out.length),(9,I N),(7,.bp 6 0 out.length),(3,.aq 1 0),(2,.aq 19 0)],[(0,aA L i),(1,dF out.length ms.length 0 24 ar),(2,⟨109,3,[]⟩),(4,fX ms),(5,gN out),(6,bf (out.map (·.name))),(19,⟨27,0,lY⟩)],20⟩
def J34c (L:List Int)(ar:Bool)(ms:List Mx)(gs:List Gl)(MS:List Fu×Nat)(N:Nat)(m:Nat)(s:St):Prop:=∃ (out:List Fu) (i:Nat),MS=(out++(vf L m out.length i).1,(vf L m out.length i).2)∧m+out.length=N+1∧i≤L.length∧
 s=⟨[(12,I out.length),(11,I N),(7,.bp 6 0 gs.length),(3,.aq 1 0),(2,.aq 19 0)],[(0,aA L i),(1,dF gs.length ms.length out.length 24 ar),(2,cR out),(4,fX ms),(5,gN gs),(6,bf (gs.map (·.name))),(19,⟨27,0,lY⟩)],20⟩
theorem oD (c:Nat)(hc:c≤10)(k:Int)(m:Nat)(hm:k=m)(Ry:m≤100):IntKind.i64.wrap (k+c)=k+c∧IntKind.u8.wrap (k+c)=k+c∧(0≤k+c∧k+c<256)∧(k+c).toNat=m+c:=by
 refine⟨cf _ yA yA,IntWalk.u8_in _ yA,by omega,by omega⟩
theorem aO {α:Type}{f:α→List CV}(hf:∀ x,trees (f x)=true)(l:List α):trees (l.flatMap f)=true:=by
 induction l with
 | nil=>rfl
 | cons a r ih=>rw[List.flatMap_cons,aZ,hf,ih];rfl
mutual
theorem AF (o:Nat)(ds:List CV)(n:Nat):∀ c:CV,tree c=true→bQ o ds n c=c
 | .bp _ _ _,h=>by simp[tree] at h
 | .aq _ _,h=>by simp[tree] at h
 | .iter _ _ _,h=>by simp[tree] at h
 | .mp _ _,h=>by simp[tree] at h
 | .agg cs,h=>by
  simp only[tree] at h;rw[bQ,lN o ds n cs h]
 | .fn _ cs,h=>by
  simp only[tree] at h;rw[bQ,lN o ds n cs h]
 | .iface _ cs,h=>by
  simp only[tree] at h;rw[bQ,lN o ds n cs h]
 | .dI cs,h=>by
  simp only[tree] at h;rw[bQ,lN o ds n cs h]
 | .int _ _,_=>rfl
 | .bool _,_=>rfl
 | .str _,_=>rfl
 | .az _ _,_=>rfl
 | .aj,_=>rfl
 | .cF _,_=>rfl
 | .bw,_=>rfl
 | .cr,_=>rfl
 | .any,_=>rfl
theorem lN (o:Nat)(ds:List CV)(n:Nat):∀ cs:List CV,trees cs=true→ik o ds n cs=cs
 | [],_=>rfl
 | c::cs,h=>by
  simp only[trees,Bool.and_eq_true] at h;rw[ik,AF o ds n c h.1,lN o ds n cs h.2]
end
theorem dk {cs:List CV}(h:trees cs=true)(o:Nat)(ds:List CV)(n:Nat):cs.map (bQ o ds n)=cs:=by
 rw[List.map_congr_left (g:=id) fun c hc=>AF o ds n c (lB h c hc),List.map_id]
theorem gj (l:List Mx):trees (l.flatMap eM)=true:=aO (fun _=>rfl) l
theorem iR (l:List Gl):trees (l.flatMap o0)=true:=aO (fun _=>rfl) l
@[simp] theorem mxOb_lt (l:List Mx)(n:Nat):(fX l).cells.all (ba n)=true:=ah (gj l) n
@[simp] theorem mxOb_lts (l:List Mx)(n:Nat):a6 n (fX l).cells=true:=by rw[ch];exact ah (gj l) n
@[simp] theorem mxOb_ok1 (l:List Mx)(o q:Nat):(fX l).cells.all (kU o q)=true:=bh (gj l) o q
@[simp] theorem NK (l:List Mx)(o q:Nat):(fX l).cells.map (dg o q)=(fX l).cells:=a7 (gj l) o q
@[simp] theorem mxOb_frz (l:List Mx)(o:Nat)(cs:List CV)(n:Nat):(⟨(fX l).elem,(fX l).sz,(fX l).cells.map (bQ o cs n)⟩:Ob)=fX l:=by rw[dk (cs:=(fX l).cells) (gj l)]
@[simp] theorem glOb_frz (l:List Gl)(o:Nat)(cs:List CV)(n:Nat):(⟨(gN l).elem,(gN l).sz,(gN l).cells.map (bQ o cs n)⟩:Ob)=gN l:=by rw[dk (cs:=(gN l).cells) (iR l)]
@[simp] theorem mxOb_eta (l:List Mx):(⟨(fX l).elem,(fX l).sz,(fX l).cells⟩:Ob)=fX l:=rfl
@[simp] theorem glOb_lt (l:List Gl)(n:Nat):(gN l).cells.all (ba n)=true:=ah (iR l) n
@[simp] theorem glOb_lts (l:List Gl)(n:Nat):a6 n (gN l).cells=true:=by rw[ch];exact ah (iR l) n
@[simp] theorem glOb_ok1 (l:List Gl)(o q:Nat):(gN l).cells.all (kU o q)=true:=bh (iR l) o q
@[simp] theorem NQ (l:List Gl)(o q:Nat):(gN l).cells.map (dg o q)=(gN l).cells:=a7 (iR l) o q
@[simp] theorem glOb_eta (l:List Gl):(⟨(gN l).elem,(gN l).sz,(gN l).cells⟩:Ob)=gN l:=rfl
def mM (l:List Pm):Ob:=⟨111,2,l.flatMap kT⟩
theorem mW (l:List Pm):trees (l.flatMap kT)=true:=aO (fun _=>rfl) l
@[simp] theorem pmOb_lt (l:List Pm)(n:Nat):(mM l).cells.all (ba n)=true:=ah (mW l) n
@[simp] theorem pmOb_lts (l:List Pm)(n:Nat):a6 n (mM l).cells=true:=by rw[ch];exact ah (mW l) n
@[simp] theorem pmOb_ok1 (l:List Pm)(o q:Nat):(mM l).cells.all (kU o q)=true:=bh (mW l) o q
@[simp] theorem Nl (l:List Pm)(o q:Nat):(mM l).cells.map (dg o q)=(mM l).cells:=a7 (mW l) o q
@[simp] theorem pmOb_eta (l:List Pm):(⟨(mM l).elem,(mM l).sz,(mM l).cells⟩:Ob)=mM l:=rfl
def J34d (L:List Int)(ar:Bool)(ms:List Mx)(gs:List Gl)(out:List Fu)(j N:Nat)(Xz:ByteArray)(PM:List Pm×Nat)(n:Nat)(s:St):Prop:=∃ (m:Nat) (po:List Pm) (i:Nat),PM=(po++(De L n i).1,(De L n i).2)∧n=(if j=0 then 0 else m)∧m+po.length≤2∧i≤L.length∧
 s=⟨[(14,I m),(13,.aq 21 0),(12,I j),(11,I N),(7,.bp 6 0 gs.length),(3,.aq 1 0),(2,.aq 19 0)],[(0,aA L i),(1,dF gs.length ms.length j 24 ar),(2,cR out),(4,fX ms),(5,gN gs),(6,bf (gs.map (·.name))),(19,⟨27,0,lY⟩),(21,⟨109,0,[.str Xz,.bp 22 0 po.length,.aj]⟩),(22,mM po)],23⟩
def J34e (L:List Int)(ar:Bool)(ms:List Mx)(gs:List Gl)(fs0:List Fu)(N:Nat)(RF:List Fu)(n:Nat)(s:St):Prop:=∃ (j:Nat) (fl:List Fu) (i left:Nat),RF=Kk ⟨L,ar,ms,fs0.map fun f=>(f.name,f.params)⟩ gs n j fl i left∧n+j=N∧fl.length=N∧fl.map sg=fs0.map sg∧(∀ f∈fl,f.params.length≤2)∧left≤24∧i≤L.length∧
 s=⟨[(16,I j),(7,.bp 6 0 gs.length),(3,.aq 1 0),(2,.aq 19 0)],[(0,aA L i),(1,bu gs ms fl.length left ar),(2,cR fl),(6,bf (gs.map (·.name))),(19,⟨27,0,lY⟩)],20⟩
theorem Dg (l:List Pm):(l.flatMap fun p=>if p.mutex=true then [] else [p.name]).length≤l.length:=by
 induction l with
 | nil=>exact Nat.le_refl _
 | cons x r ih=>
  rw[List.flatMap_cons,List.length_append,List.length_cons];split
  ·simp only[List.length_nil];omega
  ·simp only[List.length_cons,List.length_nil];omega
theorem Mp {fl:List Fu}{j:Nat}{f:Fu}(h:fl[j]? = some f)(b:List Sm):gA (cR fl).cells (j*3+2) [.az (bx b) b.length]=(cR (fl.set j ⟨f.name,f.params,b⟩)).cells:=by
 induction fl generalizing j with
 | nil=>simp at h
 | cons a r ih=>
  cases j with
  | zero=>
   simp only[List.getElem?_cons_zero,Option.some.injEq] at h;subst h;simp[cR,eZ,gA]
  | succ j=>
   simp only[List.getElem?_cons_succ] at h;have e:=ih h;simp only[cR,gA,List.flatMap_cons,List.set_cons_succ] at e ⊢;rw[show (j+1)*3+2=(eZ a).length+(j*3+2) by simp[eZ];omega,List.take_append,List.take_of_length_le yA,Nat.add_sub_cancel_left,show (eZ a).length+(j*3+2)+[CV.az (bx b) b.length].length=(eZ a).length+(j*3+2+[CV.az (bx b) b.length].length) by omega,List.drop_append,List.drop_of_length_le yA,Nat.add_sub_cancel_left,List.nil_append,List.append_assoc,List.append_assoc,← List.append_assoc (List.take _ _),e]
def J34f (L:List Int)(ar:Bool)(ms:List Mx)(gs:List Gl)(fl:List Fu)(f:Fu)(i left j:Nat)(n:Nat)(s:St):Prop:=∃ q:Nat,n=f.params.length-q∧q≤f.params.length∧
 s=⟨[(18,I q),(17,.bp 21 0 (gs.map (·.name)++(f.params.take q).flatMap (fun p=>if p.mutex=true then [] else [p.name])).length),(16,I j),(7,.bp 6 0 gs.length),(3,.aq 1 0),(2,.aq 19 0)],[(0,aA L i),(1,bu gs ms fl.length left ar),(2,cR fl),(6,bf (gs.map (·.name))),(19,⟨27,0,lY⟩),(21,bf (gs.map (·.name)++(f.params.take q).flatMap (fun p=>if p.mutex=true then [] else [p.name])))],22⟩
set_option maxHeartbeats 8000000 in
theorem Cc (l:List Int)(hl:l.length≤9223372036854775807):ae Tryz.prog 18 [ints l] (xb (Dt l)):=by
 generalize hR:Dt l=R;refine ae.aH af Tryz.func18 rfl N4 (by simp[Tryz.ntmps18]) rfl fun C hC N8=>?_;rw[Tryz.ntmps18] at hC;apply ai;simp[hC];apply ai;simp[hC];refine dc Od (H7 l 400 hl) ?_;simp[hC];have hL:(l.take 400).length≤1000:=by simp;omega
 simp only[Dt] at hR;generalize l.take 400=L at hL hR;refine T.le (Le.up 20 N3) ?_;simp;refine T.le (Le.trim [3,2] [0,1,2] 20 N3 yA) ?_;simp;refine T.le (Le.oJ 0 19 rfl rfl yA N3 N3 (by simp[ints])) ?_;simp[ints];refine T.le (Le.oJ 1 0 rfl rfl yA N3 N3 N3) ?_;simp;refine T.le (Le.oJ 2 1 rfl rfl yA N3 N3 N3) ?_;simp;refine T.le (Le.oL 1 3 109 3 rfl rfl) ?_;simp;refine T.le (Le.oL 1 2 89 3 rfl rfl) ?_;simp;refine T.le (Le.oL 1 1 105 2 rfl rfl) ?_;simp;refine T.le (Le.oJ 20 2 rfl rfl yA N3 N3 N3) ?_;simp;refine T.le (Le.oJ 21 4 rfl rfl yA N3 N3 N3) ?_;simp;refine T.le (Le.oJ 22 5 rfl rfl yA N3 N3 N3) ?_;simp;refine T.le (Le.trim [3,2] [0,1,2,4,5,19] 20 N3 yA) ?_;simp;have es:(⟨69,0,[CV.az (L.map vL) L.length,.int .i64 0]⟩:Ob)=aA L 0:=rfl;rw[es];have RL:=aV L 3 (Nat.zero_le L.length);have Rl:=bF L 0 3 (Nat.zero_le _) hL yA yA;obtain⟨a,ha⟩:∃ a,bN L 0 3=a:=⟨_,rfl⟩;rw[ha] at RL Rl;simp only[ha] at hR;apply ai;simp[hC];refine TL.bS af [0] 1 (Rl) Oc rfl rfl rfl rfl N3 OP OO rfl (TL.go' af ?_);simp[hC];have OL:=aV L 4 RL;have PF:=bF L a.2 4 RL hL yA yA;have SF:=cH L a.2 (show 0<4 by omega);obtain⟨nm,Pp⟩:∃ nm,bN L a.2 4=nm:=⟨_,rfl⟩;rw[Pp] at OL PF SF;simp only[Pp] at hR;have w1:=cf (1+(nm.1:Int)) yA yA;refine T.cut (fun s=>s=⟨[(3,.aq 1 0),(2,.aq 19 0)],[(0,aA L (qY L (1+nm.1) 0 nm.2).2),(1,dF 0 (qY L (1+nm.1) 0 nm.2).1.length 0 24 (decide (a.1=1))),(2,⟨109,3,[]⟩),(4,fX (qY L (1+nm.1) 0 nm.2).1),(5,⟨105,2,[]⟩),(19,⟨27,0,lY⟩)],20⟩) ?_ ?_
 ·clear hR;apply ai;simp[hC];refine TL.bS af [0] 1 (PF) Oc rfl rfl rfl rfl N3 OP OO rfl (TL.go' af ?_);simp[hC,w1];apply T.block;generalize ZT:qY L (1+nm.1) 0 nm.2=MS;refine T.aI (J34 L (decide (a.1=1)) MS (1+nm.1)) (n:=1+nm.1) ?_ ?_
  ·refine aa.trim [4,5,3,2] [0,1,2,4,5,19] 20 Sf yA ⟨[],nm.2,by simp[ZT],by simp,OL,?_⟩;simp[dF,fX,lY]
  ·rintro n s ⟨out,i,hM,OY,hi,rfl⟩
   cases n with
   | zero=>
    have ho:out.length=1+nm.1:=by omega
    have Oa:¬ ((out.length:Int)<1+nm.1):=by omega
    apply aL;simp[hC,Oa];refine aX ?_;simp;apply T.exit;simp;refine aa.trim [3,2] [0,1,2,4,5,19] 20 U5 yA ?_;rw[hM];simp[qY]
   | succ n=>
    have ho:out.length≤3:=by omega
    obtain⟨c1,c2,c3,c4⟩:=oD out.length yA 97 97 rfl yA;have Oa:(out.length:Int)<1+nm.1:=by omega
    apply aL;simp[hC,Oa];refine fh ?_;simp;apply eG;refine T.seq (T.Bz af ?_);simp[hC,c1,c2,c3,c4];refine T.le (Le.trim [6,4,5,3,2] [0,1,2,4,5,19,21] 22 U5 yA) ?_;simp;have Rp:(⟨#[97+UInt8.ofNat out.length]⟩:ByteArray)=dY (97+out.length):=by simp[dY]
    rw[Rp];refine T.cut (fun s=>∃ (m:Mx) (i2:Nat),qY L (n+1) out.length i=(m::(qY L n (out.length+1) i2).1,(qY L n (out.length+1) i2).2)∧i2≤L.length∧
     s=⟨[(6,.aq 21 0),(4,I out.length),(5,I (1+nm.1)),(3,.aq 1 0),(2,.aq 19 0)],[(21,⟨89,0,eM m⟩),(0,aA L i2),(1,dF 0 out.length 0 24 (decide (a.1=1))),(2,⟨109,3,[]⟩),(4,fX out),(5,⟨105,2,[]⟩),(19,⟨27,0,lY⟩)],22⟩) ?_ ?_
    ·have OV:=bF L i 5 hi hL yA yA;have Pe:=aV L 5 hi;rw[qY];obtain⟨k,hk⟩:∃ k,bN L i 5=k:=⟨_,rfl⟩;simp only[hk] at OV Pe ⊢;apply ai;simp[hC,dF];refine TL.bS af [0] 1 (OV) Oc rfl rfl rfl rfl N3 OP OO rfl (TL.go' af ?_);simp;apply T.block;apply ai;simp[hC];refine T.bg rfl (fun h=>?_) (fun h=>?_)
     ·have h1:k.1=1:=by simpa using h
      apply aY;simp[hC];refine aa.trim [6,4,5,3,2] [21,0,1,2,4,5,19] 22 U3 yA ⟨⟨dY (97+out.length),true,0⟩,k.2,by rw[if_pos h1],Pe,?_⟩;simp[eM]
     have h1:¬ k.1=1:=by simpa using h
     apply ai;simp[hC];refine T.bg rfl (fun h=>?_) (fun h=>?_)
     ·have h2:k.1=2:=by simpa using h
      have XG:=bF L k.2 3 Pe hL yA yA;have Rg:=aV L 3 Pe;have R6:=cH L k.2 (show 0<3 by omega);obtain⟨q,hq⟩:∃ q,bN L k.2 3=q:=⟨_,rfl⟩;simp only[hq] at XG Rg R6 ⊢;have wq:=cf (1+(q.1:Int)) yA yA;apply aY;simp[hC];refine TL.bS af [0] 1 (XG) Oc rfl rfl rfl rfl N3 OP OO rfl (TL.go' af ?_);simp[hC,wq];refine aa.trim [6,4,5,3,2] [21,0,1,2,4,5,19] 22 U3 yA ⟨⟨dY (97+out.length),false,1+q.1⟩,q.2,by rw[if_neg h1,if_pos h2],Rg,?_⟩;simp[eM]
     ·have h2:¬ k.1=2:=by simpa using h
      apply T.skip;simp;refine aa.trim [6,4,5,3,2] [21,0,1,2,4,5,19] 22 U3 yA ⟨⟨dY (97+out.length),false,0⟩,k.2,by rw[if_neg h1,if_neg h2],Pe,?_⟩;simp[eM]
    rintro s ⟨m,i2,hm,Pe,rfl⟩;have hb:(out.length+1)*32≤140737488355328:=by omega
    have Qx:(fX out).cells.length=out.length*3:=aM (f:=eM) (n:=3) (fun _=>rfl) out;have Py:(fX out).sz=3:=rfl;have hme:(fX out).elem=89:=rfl;have wo:=cf ((out.length:Int)+1) yA yA;refine T.rx af follows [0,1,2,3,4,5,6,7,8,9,10,11,12] [(5,7)] N4 ?_;simp[hC,dF,eM,Qx,Py,hme,hb,aS];apply aY;simp[hC,wo];refine⟨n,by omega,?_⟩;refine aa.le (Le.trim [4,5,3,2] [0,1,2,5,19,35] 36 ZW yA) ?_;simp;refine aa.le (Le.oJ 35 4 rfl rfl yA N3 N3 yCp) ?_;simp[aA,ints];refine aa.trim [4,5,3,2] [0,1,2,4,5,19] 20 Xo yA ⟨out++[m],i2,?_,?_,Pe,?_⟩
    ·rw[hM,hm];simp
    ·simp;omega
    ·simp[aA,ints,dF,fX,eM,lY,dg]
 ·rintro s rfl;obtain⟨_,Qx,XH,WG⟩:=Ah L (1+nm.1) 0 nm.2 yA;have Pe:=WG OL;obtain⟨ms,Py⟩:∃ ms,qY L (1+nm.1) 0 nm.2=ms:=⟨_,rfl⟩;simp only[Py] at hR Qx XH Pe ⊢;clear WG;have Q2:=bF L ms.2 3 Pe hL yA yA;have Rg:=aV L 3 Pe;have Pv:=cH L ms.2 (show 0<3 by omega);obtain⟨ng,Rc⟩:∃ ng,bN L ms.2 3=ng:=⟨_,rfl⟩;rw[Rc] at Q2 Rg Pv;simp only[Rc] at hR;apply ai;simp[hC];refine T.cut (fun s=>s=⟨[(7,.bp 6 0 ng.1),(3,.aq 1 0),(2,.aq 19 0)],[(0,aA L (v9 L ng.1 0 ng.2).2),(1,dF ng.1 ms.1.length 0 24 (decide (a.1=1))),(2,⟨109,3,[]⟩),(4,fX ms.1),(5,gN (v9 L ng.1 0 ng.2).1),(6,bf ((v9 L ng.1 0 ng.2).1.map (·.name))),(19,⟨27,0,lY⟩)],20⟩) ?_ ?_
  ·clear hR;apply ai;simp[hC,dF];refine TL.bS af [0] 1 (Q2) Oc rfl rfl rfl rfl N3 OP OO rfl (TL.go' af ?_);simp[hC];apply T.block;generalize ZT:v9 L ng.1 0 ng.2=MS;have ew:(⟨102,0,[CV.aq 0 0,CV.bp 5 0 0,CV.bp 4 0 ms.1.length,CV.bp 2 0 0,I 24,CV.bool (decide (a.1=1))]⟩:Ob)=dF 0 ms.1.length 0 24 (decide (a.1=1)):=rfl;refine T.aI (J34b L (decide (a.1=1)) ms.1 MS ng.1) (n:=ng.1) ?_ ?_
   ·refine aa.le (Le.own 7 9 1 rfl) ?_;simp;refine aa.le (Le.oJ 20 6 rfl rfl yA N3 N3 yCp) ?_;simp[aA,ints];refine aa.trim [8,9,7,3,2] [0,1,2,4,5,6,19] 20 Xo yA ⟨[],ng.2,?_,by simp,Rg,?_⟩
    ·simp[ZT]
    ·simp[aA,ints,dF,gN,bf,lY,dg]
   ·rintro n s ⟨out,i,hM,OY,hi,rfl⟩
    cases n with
    | zero=>
     have ho:out.length=ng.1:=by omega
     have Oa:¬ ((out.length:Int)<ng.1):=by omega
     apply aL;simp[hC,Oa];refine aX ?_;simp;apply T.exit;simp;refine aa.trim [7,3,2] [0,1,2,4,5,6,19] 20 U5 yA ?_;rw[hM];simp[v9,ho,dF]
    | succ n=>
     have ho:out.length≤1:=by omega
     obtain⟨c1,c2,c3,c4⟩:=oD out.length yA 48 48 rfl yA;have Oa:(out.length:Int)<ng.1:=by omega
     have OV:=bF L i 5 hi hL yA yA;have Pe:=aV L 5 hi;have WI:=cH L i (show 0<5 by omega);rw[v9] at hM;obtain⟨k,hk⟩:∃ k,bN L i 5=k:=⟨_,rfl⟩;simp only[hk] at OV Pe WI hM;have wk:=cf ((k.1:Int)-2) yA yA;have Rp:(⟨#[48+UInt8.ofNat out.length]⟩:ByteArray)=dY (48+out.length):=by simp[dY]
     have so:lE BinOp.add ⟨#[103]⟩ (dY (48+out.length))=some (.str (⟨#[103]⟩++dY (48+out.length))):=rfl;apply aL;simp[hC,Oa];refine fh ?_;simp;apply eG;apply T.seq;refine T.rx af follows [0,1,2,3,4,5,6,7,8,9,13,10,11,12,14] [(2,13),(2,10),(3,9),(3,13),(3,10),(4,13),(4,10),(9,13),(13,10)] N4 ?_;simp[hC,dF,c1,c2,c3,c4,Rp,so];refine RX.bS [0] [0] 1 (OV) rfl N3 rfl rfl rfl rfl N3 OP OO rfl rfl rfl N3 ?_;simp[wk];refine T.le (Le.trim [10,8,9,7,3,2] [0,1,2,4,5,6,19,33] 34 U3 yA) ?_;simp;have hb:(out.length+1)*24≤140737488355328:=by omega
     have O2:(out.length+1)*16≤140737488355328:=by omega
     have Sk:(gN out).cells.length=out.length*2:=aM (f:=o0) (n:=2) (fun _=>rfl) out;have UT:(gN out).sz=2:=rfl;have Rn:(gN out).elem=105:=rfl;have Rb:(bf (out.map (·.name))).cells.length=out.length:=by simp[bf]
     have Q1:(bf (out.map (·.name))).sz=1:=rfl;have Ok:(bf (out.map (·.name))).elem=9:=rfl;have wo:=cf ((out.length:Int)+1) yA yA;refine T.rx af follows [0,1,2,3,4,5,6,7,8,9,10,11,12,13,14,15,16,17,18] [(5,7),(5,12),(6,12),(7,11),(7,12),(8,11),(8,12)] N4 ?_;simp[hC,hb,O2,Sk,UT,Rn,Rb,Q1,Ok,aS];apply aY;simp[hC,wo];refine⟨n,by omega,?_⟩;refine aa.le (Le.trim [8,9,7,3,2] [0,1,2,4,19,53,54] 55 ZW yA) ?_;simp;refine aa.le (Le.oJ 53 5 rfl rfl yA N3 N3 yCp) ?_;simp[aA,ints];refine aa.le (Le.oJ 54 6 rfl rfl yA N3 N3 Xo) ?_;simp;refine aa.trim [8,9,7,3,2] [0,1,2,4,5,6,19] 20 Xo yA ⟨out++[⟨⟨#[103]⟩++dY (48+out.length),(k.1:Int)-2⟩],k.2,?_,?_,Pe,?_⟩
     ·rw[hM];simp
     ·simp;omega
     ·simp[aA,ints,dF,gN,o0,bf,lY,dg]
  ·rintro s rfl;obtain⟨_,Sk,hgz,UU⟩:=HH L ng.1 0 ng.2 yA;have US:=UU Rg;obtain⟨gs,UT⟩:∃ gs,v9 L ng.1 0 ng.2=gs:=⟨_,rfl⟩;simp only[UT] at hR Sk hgz US ⊢;clear UU;rw[← Sk];have XG:=bF L gs.2 4 US hL yA yA;have VX:=aV L 4 US;have R6:=cH L gs.2 (show 0<4 by omega);obtain⟨nf,Y1⟩:∃ nf,bN L gs.2 4=nf:=⟨_,rfl⟩;rw[Y1] at XG VX R6;simp only[Y1] at hR;apply ai;simp[hC,dF];refine TL.bS af [0] 1 (XG) Oc rfl rfl rfl rfl N3 OP OO rfl (TL.go' af ?_);simp[hC];refine T.cut (fun s=>s=⟨[(7,.bp 6 0 gs.1.length),(3,.aq 1 0),(2,.aq 19 0)],[(0,aA L (vf L (nf.1+1) 0 nf.2).2),(1,dF gs.1.length ms.1.length (vf L (nf.1+1) 0 nf.2).1.length 24 (decide (a.1=1))),(2,cR (vf L (nf.1+1) 0 nf.2).1),(4,fX ms.1),(5,gN gs.1),(6,bf (gs.1.map (·.name))),(19,⟨27,0,lY⟩)],20⟩) ?_ ?_
   ·clear hR;apply ai;simp[hC];apply T.block;generalize ZT:vf L (nf.1+1) 0 nf.2=MS;refine T.aI (J34c L (decide (a.1=1)) ms.1 gs.1 MS nf.1) (n:=nf.1+1) ?_ ?_
    ·refine aa.trim [12,11,7,3,2] [0,1,2,4,5,6,19] 20 U3 yA ⟨[],nf.2,by simp[ZT],by simp,VX,?_⟩;simp[dF,cR]
    ·rintro n s ⟨out,i,hM,OY,hi,rfl⟩
     cases n with
     | zero=>
      have ho:out.length=nf.1+1:=by omega
      have Oa:¬ ((out.length:Int)≤nf.1):=by omega
      apply aL;simp[hC,Oa];refine aX ?_;simp;apply T.exit;simp;refine aa.trim [7,3,2] [0,1,2,4,5,6,19] 20 U5 yA ?_;rw[hM];simp[vf,ho,dF]
     | succ n=>
      obtain⟨j,hj⟩:∃ j,out.length=j:=⟨_,rfl⟩;simp only[hj] at hM OY ⊢;have ho:j≤3:=by omega
      obtain⟨c1,c2,c3,c4⟩:=oD j yA 48 48 rfl yA;have Oa:(j:Int)≤nf.1:=by omega
      have Rp:(⟨#[48+UInt8.ofNat j]⟩:ByteArray)=dY (48+j):=by simp[dY]
      have so:lE BinOp.add ⟨#[102]⟩ (dY (48+j))=some (.str (⟨#[102]⟩++dY (48+j))):=rfl;apply aL;simp[hC,Oa];refine fh ?_;simp;apply eG;refine T.seq (T.Bz af ?_);simp[hC,c1,c2,c3,c4,Rp,so];refine T.le (Le.trim [13,12,11,7,3,2] [0,1,2,4,5,6,19,21] 22 U5 yA) ?_;simp;rw[vf] at hM;simp only at hM;obtain⟨Xz,Um⟩:∃ x,(if j=0 then (⟨#[109,97,105,110]⟩:ByteArray) else ⟨#[102]⟩++dY (48+j))=x:=⟨_,rfl⟩;rw[Um] at hM;refine T.cut (fun s=>s=⟨[(13,.aq 21 0),(12,I j),(11,I nf.1),(7,.bp 6 0 gs.1.length),(3,.aq 1 0),(2,.aq 19 0)],[(0,aA L i),(1,dF gs.1.length ms.1.length j 24 (decide (a.1=1))),(2,cR out),(4,fX ms.1),(5,gN gs.1),(6,bf (gs.1.map (·.name))),(19,⟨27,0,lY⟩),(21,⟨109,0,[.str Xz,.aj,.aj]⟩)],22⟩) ?_ ?_
      ·apply ai;simp[hC];refine T.bg rfl (fun h=>?_) (fun h=>?_)
       ·have h0:j=0:=by
         simp at h;omega
        rw[if_pos h0] at Um;apply aY;simp[hC];refine aa.trim [13,12,11,7,3,2] [0,1,2,4,5,6,19,21] 22 U5 yA ?_;simp[Um]
       ·have h0:¬ j=0:=by
         simp at h;omega
        rw[if_neg h0] at Um;apply T.skip;simp;refine aa.trim [13,12,11,7,3,2] [0,1,2,4,5,6,19,21] 22 U5 yA ?_;simp[Um]
      rintro s rfl;have OV:=bF L i 3 hi hL yA yA;have UR:=aV L 3 hi;have hlt6:=cH L i (show 0<3 by omega);obtain⟨k,hk⟩:∃ k,bN L i 3=k:=⟨_,rfl⟩;rw[hk] at OV UR hlt6;simp only[hk] at hM;obtain⟨PM,hPM⟩:∃ x,De L (if j=0 then 0 else k.1) k.2=x:=⟨_,rfl⟩;rw[hPM] at hM;have XE:PM.2≤L.length∧PM.1.length≤2:=by
       rw[← hPM];have h1:(if j=0 then 0 else k.1)≤2:=by split<;>omega
       obtain⟨_,p2,p3⟩:=GO L (if j=0 then 0 else k.1) k.2 h1;exact⟨p3 UR,by omega⟩
      refine T.cut (fun s=>s=⟨[(13,.aq 21 0),(12,I j),(11,I nf.1),(7,.bp 6 0 gs.1.length),(3,.aq 1 0),(2,.aq 19 0)],[(0,aA L PM.2),(1,dF gs.1.length ms.1.length j 24 (decide (a.1=1))),(2,cR out),(4,fX ms.1),(5,gN gs.1),(6,bf (gs.1.map (·.name))),(19,⟨27,0,lY⟩),(21,⟨109,0,[.str Xz,.bp 22 0 PM.1.length,.aj]⟩),(22,mM PM.1)],23⟩) ?_ ?_
      ·apply ai;simp[hC,dF];refine TL.bS af [0] 1 (OV) Oc rfl rfl rfl rfl N3 OP OO rfl (TL.go' af ?_);simp[hC];apply T.block;refine T.aI (J34d L (decide (a.1=1)) ms.1 gs.1 out j nf.1 Xz PM) (n:=if j=0 then 0 else k.1) ?_ ?_
       ·refine aa.le (Le.oL 21 1 111 2 rfl rfl) ?_;simp;refine aa.trim [14,13,12,11,7,3,2] [0,1,2,4,5,6,19,21,22] 23 U3 yA ⟨k.1,[],k.2,?_,rfl,?_,UR,?_⟩
        ·simp[hPM]
        ·simp;omega
        ·simp[dF,mM]
       ·rintro n1 s ⟨m,po,i1,hP,PF,hpo,hi7,rfl⟩;by_cases hg:0<n1
        ·have h0:¬ j=0:=by
          intro h;rw[if_pos h] at PF;omega
         rw[if_neg h0] at PF;subst PF;obtain⟨m,rfl⟩:∃ q,n1=q+1:=⟨n1-1,by omega⟩;have g1:0<j:=by omega
         rw[De] at hP;have YY:=bF L i1 3 hi7 hL yA yA;have Zj:=aV L 3 hi7;obtain⟨q,hq⟩:∃ q,bN L i1 3=q:=⟨_,rfl⟩;simp only[hq] at YY Zj hP;obtain⟨mm,QF⟩:∃ mm,m+1=mm:=⟨_,rfl⟩;simp only[QF] at hP ⊢;obtain⟨d1,d2,d3,d4⟩:=oD mm yA 48 48 rfl yA;have hch1:(⟨#[48+UInt8.ofNat mm]⟩:ByteArray)=dY (48+mm):=by simp[dY]
         have so1:lE BinOp.add ⟨#[112]⟩ (dY (48+mm))=some (.str (⟨#[112]⟩++dY (48+mm))):=rfl;have hmp:0<mm:=by omega
         apply aL;simp[hC,g1,hmp];refine fh ?_;simp;refine T.seq (T.block (T.seq ?_));refine T.rx af follows [0,1,2,3,4,5,6,7,8,9,13,10,11,12,14] [(2,13),(2,10),(3,9),(3,13),(3,10),(4,13),(4,10),(9,13),(13,10)] N4 ?_;simp[hC,dF,d1,d2,d3,d4,hch1,so1];refine RX.bS [0] [0] 1 (YY) rfl N3 rfl rfl rfl rfl N3 OP OO rfl rfl rfl N3 ?_;simp;have hb:(po.length+1)*24≤140737488355328:=by omega
         have Sk:(mM po).cells.length=po.length*2:=aM (f:=kT) (n:=2) (fun _=>rfl) po;have UT:(mM po).sz=2:=rfl;have Rn:(mM po).elem=111:=rfl;have wo:=cf (m:Int) yA yA;have wm:(mm:Int)-1=(m:Int):=by omega
         apply aY;simp[hC,hb,Sk,UT,Rn,aS];apply aY;simp[hC,wm,wo];refine⟨m,by omega,?_⟩;refine aa.le (Le.trim [14,13,12,11,7,3,2] [0,1,2,4,5,6,19,21,39] 40 ZW yA) ?_;simp;refine aa.le (Le.oJ 39 22 rfl rfl yA N3 N3 (by simp[aA,ints,lY,cR,-List.all_eq_true,-List.all_flatMap,bh (cG out)])) ?_;simp[aA,ints];refine aa.trim [14,13,12,11,7,3,2] [0,1,2,4,5,6,19,21,22] 23 Xo yA ⟨m,po++[⟨⟨#[112]⟩++dY (48+mm),decide (0<q.1)⟩],q.2,?_,?_,?_,Zj,?_⟩
         ·rw[hP];simp
         ·rw[if_neg h0]
         ·simp;omega
         ·simp[aA,ints,dF,mM,kT,lY,dg]
        ·have Rl:n1=0:=by omega
         have ZR:PM=(po,i1):=by
          rw[hP,Rl];simp[De]
         by_cases Rx:0<m
         ·have g1:¬ 0<j:=by
           intro h;rw[if_neg yA] at PF;omega
          apply aL;simp[hC,Rx,g1];refine aX ?_;simp;apply T.exit;simp;refine aa.trim [13,12,11,7,3,2] [0,1,2,4,5,6,19,21,22] 23 U5 yA ?_;simp[ZR,dF]
         ·apply aL;simp[hC,Rx];refine aX ?_;simp;apply T.exit;simp;refine aa.trim [13,12,11,7,3,2] [0,1,2,4,5,6,19,21,22] 23 U5 yA ?_;simp[ZR,dF]
      rintro s rfl;refine T.le (Le.nz [] [21]) ?_;simp[nz];refine T.le (Le.cV (o:=22) rfl (mW PM.1)) ?_;have On:List.take (PM.1.length*(mM PM.1).sz) (mM PM.1).cells=PM.1.flatMap kT:=List.take_of_length_le (Nat.le_of_eq (aM (f:=kT) (n:=2) (fun _=>rfl) PM.1));simp[bQ,On,dF];have hb:(j+1)*64≤140737488355328:=by omega
      have Sk:(cR out).cells.length=j*3:=by rw[← hj];exact aM (f:=eZ) (n:=3) (fun _=>rfl) out
      have UT:(cR out).sz=3:=rfl;have Rn:(cR out).elem=109:=rfl;have wo:=cf ((j:Int)+1) yA yA;refine T.rx af follows [0,1,2,3,4,5,6,7,8,9,10,11,12] [(5,7)] N4 ?_;simp[hC,Sk,UT,Rn,hb,aS];apply aY;simp[hC,wo];refine⟨n,by omega,?_⟩;refine aa.le (Le.trim [12,11,7,3,2] [0,1,4,5,6,19,36] 37 (by simp[aA,lY,bQ,-List.all_eq_true,-List.all_flatMap]) yA) ?_;simp;refine aa.le (Le.oJ 36 2 rfl rfl yA N3 N3 (by simp[aA,ints,lY,bQ,-List.all_eq_true,-List.all_flatMap])) ?_;simp[aA,ints];refine aa.trim [12,11,7,3,2] [0,1,2,4,5,6,19] 20 (by simp[lY,dg,bQ,-List.all_eq_true,-List.all_flatMap]) yA ⟨out++[⟨Xz,PM.1,[]⟩],PM.2,?_,?_,XE.1,?_⟩
      ·rw[hM];simp[hj]
      ·simp;omega
      ·simp[aA,ints,dF,cR,eZ,bx,lY,dg,bQ,hj]
   ·rintro s rfl;obtain⟨_,O8,Qq,hf0,Zo⟩:=HI L (nf.1+1) 0 nf.2 yA;have UR:=Zo VX;obtain⟨fs,Qf⟩:∃ fs,vf L (nf.1+1) 0 nf.2=fs:=⟨_,rfl⟩;simp only[Qf] at hR O8 Qq hf0 UR ⊢;clear Zo;refine T.le (Le.cV (o:=5) rfl (iR gs.1)) ?_;have On:List.take (gs.1.length*(gN gs.1).sz) (gN gs.1).cells=gs.1.flatMap o0:=List.take_of_length_le (Nat.le_of_eq (aM (f:=o0) (n:=2) (fun _=>rfl) gs.1));simp[bQ,On,dF];refine T.le (Le.cV (o:=4) rfl (gj ms.1)) ?_;have PK:List.take (ms.1.length*(fX ms.1).sz) (fX ms.1).cells=ms.1.flatMap eM:=List.take_of_length_le (Nat.le_of_eq (aM (f:=eM) (n:=3) (fun _=>rfl) ms.1));simp[bQ,PK];refine T.le (Le.trim [7,3,2] [0,1,2,6,19] 20 (by simp[aA,lY,bQ,-List.all_eq_true,-List.all_flatMap]) yA) ?_;simp;have ew:(⟨102,0,[CV.aq 0 0,CV.az (gs.1.flatMap o0) gs.1.length,CV.az (ms.1.flatMap eM) ms.1.length,CV.bp 2 0 fs.1.length,.int .i64 24,CV.bool (decide (a.1=1))]⟩:Ob)=bu gs.1 ms.1 fs.1.length 24 (decide (a.1=1)):=rfl;rw[ew];clear ew On PK;have h19:(lY.map (bQ 4 (fX ms.1).cells (fX ms.1).sz∘bQ 5 (gN gs.1).cells (gN gs.1).sz))=lY:=rfl;rw[h19];clear h19;have hmp:0<ms.1.length:=by omega
    have Oh:∀ m∈ms.1,m.size≤1000:=fun m hm=>by have:=(XH m hm).1;omega
    have Po:∀ f∈fs.1,f.params.length≤2:=fun f hf=>by
     obtain⟨_,k,h1,h2⟩:=Qq f hf;have:=congrArg List.length h2;simp[nP] at this;omega
    refine T.cut (fun s=>∃ (i left:Nat),s=⟨[(3,.aq 1 0),(2,.aq 19 0)],[(0,aA L i),(1,bu gs.1 ms.1 R.fs.length left (decide (a.1=1))),(2,cR R.fs),(19,⟨27,0,lY⟩)],20⟩) ?_ ?_
    ·apply ai;simp[hC];apply T.block;refine T.aI (J34e L (decide (a.1=1)) ms.1 gs.1 fs.1 (nf.1+1) R.fs) (n:=nf.1+1) ?_ ?_
     ·refine aa.trim [16,7,3,2] [0,1,2,6,19] 20 (by simp[aA,lY,bu]) yA ⟨0,fs.1,fs.2,24,?_,by omega,by omega,rfl,Po,by omega,UR,?_⟩
      ·rw[← hR]
      ·simp
     ·rintro n s ⟨j,fl,i,left,hM,hjn,Re,Tm,Wy,hlt24,hi,rfl⟩
      cases n with
      | zero=>
       have hj:¬ j<fl.length:=by omega
       have Ph:R.fs=fl:=by rw[hM];rfl
       apply aL;simp[hC,bu,hj];refine aX ?_;simp;apply T.exit;simp;refine aa.trim [3,2] [0,1,2,19] 20 U3 yA ⟨i,left,?_⟩;simp[Ph]
      | succ n=>
       have hj:j<fl.length:=by omega
       obtain⟨f,hf⟩:∃ f,fl[j]? = some f:=⟨fl[j],List.getElem?_eq_getElem hj⟩;have RM:=Wy f (List.mem_of_getElem? hf);apply aL;simp[hC,bu,hj];refine fh ?_;simp;have hobl:(jq gs.1 f.params).length≤10:=by
        have h2:=Dg f.params;unfold jq;rw[List.length_append,List.length_map];omega
       have Vv:=El L hL gs.1 ms.1 hmp yA Oh (decide (a.1=1)) fl yA yA (fun f hf=>by have:=Wy f hf;omega) f.name f.params yA (bx f.body) f.body.length left left (jq gs.1 f.params) 2 6 i (Nat.le_refl _) yA yA yA yA hi;have hM2:=hM;rw[Kk,hf] at hM2;simp only at hM2;have Yp:pW L (decide (a.1=1)) ms.1 fl=⟨L,decide (a.1=1),ms.1,fs.1.map fun f=>(f.name,f.params)⟩:=by
        have h2:fl.map (fun f=>(f.name,f.params))=fs.1.map fun f=>(f.name,f.params):=Tm;simp only[pW,h2]
       obtain⟨XO,Qd⟩:=uh (pW L (decide (a.1=1)) ms.1 fl) f.params left (jq gs.1 f.params) 2 6 i left hi;rw[Yp] at Vv XO Qd;obtain⟨b,hb⟩:∃ b,mQ ⟨L,decide (a.1=1),ms.1,fs.1.map fun f=>(f.name,f.params)⟩ f.params left (jq gs.1 f.params) 2 6 i left=b:=⟨_,rfl⟩;rw[hb] at Vv XO Qd;rw[hb] at hM2;have Og:(cR fl).cells.length=fl.length*3:=aM (f:=eZ) (n:=3) (fun _=>rfl) fl;have hs1:j*3+2<fl.length*3:=by omega
       have Wt:j*3+2+1≤fl.length*3:=by omega
       have hs3:j*3+3≤fl.length*3:=by omega
       have ew:(⟨102,0,[CV.aq 0 0,CV.az (gs.1.flatMap o0) gs.1.length,CV.az (ms.1.flatMap eM) ms.1.length,CV.bp 2 0 fl.length,I left,CV.bool (decide (a.1=1))]⟩:Ob)=bu gs.1 ms.1 fl.length left (decide (a.1=1)):=rfl;have hfc:gz f.name f.params (bx f.body) f.body.length=[.str f.name,.az (f.params.flatMap kT) f.params.length,.az (bx f.body) f.body.length]:=rfl;rw[hfc] at Vv;have SA:=Mp hf b.1;refine T.cut (fun s=>s=⟨[(16,I j),(7,.bp 6 0 gs.1.length),(3,.aq 1 0),(2,.aq 19 0)],[(0,aA L b.2.1),(1,bu gs.1 ms.1 fl.length b.2.2 (decide (a.1=1))),(2,cR (fl.set j ⟨f.name,f.params,b.1⟩)),(6,bf (gs.1.map (·.name))),(19,⟨27,0,lY⟩)],20⟩) ?_ ?_
       rotate_left
       ·rintro s rfl;have wj:=cf ((j:Int)+1) yA yA;apply aY;simp[hC,wj];refine⟨n,by omega,aa.trim [16,7,3,2] [0,1,2,6,19] 20 (by simp[aA,lY,bu]) yA ⟨j+1,fl.set j ⟨f.name,f.params,b.1⟩,b.2.1,b.2.2,hM2,by omega,by simp[Re],?_,?_,by omega,XO,?_⟩⟩
        ·rw[Gz (f':=⟨f.name,f.params,b.1⟩) hf rfl];exact Tm
        ·intro f' V1;rcases List.mem_or_eq_of_mem_set V1 with h | h
         ·exact Wy f' h
         ·rw[h];exact RM
        ·simp
       apply T.block;have hb0:gs.1.length*16≤140737488355328:=by omega
       have Rb:(bf (gs.1.map (·.name))).cells.length=gs.1.length:=by simp[bf]
       have Q1:(bf (gs.1.map (·.name))).sz=1:=rfl;have Ok:(bf (gs.1.map (·.name))).elem=9:=rfl;apply ai;simp[hC,hb0,Rb,Q1];have On:List.take gs.1.length (bf (gs.1.map (·.name))).cells=(bf (gs.1.map (·.name))).cells:=List.take_of_length_le (Nat.le_of_eq Rb);simp only[On,ew];have N7:(cR fl).cells.drop (j*3)=eZ f++(fl.drop (j+1)).flatMap eZ:=aD (f:=eZ) (n:=3) (fun _=>rfl) hf;have Pj:(cR fl).cells.drop (j*3+1)=(eZ f).drop 1++(fl.drop (j+1)).flatMap eZ:=a8 (f:=eZ) (n:=3) (fun _=>rfl) hf 1 yA;have Ub:(cR fl).sz=3:=rfl;refine T.cut (fun s=>s=⟨[(17,.bp 21 0 (jq gs.1 f.params).length),(16,I j),(7,.bp 6 0 gs.1.length),(3,.aq 1 0),(2,.aq 19 0)],[(0,aA L i),(1,bu gs.1 ms.1 fl.length left (decide (a.1=1))),(2,cR fl),(6,bf (gs.1.map (·.name))),(19,⟨27,0,lY⟩),(21,bf (jq gs.1 f.params))],22⟩) ?_ ?_
       ·apply ai;simp[hC];apply T.block;refine T.aI (J34f L (decide (a.1=1)) ms.1 gs.1 fl f i left j) (n:=f.params.length) ?_ ?_
        ·refine aa.trim [18,17,16,7,3,2] [0,1,2,6,19,21] 22 (by simp[aA,lY,bu]) yA ⟨0,by simp,by omega,?_⟩;simp[bf]
        ·rintro n1 s ⟨q,hq,P6,rfl⟩;obtain⟨ow,PY⟩:∃ ow,gs.1.map (·.name)++(f.params.take q).flatMap (fun p=>if p.mutex=true then [] else [p.name])=ow:=⟨_,rfl⟩;have Si:ow.length≤10:=by
          have h2:=Dg (f.params.take q);rw[List.length_take] at h2;rw[← PY,List.length_append,List.length_map];omega
         rw[PY];by_cases QD:q<f.params.length
         ·obtain⟨p,hp⟩:∃ p,f.params[q]? = some p:=⟨f.params[q],List.getElem?_eq_getElem QD⟩;have hpd:(f.params.flatMap kT).drop (q*2)=kT p++(f.params.drop (q+1)).flatMap kT:=aD (f:=kT) (n:=2) (fun _=>rfl) hp;have hpd1:(f.params.flatMap kT).drop (q*2+1)=(kT p).drop 1++(f.params.drop (q+1)).flatMap kT:=a8 (f:=kT) (n:=2) (fun _=>rfl) hp 1 yA;apply aL;simp[hC,bu,hj,Pj,eZ,QD];refine fh ?_;simp;apply eG;have SW:f.params.take (q+1)=f.params.take q++[p]:=by rw[List.take_add_one,hp];rfl
          have wq:=cf ((q:Int)+1) yA yA;obtain⟨pn,pmx⟩:=p
          cases pmx with
          | true=>
           apply ai;simp[hC,hj,Pj,eZ,QD,hpd,kT];refine aX ?_;simp;apply T.skip;simp;apply aY;simp[hC,wq];refine⟨f.params.length-(q+1),by omega,?_⟩;refine aa.trim [18,17,16,7,3,2] [0,1,2,6,19,21] 22 U3 yA ⟨q+1,rfl,by omega,?_⟩;rw[SW,List.flatMap_append,← List.append_assoc,PY];simp[bu]
          | false=>
           apply ai;simp[hC,hj,Pj,eZ,QD,hpd,kT];refine cB ?_;simp;have Pq:(ow.length+1)*16≤140737488355328:=by omega
           have VJ:(bf ow).cells.length=ow.length:=by simp[bf]
           have hws:(bf ow).sz=1:=rfl;have hwe:(bf ow).elem=9:=rfl;apply aY;simp[hC,hj,Pj,eZ,QD,hpd,kT,Pq,VJ,hws,hwe,aS];apply aY;simp[hC,wq];refine⟨f.params.length-(q+1),by omega,?_⟩;refine aa.le (Le.trim [18,17,16,7,3,2] [0,1,2,6,19,23] 24 ZW yA) ?_;simp;refine aa.le (Le.oJ 23 21 rfl rfl yA N3 N3 (by simp[aA,ints,lY,cR,-List.all_eq_true,-List.all_flatMap,bh (cG fl)])) ?_;simp[aA,ints];refine aa.trim [18,17,16,7,3,2] [0,1,2,6,19,21] 22 Xo yA ⟨q+1,rfl,by omega,?_⟩;rw[SW,List.flatMap_append,← List.append_assoc,PY];simp[aA,ints,bu,bf,lY,dg]
         ·have hqe:q=f.params.length:=by omega
          apply aL;simp[hC,bu,hj,Pj,eZ,QD];refine aX ?_;simp;apply T.exit;simp;refine aa.trim [17,16,7,3,2] [0,1,2,6,19,21] 22 U3 yA ?_;have Uk:ow=jq gs.1 f.params:=by
           rw[← PY,hqe,List.take_length];rfl
          rw[← Uk];simp
       rintro s rfl;refine T.rxw af follows [(1,3,[.bp 2 0 fl.length])] (by simp[vN,zo,bu]) [0,1,2,3,4,5,6,7,8,9,10,11,12,13,14,15,16,17,18,19] [(4,16)] N4 ?_;simp[hC,bu,xN];refine RX.quiet (.bp 2 0 fl.length) rfl N3 rfl (XV.load af rfl rfl N3 rfl rfl) ?_;simp[xN];refine RX.quiet (.bp 2 0 fl.length) rfl N3 rfl (XV.load af rfl rfl N3 rfl rfl) ?_;simp[hj,N7,eZ,xN];rw[ew];refine RX.jj 3 21 [0,1,2,21] [0,1] 4 (Vv) rfl N3 rfl rfl rfl N3 yA N3 N3 rfl N3 SP rfl N3 N3 N3 rfl N3 ?_;simp[hj,Ub,Og,Wt,-gA,pQ,fw,MP,zo,xN];simp[bu,SA,-gA];refine aa.trim [16,7,3,2] [0,1,2,6,19] 20 (by simp[aA,lY,-List.all_eq_true,-List.all_flatMap,-gA]) yA ?_;simp[-gA];rfl
    ·rintro s ⟨i,left,rfl⟩;apply ai;simp[hC,bu,lY];apply T.ret;refine aa.le (Le.trim [2] [2,19] 20 Qt yA) ?_;simp;refine aa.le (Le.cV (o:=2) rfl (cG R.fs)) ?_;have htk3:List.take (R.fs.length*(cR R.fs).sz) (cR R.fs).cells=R.fs.flatMap eZ:=List.take_of_length_le (Nat.le_of_eq (aM (f:=eZ) (n:=3) (fun _=>rfl) R.fs));simp[bQ,htk3];apply aa.here;simp[xb,eC];rw[← hR];exact⟨⟨rfl,rfl⟩,⟨rfl,rfl⟩⟩
end Go.Proofs.YtlkmbdfhdknlgaaGreatDoor
