/- lockordermade.Program. -/
import Derived.Test.YtlkmbdfhdknlgaaGreatV24
namespace Go.Proofs.YtlkmbdfhdknlgaaGreat
open Go.Can Go.aV List
def gq (l:List Mx):Ob:=⟨98,3,l.flatMap cI⟩
def g7 (l:List Gl):Ob:=⟨132,2,l.flatMap pE⟩
def mh:List CV:=[.ak,.ak,.ak]
def dU (ng nm nf left:Nat)(ar:Bool):Ob:=⟨128,0,[.ax 0 0,.bg 5 0 ng,.bg 4 0 nm,.bg 2 0 nf,I left,.bool ar]⟩
def J34 (L:List Int)(ar:Bool)(MS:List Mx×Nat)(N:Nat)(m:Nat)(s:St):Prop:=∃ (out:List Mx) (i:Nat),MS=(out++(rH L m out.length i).1,(rH L m out.length i).2)/\m+out.length=N/\i<=L.length/\
 s=⟨[(4,I out.length),(5,I N),(3,.ax 1 0),(2,.ax 19 0)],[(0,aI L i),(1,dU 0 out.length 0 24 ar),(2,⟨136,3,[]⟩),(4,gq out),(5,⟨132,2,[]⟩),(19,⟨27,0,mh⟩)],20⟩
def J34b (L:List Int)(ar:Bool)(ms:List Mx)(MS:List Gl×Nat)(N:Nat)(m:Nat)(s:St):Prop:=∃ (out:List Gl) (i:Nat),MS=(out++(wS L m out.length i).1,(wS L m out.length i).2)/\m+out.length=N/\i<=L.length/\
 s=⟨[(8,I out.length),(9,I N),(7,.bg 6 0 out.length),(3,.ax 1 0),(2,.ax 19 0)],[(0,aI L i),(1,dU out.length ms.length 0 24 ar),(2,⟨136,3,[]⟩),(4,gq ms),(5,g7 out),(6,bw (out.map (·.name))),(19,⟨27,0,mh⟩)],20⟩
def J34c (L:List Int)(ar:Bool)(ms:List Mx)(gs:List Gl)(MS:List Fu×Nat)(N:Nat)(m:Nat)(s:St):Prop:=∃ (out:List Fu) (i:Nat),MS=(out++(vN L m out.length i).1,(vN L m out.length i).2)/\m+out.length=N+1/\i<=L.length/\
 s=⟨[(12,I out.length),(11,I N),(7,.bg 6 0 gs.length),(3,.ax 1 0),(2,.ax 19 0)],[(0,aI L i),(1,dU gs.length ms.length out.length 24 ar),(2,dr out),(4,gq ms),(5,g7 gs),(6,bw (gs.map (·.name))),(19,⟨27,0,mh⟩)],20⟩
theorem o0 (c:Nat)(hc:c<=10)(k:Int)(m:Nat)(hm:k=m)(Uo:m<=100):IntKind.i64.wrap (k+c)=k+c/\IntKind.u8.wrap (k+c)=k+c/\(0<=k+c/\k+c<256)/\(k+c).toNat=m+c:=by
 refine⟨cw _ yA yA,IntWalk.u8_in _ yA,by omega,by omega⟩
theorem ah {α:Type}{f:α->List CV}(hf:∀ x,trees (f x)=true)(l:List α):trees (l.flatMap f)=true:=by
 induction l with
 | nil=>rfl
 | cons a r ih=>rw[flatMap_cons,aF,hf,ih];rfl
mutual
theorem Bg (o:Nat)(ds:List CV)(n:Nat):∀ c:CV,tree c=true->cK o ds n c=c
 | .bg _ _ _,h=>by simp[tree] at h
 | .ax _ _,h=>by simp[tree] at h
 | .iter _ _ _,h=>by simp[tree] at h
 | .mp _ _,h=>by simp[tree] at h
 | .agg cs,h=>by
  simp only[tree] at h;rw[cK,l6 o ds n cs h]
 | .fn _ cs,h=>by
  simp only[tree] at h;rw[cK,l6 o ds n cs h]
 | .iface _ cs,h=>by
  simp only[tree] at h;rw[cK,l6 o ds n cs h]
 | .bY cs,h=>by
  simp only[tree] at h;rw[cK,l6 o ds n cs h]
 | .int _ _,_=>rfl
 | .bool _,_=>rfl
 | .str _,_=>rfl
 | .au _ _,_=>rfl
 | .ak,_=>rfl
 | .de _,_=>rfl
 | .bM,_=>rfl
 | .cH,_=>rfl
 | .any,_=>rfl
theorem l6 (o:Nat)(ds:List CV)(n:Nat):∀ cs:List CV,trees cs=true->iN o ds n cs=cs
 | [],_=>rfl
 | c::cs,h=>by
  simp only[trees,Bool.and_eq_true] at h;rw[iN,Bg o ds n c h.1,l6 o ds n cs h.2]
end
theorem ai {cs:List CV}(h:trees cs=true)(o:Nat)(ds:List CV)(n:Nat):cs.map (cK o ds n)=cs:=by
 rw[map_congr_left (g:=id) λ c hc=>Bg o ds n c (iU h c hc),map_id]
theorem dm (l:List Mx):trees (l.flatMap cI)=true:=ah (λ _=>rfl) l
theorem jm (l:List Gl):trees (l.flatMap pE)=true:=ah (λ _=>rfl) l
@[simp] theorem mxOb_lt (l:List Mx)(n:Nat):(gq l).cells.all (aU n)=true:=aj (dm l) n
@[simp] theorem mxOb_lts (l:List Mx)(n:Nat):aX n (gq l).cells=true:=by rw[aE];exact aj (dm l) n
@[simp] theorem mxOb_ok1 (l:List Mx)(o q:Nat):(gq l).cells.all (nC o q)=true:=bC (dm l) o q
@[simp] theorem Ov (l:List Mx)(o q:Nat):(gq l).cells.map (dE o q)=(gq l).cells:=bm (dm l) o q
@[simp] theorem mxOb_frz (l:List Mx)(o:Nat)(cs:List CV)(n:Nat):(⟨(gq l).elem,(gq l).sz,(gq l).cells.map (cK o cs n)⟩:Ob)=gq l:=by rw[ai (cs:=(gq l).cells) (dm l)]
@[simp] theorem glOb_frz (l:List Gl)(o:Nat)(cs:List CV)(n:Nat):(⟨(g7 l).elem,(g7 l).sz,(g7 l).cells.map (cK o cs n)⟩:Ob)=g7 l:=by rw[ai (cs:=(g7 l).cells) (jm l)]
@[simp] theorem mxOb_eta (l:List Mx):(⟨(gq l).elem,(gq l).sz,(gq l).cells⟩:Ob)=gq l:=rfl
@[simp] theorem glOb_lt (l:List Gl)(n:Nat):(g7 l).cells.all (aU n)=true:=aj (jm l) n
@[simp] theorem glOb_lts (l:List Gl)(n:Nat):aX n (g7 l).cells=true:=by rw[aE];exact aj (jm l) n
@[simp] theorem glOb_ok1 (l:List Gl)(o q:Nat):(g7 l).cells.all (nC o q)=true:=bC (jm l) o q
@[simp] theorem OA (l:List Gl)(o q:Nat):(g7 l).cells.map (dE o q)=(g7 l).cells:=bm (jm l) o q
@[simp] theorem glOb_eta (l:List Gl):(⟨(g7 l).elem,(g7 l).sz,(g7 l).cells⟩:Ob)=g7 l:=rfl
def nB (l:List Pm):Ob:=⟨138,2,l.flatMap ln⟩
theorem nQ (l:List Pm):trees (l.flatMap ln)=true:=ah (λ _=>rfl) l
@[simp] theorem pmOb_lt (l:List Pm)(n:Nat):(nB l).cells.all (aU n)=true:=aj (nQ l) n
@[simp] theorem pmOb_lts (l:List Pm)(n:Nat):aX n (nB l).cells=true:=by rw[aE];exact aj (nQ l) n
@[simp] theorem pmOb_ok1 (l:List Pm)(o q:Nat):(nB l).cells.all (nC o q)=true:=bC (nQ l) o q
@[simp] theorem N4 (l:List Pm)(o q:Nat):(nB l).cells.map (dE o q)=(nB l).cells:=bm (nQ l) o q
@[simp] theorem pmOb_eta (l:List Pm):(⟨(nB l).elem,(nB l).sz,(nB l).cells⟩:Ob)=nB l:=rfl
def J34d (L:List Int)(ar:Bool)(ms:List Mx)(gs:List Gl)(out:List Fu)(j N:Nat)(XM:ByteArray)(PM:List Pm×Nat)(n:Nat)(s:St):Prop:=∃ (m:Nat) (po:List Pm) (i:Nat),PM=(po++(DG L n i).1,(DG L n i).2)/\n=(if j=0 then 0 else m)/\m+po.length<=2/\i<=L.length/\
 s=⟨[(14,I m),(13,.ax 21 0),(12,I j),(11,I N),(7,.bg 6 0 gs.length),(3,.ax 1 0),(2,.ax 19 0)],[(0,aI L i),(1,dU gs.length ms.length j 24 ar),(2,dr out),(4,gq ms),(5,g7 gs),(6,bw (gs.map (·.name))),(19,⟨27,0,mh⟩),(21,⟨136,0,[.str XM,.bg 22 0 po.length,.ak]⟩),(22,nB po)],23⟩
def J34e (L:List Int)(ar:Bool)(ms:List Mx)(gs:List Gl)(fs0:List Fu)(N:Nat)(RF:List Fu)(n:Nat)(s:St):Prop:=∃ (j:Nat) (fl:List Fu) (i left:Nat),RF=KO ⟨L,ar,ms,fs0.map λ f=>(f.name,f.params)⟩ gs n j fl i left/\n+j=N/\fl.length=N/\fl.map sg=fs0.map sg/\(∀ f∈fl,f.params.length<=2)/\left<=24/\i<=L.length/\
 s=⟨[(16,I j),(7,.bg 6 0 gs.length),(3,.ax 1 0),(2,.ax 19 0)],[(0,aI L i),(1,bO gs ms fl.length left ar),(2,dr fl),(6,bw (gs.map (·.name))),(19,⟨27,0,mh⟩)],20⟩
theorem DJ (l:List Pm):(l.flatMap λ p=>if p.mutex=true then [] else [p.name]).length<=l.length:=by
 induction l with
 | nil=>exact Nat.le_refl _
 | cons x r ih=>
  rw[flatMap_cons,length_append,length_cons];split
  ·simp only[length_nil];omega
  ·simp only[length_cons,length_nil];omega
theorem M6 {fl:List Fu}{j:Nat}{f:Fu}(h:fl[j]? = some f)(b:List Sm):gC (dr fl).cells (j*3+2) [.au (bS b) b.length]=(dr (fl.set j ⟨f.name,f.params,b⟩)).cells:=by
 induction fl generalizing j with
 | nil=>simp at h
 | cons a r ih=>
  cases j with
  | zero=>
   simp only[getElem?_cons_zero,Option.some.injEq] at h;subst h;simp[dr,fD,gC]
  | succ j=>
   simp only[getElem?_cons_succ] at h;have e:=ih h;simp only[dr,gC,flatMap_cons,set_cons_succ] at e |-;rw[show (j+1)*3+2=(fD a).length+(j*3+2) by simp[fD];omega,take_append,take_of_length_le yA,Nat.add_sub_cancel_left,show (fD a).length+(j*3+2)+[CV.au (bS b) b.length].length=(fD a).length+(j*3+2+[CV.au (bS b) b.length].length) by omega,drop_append,drop_of_length_le yA,Nat.add_sub_cancel_left,nil_append,append_assoc,append_assoc,<- append_assoc (take _ _),e]
def J34f (L:List Int)(ar:Bool)(ms:List Mx)(gs:List Gl)(fl:List Fu)(f:Fu)(i left j:Nat)(n:Nat)(s:St):Prop:=∃ q:Nat,n=f.params.length-q/\q<=f.params.length/\
 s=⟨[(18,I q),(17,.bg 21 0 (gs.map (·.name)++(f.params.take q).flatMap (λ p=>if p.mutex=true then [] else [p.name])).length),(16,I j),(7,.bg 6 0 gs.length),(3,.ax 1 0),(2,.ax 19 0)],[(0,aI L i),(1,bO gs ms fl.length left ar),(2,dr fl),(6,bw (gs.map (·.name))),(19,⟨27,0,mh⟩),(21,bw (gs.map (·.name)++(f.params.take q).flatMap (λ p=>if p.mutex=true then [] else [p.name])))],22⟩
set_option maxHeartbeats 8000000 in
theorem CE (l:List Int)(hl:l.length<=9223372036854775807):af Tryz.prog 26 [ints l] (xB (BX l)):=by
 generalize hR:BX l=R;refine af.aC ag Tryz.func26 rfl GK (by simp[Tryz.ntmps26]) rfl λ C hC OR=>?_;rw[Tryz.ntmps26] at hC;apply aq;simp[hC];apply aq;simp[hC];refine ct O4 (Nh l 400 hl) ?_;simp[hC];have hL:(l.take 400).length<=1000:=by simp;omega
 simp only[BX] at hR;generalize l.take 400=L at hL hR;refine T.le (Le.up 20 xr) ?_;simp;refine T.le (Le.trim [3,2] [0,1,2] 20 xr yA) ?_;simp;refine T.le (Le.ph 0 19 rfl rfl yA xr xr (by simp[ints])) ?_;simp[ints];refine T.le (Le.ph 1 0 rfl rfl yA xr xr xr) ?_;simp;refine T.le (Le.ph 2 1 rfl rfl yA xr xr xr) ?_;simp;refine T.le (Le.lq 1 3 136 3 rfl rfl) ?_;simp;refine T.le (Le.lq 1 2 98 3 rfl rfl) ?_;simp;refine T.le (Le.lq 1 1 132 2 rfl rfl) ?_;simp;refine T.le (Le.ph 20 2 rfl rfl yA xr xr xr) ?_;simp;refine T.le (Le.ph 21 4 rfl rfl yA xr xr xr) ?_;simp;refine T.le (Le.ph 22 5 rfl rfl yA xr xr xr) ?_;simp;refine T.le (Le.trim [3,2] [0,1,2,4,5,19] 20 xr yA) ?_;simp;have es:(⟨126,0,[CV.au (L.map bj) L.length,.int .i64 0]⟩:Ob)=aI L 0:=rfl;rw[es];have TP:=bu L 3 (Nat.zero_le L.length);have Rc:=cT L 0 3 (Nat.zero_le _) hL yA yA;obtain⟨a,ha⟩:∃ a,cA L 0 3=a:=⟨_,rfl⟩;rw[ha] at TP Rc;simp only[ha] at hR;apply aq;simp[hC];refine TL.di ag [0] 1 (Rc) OU rfl rfl rfl rfl xr Qe Qd rfl (TL.go' ag ?_);simp[hC];have PH:=bu L 4 TP;have R5:=cT L a.2 4 TP hL yA yA;have Xc:=dF L a.2 (show 0<4 by omega);obtain⟨nm,P5⟩:∃ nm,cA L a.2 4=nm:=⟨_,rfl⟩;rw[P5] at PH R5 Xc;simp only[P5] at hR;have w1:=cw (1+(nm.1:Int)) yA yA;refine T.cut (λ s=>s=⟨[(3,.ax 1 0),(2,.ax 19 0)],[(0,aI L (rH L (1+nm.1) 0 nm.2).2),(1,dU 0 (rH L (1+nm.1) 0 nm.2).1.length 0 24 (decide (a.1=1))),(2,⟨136,3,[]⟩),(4,gq (rH L (1+nm.1) 0 nm.2).1),(5,⟨132,2,[]⟩),(19,⟨27,0,mh⟩)],20⟩) ?_ ?_
 ·clear hR;apply aq;simp[hC];refine TL.di ag [0] 1 (R5) OU rfl rfl rfl rfl xr Qe Qd rfl (TL.go' ag ?_);simp[hC,w1];apply T.block;generalize Z4:rH L (1+nm.1) 0 nm.2=MS;refine T.aQ (J34 L (decide (a.1=1)) MS (1+nm.1)) (n:=1+nm.1) ?_ ?_
  ·refine aa.trim [4,5,3,2] [0,1,2,4,5,19] 20 S9 yA ⟨[],nm.2,by simp[Z4],by simp,PH,?_⟩;simp[dU,gq,mh]
  ·rintro n s ⟨out,i,hM,Qc,hi,rfl⟩
   cases n with
   | zero=>
    have ho:out.length=1+nm.1:=by omega
    have OT:¬ ((out.length:Int)<1+nm.1):=by omega
    apply aT;simp[hC,OT];refine bh ?_;simp;apply T.exit;simp;refine aa.trim [3,2] [0,1,2,4,5,19] 20 Vx yA ?_;rw[hM];simp[rH]
   | succ n=>
    have ho:out.length<=3:=by omega
    obtain⟨c1,c2,c3,c4⟩:=o0 out.length yA 97 97 rfl yA;have OT:(out.length:Int)<1+nm.1:=by omega
    apply aT;simp[hC,OT];refine iI ?_;simp;apply eZ;refine T.seq (T.B1 ag ?_);simp[hC,c1,c2,c3,c4];refine T.le (Le.trim [6,4,5,3,2] [0,1,2,4,5,19,21] 22 Vx yA) ?_;simp;have UZ:(⟨#[97+UInt8.ofNat out.length]⟩:ByteArray)=eC (97+out.length):=by simp[eC]
    rw[UZ];refine T.cut (λ s=>∃ (m:Mx) (i2:Nat),rH L (n+1) out.length i=(m::(rH L n (out.length+1) i2).1,(rH L n (out.length+1) i2).2)/\i2<=L.length/\
     s=⟨[(6,.ax 21 0),(4,I out.length),(5,I (1+nm.1)),(3,.ax 1 0),(2,.ax 19 0)],[(21,⟨98,0,cI m⟩),(0,aI L i2),(1,dU 0 out.length 0 24 (decide (a.1=1))),(2,⟨136,3,[]⟩),(4,gq out),(5,⟨132,2,[]⟩),(19,⟨27,0,mh⟩)],22⟩) ?_ ?_
    ·have QP:=cT L i 5 hi hL yA yA;have Qn:=bu L 5 hi;rw[rH];obtain⟨k,hk⟩:∃ k,cA L i 5=k:=⟨_,rfl⟩;simp only[hk] at QP Qn |-;apply aq;simp[hC,dU];refine TL.di ag [0] 1 (QP) OU rfl rfl rfl rfl xr Qe Qd rfl (TL.go' ag ?_);simp;apply T.block;apply aq;simp[hC];refine T.bB rfl (λ h=>?_) (λ h=>?_)
     ·have h1:k.1=1:=by simpa using h
      apply aG;simp[hC];refine aa.trim [6,4,5,3,2] [21,0,1,2,4,5,19] 22 Vt yA ⟨⟨eC (97+out.length),true,0⟩,k.2,by rw[if_pos h1],Qn,?_⟩;simp[cI]
     have h1:¬ k.1=1:=by simpa using h
     apply aq;simp[hC];refine T.bB rfl (λ h=>?_) (λ h=>?_)
     ·have h2:k.1=2:=by simpa using h
      have Vm:=cT L k.2 3 Qn hL yA yA;have Ts:=bu L 3 Qn;have UO:=dF L k.2 (show 0<3 by omega);obtain⟨q,hq⟩:∃ q,cA L k.2 3=q:=⟨_,rfl⟩;simp only[hq] at Vm Ts UO |-;have wq:=cw (1+(q.1:Int)) yA yA;apply aG;simp[hC];refine TL.di ag [0] 1 (Vm) OU rfl rfl rfl rfl xr Qe Qd rfl (TL.go' ag ?_);simp[hC,wq];refine aa.trim [6,4,5,3,2] [21,0,1,2,4,5,19] 22 Vt yA ⟨⟨eC (97+out.length),false,1+q.1⟩,q.2,by rw[if_neg h1,if_pos h2],Ts,?_⟩;simp[cI]
     ·have h2:¬ k.1=2:=by simpa using h
      apply T.skip;simp;refine aa.trim [6,4,5,3,2] [21,0,1,2,4,5,19] 22 Vt yA ⟨⟨eC (97+out.length),false,0⟩,k.2,by rw[if_neg h1,if_neg h2],Qn,?_⟩;simp[cI]
    rintro s ⟨m,i2,hm,Qn,rfl⟩;have hb:(out.length+1)*32<=140737488355328:=by omega
    have Q3:(gq out).cells.length=out.length*3:=aA (f:=cI) (n:=3) (λ _=>rfl) out;have Qm:(gq out).sz=3:=rfl;have Tb:(gq out).elem=98:=rfl;have wo:=cw ((out.length:Int)+1) yA yA;refine T.rx ag follows [0,1,2,3,4,5,6,7,8,9,10,11,12] [(5,7)] GK ?_;simp[hC,dU,cI,Q3,Qm,Tb,hb,aS];apply aG;simp[hC,wo];refine⟨n,by omega,?_⟩;refine aa.le (Le.trim [4,5,3,2] [0,1,2,5,19,35] 36 Z7 yA) ?_;simp;refine aa.le (Le.ph 35 4 rfl rfl yA xr xr yDh) ?_;simp[aI,ints];refine aa.trim [4,5,3,2] [0,1,2,4,5,19] 20 XB yA ⟨out++[m],i2,?_,?_,Qn,?_⟩
    ·rw[hM,hm];simp
    ·simp;omega
    ·simp[aI,ints,dU,gq,cI,mh,dE]
 ·rintro s rfl;obtain⟨_,Q3,X0,SW⟩:=AE L (1+nm.1) 0 nm.2 yA;have Qn:=SW PH;obtain⟨ms,Qm⟩:∃ ms,rH L (1+nm.1) 0 nm.2=ms:=⟨_,rfl⟩;simp only[Qm] at hR Q3 X0 Qn |-;clear SW;have QV:=cT L ms.2 3 Qn hL yA yA;have Ts:=bu L 3 Qn;have QK:=dF L ms.2 (show 0<3 by omega);obtain⟨ng,QE⟩:∃ ng,cA L ms.2 3=ng:=⟨_,rfl⟩;rw[QE] at QV Ts QK;simp only[QE] at hR;apply aq;simp[hC];refine T.cut (λ s=>s=⟨[(7,.bg 6 0 ng.1),(3,.ax 1 0),(2,.ax 19 0)],[(0,aI L (wS L ng.1 0 ng.2).2),(1,dU ng.1 ms.1.length 0 24 (decide (a.1=1))),(2,⟨136,3,[]⟩),(4,gq ms.1),(5,g7 (wS L ng.1 0 ng.2).1),(6,bw ((wS L ng.1 0 ng.2).1.map (·.name))),(19,⟨27,0,mh⟩)],20⟩) ?_ ?_
  ·clear hR;apply aq;simp[hC,dU];refine TL.di ag [0] 1 (QV) OU rfl rfl rfl rfl xr Qe Qd rfl (TL.go' ag ?_);simp[hC];apply T.block;generalize Z4:wS L ng.1 0 ng.2=MS;have ew:(⟨128,0,[CV.ax 0 0,CV.bg 5 0 0,CV.bg 4 0 ms.1.length,CV.bg 2 0 0,I 24,CV.bool (decide (a.1=1))]⟩:Ob)=dU 0 ms.1.length 0 24 (decide (a.1=1)):=rfl;refine T.aQ (J34b L (decide (a.1=1)) ms.1 MS ng.1) (n:=ng.1) ?_ ?_
   ·refine aa.le (Le.own 7 9 1 rfl) ?_;simp;refine aa.le (Le.ph 20 6 rfl rfl yA xr xr yDh) ?_;simp[aI,ints];refine aa.trim [8,9,7,3,2] [0,1,2,4,5,6,19] 20 XB yA ⟨[],ng.2,?_,by simp,Ts,?_⟩
    ·simp[Z4]
    ·simp[aI,ints,dU,g7,bw,mh,dE]
   ·rintro n s ⟨out,i,hM,Qc,hi,rfl⟩
    cases n with
    | zero=>
     have ho:out.length=ng.1:=by omega
     have OT:¬ ((out.length:Int)<ng.1):=by omega
     apply aT;simp[hC,OT];refine bh ?_;simp;apply T.exit;simp;refine aa.trim [7,3,2] [0,1,2,4,5,6,19] 20 Vx yA ?_;rw[hM];simp[wS,ho,dU]
    | succ n=>
     have ho:out.length<=1:=by omega
     obtain⟨c1,c2,c3,c4⟩:=o0 out.length yA 48 48 rfl yA;have OT:(out.length:Int)<ng.1:=by omega
     have QP:=cT L i 5 hi hL yA yA;have Qn:=bu L 5 hi;have hlt5:=dF L i (show 0<5 by omega);rw[wS] at hM;obtain⟨k,hk⟩:∃ k,cA L i 5=k:=⟨_,rfl⟩;simp only[hk] at QP Qn hlt5 hM;have wk:=cw ((k.1:Int)-2) yA yA;have UZ:(⟨#[48+UInt8.ofNat out.length]⟩:ByteArray)=eC (48+out.length):=by simp[eC]
     have so:lW BinOp.add ⟨#[103]⟩ (eC (48+out.length))=some (.str (⟨#[103]⟩++eC (48+out.length))):=rfl;apply aT;simp[hC,OT];refine iI ?_;simp;apply eZ;apply T.seq;refine T.rx ag follows [0,1,2,3,4,5,6,7,8,9,13,10,11,12,14] [(2,13),(2,10),(3,9),(3,13),(3,10),(4,13),(4,10),(9,13),(13,10)] GK ?_;simp[hC,dU,c1,c2,c3,c4,UZ,so];refine RX.di [0] [0] 1 (QP) rfl xr rfl rfl rfl rfl xr Qe Qd rfl rfl rfl xr ?_;simp[wk];refine T.le (Le.trim [10,8,9,7,3,2] [0,1,2,4,5,6,19,33] 34 Vt yA) ?_;simp;have hb:(out.length+1)*24<=140737488355328:=by omega
     have Q0:(out.length+1)*16<=140737488355328:=by omega
     have T8:(g7 out).cells.length=out.length*2:=aA (f:=pE) (n:=2) (λ _=>rfl) out;have Xh:(g7 out).sz=2:=rfl;have SD:(g7 out).elem=132:=rfl;have Vl:(bw (out.map (·.name))).cells.length=out.length:=by simp[bw]
     have RN:(bw (out.map (·.name))).sz=1:=rfl;have Pp:(bw (out.map (·.name))).elem=9:=rfl;have wo:=cw ((out.length:Int)+1) yA yA;refine T.rx ag follows [0,1,2,3,4,5,6,7,8,9,10,11,12,13,14,15,16,17,18] [(5,7),(5,12),(6,12),(7,11),(7,12),(8,11),(8,12)] GK ?_;simp[hC,hb,Q0,T8,Xh,SD,Vl,RN,Pp,aS];apply aG;simp[hC,wo];refine⟨n,by omega,?_⟩;refine aa.le (Le.trim [8,9,7,3,2] [0,1,2,4,19,53,54] 55 Z7 yA) ?_;simp;refine aa.le (Le.ph 53 5 rfl rfl yA xr xr yDh) ?_;simp[aI,ints];refine aa.le (Le.ph 54 6 rfl rfl yA xr xr XB) ?_;simp;refine aa.trim [8,9,7,3,2] [0,1,2,4,5,6,19] 20 XB yA ⟨out++[⟨⟨#[103]⟩++eC (48+out.length),(k.1:Int)-2⟩],k.2,?_,?_,Qn,?_⟩
     ·rw[hM];simp
     ·simp;omega
     ·simp[aI,ints,dU,g7,pE,bw,mh,dE]
  ·rintro s rfl;obtain⟨_,T8,hgz,X3⟩:=H0 L ng.1 0 ng.2 yA;have Vp:=X3 Ts;obtain⟨gs,Xh⟩:∃ gs,wS L ng.1 0 ng.2=gs:=⟨_,rfl⟩;simp only[Xh] at hR T8 hgz Vp |-;clear X3;rw[<- T8];have Vm:=cT L gs.2 4 Vp hL yA yA;have Wu:=bu L 4 Vp;have UO:=dF L gs.2 (show 0<4 by omega);obtain⟨nf,Zb⟩:∃ nf,cA L gs.2 4=nf:=⟨_,rfl⟩;rw[Zb] at Vm Wu UO;simp only[Zb] at hR;apply aq;simp[hC,dU];refine TL.di ag [0] 1 (Vm) OU rfl rfl rfl rfl xr Qe Qd rfl (TL.go' ag ?_);simp[hC];refine T.cut (λ s=>s=⟨[(7,.bg 6 0 gs.1.length),(3,.ax 1 0),(2,.ax 19 0)],[(0,aI L (vN L (nf.1+1) 0 nf.2).2),(1,dU gs.1.length ms.1.length (vN L (nf.1+1) 0 nf.2).1.length 24 (decide (a.1=1))),(2,dr (vN L (nf.1+1) 0 nf.2).1),(4,gq ms.1),(5,g7 gs.1),(6,bw (gs.1.map (·.name))),(19,⟨27,0,mh⟩)],20⟩) ?_ ?_
   ·clear hR;apply aq;simp[hC];apply T.block;generalize Z4:vN L (nf.1+1) 0 nf.2=MS;refine T.aQ (J34c L (decide (a.1=1)) ms.1 gs.1 MS nf.1) (n:=nf.1+1) ?_ ?_
    ·refine aa.trim [12,11,7,3,2] [0,1,2,4,5,6,19] 20 Vt yA ⟨[],nf.2,by simp[Z4],by simp,Wu,?_⟩;simp[dU,dr]
    ·rintro n s ⟨out,i,hM,Qc,hi,rfl⟩
     cases n with
     | zero=>
      have ho:out.length=nf.1+1:=by omega
      have OT:¬ ((out.length:Int)<=nf.1):=by omega
      apply aT;simp[hC,OT];refine bh ?_;simp;apply T.exit;simp;refine aa.trim [7,3,2] [0,1,2,4,5,6,19] 20 Vx yA ?_;rw[hM];simp[vN,ho,dU]
     | succ n=>
      obtain⟨j,hj⟩:∃ j,out.length=j:=⟨_,rfl⟩;simp only[hj] at hM Qc |-;have ho:j<=3:=by omega
      obtain⟨c1,c2,c3,c4⟩:=o0 j yA 48 48 rfl yA;have OT:(j:Int)<=nf.1:=by omega
      have UZ:(⟨#[48+UInt8.ofNat j]⟩:ByteArray)=eC (48+j):=by simp[eC]
      have so:lW BinOp.add ⟨#[102]⟩ (eC (48+j))=some (.str (⟨#[102]⟩++eC (48+j))):=rfl;apply aT;simp[hC,OT];refine iI ?_;simp;apply eZ;refine T.seq (T.B1 ag ?_);simp[hC,c1,c2,c3,c4,UZ,so];refine T.le (Le.trim [13,12,11,7,3,2] [0,1,2,4,5,6,19,21] 22 Vx yA) ?_;simp;rw[vN] at hM;simp only at hM;obtain⟨XM,UK⟩:∃ x,(if j=0 then (⟨#[109,97,105,110]⟩:ByteArray) else ⟨#[102]⟩++eC (48+j))=x:=⟨_,rfl⟩;rw[UK] at hM;refine T.cut (λ s=>s=⟨[(13,.ax 21 0),(12,I j),(11,I nf.1),(7,.bg 6 0 gs.1.length),(3,.ax 1 0),(2,.ax 19 0)],[(0,aI L i),(1,dU gs.1.length ms.1.length j 24 (decide (a.1=1))),(2,dr out),(4,gq ms.1),(5,g7 gs.1),(6,bw (gs.1.map (·.name))),(19,⟨27,0,mh⟩),(21,⟨136,0,[.str XM,.ak,.ak]⟩)],22⟩) ?_ ?_
      ·apply aq;simp[hC];refine T.bB rfl (λ h=>?_) (λ h=>?_)
       ·have h0:j=0:=by
         simp at h;omega
        rw[if_pos h0] at UK;apply aG;simp[hC];refine aa.trim [13,12,11,7,3,2] [0,1,2,4,5,6,19,21] 22 Vx yA ?_;simp[UK]
       ·have h0:¬ j=0:=by
         simp at h;omega
        rw[if_neg h0] at UK;apply T.skip;simp;refine aa.trim [13,12,11,7,3,2] [0,1,2,4,5,6,19,21] 22 Vx yA ?_;simp[UK]
      rintro s rfl;have QP:=cT L i 3 hi hL yA yA;have Vo:=bu L 3 hi;have hlt6:=dF L i (show 0<3 by omega);obtain⟨k,hk⟩:∃ k,cA L i 3=k:=⟨_,rfl⟩;rw[hk] at QP Vo hlt6;simp only[hk] at hM;obtain⟨PM,hPM⟩:∃ x,DG L (if j=0 then 0 else k.1) k.2=x:=⟨_,rfl⟩;rw[hPM] at hM;have Rv:PM.2<=L.length/\PM.1.length<=2:=by
       rw[<- hPM];have h1:(if j=0 then 0 else k.1)<=2:=by split<;>omega
       obtain⟨_,p2,p3⟩:=G6 L (if j=0 then 0 else k.1) k.2 h1;exact⟨p3 Vo,by omega⟩
      refine T.cut (λ s=>s=⟨[(13,.ax 21 0),(12,I j),(11,I nf.1),(7,.bg 6 0 gs.1.length),(3,.ax 1 0),(2,.ax 19 0)],[(0,aI L PM.2),(1,dU gs.1.length ms.1.length j 24 (decide (a.1=1))),(2,dr out),(4,gq ms.1),(5,g7 gs.1),(6,bw (gs.1.map (·.name))),(19,⟨27,0,mh⟩),(21,⟨136,0,[.str XM,.bg 22 0 PM.1.length,.ak]⟩),(22,nB PM.1)],23⟩) ?_ ?_
      ·apply aq;simp[hC,dU];refine TL.di ag [0] 1 (QP) OU rfl rfl rfl rfl xr Qe Qd rfl (TL.go' ag ?_);simp[hC];apply T.block;refine T.aQ (J34d L (decide (a.1=1)) ms.1 gs.1 out j nf.1 XM PM) (n:=if j=0 then 0 else k.1) ?_ ?_
       ·refine aa.le (Le.lq 21 1 138 2 rfl rfl) ?_;simp;refine aa.trim [14,13,12,11,7,3,2] [0,1,2,4,5,6,19,21,22] 23 Vt yA ⟨k.1,[],k.2,?_,rfl,?_,Vo,?_⟩
        ·simp[hPM]
        ·simp;omega
        ·simp[dU,nB]
       ·rintro n1 s ⟨m,po,i1,hP,R5,XY,hi7,rfl⟩;by_cases hg:0<n1
        ·have h0:¬ j=0:=by
          intro h;rw[if_pos h] at R5;omega
         rw[if_neg h0] at R5;subst R5;obtain⟨m,rfl⟩:∃ q,n1=q+1:=⟨n1-1,by omega⟩;have g1:0<j:=by omega
         rw[DG] at hP;have Y8:=cT L i1 3 hi7 hL yA yA;have Zx:=bu L 3 hi7;obtain⟨q,hq⟩:∃ q,cA L i1 3=q:=⟨_,rfl⟩;simp only[hq] at Y8 Zx hP;obtain⟨mm,UL⟩:∃ mm,m+1=mm:=⟨_,rfl⟩;simp only[UL] at hP |-;obtain⟨d1,d2,d3,d4⟩:=o0 mm yA 48 48 rfl yA;have hch1:(⟨#[48+UInt8.ofNat mm]⟩:ByteArray)=eC (48+mm):=by simp[eC]
         have so1:lW BinOp.add ⟨#[112]⟩ (eC (48+mm))=some (.str (⟨#[112]⟩++eC (48+mm))):=rfl;have hmp:0<mm:=by omega
         apply aT;simp[hC,g1,hmp];refine iI ?_;simp;refine T.seq (T.block (T.seq ?_));refine T.rx ag follows [0,1,2,3,4,5,6,7,8,9,13,10,11,12,14] [(2,13),(2,10),(3,9),(3,13),(3,10),(4,13),(4,10),(9,13),(13,10)] GK ?_;simp[hC,dU,d1,d2,d3,d4,hch1,so1];refine RX.di [0] [0] 1 (Y8) rfl xr rfl rfl rfl rfl xr Qe Qd rfl rfl rfl xr ?_;simp;have hb:(po.length+1)*24<=140737488355328:=by omega
         have T8:(nB po).cells.length=po.length*2:=aA (f:=ln) (n:=2) (λ _=>rfl) po;have Xh:(nB po).sz=2:=rfl;have SD:(nB po).elem=138:=rfl;have wo:=cw (m:Int) yA yA;have wm:(mm:Int)-1=(m:Int):=by omega
         apply aG;simp[hC,hb,T8,Xh,SD,aS];apply aG;simp[hC,wm,wo];refine⟨m,by omega,?_⟩;refine aa.le (Le.trim [14,13,12,11,7,3,2] [0,1,2,4,5,6,19,21,39] 40 Z7 yA) ?_;simp;refine aa.le (Le.ph 39 22 rfl rfl yA xr xr (by simp[aI,ints,mh,dr,-all_eq_true,-all_flatMap,bC (dj out)])) ?_;simp[aI,ints];refine aa.trim [14,13,12,11,7,3,2] [0,1,2,4,5,6,19,21,22] 23 XB yA ⟨m,po++[⟨⟨#[112]⟩++eC (48+mm),decide (0<q.1)⟩],q.2,?_,?_,?_,Zx,?_⟩
         ·rw[hP];simp
         ·rw[if_neg h0]
         ·simp;omega
         ·simp[aI,ints,dU,nB,ln,mh,dE]
        ·have Rc:n1=0:=by omega
         have Z2:PM=(po,i1):=by
          rw[hP,Rc];simp[DG]
         by_cases SC:0<m
         ·have g1:¬ 0<j:=by
           intro h;rw[if_neg yA] at R5;omega
          apply aT;simp[hC,SC,g1];refine bh ?_;simp;apply T.exit;simp;refine aa.trim [13,12,11,7,3,2] [0,1,2,4,5,6,19,21,22] 23 Vx yA ?_;simp[Z2,dU]
         ·apply aT;simp[hC,SC];refine bh ?_;simp;apply T.exit;simp;refine aa.trim [13,12,11,7,3,2] [0,1,2,4,5,6,19,21,22] 23 Vx yA ?_;simp[Z2,dU]
      rintro s rfl;refine T.le (Le.nz [] [21]) ?_;simp[nz];refine T.le (Le.cF (o:=22) rfl (nQ PM.1)) ?_;have Pb:take (PM.1.length*(nB PM.1).sz) (nB PM.1).cells=PM.1.flatMap ln:=take_of_length_le (Nat.le_of_eq (aA (f:=ln) (n:=2) (λ _=>rfl) PM.1));simp[cK,Pb,dU];have hb:(j+1)*64<=140737488355328:=by omega
      have T8:(dr out).cells.length=j*3:=by rw[<- hj];exact aA (f:=fD) (n:=3) (λ _=>rfl) out
      have Xh:(dr out).sz=3:=rfl;have SD:(dr out).elem=136:=rfl;have wo:=cw ((j:Int)+1) yA yA;refine T.rx ag follows [0,1,2,3,4,5,6,7,8,9,10,11,12] [(5,7)] GK ?_;simp[hC,T8,Xh,SD,hb,aS];apply aG;simp[hC,wo];refine⟨n,by omega,?_⟩;refine aa.le (Le.trim [12,11,7,3,2] [0,1,4,5,6,19,36] 37 (by simp[aI,mh,cK,-all_eq_true,-all_flatMap]) yA) ?_;simp;refine aa.le (Le.ph 36 2 rfl rfl yA xr xr (by simp[aI,ints,mh,cK,-all_eq_true,-all_flatMap])) ?_;simp[aI,ints];refine aa.trim [12,11,7,3,2] [0,1,2,4,5,6,19] 20 (by simp[mh,dE,cK,-all_eq_true,-all_flatMap]) yA ⟨out++[⟨XM,PM.1,[]⟩],PM.2,?_,?_,Rv.1,?_⟩
      ·rw[hM];simp[hj]
      ·simp;omega
      ·simp[aI,ints,dU,dr,fD,bS,mh,dE,cK,hj]
   ·rintro s rfl;obtain⟨_,PS,X4,PI,X5⟩:=H3 L (nf.1+1) 0 nf.2 yA;have Vo:=X5 Wu;obtain⟨fs,Qq⟩:∃ fs,vN L (nf.1+1) 0 nf.2=fs:=⟨_,rfl⟩;simp only[Qq] at hR PS X4 PI Vo |-;clear X5;refine T.le (Le.cF (o:=5) rfl (jm gs.1)) ?_;have Pb:take (gs.1.length*(g7 gs.1).sz) (g7 gs.1).cells=gs.1.flatMap pE:=take_of_length_le (Nat.le_of_eq (aA (f:=pE) (n:=2) (λ _=>rfl) gs.1));simp[cK,Pb,dU];refine T.le (Le.cF (o:=4) rfl (dm ms.1)) ?_;have YQ:take (ms.1.length*(gq ms.1).sz) (gq ms.1).cells=ms.1.flatMap cI:=take_of_length_le (Nat.le_of_eq (aA (f:=cI) (n:=3) (λ _=>rfl) ms.1));simp[cK,YQ];refine T.le (Le.trim [7,3,2] [0,1,2,6,19] 20 (by simp[aI,mh,cK,-all_eq_true,-all_flatMap]) yA) ?_;simp;have ew:(⟨128,0,[CV.ax 0 0,CV.au (gs.1.flatMap pE) gs.1.length,CV.au (ms.1.flatMap cI) ms.1.length,CV.bg 2 0 fs.1.length,.int .i64 24,CV.bool (decide (a.1=1))]⟩:Ob)=bO gs.1 ms.1 fs.1.length 24 (decide (a.1=1)):=rfl;rw[ew];clear ew Pb YQ;have h19:(mh.map (cK 4 (gq ms.1).cells (gq ms.1).sz∘cK 5 (g7 gs.1).cells (g7 gs.1).sz))=mh:=rfl;rw[h19];clear h19;have hmp:0<ms.1.length:=by omega
    have O0:∀ m∈ms.1,m.size<=1000:=λ m hm=>by have:=(X0 m hm).1;omega
    have Qx:∀ f∈fs.1,f.params.length<=2:=λ f hf=>by
     obtain⟨_,k,h1,h2⟩:=X4 f hf;have:=congrArg length h2;simp[nP] at this;omega
    refine T.cut (λ s=>∃ (i left:Nat),s=⟨[(3,.ax 1 0),(2,.ax 19 0)],[(0,aI L i),(1,bO gs.1 ms.1 R.fs.length left (decide (a.1=1))),(2,dr R.fs),(19,⟨27,0,mh⟩)],20⟩) ?_ ?_
    ·apply aq;simp[hC];apply T.block;refine T.aQ (J34e L (decide (a.1=1)) ms.1 gs.1 fs.1 (nf.1+1) R.fs) (n:=nf.1+1) ?_ ?_
     ·refine aa.trim [16,7,3,2] [0,1,2,6,19] 20 (by simp[aI,mh,bO]) yA ⟨0,fs.1,fs.2,24,?_,by omega,by omega,rfl,Qx,by omega,Vo,?_⟩
      ·rw[<- hR]
      ·simp
     ·rintro n s ⟨j,fl,i,left,hM,hjn,PV,T1,W4,hlt24,hi,rfl⟩
      cases n with
      | zero=>
       have hj:¬ j<fl.length:=by omega
       have Rq:R.fs=fl:=by rw[hM];rfl
       apply aT;simp[hC,bO,hj];refine bh ?_;simp;apply T.exit;simp;refine aa.trim [3,2] [0,1,2,19] 20 Vt yA ⟨i,left,?_⟩;simp[Rq]
      | succ n=>
       have hj:j<fl.length:=by omega
       obtain⟨f,hf⟩:∃ f,fl[j]? = some f:=⟨fl[j],getElem?_eq_getElem hj⟩;have SE:=W4 f (mem_of_getElem? hf);apply aT;simp[hC,bO,hj];refine iI ?_;simp;have hobl:(jO gs.1 f.params).length<=10:=by
        have h2:=DJ f.params;unfold jO;rw[length_append,length_map];omega
       have V8:=EA L hL gs.1 ms.1 hmp yA O0 (decide (a.1=1)) fl yA yA (λ f hf=>by have:=W4 f hf;omega) f.name f.params yA (bS f.body) f.body.length left left (jO gs.1 f.params) 2 6 i (Nat.le_refl _) yA yA yA yA hi;have hM2:=hM;rw[KO,hf] at hM2;simp only at hM2;have hwr:qj L (decide (a.1=1)) ms.1 fl=⟨L,decide (a.1=1),ms.1,fs.1.map λ f=>(f.name,f.params)⟩:=by
        have h2:fl.map (λ f=>(f.name,f.params))=fs.1.map λ f=>(f.name,f.params):=T1;simp only[qj,h2]
       obtain⟨Yb,S8⟩:=uK (qj L (decide (a.1=1)) ms.1 fl) f.params left (jO gs.1 f.params) 2 6 i left hi;rw[hwr] at V8 Yb S8;obtain⟨b,hb⟩:∃ b,nJ ⟨L,decide (a.1=1),ms.1,fs.1.map λ f=>(f.name,f.params)⟩ f.params left (jO gs.1 f.params) 2 6 i left=b:=⟨_,rfl⟩;rw[hb] at V8 Yb S8;rw[hb] at hM2;have O2:(dr fl).cells.length=fl.length*3:=aA (f:=fD) (n:=3) (λ _=>rfl) fl;have hs1:j*3+2<fl.length*3:=by omega
       have WZ:j*3+2+1<=fl.length*3:=by omega
       have hs3:j*3+3<=fl.length*3:=by omega
       have ew:(⟨128,0,[CV.ax 0 0,CV.au (gs.1.flatMap pE) gs.1.length,CV.au (ms.1.flatMap cI) ms.1.length,CV.bg 2 0 fl.length,I left,CV.bool (decide (a.1=1))]⟩:Ob)=bO gs.1 ms.1 fl.length left (decide (a.1=1)):=rfl;have hfc:gK f.name f.params (bS f.body) f.body.length=[.str f.name,.au (f.params.flatMap ln) f.params.length,.au (bS f.body) f.body.length]:=rfl;rw[hfc] at V8;have O6:=M6 hf b.1;refine T.cut (λ s=>s=⟨[(16,I j),(7,.bg 6 0 gs.1.length),(3,.ax 1 0),(2,.ax 19 0)],[(0,aI L b.2.1),(1,bO gs.1 ms.1 fl.length b.2.2 (decide (a.1=1))),(2,dr (fl.set j ⟨f.name,f.params,b.1⟩)),(6,bw (gs.1.map (·.name))),(19,⟨27,0,mh⟩)],20⟩) ?_ ?_
       rotate_left
       ·rintro s rfl;have wj:=cw ((j:Int)+1) yA yA;apply aG;simp[hC,wj];refine⟨n,by omega,aa.trim [16,7,3,2] [0,1,2,6,19] 20 (by simp[aI,mh,bO]) yA ⟨j+1,fl.set j ⟨f.name,f.params,b.1⟩,b.2.1,b.2.2,hM2,by omega,by simp[PV],?_,?_,by omega,Yb,?_⟩⟩
        ·rw[GU (f':=⟨f.name,f.params,b.1⟩) hf rfl];exact T1
        ·intro f' Xk;rcases mem_or_eq_of_mem_set Xk with h | h
         ·exact W4 f' h
         ·rw[h];exact SE
        ·simp
       apply T.block;have hb0:gs.1.length*16<=140737488355328:=by omega
       have Vl:(bw (gs.1.map (·.name))).cells.length=gs.1.length:=by simp[bw]
       have RN:(bw (gs.1.map (·.name))).sz=1:=rfl;have Pp:(bw (gs.1.map (·.name))).elem=9:=rfl;apply aq;simp[hC,hb0,Vl,RN];have Pb:take gs.1.length (bw (gs.1.map (·.name))).cells=(bw (gs.1.map (·.name))).cells:=take_of_length_le (Nat.le_of_eq Vl);simp only[Pb,ew];have OS:(dr fl).cells.drop (j*3)=fD f++(fl.drop (j+1)).flatMap fD:=aH (f:=fD) (n:=3) (λ _=>rfl) hf;have QO:(dr fl).cells.drop (j*3+1)=(fD f).drop 1++(fl.drop (j+1)).flatMap fD:=cq (f:=fD) (n:=3) (λ _=>rfl) hf 1 yA;have UE:(dr fl).sz=3:=rfl;refine T.cut (λ s=>s=⟨[(17,.bg 21 0 (jO gs.1 f.params).length),(16,I j),(7,.bg 6 0 gs.1.length),(3,.ax 1 0),(2,.ax 19 0)],[(0,aI L i),(1,bO gs.1 ms.1 fl.length left (decide (a.1=1))),(2,dr fl),(6,bw (gs.1.map (·.name))),(19,⟨27,0,mh⟩),(21,bw (jO gs.1 f.params))],22⟩) ?_ ?_
       ·apply aq;simp[hC];apply T.block;refine T.aQ (J34f L (decide (a.1=1)) ms.1 gs.1 fl f i left j) (n:=f.params.length) ?_ ?_
        ·refine aa.trim [18,17,16,7,3,2] [0,1,2,6,19,21] 22 (by simp[aI,mh,bO]) yA ⟨0,by simp,by omega,?_⟩;simp[bw]
        ·rintro n1 s ⟨q,hq,TJ,rfl⟩;obtain⟨ow,TK⟩:∃ ow,gs.1.map (·.name)++(f.params.take q).flatMap (λ p=>if p.mutex=true then [] else [p.name])=ow:=⟨_,rfl⟩;have Sf:ow.length<=10:=by
          have h2:=DJ (f.params.take q);rw[length_take] at h2;rw[<- TK,length_append,length_map];omega
         rw[TK];by_cases XU:q<f.params.length
         ·obtain⟨p,hp⟩:∃ p,f.params[q]? = some p:=⟨f.params[q],getElem?_eq_getElem XU⟩;have hpd:(f.params.flatMap ln).drop (q*2)=ln p++(f.params.drop (q+1)).flatMap ln:=aH (f:=ln) (n:=2) (λ _=>rfl) hp;have hpd1:(f.params.flatMap ln).drop (q*2+1)=(ln p).drop 1++(f.params.drop (q+1)).flatMap ln:=cq (f:=ln) (n:=2) (λ _=>rfl) hp 1 yA;apply aT;simp[hC,bO,hj,QO,fD,XU];refine iI ?_;simp;apply eZ;have TF:f.params.take (q+1)=f.params.take q++[p]:=by rw[take_add_one,hp];rfl
          have wq:=cw ((q:Int)+1) yA yA;obtain⟨pn,pmx⟩:=p
          cases pmx with
          | true=>
           apply aq;simp[hC,hj,QO,fD,XU,hpd,ln];refine bh ?_;simp;apply T.skip;simp;apply aG;simp[hC,wq];refine⟨f.params.length-(q+1),by omega,?_⟩;refine aa.trim [18,17,16,7,3,2] [0,1,2,6,19,21] 22 Vt yA ⟨q+1,rfl,by omega,?_⟩;rw[TF,flatMap_append,<- append_assoc,TK];simp[bO]
          | false=>
           apply aq;simp[hC,hj,QO,fD,XU,hpd,ln];refine cX ?_;simp;have Tg:(ow.length+1)*16<=140737488355328:=by omega
           have hwl:(bw ow).cells.length=ow.length:=by simp[bw]
           have hws:(bw ow).sz=1:=rfl;have hwe:(bw ow).elem=9:=rfl;apply aG;simp[hC,hj,QO,fD,XU,hpd,ln,Tg,hwl,hws,hwe,aS];apply aG;simp[hC,wq];refine⟨f.params.length-(q+1),by omega,?_⟩;refine aa.le (Le.trim [18,17,16,7,3,2] [0,1,2,6,19,23] 24 Z7 yA) ?_;simp;refine aa.le (Le.ph 23 21 rfl rfl yA xr xr (by simp[aI,ints,mh,dr,-all_eq_true,-all_flatMap,bC (dj fl)])) ?_;simp[aI,ints];refine aa.trim [18,17,16,7,3,2] [0,1,2,6,19,21] 22 XB yA ⟨q+1,rfl,by omega,?_⟩;rw[TF,flatMap_append,<- append_assoc,TK];simp[aI,ints,bO,bw,mh,dE]
         ·have hqe:q=f.params.length:=by omega
          apply aT;simp[hC,bO,hj,QO,fD,XU];refine bh ?_;simp;apply T.exit;simp;refine aa.trim [17,16,7,3,2] [0,1,2,6,19,21] 22 Vt yA ?_;have how2:ow=jO gs.1 f.params:=by
           rw[<- TK,hqe,take_length];rfl
          rw[<- how2];simp
       rintro s rfl;refine T.rxw ag follows [(1,3,[.bg 2 0 fl.length])] (by simp[wG,zS,bO]) [0,1,2,3,4,5,6,7,8,9,10,11,12,13,14,15,16,17,18,19] [(4,16)] GK ?_;simp[hC,bO,yj];refine RX.quiet (.bg 2 0 fl.length) rfl xr rfl (XV.load ag rfl rfl xr rfl rfl) ?_;simp[yj];refine RX.quiet (.bg 2 0 fl.length) rfl xr rfl (XV.load ag rfl rfl xr rfl rfl) ?_;simp[hj,OS,fD,yj];rw[ew];refine RX.jG 3 21 [0,1,2,21] [0,1] 4 (V8) rfl xr rfl rfl rfl xr yA xr xr rfl xr Tz rfl xr xr xr rfl xr ?_;simp[hj,UE,O2,WZ,-gC,qe,fj,Nz,zS,yj];simp[bO,O6,-gC];refine aa.trim [16,7,3,2] [0,1,2,6,19] 20 (by simp[aI,mh,-all_eq_true,-all_flatMap,-gC]) yA ?_;simp[-gC];rfl
    ·rintro s ⟨i,left,rfl⟩;apply aq;simp[hC,bO,mh];apply T.ret;refine aa.le (Le.trim [2] [2,19] 20 RY yA) ?_;simp;refine aa.le (Le.cF (o:=2) rfl (dj R.fs)) ?_;have htk3:take (R.fs.length*(dr R.fs).sz) (dr R.fs).cells=R.fs.flatMap fD:=take_of_length_le (Nat.le_of_eq (aA (f:=fD) (n:=3) (λ _=>rfl) R.fs));simp[cK,htk3];apply aa.here;simp[xB,eU];rw[<- hR];exact⟨⟨rfl,rfl⟩,⟨rfl,rfl⟩⟩
end Go.Proofs.YtlkmbdfhdknlgaaGreat
