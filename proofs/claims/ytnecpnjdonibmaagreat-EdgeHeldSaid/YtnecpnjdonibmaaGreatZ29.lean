/- lockordermade.Program. -/
import Derived.Test.YtnecpnjdonibmaaGreatZ28
import Derived.Test.YtnecpnjdonibmaaGreatZ24
namespace Go.Proofs.YtnecpnjdonibmaaGreat
open Go.Can Go.aP
def gk (l:List Mx):Ob:=⟨93,3,l.flatMap eJ⟩
def gZ (l:List Gl):Ob:=⟨188,2,l.flatMap px⟩
def lN:List CV:=[.aa,.aa,.aa]
def dG (ng nm nf left:Nat)(ar:Bool):Ob:=⟨185,0,[.ax 0 0,.bl 5 0 ng,.bl 4 0 nm,.bl 2 0 nf,I left,.bool ar]⟩
def J34 (L:List Int)(ar:Bool)(MS:List Mx×Nat)(N:Nat)(m:Nat)(s:St):Prop:=∃ (out:List Mx) (i:Nat),MS=(out++(ru L m out.length i).1,(ru L m out.length i).2)∧m+out.length=N∧i≤L.length∧
 s=⟨[(4,I out.length),(5,I N),(3,.ax 1 0),(2,.ax 19 0)],[(0,aI L i),(1,dG 0 out.length 0 24 ar),(2,⟨192,3,[]⟩),(4,gk out),(5,⟨188,2,[]⟩),(19,⟨27,0,lN⟩)],20⟩
def J34b (L:List Int)(ar:Bool)(ms:List Mx)(MS:List Gl×Nat)(N:Nat)(m:Nat)(s:St):Prop:=∃ (out:List Gl) (i:Nat),MS=(out++(wZ L m out.length i).1,(wZ L m out.length i).2)∧m+out.length=N∧i≤L.length∧
 s=⟨[(8,I out.length),(9,I N),(7,.bl 6 0 out.length),(3,.ax 1 0),(2,.ax 19 0)],[(0,aI L i),(1,dG out.length ms.length 0 24 ar),(2,⟨192,3,[]⟩),(4,gk ms),(5,gZ out),(6,bg (out.map (·.name))),(19,⟨27,0,lN⟩)],20⟩
def J34c (L:List Int)(ar:Bool)(ms:List Mx)(gs:List Gl)(MS:List Fu×Nat)(N:Nat)(m:Nat)(s:St):Prop:=∃ (out:List Fu) (i:Nat),MS=(out++(vJ L m out.length i).1,(vJ L m out.length i).2)∧m+out.length=N+1∧i≤L.length∧
 s=⟨[(12,I out.length),(11,I N),(7,.bl 6 0 gs.length),(3,.ax 1 0),(2,.ax 19 0)],[(0,aI L i),(1,dG gs.length ms.length out.length 24 ar),(2,cV out),(4,gk ms),(5,gZ gs),(6,bg (gs.map (·.name))),(19,⟨27,0,lN⟩)],20⟩
theorem oR (c:Nat)(hc:c≤10)(k:Int)(m:Nat)(hm:k=m)(Ug:m≤100):IntKind.i64.wrap (k+c)=k+c∧IntKind.u8.wrap (k+c)=k+c∧(0≤k+c∧k+c<256)∧(k+c).toNat=m+c:=by
 refine⟨cC _ yA yA,IntWalk.u8_in _ yA,by omega,by omega⟩
theorem aQ {α:Type}{f:α→List CV}(hf:∀ x,trees (f x)=true)(l:List α):trees (l.flatMap f)=true:=by
 induction l with
 | nil=>rfl
 | cons a r ih=>rw[List.flatMap_cons,bC,hf,ih];rfl
mutual
theorem Bm (o:Nat)(ds:List CV)(n:Nat):∀ c:CV,tree c=true→cH o ds n c=c
 | .bl _ _ _,h=>by simp[tree] at h
 | .ax _ _,h=>by simp[tree] at h
 | .iter _ _ _,h=>by simp[tree] at h
 | .mp _ _,h=>by simp[tree] at h
 | .agg cs,h=>by
  simp only[tree] at h;rw[cH,lT o ds n cs h]
 | .fn _ cs,h=>by
  simp only[tree] at h;rw[cH,lT o ds n cs h]
 | .iface _ cs,h=>by
  simp only[tree] at h;rw[cH,lT o ds n cs h]
 | .dS cs,h=>by
  simp only[tree] at h;rw[cH,lT o ds n cs h]
 | .int _ _,_=>rfl
 | .bool _,_=>rfl
 | .str _,_=>rfl
 | .aA _ _,_=>rfl
 | .aa,_=>rfl
 | .cG _,_=>rfl
 | .bL,_=>rfl
 | .cA,_=>rfl
 | .any,_=>rfl
theorem lT (o:Nat)(ds:List CV)(n:Nat):∀ cs:List CV,trees cs=true→iv o ds n cs=cs
 | [],_=>rfl
 | c::cs,h=>by
  simp only[trees,Bool.and_eq_true] at h;rw[iv,Bm o ds n c h.1,lT o ds n cs h.2]
end
theorem cI {cs:List CV}(h:trees cs=true)(o:Nat)(ds:List CV)(n:Nat):cs.map (cH o ds n)=cs:=by
 rw[List.map_congr_left (g:=id) fun c hc=>Bm o ds n c (iA h c hc),List.map_id]
theorem fH (l:List Mx):trees (l.flatMap eJ)=true:=aQ (fun _=>rfl) l
theorem jg (l:List Gl):trees (l.flatMap px)=true:=aQ (fun _=>rfl) l
@[simp] theorem mxOb_lt (l:List Mx)(n:Nat):(gk l).cells.all (a9 n)=true:=ah (fH l) n
@[simp] theorem mxOb_lts (l:List Mx)(n:Nat):aX n (gk l).cells=true:=by rw[cB];exact ah (fH l) n
@[simp] theorem mxOb_ok1 (l:List Mx)(o q:Nat):(gk l).cells.all (nc o q)=true:=bj (fH l) o q
@[simp] theorem OH (l:List Mx)(o q:Nat):(gk l).cells.map (dk o q)=(gk l).cells:=aZ (fH l) o q
@[simp] theorem mxOb_frz (l:List Mx)(o:Nat)(cs:List CV)(n:Nat):(⟨(gk l).elem,(gk l).sz,(gk l).cells.map (cH o cs n)⟩:Ob)=gk l:=by rw[cI (cs:=(gk l).cells) (fH l)]
@[simp] theorem glOb_frz (l:List Gl)(o:Nat)(cs:List CV)(n:Nat):(⟨(gZ l).elem,(gZ l).sz,(gZ l).cells.map (cH o cs n)⟩:Ob)=gZ l:=by rw[cI (cs:=(gZ l).cells) (jg l)]
@[simp] theorem mxOb_eta (l:List Mx):(⟨(gk l).elem,(gk l).sz,(gk l).cells⟩:Ob)=gk l:=rfl
@[simp] theorem glOb_lt (l:List Gl)(n:Nat):(gZ l).cells.all (a9 n)=true:=ah (jg l) n
@[simp] theorem glOb_lts (l:List Gl)(n:Nat):aX n (gZ l).cells=true:=by rw[cB];exact ah (jg l) n
@[simp] theorem glOb_ok1 (l:List Gl)(o q:Nat):(gZ l).cells.all (nc o q)=true:=bj (jg l) o q
@[simp] theorem OL (l:List Gl)(o q:Nat):(gZ l).cells.map (dk o q)=(gZ l).cells:=aZ (jg l) o q
@[simp] theorem glOb_eta (l:List Gl):(⟨(gZ l).elem,(gZ l).sz,(gZ l).cells⟩:Ob)=gZ l:=rfl
def m9 (l:List Pm):Ob:=⟨194,2,l.flatMap lh⟩
theorem nB (l:List Pm):trees (l.flatMap lh)=true:=aQ (fun _=>rfl) l
@[simp] theorem pmOb_lt (l:List Pm)(n:Nat):(m9 l).cells.all (a9 n)=true:=ah (nB l) n
@[simp] theorem pmOb_lts (l:List Pm)(n:Nat):aX n (m9 l).cells=true:=by rw[cB];exact ah (nB l) n
@[simp] theorem pmOb_ok1 (l:List Pm)(o q:Nat):(m9 l).cells.all (nc o q)=true:=bj (nB l) o q
@[simp] theorem Og (l:List Pm)(o q:Nat):(m9 l).cells.map (dk o q)=(m9 l).cells:=aZ (nB l) o q
@[simp] theorem pmOb_eta (l:List Pm):(⟨(m9 l).elem,(m9 l).sz,(m9 l).cells⟩:Ob)=m9 l:=rfl
def J34d (L:List Int)(ar:Bool)(ms:List Mx)(gs:List Gl)(out:List Fu)(j N:Nat)(XR:ByteArray)(PM:List Pm×Nat)(n:Nat)(s:St):Prop:=∃ (m:Nat) (po:List Pm) (i:Nat),PM=(po++(DQ L n i).1,(DQ L n i).2)∧n=(if j=0 then 0 else m)∧m+po.length≤2∧i≤L.length∧
 s=⟨[(14,I m),(13,.ax 21 0),(12,I j),(11,I N),(7,.bl 6 0 gs.length),(3,.ax 1 0),(2,.ax 19 0)],[(0,aI L i),(1,dG gs.length ms.length j 24 ar),(2,cV out),(4,gk ms),(5,gZ gs),(6,bg (gs.map (·.name))),(19,⟨27,0,lN⟩),(21,⟨192,0,[.str XR,.bl 22 0 po.length,.aa]⟩),(22,m9 po)],23⟩
def J34e (L:List Int)(ar:Bool)(ms:List Mx)(gs:List Gl)(fs0:List Fu)(N:Nat)(RF:List Fu)(n:Nat)(s:St):Prop:=∃ (j:Nat) (fl:List Fu) (i left:Nat),RF=Lb ⟨L,ar,ms,fs0.map fun f=>(f.name,f.params)⟩ gs n j fl i left∧n+j=N∧fl.length=N∧fl.map sg=fs0.map sg∧(∀ f∈fl,f.params.length≤2)∧left≤24∧i≤L.length∧
 s=⟨[(16,I j),(7,.bl 6 0 gs.length),(3,.ax 1 0),(2,.ax 19 0)],[(0,aI L i),(1,bp gs ms fl.length left ar),(2,cV fl),(6,bg (gs.map (·.name))),(19,⟨27,0,lN⟩)],20⟩
theorem DT (l:List Pm):(l.flatMap fun p=>if p.mutex=true then [] else [p.name]).length≤l.length:=by
 induction l with
 | nil=>exact Nat.le_refl _
 | cons x r ih=>
  rw[List.flatMap_cons,List.length_append,List.length_cons];split
  ·simp only[List.length_nil];omega
  ·simp only[List.length_cons,List.length_nil];omega
theorem Nm {fl:List Fu}{j:Nat}{f:Fu}(h:fl[j]? = some f)(b:List Sm):fD (cV fl).cells (j*3+2) [.aA (bx b) b.length]=(cV (fl.set j ⟨f.name,f.params,b⟩)).cells:=by
 induction fl generalizing j with
 | nil=>simp at h
 | cons a r ih=>
  cases j with
  | zero=>
   simp only[List.getElem?_cons_zero,Option.some.injEq] at h;subst h;simp[cV,fq,fD]
  | succ j=>
   simp only[List.getElem?_cons_succ] at h;have e:=ih h;simp only[cV,fD,List.flatMap_cons,List.set_cons_succ] at e ⊢;rw[show (j+1)*3+2=(fq a).length+(j*3+2) by simp[fq];omega,List.take_append,List.take_of_length_le yA,Nat.add_sub_cancel_left,show (fq a).length+(j*3+2)+[CV.aA (bx b) b.length].length=(fq a).length+(j*3+2+[CV.aA (bx b) b.length].length) by omega,List.drop_append,List.drop_of_length_le yA,Nat.add_sub_cancel_left,List.nil_append,List.append_assoc,List.append_assoc,← List.append_assoc (List.take _ _),e]
def J34f (L:List Int)(ar:Bool)(ms:List Mx)(gs:List Gl)(fl:List Fu)(f:Fu)(i left j:Nat)(n:Nat)(s:St):Prop:=∃ q:Nat,n=f.params.length-q∧q≤f.params.length∧
 s=⟨[(18,I q),(17,.bl 21 0 (gs.map (·.name)++(f.params.take q).flatMap (fun p=>if p.mutex=true then [] else [p.name])).length),(16,I j),(7,.bl 6 0 gs.length),(3,.ax 1 0),(2,.ax 19 0)],[(0,aI L i),(1,bp gs ms fl.length left ar),(2,cV fl),(6,bg (gs.map (·.name))),(19,⟨27,0,lN⟩),(21,bg (gs.map (·.name)++(f.params.take q).flatMap (fun p=>if p.mutex=true then [] else [p.name])))],22⟩
set_option maxHeartbeats 8000000 in
theorem Cv (l:List Int)(hl:l.length≤9223372036854775807):af Tryz.prog 67 [ints l] (xJ (D2 l)):=by
 generalize hR:D2 l=R;refine af.aK ai Tryz.func67 rfl OV (by simp[Tryz.ntmps67]) rfl fun C hC O0=>?_;rw[Tryz.ntmps67] at hC;apply aq;simp[hC];apply aq;simp[hC];refine dz Pc (Nv l 400 hl) ?_;simp[hC];have hL:(l.take 400).length≤1000:=by simp;omega
 simp only[D2] at hR;generalize l.take 400=L at hL hR;refine T.le (Le.up 20 OU) ?_;simp;refine T.le (Le.trim [3,2] [0,1,2] 20 OU yA) ?_;simp;refine T.le (Le.oX 0 19 rfl rfl yA OU OU (by simp[ints])) ?_;simp[ints];refine T.le (Le.oX 1 0 rfl rfl yA OU OU OU) ?_;simp;refine T.le (Le.oX 2 1 rfl rfl yA OU OU OU) ?_;simp;refine T.le (Le.pO 1 3 192 3 rfl rfl) ?_;simp;refine T.le (Le.pO 1 2 93 3 rfl rfl) ?_;simp;refine T.le (Le.pO 1 1 188 2 rfl rfl) ?_;simp;refine T.le (Le.oX 20 2 rfl rfl yA OU OU OU) ?_;simp;refine T.le (Le.oX 21 4 rfl rfl yA OU OU OU) ?_;simp;refine T.le (Le.oX 22 5 rfl rfl yA OU OU OU) ?_;simp;refine T.le (Le.trim [3,2] [0,1,2,4,5,19] 20 OU yA) ?_;simp;have es:(⟨110,0,[CV.aA (L.map wE) L.length,.int .i64 0]⟩:Ob)=aI L 0:=rfl;rw[es];have Ui:=ba L 3 (Nat.zero_le L.length);have Sl:=cE L 0 3 (Nat.zero_le _) hL yA yA;obtain⟨a,ha⟩:∃ a,cd L 0 3=a:=⟨_,rfl⟩;rw[ha] at Ui Sl;simp only[ha] at hR;apply aq;simp[hC];refine TL.cK ai [0] 1 (Sl) O5 rfl rfl rfl rfl OU Qc Qb rfl (TL.go' ai ?_);simp[hC];have PI:=ba L 4 Ui;have Vr:=cE L a.2 4 Ui hL yA yA;have Xc:=dm L a.2 (show 0<4 by omega);obtain⟨nm,P2⟩:∃ nm,cd L a.2 4=nm:=⟨_,rfl⟩;rw[P2] at PI Vr Xc;simp only[P2] at hR;have w1:=cC (1+(nm.1:Int)) yA yA;refine T.cut (fun s=>s=⟨[(3,.ax 1 0),(2,.ax 19 0)],[(0,aI L (ru L (1+nm.1) 0 nm.2).2),(1,dG 0 (ru L (1+nm.1) 0 nm.2).1.length 0 24 (decide (a.1=1))),(2,⟨192,3,[]⟩),(4,gk (ru L (1+nm.1) 0 nm.2).1),(5,⟨188,2,[]⟩),(19,⟨27,0,lN⟩)],20⟩) ?_ ?_
 ·clear hR;apply aq;simp[hC];refine TL.cK ai [0] 1 (Vr) O5 rfl rfl rfl rfl OU Qc Qb rfl (TL.go' ai ?_);simp[hC,w1];apply T.block;generalize ZQ:ru L (1+nm.1) 0 nm.2=MS;refine T.aH (J34 L (decide (a.1=1)) MS (1+nm.1)) (n:=1+nm.1) ?_ ?_
  ·refine ae.trim [4,5,3,2] [0,1,2,4,5,19] 20 SN yA ⟨[],nm.2,by simp[ZQ],by simp,PI,?_⟩;simp[dG,gk,lN]
  ·rintro n s ⟨out,i,hM,PW,hi,rfl⟩
   cases n with
   | zero=>
    have ho:out.length=1+nm.1:=by omega
    have O1:¬ ((out.length:Int)<1+nm.1):=by omega
    apply aO;simp[hC,O1];refine a7 ?_;simp;apply T.exit;simp;refine ae.trim [3,2] [0,1,2,4,5,19] 20 VC yA ?_;rw[hM];simp[ru]
   | succ n=>
    have ho:out.length≤3:=by omega
    obtain⟨c1,c2,c3,c4⟩:=oR out.length yA 97 97 rfl yA;have O1:(out.length:Int)<1+nm.1:=by omega
    apply aO;simp[hC,O1];refine fB ?_;simp;apply ed;refine T.seq (T.BZ ai ?_);simp[hC,c1,c2,c3,c4];refine T.le (Le.trim [6,4,5,3,2] [0,1,2,4,5,19,21] 22 VC yA) ?_;simp;have RN:(⟨#[97+UInt8.ofNat out.length]⟩:ByteArray)=ep (97+out.length):=by simp[ep]
    rw[RN];refine T.cut (fun s=>∃ (m:Mx) (i2:Nat),ru L (n+1) out.length i=(m::(ru L n (out.length+1) i2).1,(ru L n (out.length+1) i2).2)∧i2≤L.length∧
     s=⟨[(6,.ax 21 0),(4,I out.length),(5,I (1+nm.1)),(3,.ax 1 0),(2,.ax 19 0)],[(21,⟨93,0,eJ m⟩),(0,aI L i2),(1,dG 0 out.length 0 24 (decide (a.1=1))),(2,⟨192,3,[]⟩),(4,gk out),(5,⟨188,2,[]⟩),(19,⟨27,0,lN⟩)],22⟩) ?_ ?_
    ·have Qa:=cE L i 5 hi hL yA yA;have Qs:=ba L 5 hi;rw[ru];obtain⟨k,hk⟩:∃ k,cd L i 5=k:=⟨_,rfl⟩;simp only[hk] at Qa Qs ⊢;apply aq;simp[hC,dG];refine TL.cK ai [0] 1 (Qa) O5 rfl rfl rfl rfl OU Qc Qb rfl (TL.go' ai ?_);simp;apply T.block;apply aq;simp[hC];refine T.bh rfl (fun h=>?_) (fun h=>?_)
     ·have h1:k.1=1:=by simpa using h
      apply aV;simp[hC];refine ae.trim [6,4,5,3,2] [21,0,1,2,4,5,19] 22 VA yA ⟨⟨ep (97+out.length),true,0⟩,k.2,by rw[if_pos h1],Qs,?_⟩;simp[eJ]
     have h1:¬ k.1=1:=by simpa using h
     apply aq;simp[hC];refine T.bh rfl (fun h=>?_) (fun h=>?_)
     ·have h2:k.1=2:=by simpa using h
      have Y6:=cE L k.2 3 Qs hL yA yA;have SH:=ba L 3 Qs;have Xb:=dm L k.2 (show 0<3 by omega);obtain⟨q,hq⟩:∃ q,cd L k.2 3=q:=⟨_,rfl⟩;simp only[hq] at Y6 SH Xb ⊢;have wq:=cC (1+(q.1:Int)) yA yA;apply aV;simp[hC];refine TL.cK ai [0] 1 (Y6) O5 rfl rfl rfl rfl OU Qc Qb rfl (TL.go' ai ?_);simp[hC,wq];refine ae.trim [6,4,5,3,2] [21,0,1,2,4,5,19] 22 VA yA ⟨⟨ep (97+out.length),false,1+q.1⟩,q.2,by rw[if_neg h1,if_pos h2],SH,?_⟩;simp[eJ]
     ·have h2:¬ k.1=2:=by simpa using h
      apply T.skip;simp;refine ae.trim [6,4,5,3,2] [21,0,1,2,4,5,19] 22 VA yA ⟨⟨ep (97+out.length),false,0⟩,k.2,by rw[if_neg h1,if_neg h2],Qs,?_⟩;simp[eJ]
    rintro s ⟨m,i2,hm,Qs,rfl⟩;have hb:(out.length+1)*32≤140737488355328:=by omega
    have P3:(gk out).cells.length=out.length*3:=bM (f:=eJ) (n:=3) (fun _=>rfl) out;have Qx:(gk out).sz=3:=rfl;have Xa:(gk out).elem=93:=rfl;have wo:=cC ((out.length:Int)+1) yA yA;refine T.rx ai follows [0,1,2,3,4,5,6,7,8,9,10,11,12] [(5,7)] OV ?_;simp[hC,dG,eJ,P3,Qx,Xa,hb,bb];apply aV;simp[hC,wo];refine⟨n,by omega,?_⟩;refine ae.le (Le.trim [4,5,3,2] [0,1,2,5,19,35] 36 Z0 yA) ?_;simp;refine ae.le (Le.oX 35 4 rfl rfl yA OU OU yCl) ?_;simp[aI,ints];refine ae.trim [4,5,3,2] [0,1,2,4,5,19] 20 XK yA ⟨out++[m],i2,?_,?_,Qs,?_⟩
    ·rw[hM,hm];simp
    ·simp;omega
    ·simp[aI,ints,dG,gk,eJ,lN,dk]
 ·rintro s rfl;obtain⟨_,P3,XY,W9⟩:=AT L (1+nm.1) 0 nm.2 yA;have Qs:=W9 PI;obtain⟨ms,Qx⟩:∃ ms,ru L (1+nm.1) 0 nm.2=ms:=⟨_,rfl⟩;simp only[Qx] at hR P3 XY Qs ⊢;clear W9;have R6:=cE L ms.2 3 Qs hL yA yA;have SH:=ba L 3 Qs;have R7:=dm L ms.2 (show 0<3 by omega);obtain⟨ng,UO⟩:∃ ng,cd L ms.2 3=ng:=⟨_,rfl⟩;rw[UO] at R6 SH R7;simp only[UO] at hR;apply aq;simp[hC];refine T.cut (fun s=>s=⟨[(7,.bl 6 0 ng.1),(3,.ax 1 0),(2,.ax 19 0)],[(0,aI L (wZ L ng.1 0 ng.2).2),(1,dG ng.1 ms.1.length 0 24 (decide (a.1=1))),(2,⟨192,3,[]⟩),(4,gk ms.1),(5,gZ (wZ L ng.1 0 ng.2).1),(6,bg ((wZ L ng.1 0 ng.2).1.map (·.name))),(19,⟨27,0,lN⟩)],20⟩) ?_ ?_
  ·clear hR;apply aq;simp[hC,dG];refine TL.cK ai [0] 1 (R6) O5 rfl rfl rfl rfl OU Qc Qb rfl (TL.go' ai ?_);simp[hC];apply T.block;generalize ZQ:wZ L ng.1 0 ng.2=MS;have ew:(⟨185,0,[CV.ax 0 0,CV.bl 5 0 0,CV.bl 4 0 ms.1.length,CV.bl 2 0 0,I 24,CV.bool (decide (a.1=1))]⟩:Ob)=dG 0 ms.1.length 0 24 (decide (a.1=1)):=rfl;refine T.aH (J34b L (decide (a.1=1)) ms.1 MS ng.1) (n:=ng.1) ?_ ?_
   ·refine ae.le (Le.own 7 9 1 rfl) ?_;simp;refine ae.le (Le.oX 20 6 rfl rfl yA OU OU yCl) ?_;simp[aI,ints];refine ae.trim [8,9,7,3,2] [0,1,2,4,5,6,19] 20 XK yA ⟨[],ng.2,?_,by simp,SH,?_⟩
    ·simp[ZQ]
    ·simp[aI,ints,dG,gZ,bg,lN,dk]
   ·rintro n s ⟨out,i,hM,PW,hi,rfl⟩
    cases n with
    | zero=>
     have ho:out.length=ng.1:=by omega
     have O1:¬ ((out.length:Int)<ng.1):=by omega
     apply aO;simp[hC,O1];refine a7 ?_;simp;apply T.exit;simp;refine ae.trim [7,3,2] [0,1,2,4,5,6,19] 20 VC yA ?_;rw[hM];simp[wZ,ho,dG]
    | succ n=>
     have ho:out.length≤1:=by omega
     obtain⟨c1,c2,c3,c4⟩:=oR out.length yA 48 48 rfl yA;have O1:(out.length:Int)<ng.1:=by omega
     have Qa:=cE L i 5 hi hL yA yA;have Qs:=ba L 5 hi;have hlt5:=dm L i (show 0<5 by omega);rw[wZ] at hM;obtain⟨k,hk⟩:∃ k,cd L i 5=k:=⟨_,rfl⟩;simp only[hk] at Qa Qs hlt5 hM;have wk:=cC ((k.1:Int)-2) yA yA;have RN:(⟨#[48+UInt8.ofNat out.length]⟩:ByteArray)=ep (48+out.length):=by simp[ep]
     have so:lK BinOp.add ⟨#[103]⟩ (ep (48+out.length))=some (.str (⟨#[103]⟩++ep (48+out.length))):=rfl;apply aO;simp[hC,O1];refine fB ?_;simp;apply ed;apply T.seq;refine T.rx ai follows [0,1,2,3,4,5,6,7,8,9,13,10,11,12,14] [(2,13),(2,10),(3,9),(3,13),(3,10),(4,13),(4,10),(9,13),(13,10)] OV ?_;simp[hC,dG,c1,c2,c3,c4,RN,so];refine RX.cK [0] [0] 1 (Qa) rfl OU rfl rfl rfl rfl OU Qc Qb rfl rfl rfl OU ?_;simp[wk];refine T.le (Le.trim [10,8,9,7,3,2] [0,1,2,4,5,6,19,33] 34 VA yA) ?_;simp;have hb:(out.length+1)*24≤140737488355328:=by omega
     have Qz:(out.length+1)*16≤140737488355328:=by omega
     have TY:(gZ out).cells.length=out.length*2:=bM (f:=px) (n:=2) (fun _=>rfl) out;have Xi:(gZ out).sz=2:=rfl;have RW:(gZ out).elem=188:=rfl;have Qe:(bg (out.map (·.name))).cells.length=out.length:=by simp[bg]
     have RL:(bg (out.map (·.name))).sz=1:=rfl;have Pf:(bg (out.map (·.name))).elem=9:=rfl;have wo:=cC ((out.length:Int)+1) yA yA;refine T.rx ai follows [0,1,2,3,4,5,6,7,8,9,10,11,12,13,14,15,16,17,18] [(5,7),(5,12),(6,12),(7,11),(7,12),(8,11),(8,12)] OV ?_;simp[hC,hb,Qz,TY,Xi,RW,Qe,RL,Pf,bb];apply aV;simp[hC,wo];refine⟨n,by omega,?_⟩;refine ae.le (Le.trim [8,9,7,3,2] [0,1,2,4,19,53,54] 55 Z0 yA) ?_;simp;refine ae.le (Le.oX 53 5 rfl rfl yA OU OU yCl) ?_;simp[aI,ints];refine ae.le (Le.oX 54 6 rfl rfl yA OU OU XK) ?_;simp;refine ae.trim [8,9,7,3,2] [0,1,2,4,5,6,19] 20 XK yA ⟨out++[⟨⟨#[103]⟩++ep (48+out.length),(k.1:Int)-2⟩],k.2,?_,?_,Qs,?_⟩
     ·rw[hM];simp
     ·simp;omega
     ·simp[aI,ints,dG,gZ,px,bg,lN,dk]
  ·rintro s rfl;obtain⟨_,TY,hgz,SU⟩:=IF L ng.1 0 ng.2 yA;have Vt:=SU SH;obtain⟨gs,Xi⟩:∃ gs,wZ L ng.1 0 ng.2=gs:=⟨_,rfl⟩;simp only[Xi] at hR TY hgz Vt ⊢;clear SU;rw[← TY];have Y6:=cE L gs.2 4 Vt hL yA yA;have Wo:=ba L 4 Vt;have Xb:=dm L gs.2 (show 0<4 by omega);obtain⟨nf,Y3⟩:∃ nf,cd L gs.2 4=nf:=⟨_,rfl⟩;rw[Y3] at Y6 Wo Xb;simp only[Y3] at hR;apply aq;simp[hC,dG];refine TL.cK ai [0] 1 (Y6) O5 rfl rfl rfl rfl OU Qc Qb rfl (TL.go' ai ?_);simp[hC];refine T.cut (fun s=>s=⟨[(7,.bl 6 0 gs.1.length),(3,.ax 1 0),(2,.ax 19 0)],[(0,aI L (vJ L (nf.1+1) 0 nf.2).2),(1,dG gs.1.length ms.1.length (vJ L (nf.1+1) 0 nf.2).1.length 24 (decide (a.1=1))),(2,cV (vJ L (nf.1+1) 0 nf.2).1),(4,gk ms.1),(5,gZ gs.1),(6,bg (gs.1.map (·.name))),(19,⟨27,0,lN⟩)],20⟩) ?_ ?_
   ·clear hR;apply aq;simp[hC];apply T.block;generalize ZQ:vJ L (nf.1+1) 0 nf.2=MS;refine T.aH (J34c L (decide (a.1=1)) ms.1 gs.1 MS nf.1) (n:=nf.1+1) ?_ ?_
    ·refine ae.trim [12,11,7,3,2] [0,1,2,4,5,6,19] 20 VA yA ⟨[],nf.2,by simp[ZQ],by simp,Wo,?_⟩;simp[dG,cV]
    ·rintro n s ⟨out,i,hM,PW,hi,rfl⟩
     cases n with
     | zero=>
      have ho:out.length=nf.1+1:=by omega
      have O1:¬ ((out.length:Int)≤nf.1):=by omega
      apply aO;simp[hC,O1];refine a7 ?_;simp;apply T.exit;simp;refine ae.trim [7,3,2] [0,1,2,4,5,6,19] 20 VC yA ?_;rw[hM];simp[vJ,ho,dG]
     | succ n=>
      obtain⟨j,hj⟩:∃ j,out.length=j:=⟨_,rfl⟩;simp only[hj] at hM PW ⊢;have ho:j≤3:=by omega
      obtain⟨c1,c2,c3,c4⟩:=oR j yA 48 48 rfl yA;have O1:(j:Int)≤nf.1:=by omega
      have RN:(⟨#[48+UInt8.ofNat j]⟩:ByteArray)=ep (48+j):=by simp[ep]
      have so:lK BinOp.add ⟨#[102]⟩ (ep (48+j))=some (.str (⟨#[102]⟩++ep (48+j))):=rfl;apply aO;simp[hC,O1];refine fB ?_;simp;apply ed;refine T.seq (T.BZ ai ?_);simp[hC,c1,c2,c3,c4,RN,so];refine T.le (Le.trim [13,12,11,7,3,2] [0,1,2,4,5,6,19,21] 22 VC yA) ?_;simp;rw[vJ] at hM;simp only at hM;obtain⟨XR,UN⟩:∃ x,(if j=0 then (⟨#[109,97,105,110]⟩:ByteArray) else ⟨#[102]⟩++ep (48+j))=x:=⟨_,rfl⟩;rw[UN] at hM;refine T.cut (fun s=>s=⟨[(13,.ax 21 0),(12,I j),(11,I nf.1),(7,.bl 6 0 gs.1.length),(3,.ax 1 0),(2,.ax 19 0)],[(0,aI L i),(1,dG gs.1.length ms.1.length j 24 (decide (a.1=1))),(2,cV out),(4,gk ms.1),(5,gZ gs.1),(6,bg (gs.1.map (·.name))),(19,⟨27,0,lN⟩),(21,⟨192,0,[.str XR,.aa,.aa]⟩)],22⟩) ?_ ?_
      ·apply aq;simp[hC];refine T.bh rfl (fun h=>?_) (fun h=>?_)
       ·have h0:j=0:=by
         simp at h;omega
        rw[if_pos h0] at UN;apply aV;simp[hC];refine ae.trim [13,12,11,7,3,2] [0,1,2,4,5,6,19,21] 22 VC yA ?_;simp[UN]
       ·have h0:¬ j=0:=by
         simp at h;omega
        rw[if_neg h0] at UN;apply T.skip;simp;refine ae.trim [13,12,11,7,3,2] [0,1,2,4,5,6,19,21] 22 VC yA ?_;simp[UN]
      rintro s rfl;have Qa:=cE L i 3 hi hL yA yA;have Vs:=ba L 3 hi;have hlt6:=dm L i (show 0<3 by omega);obtain⟨k,hk⟩:∃ k,cd L i 3=k:=⟨_,rfl⟩;rw[hk] at Qa Vs hlt6;simp only[hk] at hM;obtain⟨PM,hPM⟩:∃ x,DQ L (if j=0 then 0 else k.1) k.2=x:=⟨_,rfl⟩;rw[hPM] at hM;have XX:PM.2≤L.length∧PM.1.length≤2:=by
       rw[← hPM];have h1:(if j=0 then 0 else k.1)≤2:=by split<;>omega
       obtain⟨_,p2,p3⟩:=HM L (if j=0 then 0 else k.1) k.2 h1;exact⟨p3 Vs,by omega⟩
      refine T.cut (fun s=>s=⟨[(13,.ax 21 0),(12,I j),(11,I nf.1),(7,.bl 6 0 gs.1.length),(3,.ax 1 0),(2,.ax 19 0)],[(0,aI L PM.2),(1,dG gs.1.length ms.1.length j 24 (decide (a.1=1))),(2,cV out),(4,gk ms.1),(5,gZ gs.1),(6,bg (gs.1.map (·.name))),(19,⟨27,0,lN⟩),(21,⟨192,0,[.str XR,.bl 22 0 PM.1.length,.aa]⟩),(22,m9 PM.1)],23⟩) ?_ ?_
      ·apply aq;simp[hC,dG];refine TL.cK ai [0] 1 (Qa) O5 rfl rfl rfl rfl OU Qc Qb rfl (TL.go' ai ?_);simp[hC];apply T.block;refine T.aH (J34d L (decide (a.1=1)) ms.1 gs.1 out j nf.1 XR PM) (n:=if j=0 then 0 else k.1) ?_ ?_
       ·refine ae.le (Le.pO 21 1 194 2 rfl rfl) ?_;simp;refine ae.trim [14,13,12,11,7,3,2] [0,1,2,4,5,6,19,21,22] 23 VA yA ⟨k.1,[],k.2,?_,rfl,?_,Vs,?_⟩
        ·simp[hPM]
        ·simp;omega
        ·simp[dG,m9]
       ·rintro n1 s ⟨m,po,i1,hP,Vr,hpo,hi7,rfl⟩;by_cases hg:0<n1
        ·have h0:¬ j=0:=by
          intro h;rw[if_pos h] at Vr;omega
         rw[if_neg h0] at Vr;subst Vr;obtain⟨m,rfl⟩:∃ q,n1=q+1:=⟨n1-1,by omega⟩;have g1:0<j:=by omega
         rw[DQ] at hP;have Y0:=cE L i1 3 hi7 hL yA yA;have Zn:=ba L 3 hi7;obtain⟨q,hq⟩:∃ q,cd L i1 3=q:=⟨_,rfl⟩;simp only[hq] at Y0 Zn hP;obtain⟨mm,Q8⟩:∃ mm,m+1=mm:=⟨_,rfl⟩;simp only[Q8] at hP ⊢;obtain⟨d1,d2,d3,d4⟩:=oR mm yA 48 48 rfl yA;have hch1:(⟨#[48+UInt8.ofNat mm]⟩:ByteArray)=ep (48+mm):=by simp[ep]
         have so1:lK BinOp.add ⟨#[112]⟩ (ep (48+mm))=some (.str (⟨#[112]⟩++ep (48+mm))):=rfl;have hmp:0<mm:=by omega
         apply aO;simp[hC,g1,hmp];refine fB ?_;simp;refine T.seq (T.block (T.seq ?_));refine T.rx ai follows [0,1,2,3,4,5,6,7,8,9,13,10,11,12,14] [(2,13),(2,10),(3,9),(3,13),(3,10),(4,13),(4,10),(9,13),(13,10)] OV ?_;simp[hC,dG,d1,d2,d3,d4,hch1,so1];refine RX.cK [0] [0] 1 (Y0) rfl OU rfl rfl rfl rfl OU Qc Qb rfl rfl rfl OU ?_;simp;have hb:(po.length+1)*24≤140737488355328:=by omega
         have TY:(m9 po).cells.length=po.length*2:=bM (f:=lh) (n:=2) (fun _=>rfl) po;have Xi:(m9 po).sz=2:=rfl;have RW:(m9 po).elem=194:=rfl;have wo:=cC (m:Int) yA yA;have wm:(mm:Int)-1=(m:Int):=by omega
         apply aV;simp[hC,hb,TY,Xi,RW,bb];apply aV;simp[hC,wm,wo];refine⟨m,by omega,?_⟩;refine ae.le (Le.trim [14,13,12,11,7,3,2] [0,1,2,4,5,6,19,21,39] 40 Z0 yA) ?_;simp;refine ae.le (Le.oX 39 22 rfl rfl yA OU OU (by simp[aI,ints,lN,cV,-List.all_eq_true,-List.all_flatMap,bj (cM out)])) ?_;simp[aI,ints];refine ae.trim [14,13,12,11,7,3,2] [0,1,2,4,5,6,19,21,22] 23 XK yA ⟨m,po++[⟨⟨#[112]⟩++ep (48+mm),decide (0<q.1)⟩],q.2,?_,?_,?_,Zn,?_⟩
         ·rw[hP];simp
         ·rw[if_neg h0]
         ·simp;omega
         ·simp[aI,ints,dG,m9,lh,lN,dk]
        ·have Sl:n1=0:=by omega
         have ZP:PM=(po,i1):=by
          rw[hP,Sl];simp[DQ]
         by_cases RR:0<m
         ·have g1:¬ 0<j:=by
           intro h;rw[if_neg yA] at Vr;omega
          apply aO;simp[hC,RR,g1];refine a7 ?_;simp;apply T.exit;simp;refine ae.trim [13,12,11,7,3,2] [0,1,2,4,5,6,19,21,22] 23 VC yA ?_;simp[ZP,dG]
         ·apply aO;simp[hC,RR];refine a7 ?_;simp;apply T.exit;simp;refine ae.trim [13,12,11,7,3,2] [0,1,2,4,5,6,19,21,22] 23 VC yA ?_;simp[ZP,dG]
      rintro s rfl;refine T.le (Le.nz [] [21]) ?_;simp[nz];refine T.le (Le.dp (o:=22) rfl (nB PM.1)) ?_;have Pd:List.take (PM.1.length*(m9 PM.1).sz) (m9 PM.1).cells=PM.1.flatMap lh:=List.take_of_length_le (Nat.le_of_eq (bM (f:=lh) (n:=2) (fun _=>rfl) PM.1));simp[cH,Pd,dG];have hb:(j+1)*64≤140737488355328:=by omega
      have TY:(cV out).cells.length=j*3:=by rw[← hj];exact bM (f:=fq) (n:=3) (fun _=>rfl) out
      have Xi:(cV out).sz=3:=rfl;have RW:(cV out).elem=192:=rfl;have wo:=cC ((j:Int)+1) yA yA;refine T.rx ai follows [0,1,2,3,4,5,6,7,8,9,10,11,12] [(5,7)] OV ?_;simp[hC,TY,Xi,RW,hb,bb];apply aV;simp[hC,wo];refine⟨n,by omega,?_⟩;refine ae.le (Le.trim [12,11,7,3,2] [0,1,4,5,6,19,36] 37 (by simp[aI,lN,cH,-List.all_eq_true,-List.all_flatMap]) yA) ?_;simp;refine ae.le (Le.oX 36 2 rfl rfl yA OU OU (by simp[aI,ints,lN,cH,-List.all_eq_true,-List.all_flatMap])) ?_;simp[aI,ints];refine ae.trim [12,11,7,3,2] [0,1,2,4,5,6,19] 20 (by simp[lN,dk,cH,-List.all_eq_true,-List.all_flatMap]) yA ⟨out++[⟨XR,PM.1,[]⟩],PM.2,?_,?_,XX.1,?_⟩
      ·rw[hM];simp[hj]
      ·simp;omega
      ·simp[aI,ints,dG,cV,fq,bx,lN,dk,cH,hj]
   ·rintro s rfl;obtain⟨_,PO,X2,hf0,hfi⟩:=IG L (nf.1+1) 0 nf.2 yA;have Vs:=hfi Wo;obtain⟨fs,Q4⟩:∃ fs,vJ L (nf.1+1) 0 nf.2=fs:=⟨_,rfl⟩;simp only[Q4] at hR PO X2 hf0 Vs ⊢;clear hfi;refine T.le (Le.dp (o:=5) rfl (jg gs.1)) ?_;have Pd:List.take (gs.1.length*(gZ gs.1).sz) (gZ gs.1).cells=gs.1.flatMap px:=List.take_of_length_le (Nat.le_of_eq (bM (f:=px) (n:=2) (fun _=>rfl) gs.1));simp[cH,Pd,dG];refine T.le (Le.dp (o:=4) rfl (fH ms.1)) ?_;have Sx:List.take (ms.1.length*(gk ms.1).sz) (gk ms.1).cells=ms.1.flatMap eJ:=List.take_of_length_le (Nat.le_of_eq (bM (f:=eJ) (n:=3) (fun _=>rfl) ms.1));simp[cH,Sx];refine T.le (Le.trim [7,3,2] [0,1,2,6,19] 20 (by simp[aI,lN,cH,-List.all_eq_true,-List.all_flatMap]) yA) ?_;simp;have ew:(⟨185,0,[CV.ax 0 0,CV.aA (gs.1.flatMap px) gs.1.length,CV.aA (ms.1.flatMap eJ) ms.1.length,CV.bl 2 0 fs.1.length,.int .i64 24,CV.bool (decide (a.1=1))]⟩:Ob)=bp gs.1 ms.1 fs.1.length 24 (decide (a.1=1)):=rfl;rw[ew];clear ew Pd Sx;have h19:(lN.map (cH 4 (gk ms.1).cells (gk ms.1).sz∘cH 5 (gZ gs.1).cells (gZ gs.1).sz))=lN:=rfl;rw[h19];clear h19;have hmp:0<ms.1.length:=by omega
    have O9:∀ m∈ms.1,m.size≤1000:=fun m hm=>by have:=(XY m hm).1;omega
    have PR:∀ f∈fs.1,f.params.length≤2:=fun f hf=>by
     obtain⟨_,k,h1,h2⟩:=X2 f hf;have:=congrArg List.length h2;simp[nP] at this;omega
    refine T.cut (fun s=>∃ (i left:Nat),s=⟨[(3,.ax 1 0),(2,.ax 19 0)],[(0,aI L i),(1,bp gs.1 ms.1 R.fs.length left (decide (a.1=1))),(2,cV R.fs),(19,⟨27,0,lN⟩)],20⟩) ?_ ?_
    ·apply aq;simp[hC];apply T.block;refine T.aH (J34e L (decide (a.1=1)) ms.1 gs.1 fs.1 (nf.1+1) R.fs) (n:=nf.1+1) ?_ ?_
     ·refine ae.trim [16,7,3,2] [0,1,2,6,19] 20 (by simp[aI,lN,bp]) yA ⟨0,fs.1,fs.2,24,?_,by omega,by omega,rfl,PR,by omega,Vs,?_⟩
      ·rw[← hR]
      ·simp
     ·rintro n s ⟨j,fl,i,left,hM,hjn,SF,TQ,WZ,hlt24,hi,rfl⟩
      cases n with
      | zero=>
       have hj:¬ j<fl.length:=by omega
       have Pq:R.fs=fl:=by rw[hM];rfl
       apply aO;simp[hC,bp,hj];refine a7 ?_;simp;apply T.exit;simp;refine ae.trim [3,2] [0,1,2,19] 20 VA yA ⟨i,left,?_⟩;simp[Pq]
      | succ n=>
       have hj:j<fl.length:=by omega
       obtain⟨f,hf⟩:∃ f,fl[j]? = some f:=⟨fl[j],List.getElem?_eq_getElem hj⟩;have Sn:=WZ f (List.mem_of_getElem? hf);apply aO;simp[hC,bp,hj];refine fB ?_;simp;have hobl:(jJ gs.1 f.params).length≤10:=by
        have h2:=DT f.params;unfold jJ;rw[List.length_append,List.length_map];omega
       have U7:=EY L hL gs.1 ms.1 hmp yA O9 (decide (a.1=1)) fl yA yA (fun f hf=>by have:=WZ f hf;omega) f.name f.params yA (bx f.body) f.body.length left left (jJ gs.1 f.params) 2 6 i (Nat.le_refl _) yA yA yA yA hi;have hM2:=hM;rw[Lb,hf] at hM2;simp only at hM2;have Yv:qa L (decide (a.1=1)) ms.1 fl=⟨L,decide (a.1=1),ms.1,fs.1.map fun f=>(f.name,f.params)⟩:=by
        have h2:fl.map (fun f=>(f.name,f.params))=fs.1.map fun f=>(f.name,f.params):=TQ;simp only[qa,h2]
       obtain⟨X5,P4⟩:=uD (qa L (decide (a.1=1)) ms.1 fl) f.params left (jJ gs.1 f.params) 2 6 i left hi;rw[Yv] at U7 X5 P4;obtain⟨b,hb⟩:∃ b,nu ⟨L,decide (a.1=1),ms.1,fs.1.map fun f=>(f.name,f.params)⟩ f.params left (jJ gs.1 f.params) 2 6 i left=b:=⟨_,rfl⟩;rw[hb] at U7 X5 P4;rw[hb] at hM2;have O7:(cV fl).cells.length=fl.length*3:=bM (f:=fq) (n:=3) (fun _=>rfl) fl;have hs1:j*3+2<fl.length*3:=by omega
       have Wi:j*3+2+1≤fl.length*3:=by omega
       have hs3:j*3+3≤fl.length*3:=by omega
       have ew:(⟨185,0,[CV.ax 0 0,CV.aA (gs.1.flatMap px) gs.1.length,CV.aA (ms.1.flatMap eJ) ms.1.length,CV.bl 2 0 fl.length,I left,CV.bool (decide (a.1=1))]⟩:Ob)=bp gs.1 ms.1 fl.length left (decide (a.1=1)):=rfl;have hfc:gK f.name f.params (bx f.body) f.body.length=[.str f.name,.aA (f.params.flatMap lh) f.params.length,.aA (bx f.body) f.body.length]:=rfl;rw[hfc] at U7;have Q7:=Nm hf b.1;refine T.cut (fun s=>s=⟨[(16,I j),(7,.bl 6 0 gs.1.length),(3,.ax 1 0),(2,.ax 19 0)],[(0,aI L b.2.1),(1,bp gs.1 ms.1 fl.length b.2.2 (decide (a.1=1))),(2,cV (fl.set j ⟨f.name,f.params,b.1⟩)),(6,bg (gs.1.map (·.name))),(19,⟨27,0,lN⟩)],20⟩) ?_ ?_
       rotate_left
       ·rintro s rfl;have wj:=cC ((j:Int)+1) yA yA;apply aV;simp[hC,wj];refine⟨n,by omega,ae.trim [16,7,3,2] [0,1,2,6,19] 20 (by simp[aI,lN,bp]) yA ⟨j+1,fl.set j ⟨f.name,f.params,b.1⟩,b.2.1,b.2.2,hM2,by omega,by simp[SF],?_,?_,by omega,X5,?_⟩⟩
        ·rw[Hr (f':=⟨f.name,f.params,b.1⟩) hf rfl];exact TQ
        ·intro f' Xm;rcases List.mem_or_eq_of_mem_set Xm with h | h
         ·exact WZ f' h
         ·rw[h];exact Sn
        ·simp
       apply T.block;have hb0:gs.1.length*16≤140737488355328:=by omega
       have Qe:(bg (gs.1.map (·.name))).cells.length=gs.1.length:=by simp[bg]
       have RL:(bg (gs.1.map (·.name))).sz=1:=rfl;have Pf:(bg (gs.1.map (·.name))).elem=9:=rfl;apply aq;simp[hC,hb0,Qe,RL];have Pd:List.take gs.1.length (bg (gs.1.map (·.name))).cells=(bg (gs.1.map (·.name))).cells:=List.take_of_length_le (Nat.le_of_eq Qe);simp only[Pd,ew];have OZ:(cV fl).cells.drop (j*3)=fq f++(fl.drop (j+1)).flatMap fq:=aN (f:=fq) (n:=3) (fun _=>rfl) hf;have QP:(cV fl).cells.drop (j*3+1)=(fq f).drop 1++(fl.drop (j+1)).flatMap fq:=bQ (f:=fq) (n:=3) (fun _=>rfl) hf 1 yA;have TN:(cV fl).sz=3:=rfl;refine T.cut (fun s=>s=⟨[(17,.bl 21 0 (jJ gs.1 f.params).length),(16,I j),(7,.bl 6 0 gs.1.length),(3,.ax 1 0),(2,.ax 19 0)],[(0,aI L i),(1,bp gs.1 ms.1 fl.length left (decide (a.1=1))),(2,cV fl),(6,bg (gs.1.map (·.name))),(19,⟨27,0,lN⟩),(21,bg (jJ gs.1 f.params))],22⟩) ?_ ?_
       ·apply aq;simp[hC];apply T.block;refine T.aH (J34f L (decide (a.1=1)) ms.1 gs.1 fl f i left j) (n:=f.params.length) ?_ ?_
        ·refine ae.trim [18,17,16,7,3,2] [0,1,2,6,19,21] 22 (by simp[aI,lN,bp]) yA ⟨0,by simp,by omega,?_⟩;simp[bg]
        ·rintro n1 s ⟨q,hq,QW,rfl⟩;obtain⟨ow,YX⟩:∃ ow,gs.1.map (·.name)++(f.params.take q).flatMap (fun p=>if p.mutex=true then [] else [p.name])=ow:=⟨_,rfl⟩;have hol:ow.length≤10:=by
          have h2:=DT (f.params.take q);rw[List.length_take] at h2;rw[← YX,List.length_append,List.length_map];omega
         rw[YX];by_cases Tu:q<f.params.length
         ·obtain⟨p,hp⟩:∃ p,f.params[q]? = some p:=⟨f.params[q],List.getElem?_eq_getElem Tu⟩;have hpd:(f.params.flatMap lh).drop (q*2)=lh p++(f.params.drop (q+1)).flatMap lh:=aN (f:=lh) (n:=2) (fun _=>rfl) hp;have hpd1:(f.params.flatMap lh).drop (q*2+1)=(lh p).drop 1++(f.params.drop (q+1)).flatMap lh:=bQ (f:=lh) (n:=2) (fun _=>rfl) hp 1 yA;apply aO;simp[hC,bp,hj,QP,fq,Tu];refine fB ?_;simp;apply ed;have Tr:f.params.take (q+1)=f.params.take q++[p]:=by rw[List.take_add_one,hp];rfl
          have wq:=cC ((q:Int)+1) yA yA;obtain⟨pn,pmx⟩:=p
          cases pmx with
          | true=>
           apply aq;simp[hC,hj,QP,fq,Tu,hpd,lh];refine a7 ?_;simp;apply T.skip;simp;apply aV;simp[hC,wq];refine⟨f.params.length-(q+1),by omega,?_⟩;refine ae.trim [18,17,16,7,3,2] [0,1,2,6,19,21] 22 VA yA ⟨q+1,rfl,by omega,?_⟩;rw[Tr,List.flatMap_append,← List.append_assoc,YX];simp[bp]
          | false=>
           apply aq;simp[hC,hj,QP,fq,Tu,hpd,lh];refine fE ?_;simp;have Si:(ow.length+1)*16≤140737488355328:=by omega
           have Vh:(bg ow).cells.length=ow.length:=by simp[bg]
           have hws:(bg ow).sz=1:=rfl;have hwe:(bg ow).elem=9:=rfl;apply aV;simp[hC,hj,QP,fq,Tu,hpd,lh,Si,Vh,hws,hwe,bb];apply aV;simp[hC,wq];refine⟨f.params.length-(q+1),by omega,?_⟩;refine ae.le (Le.trim [18,17,16,7,3,2] [0,1,2,6,19,23] 24 Z0 yA) ?_;simp;refine ae.le (Le.oX 23 21 rfl rfl yA OU OU (by simp[aI,ints,lN,cV,-List.all_eq_true,-List.all_flatMap,bj (cM fl)])) ?_;simp[aI,ints];refine ae.trim [18,17,16,7,3,2] [0,1,2,6,19,21] 22 XK yA ⟨q+1,rfl,by omega,?_⟩;rw[Tr,List.flatMap_append,← List.append_assoc,YX];simp[aI,ints,bp,bg,lN,dk]
         ·have hqe:q=f.params.length:=by omega
          apply aO;simp[hC,bp,hj,QP,fq,Tu];refine a7 ?_;simp;apply T.exit;simp;refine ae.trim [17,16,7,3,2] [0,1,2,6,19,21] 22 VA yA ?_;have how2:ow=jJ gs.1 f.params:=by
           rw[← YX,hqe,List.take_length];rfl
          rw[← how2];simp
       rintro s rfl;refine T.IL ai follows [0,1,2,3,5,6,7,8,9,10,12,15] 8 OV OV OU rfl ?_;simp[hC];refine XZ.read (i:=11) OV rfl ?_;simp[dW,sy,ni,eY,hC,bp];refine XZ.read (i:=13) OV rfl ?_;simp[dW,sy,ni,eY,hC,hj];refine XZ.read (i:=14) OV rfl ?_;simp[dW,sy,ni,eY,hC,OZ,fq];rw[ew];refine XZ.two (i:=4) (j:=16) OV ?_ ?_
       ·refine BR.op (i:=4) rfl ?_;simp[bp,dW,sy,ni,eY,hC,-fD];rw[ew];refine XZ.one (i:=16) OV ?_;refine BR.call (i:=16) rfl rfl (TL.ju ai 3 21 [0,1,2,21] 4 U7 O5 rfl rfl rfl OU yA OU OU rfl OU rfl rfl OU OU (TL.nil ?_));simp;refine XZ.one (i:=17) OV ?_;refine BR.op (i:=17) rfl ?_;simp[dW,sy,ni,eY,hC,hj,-fD];refine XZ.one (i:=18) OV ?_;refine BR.op (i:=18) rfl ?_;simp[dW,sy,ni,eY,hC,-fD];refine XZ.one (i:=19) OV ?_;refine BR.op (i:=19) rfl ?_;simp[dW,sy,vQ,eY,TN,O7,Wi,-fD];refine XZ.end OV ?_;simp only[og,eU];refine ae.trim [16,7,3,2] [0,1,2,6,19] 20 (by simp[aI,lN,bp,-List.all_eq_true,-List.all_flatMap,-fD,Q7]) yA ?_;simp[bp,Q7,-fD];rfl
       ·refine BR.call (i:=16) rfl rfl (TL.ju ai 3 21 [0,1,2,21] 4 U7 O5 rfl rfl rfl OU yA OU OU rfl OU rfl rfl OU OU (TL.nil ?_));simp;refine XZ.one (i:=4) OV ?_;refine BR.op (i:=4) rfl ?_;simp[bp,dW,sy,ni,eY,hC,-fD];refine XZ.one (i:=17) OV ?_;refine BR.op (i:=17) rfl ?_;simp[dW,sy,ni,eY,hC,hj,-fD];refine XZ.one (i:=18) OV ?_;refine BR.op (i:=18) rfl ?_;simp[dW,sy,ni,eY,hC,-fD];refine XZ.one (i:=19) OV ?_;refine BR.op (i:=19) rfl ?_;simp[dW,sy,vQ,eY,TN,O7,Wi,-fD];refine XZ.end OV ?_;simp only[og,eU];refine ae.trim [16,7,3,2] [0,1,2,6,19] 20 (by simp[aI,lN,-List.all_eq_true,-List.all_flatMap,-fD,Q7]) yA ?_;simp[Q7,-fD];rfl
    ·rintro s ⟨i,left,rfl⟩;apply aq;simp[hC,bp,lN];apply T.ret;refine ae.le (Le.trim [2] [2,19] 20 Sp yA) ?_;simp;refine ae.le (Le.dp (o:=2) rfl (cM R.fs)) ?_;have htk3:List.take (R.fs.length*(cV R.fs).sz) (cV R.fs).cells=R.fs.flatMap fq:=List.take_of_length_le (Nat.le_of_eq (bM (f:=fq) (n:=3) (fun _=>rfl) R.fs));simp[cH,htk3];apply ae.here;simp[xJ,eH];rw[← hR];exact⟨⟨rfl,rfl⟩,⟨rfl,rfl⟩⟩
end Go.Proofs.YtnecpnjdonibmaaGreat
