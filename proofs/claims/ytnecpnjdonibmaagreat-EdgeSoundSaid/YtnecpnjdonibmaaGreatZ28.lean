/- lockordermade.Program. -/
import Derived.Test.YtnecpnjdonibmaaGreatZ26
import Derived.Test.YtnecpnjdonibmaaGreatZ22
import Derived.Test.YtnecpnjdonibmaaGreatZ27
namespace Go.Proofs.YtnecpnjdonibmaaGreat
open Go.Can Go.aP
def fB (l:List Mx):Ob:=⟨93,3,l.flatMap eL⟩
def gx (l:List Gl):Ob:=⟨188,2,l.flatMap nW⟩
def lk:List CV:=[.ai,.ai,.ai]
def dp (ng nm nf left:Nat)(ar:Bool):Ob:=⟨185,0,[.av 0 0,.bj 5 0 ng,.bj 4 0 nm,.bj 2 0 nf,I left,.bool ar]⟩
def J34 (L:List Int)(ar:Bool)(MS:List Mx×Nat)(N:Nat)(m:Nat)(s:St):Prop:=∃ (out:List Mx) (i:Nat),MS=(out++(pZ L m out.length i).1,(pZ L m out.length i).2)∧m+out.length=N∧i≤L.length∧
 s=⟨[(4,I out.length),(5,I N),(3,.av 1 0),(2,.av 19 0)],[(0,aG L i),(1,dp 0 out.length 0 24 ar),(2,⟨192,3,[]⟩),(4,fB out),(5,⟨188,2,[]⟩),(19,⟨27,0,lk⟩)],20⟩
def J34b (L:List Int)(ar:Bool)(ms:List Mx)(MS:List Gl×Nat)(N:Nat)(m:Nat)(s:St):Prop:=∃ (out:List Gl) (i:Nat),MS=(out++(vj L m out.length i).1,(vj L m out.length i).2)∧m+out.length=N∧i≤L.length∧
 s=⟨[(8,I out.length),(9,I N),(7,.bj 6 0 out.length),(3,.av 1 0),(2,.av 19 0)],[(0,aG L i),(1,dp out.length ms.length 0 24 ar),(2,⟨192,3,[]⟩),(4,fB ms),(5,gx out),(6,ba (out.map (·.name))),(19,⟨27,0,lk⟩)],20⟩
def J34c (L:List Int)(ar:Bool)(ms:List Mx)(gs:List Gl)(MS:List Fu×Nat)(N:Nat)(m:Nat)(s:St):Prop:=∃ (out:List Fu) (i:Nat),MS=(out++(uu L m out.length i).1,(uu L m out.length i).2)∧m+out.length=N+1∧i≤L.length∧
 s=⟨[(12,I out.length),(11,I N),(7,.bj 6 0 gs.length),(3,.av 1 0),(2,.av 19 0)],[(0,aG L i),(1,dp gs.length ms.length out.length 24 ar),(2,cM out),(4,fB ms),(5,gx gs),(6,ba (gs.map (·.name))),(19,⟨27,0,lk⟩)],20⟩
theorem nq (c:Nat)(hc:c≤10)(k:Int)(m:Nat)(hm:k=m)(UX:m≤100):IntKind.i64.wrap (k+c)=k+c∧IntKind.u8.wrap (k+c)=k+c∧(0≤k+c∧k+c<256)∧(k+c).toNat=m+c:=by
 refine⟨cE _ yA yA,IntWalk.u8_in _ yA,by omega,by omega⟩
theorem aF {α:Type}{f:α→List CV}(hf:∀ x,trees (f x)=true)(l:List α):trees (l.flatMap f)=true:=by
 induction l with
 | nil=>rfl
 | cons a r ih=>rw[List.flatMap_cons,bF,hf,ih];rfl
mutual
theorem z8 (o:Nat)(ds:List CV)(n:Nat):∀ c:CV,tree c=true→cB o ds n c=c
 | .bj _ _ _,h=>by simp[tree] at h
 | .av _ _,h=>by simp[tree] at h
 | .iter _ _ _,h=>by simp[tree] at h
 | .mp _ _,h=>by simp[tree] at h
 | .agg cs,h=>by
  simp only[tree] at h;rw[cB,kU o ds n cs h]
 | .fn _ cs,h=>by
  simp only[tree] at h;rw[cB,kU o ds n cs h]
 | .iface _ cs,h=>by
  simp only[tree] at h;rw[cB,kU o ds n cs h]
 | .dH cs,h=>by
  simp only[tree] at h;rw[cB,kU o ds n cs h]
 | .int _ _,_=>rfl
 | .bool _,_=>rfl
 | .str _,_=>rfl
 | .az _ _,_=>rfl
 | .ai,_=>rfl
 | .cA _,_=>rfl
 | .bG,_=>rfl
 | .cd,_=>rfl
 | .any,_=>rfl
theorem kU (o:Nat)(ds:List CV)(n:Nat):∀ cs:List CV,trees cs=true→gT o ds n cs=cs
 | [],_=>rfl
 | c::cs,h=>by
  simp only[trees,Bool.and_eq_true] at h;rw[gT,z8 o ds n c h.1,kU o ds n cs h.2]
end
theorem cW {cs:List CV}(h:trees cs=true)(o:Nat)(ds:List CV)(n:Nat):cs.map (cB o ds n)=cs:=by
 rw[List.map_congr_left (g:=id) fun c hc=>z8 o ds n c (gX h c hc),List.map_id]
theorem eT (l:List Mx):trees (l.flatMap eL)=true:=aF (fun _=>rfl) l
theorem iD (l:List Gl):trees (l.flatMap nW)=true:=aF (fun _=>rfl) l
@[simp] theorem mxOb_lt (l:List Mx)(n:Nat):(fB l).cells.all (a7 n)=true:=af (eT l) n
@[simp] theorem mxOb_lts (l:List Mx)(n:Nat):aS n (fB l).cells=true:=by rw[cr];exact af (eT l) n
@[simp] theorem mxOb_ok1 (l:List Mx)(o q:Nat):(fB l).cells.all (lY o q)=true:=bf (eT l) o q
@[simp] theorem Og (l:List Mx)(o q:Nat):(fB l).cells.map (cZ o q)=(fB l).cells:=aV (eT l) o q
@[simp] theorem mxOb_frz (l:List Mx)(o:Nat)(cs:List CV)(n:Nat):(⟨(fB l).elem,(fB l).sz,(fB l).cells.map (cB o cs n)⟩:Ob)=fB l:=by rw[cW (cs:=(fB l).cells) (eT l)]
@[simp] theorem glOb_frz (l:List Gl)(o:Nat)(cs:List CV)(n:Nat):(⟨(gx l).elem,(gx l).sz,(gx l).cells.map (cB o cs n)⟩:Ob)=gx l:=by rw[cW (cs:=(gx l).cells) (iD l)]
@[simp] theorem mxOb_eta (l:List Mx):(⟨(fB l).elem,(fB l).sz,(fB l).cells⟩:Ob)=fB l:=rfl
@[simp] theorem glOb_lt (l:List Gl)(n:Nat):(gx l).cells.all (a7 n)=true:=af (iD l) n
@[simp] theorem glOb_lts (l:List Gl)(n:Nat):aS n (gx l).cells=true:=by rw[cr];exact af (iD l) n
@[simp] theorem glOb_ok1 (l:List Gl)(o q:Nat):(gx l).cells.all (lY o q)=true:=bf (iD l) o q
@[simp] theorem Ol (l:List Gl)(o q:Nat):(gx l).cells.map (cZ o q)=(gx l).cells:=aV (iD l) o q
@[simp] theorem glOb_eta (l:List Gl):(⟨(gx l).elem,(gx l).sz,(gx l).cells⟩:Ob)=gx l:=rfl
def lW (l:List Pm):Ob:=⟨194,2,l.flatMap kj⟩
theorem mc (l:List Pm):trees (l.flatMap kj)=true:=aF (fun _=>rfl) l
@[simp] theorem pmOb_lt (l:List Pm)(n:Nat):(lW l).cells.all (a7 n)=true:=af (mc l) n
@[simp] theorem pmOb_lts (l:List Pm)(n:Nat):aS n (lW l).cells=true:=by rw[cr];exact af (mc l) n
@[simp] theorem pmOb_ok1 (l:List Pm)(o q:Nat):(lW l).cells.all (lY o q)=true:=bf (mc l) o q
@[simp] theorem NQ (l:List Pm)(o q:Nat):(lW l).cells.map (cZ o q)=(lW l).cells:=aV (mc l) o q
@[simp] theorem pmOb_eta (l:List Pm):(⟨(lW l).elem,(lW l).sz,(lW l).cells⟩:Ob)=lW l:=rfl
def J34d (L:List Int)(ar:Bool)(ms:List Mx)(gs:List Gl)(out:List Fu)(j N:Nat)(YB:ByteArray)(PM:List Pm×Nat)(n:Nat)(s:St):Prop:=∃ (m:Nat) (po:List Pm) (i:Nat),PM=(po++(CL L n i).1,(CL L n i).2)∧n=(if j=0 then 0 else m)∧m+po.length≤2∧i≤L.length∧
 s=⟨[(14,I m),(13,.av 21 0),(12,I j),(11,I N),(7,.bj 6 0 gs.length),(3,.av 1 0),(2,.av 19 0)],[(0,aG L i),(1,dp gs.length ms.length j 24 ar),(2,cM out),(4,fB ms),(5,gx gs),(6,ba (gs.map (·.name))),(19,⟨27,0,lk⟩),(21,⟨192,0,[.str YB,.bj 22 0 po.length,.ai]⟩),(22,lW po)],23⟩
def J34e (L:List Int)(ar:Bool)(ms:List Mx)(gs:List Gl)(fs0:List Fu)(N:Nat)(RF:List Fu)(n:Nat)(s:St):Prop:=∃ (j:Nat) (fl:List Fu) (i left:Nat),RF=Ky ⟨L,ar,ms,fs0.map fun f=>(f.name,f.params)⟩ gs n j fl i left∧n+j=N∧fl.length=N∧fl.map sg=fs0.map sg∧(∀ f∈fl,f.params.length≤2)∧left≤24∧i≤L.length∧
 s=⟨[(16,I j),(7,.bj 6 0 gs.length),(3,.av 1 0),(2,.av 19 0)],[(0,aG L i),(1,bq gs ms fl.length left ar),(2,cM fl),(6,ba (gs.map (·.name))),(19,⟨27,0,lk⟩)],20⟩
theorem CO (l:List Pm):(l.flatMap fun p=>if p.mutex=true then [] else [p.name]).length≤l.length:=by
 induction l with
 | nil=>exact Nat.le_refl _
 | cons x r ih=>
  rw[List.flatMap_cons,List.length_append,List.length_cons];split
  ·simp only[List.length_nil];omega
  ·simp only[List.length_cons,List.length_nil];omega
theorem MQ {fl:List Fu}{j:Nat}{f:Fu}(h:fl[j]? = some f)(b:List Sm):ic (cM fl).cells (j*3+2) [.az (bz b) b.length]=(cM (fl.set j ⟨f.name,f.params,b⟩)).cells:=by
 induction fl generalizing j with
 | nil=>simp at h
 | cons a r ih=>
  cases j with
  | zero=>
   simp only[List.getElem?_cons_zero,Option.some.injEq] at h;subst h;simp[cM,eF,ic]
  | succ j=>
   simp only[List.getElem?_cons_succ] at h;have e:=ih h;simp only[cM,ic,List.flatMap_cons,List.set_cons_succ] at e ⊢;rw[show (j+1)*3+2=(eF a).length+(j*3+2) by simp[eF];omega,List.take_append,List.take_of_length_le yA,Nat.add_sub_cancel_left,show (eF a).length+(j*3+2)+[CV.az (bz b) b.length].length=(eF a).length+(j*3+2+[CV.az (bz b) b.length].length) by omega,List.drop_append,List.drop_of_length_le yA,Nat.add_sub_cancel_left,List.nil_append,List.append_assoc,List.append_assoc,← List.append_assoc (List.take _ _),e]
def J34f (L:List Int)(ar:Bool)(ms:List Mx)(gs:List Gl)(fl:List Fu)(f:Fu)(i left j:Nat)(n:Nat)(s:St):Prop:=∃ q:Nat,n=f.params.length-q∧q≤f.params.length∧
 s=⟨[(18,I q),(17,.bj 21 0 (gs.map (·.name)++(f.params.take q).flatMap (fun p=>if p.mutex=true then [] else [p.name])).length),(16,I j),(7,.bj 6 0 gs.length),(3,.av 1 0),(2,.av 19 0)],[(0,aG L i),(1,bq gs ms fl.length left ar),(2,cM fl),(6,ba (gs.map (·.name))),(19,⟨27,0,lk⟩),(21,ba (gs.map (·.name)++(f.params.take q).flatMap (fun p=>if p.mutex=true then [] else [p.name])))],22⟩
set_option maxHeartbeats 8000000 in
theorem Bs (l:List Int)(hl:l.length≤9223372036854775807):ae Tryz.prog 67 [ints l] (vS (C2 l)):=by
 generalize hR:C2 l=R;refine ae.aM ah Tryz.func67 rfl PH (by simp[Tryz.ntmps67]) rfl fun C hC PN=>?_;rw[Tryz.ntmps67] at hC;apply aj;simp[hC];apply aj;simp[hC];refine dQ P2 (M4 l 400 hl) ?_;simp[hC];have hL:(l.take 400).length≤1000:=by simp;omega
 simp only[C2] at hR;generalize l.take 400=L at hL hR;refine T.le (Le.up 20 zX) ?_;simp;refine T.le (Le.trim [3,2] [0,1,2] 20 zX yA) ?_;simp;refine T.le (Le.nB 0 19 rfl rfl yA zX zX (by simp[ints])) ?_;simp[ints];refine T.le (Le.nB 1 0 rfl rfl yA zX zX zX) ?_;simp;refine T.le (Le.nB 2 1 rfl rfl yA zX zX zX) ?_;simp;refine T.le (Le.oo 1 3 192 3 rfl rfl) ?_;simp;refine T.le (Le.oo 1 2 93 3 rfl rfl) ?_;simp;refine T.le (Le.oo 1 1 188 2 rfl rfl) ?_;simp;refine T.le (Le.nB 20 2 rfl rfl yA zX zX zX) ?_;simp;refine T.le (Le.nB 21 4 rfl rfl yA zX zX zX) ?_;simp;refine T.le (Le.nB 22 5 rfl rfl yA zX zX zX) ?_;simp;refine T.le (Le.trim [3,2] [0,1,2,4,5,19] 20 zX yA) ?_;simp;have es:(⟨110,0,[CV.az (L.map vq) L.length,.int .i64 0]⟩:Ob)=aG L 0:=rfl;rw[es];have Wd:=a8 L 3 (Nat.zero_le L.length);have Ta:=cu L 0 3 (Nat.zero_le _) hL yA yA;obtain⟨a,ha⟩:∃ a,bZ L 0 3=a:=⟨_,rfl⟩;rw[ha] at Wd Ta;simp only[ha] at hR;apply aj;simp[hC];refine TL.cD ah [0] 1 (Ta) PV rfl rfl rfl rfl zX QS QR rfl (TL.go' ah ?_);simp[hC];have Qm:=a8 L 4 Wd;have Vy:=cu L a.2 4 Wd hL yA yA;have XY:=da L a.2 (show 0<4 by omega);obtain⟨nm,QH⟩:∃ nm,bZ L a.2 4=nm:=⟨_,rfl⟩;rw[QH] at Qm Vy XY;simp only[QH] at hR;have w1:=cE (1+(nm.1:Int)) yA yA;refine T.cut (fun s=>s=⟨[(3,.av 1 0),(2,.av 19 0)],[(0,aG L (pZ L (1+nm.1) 0 nm.2).2),(1,dp 0 (pZ L (1+nm.1) 0 nm.2).1.length 0 24 (decide (a.1=1))),(2,⟨192,3,[]⟩),(4,fB (pZ L (1+nm.1) 0 nm.2).1),(5,⟨188,2,[]⟩),(19,⟨27,0,lk⟩)],20⟩) ?_ ?_
 ·clear hR;apply aj;simp[hC];refine TL.cD ah [0] 1 (Vy) PV rfl rfl rfl rfl zX QS QR rfl (TL.go' ah ?_);simp[hC,w1];apply T.block;generalize hMS:pZ L (1+nm.1) 0 nm.2=MS;refine T.aJ (J34 L (decide (a.1=1)) MS (1+nm.1)) (n:=1+nm.1) ?_ ?_
  ·refine aa.trim [4,5,3,2] [0,1,2,4,5,19] 20 TF yA ⟨[],nm.2,by simp[hMS],by simp,Qm,?_⟩;simp[dp,fB,lk]
  ·rintro n s ⟨out,i,hM,QN,hi,rfl⟩
   cases n with
   | zero=>
    have ho:out.length=1+nm.1:=by omega
    have PQ:¬ ((out.length:Int)<1+nm.1):=by omega
    apply aU;simp[hC,PQ];refine bh ?_;simp;apply T.exit;simp;refine aa.trim [3,2] [0,1,2,4,5,19] 20 Wl yA ?_;rw[hM];simp[pZ]
   | succ n=>
    have ho:out.length≤3:=by omega
    obtain⟨c1,c2,c3,c4⟩:=nq out.length yA 97 97 rfl yA;have PQ:(out.length:Int)<1+nm.1:=by omega
    apply aU;simp[hC,PQ];refine gQ ?_;simp;apply dZ;refine T.seq (T.AR ah ?_);simp[hC,c1,c2,c3,c4];refine T.le (Le.trim [6,4,5,3,2] [0,1,2,4,5,19,21] 22 Wl yA) ?_;simp;have SJ:(⟨#[97+UInt8.ofNat out.length]⟩:ByteArray)=dK (97+out.length):=by simp[dK]
    rw[SJ];refine T.cut (fun s=>∃ (m:Mx) (i2:Nat),pZ L (n+1) out.length i=(m::(pZ L n (out.length+1) i2).1,(pZ L n (out.length+1) i2).2)∧i2≤L.length∧
     s=⟨[(6,.av 21 0),(4,I out.length),(5,I (1+nm.1)),(3,.av 1 0),(2,.av 19 0)],[(21,⟨93,0,eL m⟩),(0,aG L i2),(1,dp 0 out.length 0 24 (decide (a.1=1))),(2,⟨192,3,[]⟩),(4,fB out),(5,⟨188,2,[]⟩),(19,⟨27,0,lk⟩)],22⟩) ?_ ?_
    ·have Q2:=cu L i 5 hi hL yA yA;have Q6:=a8 L 5 hi;rw[pZ];obtain⟨k,hk⟩:∃ k,bZ L i 5=k:=⟨_,rfl⟩;simp only[hk] at Q2 Q6 ⊢;apply aj;simp[hC,dp];refine TL.cD ah [0] 1 (Q2) PV rfl rfl rfl rfl zX QS QR rfl (TL.go' ah ?_);simp;apply T.block;apply aj;simp[hC];refine T.bb rfl (fun h=>?_) (fun h=>?_)
     ·have h1:k.1=1:=by simpa using h
      apply aW;simp[hC];refine aa.trim [6,4,5,3,2] [21,0,1,2,4,5,19] 22 Wj yA ⟨⟨dK (97+out.length),true,0⟩,k.2,by rw[if_pos h1],Q6,?_⟩;simp[eL]
     have h1:¬ k.1=1:=by simpa using h
     apply aj;simp[hC];refine T.bb rfl (fun h=>?_) (fun h=>?_)
     ·have h2:k.1=2:=by simpa using h
      have ZO:=cu L k.2 3 Q6 hL yA yA;have TA:=a8 L 3 Q6;have XW:=da L k.2 (show 0<3 by omega);obtain⟨q,hq⟩:∃ q,bZ L k.2 3=q:=⟨_,rfl⟩;simp only[hq] at ZO TA XW ⊢;have wq:=cE (1+(q.1:Int)) yA yA;apply aW;simp[hC];refine TL.cD ah [0] 1 (ZO) PV rfl rfl rfl rfl zX QS QR rfl (TL.go' ah ?_);simp[hC,wq];refine aa.trim [6,4,5,3,2] [21,0,1,2,4,5,19] 22 Wj yA ⟨⟨dK (97+out.length),false,1+q.1⟩,q.2,by rw[if_neg h1,if_pos h2],TA,?_⟩;simp[eL]
     ·have h2:¬ k.1=2:=by simpa using h
      apply T.skip;simp;refine aa.trim [6,4,5,3,2] [21,0,1,2,4,5,19] 22 Wj yA ⟨⟨dK (97+out.length),false,0⟩,k.2,by rw[if_neg h1,if_neg h2],Q6,?_⟩;simp[eL]
    rintro s ⟨m,i2,hm,Q6,rfl⟩;have hb:(out.length+1)*32≤140737488355328:=by omega
    have QK:(fB out).cells.length=out.length*3:=bk (f:=eL) (n:=3) (fun _=>rfl) out;have QZ:(fB out).sz=3:=rfl;have ZP:(fB out).elem=93:=rfl;have wo:=cE ((out.length:Int)+1) yA yA;refine T.rx ah follows [0,1,2,3,4,5,6,7,8,9,10,11,12] [(5,7)] PH ?_;simp[hC,dp,eL,QK,QZ,ZP,hb,aX];apply aW;simp[hC,wo];refine⟨n,by omega,?_⟩;refine aa.le (Le.trim [4,5,3,2] [0,1,2,5,19,35] 36 yBx yA) ?_;simp;refine aa.le (Le.nB 35 4 rfl rfl yA zX zX yCe) ?_;simp[aG,ints];refine aa.trim [4,5,3,2] [0,1,2,4,5,19] 20 Yu yA ⟨out++[m],i2,?_,?_,Q6,?_⟩
    ·rw[hM,hm];simp
    ·simp;omega
    ·simp[aG,ints,dp,fB,eL,lk,cZ]
 ·rintro s rfl;obtain⟨_,QK,YG,WB⟩:=zB L (1+nm.1) 0 nm.2 yA;have Q6:=WB Qm;obtain⟨ms,QZ⟩:∃ ms,pZ L (1+nm.1) 0 nm.2=ms:=⟨_,rfl⟩;simp only[QZ] at hR QK YG Q6 ⊢;clear WB;have SP:=cu L ms.2 3 Q6 hL yA yA;have TA:=a8 L 3 Q6;have T7:=da L ms.2 (show 0<3 by omega);obtain⟨ng,Vx⟩:∃ ng,bZ L ms.2 3=ng:=⟨_,rfl⟩;rw[Vx] at SP TA T7;simp only[Vx] at hR;apply aj;simp[hC];refine T.cut (fun s=>s=⟨[(7,.bj 6 0 ng.1),(3,.av 1 0),(2,.av 19 0)],[(0,aG L (vj L ng.1 0 ng.2).2),(1,dp ng.1 ms.1.length 0 24 (decide (a.1=1))),(2,⟨192,3,[]⟩),(4,fB ms.1),(5,gx (vj L ng.1 0 ng.2).1),(6,ba ((vj L ng.1 0 ng.2).1.map (·.name))),(19,⟨27,0,lk⟩)],20⟩) ?_ ?_
  ·clear hR;apply aj;simp[hC,dp];refine TL.cD ah [0] 1 (SP) PV rfl rfl rfl rfl zX QS QR rfl (TL.go' ah ?_);simp[hC];apply T.block;generalize hMS:vj L ng.1 0 ng.2=MS;have ew:(⟨185,0,[CV.av 0 0,CV.bj 5 0 0,CV.bj 4 0 ms.1.length,CV.bj 2 0 0,I 24,CV.bool (decide (a.1=1))]⟩:Ob)=dp 0 ms.1.length 0 24 (decide (a.1=1)):=rfl;refine T.aJ (J34b L (decide (a.1=1)) ms.1 MS ng.1) (n:=ng.1) ?_ ?_
   ·refine aa.le (Le.own 7 9 1 rfl) ?_;simp;refine aa.le (Le.nB 20 6 rfl rfl yA zX zX yCe) ?_;simp[aG,ints];refine aa.trim [8,9,7,3,2] [0,1,2,4,5,6,19] 20 Yu yA ⟨[],ng.2,?_,by simp,TA,?_⟩
    ·simp[hMS]
    ·simp[aG,ints,dp,gx,ba,lk,cZ]
   ·rintro n s ⟨out,i,hM,QN,hi,rfl⟩
    cases n with
    | zero=>
     have ho:out.length=ng.1:=by omega
     have PQ:¬ ((out.length:Int)<ng.1):=by omega
     apply aU;simp[hC,PQ];refine bh ?_;simp;apply T.exit;simp;refine aa.trim [7,3,2] [0,1,2,4,5,6,19] 20 Wl yA ?_;rw[hM];simp[vj,ho,dp]
    | succ n=>
     have ho:out.length≤1:=by omega
     obtain⟨c1,c2,c3,c4⟩:=nq out.length yA 48 48 rfl yA;have PQ:(out.length:Int)<ng.1:=by omega
     have Q2:=cu L i 5 hi hL yA yA;have Q6:=a8 L 5 hi;have hlt5:=da L i (show 0<5 by omega);rw[vj] at hM;obtain⟨k,hk⟩:∃ k,bZ L i 5=k:=⟨_,rfl⟩;simp only[hk] at Q2 Q6 hlt5 hM;have wk:=cE ((k.1:Int)-2) yA yA;have SJ:(⟨#[48+UInt8.ofNat out.length]⟩:ByteArray)=dK (48+out.length):=by simp[dK]
     have so:kM BinOp.add ⟨#[103]⟩ (dK (48+out.length))=some (.str (⟨#[103]⟩++dK (48+out.length))):=rfl;apply aU;simp[hC,PQ];refine gQ ?_;simp;apply dZ;apply T.seq;refine T.rx ah follows [0,1,2,3,4,5,6,7,8,9,13,10,11,12,14] [(2,13),(2,10),(3,9),(3,13),(3,10),(4,13),(4,10),(9,13),(13,10)] PH ?_;simp[hC,dp,c1,c2,c3,c4,SJ,so];refine RX.cD [0] [0] 1 (Q2) rfl zX rfl rfl rfl rfl zX QS QR rfl rfl rfl zX ?_;simp[wk];refine T.le (Le.trim [10,8,9,7,3,2] [0,1,2,4,5,6,19,33] 34 Wj yA) ?_;simp;have hb:(out.length+1)*24≤140737488355328:=by omega
     have Re:(out.length+1)*16≤140737488355328:=by omega
     have UJ:(gx out).cells.length=out.length*2:=bk (f:=nW) (n:=2) (fun _=>rfl) out;have X7:(gx out).sz=2:=rfl;have SE:(gx out).elem=188:=rfl;have QU:(ba (out.map (·.name))).cells.length=out.length:=by simp[ba]
     have Sz:(ba (out.map (·.name))).sz=1:=rfl;have P3:(ba (out.map (·.name))).elem=9:=rfl;have wo:=cE ((out.length:Int)+1) yA yA;refine T.rx ah follows [0,1,2,3,4,5,6,7,8,9,10,11,12,13,14,15,16,17,18] [(5,7),(5,12),(6,12),(7,11),(7,12),(8,11),(8,12)] PH ?_;simp[hC,hb,Re,UJ,X7,SE,QU,Sz,P3,aX];apply aW;simp[hC,wo];refine⟨n,by omega,?_⟩;refine aa.le (Le.trim [8,9,7,3,2] [0,1,2,4,19,53,54] 55 yBx yA) ?_;simp;refine aa.le (Le.nB 53 5 rfl rfl yA zX zX yCe) ?_;simp[aG,ints];refine aa.le (Le.nB 54 6 rfl rfl yA zX zX Yu) ?_;simp;refine aa.trim [8,9,7,3,2] [0,1,2,4,5,6,19] 20 Yu yA ⟨out++[⟨⟨#[103]⟩++dK (48+out.length),(k.1:Int)-2⟩],k.2,?_,?_,Q6,?_⟩
     ·rw[hM];simp
     ·simp;omega
     ·simp[aG,ints,dp,gx,nW,ba,lk,cZ]
  ·rintro s rfl;obtain⟨_,UJ,hgz,TN⟩:=HH L ng.1 0 ng.2 yA;have Wc:=TN TA;obtain⟨gs,X7⟩:∃ gs,vj L ng.1 0 ng.2=gs:=⟨_,rfl⟩;simp only[X7] at hR UJ hgz Wc ⊢;clear TN;rw[← UJ];have ZO:=cu L gs.2 4 Wc hL yA yA;have Xb:=a8 L 4 Wc;have XW:=da L gs.2 (show 0<4 by omega);obtain⟨nf,ZK⟩:∃ nf,bZ L gs.2 4=nf:=⟨_,rfl⟩;rw[ZK] at ZO Xb XW;simp only[ZK] at hR;apply aj;simp[hC,dp];refine TL.cD ah [0] 1 (ZO) PV rfl rfl rfl rfl zX QS QR rfl (TL.go' ah ?_);simp[hC];refine T.cut (fun s=>s=⟨[(7,.bj 6 0 gs.1.length),(3,.av 1 0),(2,.av 19 0)],[(0,aG L (uu L (nf.1+1) 0 nf.2).2),(1,dp gs.1.length ms.1.length (uu L (nf.1+1) 0 nf.2).1.length 24 (decide (a.1=1))),(2,cM (uu L (nf.1+1) 0 nf.2).1),(4,fB ms.1),(5,gx gs.1),(6,ba (gs.1.map (·.name))),(19,⟨27,0,lk⟩)],20⟩) ?_ ?_
   ·clear hR;apply aj;simp[hC];apply T.block;generalize hMS:uu L (nf.1+1) 0 nf.2=MS;refine T.aJ (J34c L (decide (a.1=1)) ms.1 gs.1 MS nf.1) (n:=nf.1+1) ?_ ?_
    ·refine aa.trim [12,11,7,3,2] [0,1,2,4,5,6,19] 20 Wj yA ⟨[],nf.2,by simp[hMS],by simp,Xb,?_⟩;simp[dp,cM]
    ·rintro n s ⟨out,i,hM,QN,hi,rfl⟩
     cases n with
     | zero=>
      have ho:out.length=nf.1+1:=by omega
      have PQ:¬ ((out.length:Int)≤nf.1):=by omega
      apply aU;simp[hC,PQ];refine bh ?_;simp;apply T.exit;simp;refine aa.trim [7,3,2] [0,1,2,4,5,6,19] 20 Wl yA ?_;rw[hM];simp[uu,ho,dp]
     | succ n=>
      obtain⟨j,hj⟩:∃ j,out.length=j:=⟨_,rfl⟩;simp only[hj] at hM QN ⊢;have ho:j≤3:=by omega
      obtain⟨c1,c2,c3,c4⟩:=nq j yA 48 48 rfl yA;have PQ:(j:Int)≤nf.1:=by omega
      have SJ:(⟨#[48+UInt8.ofNat j]⟩:ByteArray)=dK (48+j):=by simp[dK]
      have so:kM BinOp.add ⟨#[102]⟩ (dK (48+j))=some (.str (⟨#[102]⟩++dK (48+j))):=rfl;apply aU;simp[hC,PQ];refine gQ ?_;simp;apply dZ;refine T.seq (T.AR ah ?_);simp[hC,c1,c2,c3,c4,SJ,so];refine T.le (Le.trim [13,12,11,7,3,2] [0,1,2,4,5,6,19,21] 22 Wl yA) ?_;simp;rw[uu] at hM;simp only at hM;obtain⟨YB,Vv⟩:∃ x,(if j=0 then (⟨#[109,97,105,110]⟩:ByteArray) else ⟨#[102]⟩++dK (48+j))=x:=⟨_,rfl⟩;rw[Vv] at hM;refine T.cut (fun s=>s=⟨[(13,.av 21 0),(12,I j),(11,I nf.1),(7,.bj 6 0 gs.1.length),(3,.av 1 0),(2,.av 19 0)],[(0,aG L i),(1,dp gs.1.length ms.1.length j 24 (decide (a.1=1))),(2,cM out),(4,fB ms.1),(5,gx gs.1),(6,ba (gs.1.map (·.name))),(19,⟨27,0,lk⟩),(21,⟨192,0,[.str YB,.ai,.ai]⟩)],22⟩) ?_ ?_
      ·apply aj;simp[hC];refine T.bb rfl (fun h=>?_) (fun h=>?_)
       ·have h0:j=0:=by
         simp at h;omega
        rw[if_pos h0] at Vv;apply aW;simp[hC];refine aa.trim [13,12,11,7,3,2] [0,1,2,4,5,6,19,21] 22 Wl yA ?_;simp[Vv]
       ·have h0:¬ j=0:=by
         simp at h;omega
        rw[if_neg h0] at Vv;apply T.skip;simp;refine aa.trim [13,12,11,7,3,2] [0,1,2,4,5,6,19,21] 22 Wl yA ?_;simp[Vv]
      rintro s rfl;have Q2:=cu L i 3 hi hL yA yA;have Wb:=a8 L 3 hi;have hlt6:=da L i (show 0<3 by omega);obtain⟨k,hk⟩:∃ k,bZ L i 3=k:=⟨_,rfl⟩;rw[hk] at Q2 Wb hlt6;simp only[hk] at hM;obtain⟨PM,hPM⟩:∃ x,CL L (if j=0 then 0 else k.1) k.2=x:=⟨_,rfl⟩;rw[hPM] at hM;have YF:PM.2≤L.length∧PM.1.length≤2:=by
       rw[← hPM];have h1:(if j=0 then 0 else k.1)≤2:=by split<;>omega
       obtain⟨_,p2,p3⟩:=GP L (if j=0 then 0 else k.1) k.2 h1;exact⟨p3 Wb,by omega⟩
      refine T.cut (fun s=>s=⟨[(13,.av 21 0),(12,I j),(11,I nf.1),(7,.bj 6 0 gs.1.length),(3,.av 1 0),(2,.av 19 0)],[(0,aG L PM.2),(1,dp gs.1.length ms.1.length j 24 (decide (a.1=1))),(2,cM out),(4,fB ms.1),(5,gx gs.1),(6,ba (gs.1.map (·.name))),(19,⟨27,0,lk⟩),(21,⟨192,0,[.str YB,.bj 22 0 PM.1.length,.ai]⟩),(22,lW PM.1)],23⟩) ?_ ?_
      ·apply aj;simp[hC,dp];refine TL.cD ah [0] 1 (Q2) PV rfl rfl rfl rfl zX QS QR rfl (TL.go' ah ?_);simp[hC];apply T.block;refine T.aJ (J34d L (decide (a.1=1)) ms.1 gs.1 out j nf.1 YB PM) (n:=if j=0 then 0 else k.1) ?_ ?_
       ·refine aa.le (Le.oo 21 1 194 2 rfl rfl) ?_;simp;refine aa.trim [14,13,12,11,7,3,2] [0,1,2,4,5,6,19,21,22] 23 Wj yA ⟨k.1,[],k.2,?_,rfl,?_,Wb,?_⟩
        ·simp[hPM]
        ·simp;omega
        ·simp[dp,lW]
       ·rintro n1 s ⟨m,po,i1,hP,Vy,UT,hi7,rfl⟩;by_cases hg:0<n1
        ·have h0:¬ j=0:=by
          intro h;rw[if_pos h] at Vy;omega
         rw[if_neg h0] at Vy;subst Vy;obtain⟨m,rfl⟩:∃ q,n1=q+1:=⟨n1-1,by omega⟩;have g1:0<j:=by omega
         rw[CL] at hP;have ZH:=cu L i1 3 hi7 hL yA yA;have Z2:=a8 L 3 hi7;obtain⟨q,hq⟩:∃ q,bZ L i1 3=q:=⟨_,rfl⟩;simp only[hq] at ZH Z2 hP;obtain⟨mm,RS⟩:∃ mm,m+1=mm:=⟨_,rfl⟩;simp only[RS] at hP ⊢;obtain⟨d1,d2,d3,d4⟩:=nq mm yA 48 48 rfl yA;have hch1:(⟨#[48+UInt8.ofNat mm]⟩:ByteArray)=dK (48+mm):=by simp[dK]
         have so1:kM BinOp.add ⟨#[112]⟩ (dK (48+mm))=some (.str (⟨#[112]⟩++dK (48+mm))):=rfl;have hmp:0<mm:=by omega
         apply aU;simp[hC,g1,hmp];refine gQ ?_;simp;refine T.seq (T.block (T.seq ?_));refine T.rx ah follows [0,1,2,3,4,5,6,7,8,9,13,10,11,12,14] [(2,13),(2,10),(3,9),(3,13),(3,10),(4,13),(4,10),(9,13),(13,10)] PH ?_;simp[hC,dp,d1,d2,d3,d4,hch1,so1];refine RX.cD [0] [0] 1 (ZH) rfl zX rfl rfl rfl rfl zX QS QR rfl rfl rfl zX ?_;simp;have hb:(po.length+1)*24≤140737488355328:=by omega
         have UJ:(lW po).cells.length=po.length*2:=bk (f:=kj) (n:=2) (fun _=>rfl) po;have X7:(lW po).sz=2:=rfl;have SE:(lW po).elem=194:=rfl;have wo:=cE (m:Int) yA yA;have wm:(mm:Int)-1=(m:Int):=by omega
         apply aW;simp[hC,hb,UJ,X7,SE,aX];apply aW;simp[hC,wm,wo];refine⟨m,by omega,?_⟩;refine aa.le (Le.trim [14,13,12,11,7,3,2] [0,1,2,4,5,6,19,21,39] 40 yBx yA) ?_;simp;refine aa.le (Le.nB 39 22 rfl rfl yA zX zX (by simp[aG,ints,lk,cM,-List.all_eq_true,-List.all_flatMap,bf (cF out)])) ?_;simp[aG,ints];refine aa.trim [14,13,12,11,7,3,2] [0,1,2,4,5,6,19,21,22] 23 Yu yA ⟨m,po++[⟨⟨#[112]⟩++dK (48+mm),decide (0<q.1)⟩],q.2,?_,?_,?_,Z2,?_⟩
         ·rw[hP];simp
         ·rw[if_neg h0]
         ·simp;omega
         ·simp[aG,ints,dp,lW,kj,lk,cZ]
        ·have Ta:n1=0:=by omega
         have hPM2:PM=(po,i1):=by
          rw[hP,Ta];simp[CL]
         by_cases SQ:0<m
         ·have g1:¬ 0<j:=by
           intro h;rw[if_neg yA] at Vy;omega
          apply aU;simp[hC,SQ,g1];refine bh ?_;simp;apply T.exit;simp;refine aa.trim [13,12,11,7,3,2] [0,1,2,4,5,6,19,21,22] 23 Wl yA ?_;simp[hPM2,dp]
         ·apply aU;simp[hC,SQ];refine bh ?_;simp;apply T.exit;simp;refine aa.trim [13,12,11,7,3,2] [0,1,2,4,5,6,19,21,22] 23 Wl yA ?_;simp[hPM2,dp]
      rintro s rfl;refine T.le (Le.nz [] [21]) ?_;simp[nz];refine T.le (Le.dz (o:=22) rfl (mc PM.1)) ?_;have PY:List.take (PM.1.length*(lW PM.1).sz) (lW PM.1).cells=PM.1.flatMap kj:=List.take_of_length_le (Nat.le_of_eq (bk (f:=kj) (n:=2) (fun _=>rfl) PM.1));simp[cB,PY,dp];have hb:(j+1)*64≤140737488355328:=by omega
      have UJ:(cM out).cells.length=j*3:=by rw[← hj];exact bk (f:=eF) (n:=3) (fun _=>rfl) out
      have X7:(cM out).sz=3:=rfl;have SE:(cM out).elem=192:=rfl;have wo:=cE ((j:Int)+1) yA yA;refine T.rx ah follows [0,1,2,3,4,5,6,7,8,9,10,11,12] [(5,7)] PH ?_;simp[hC,UJ,X7,SE,hb,aX];apply aW;simp[hC,wo];refine⟨n,by omega,?_⟩;refine aa.le (Le.trim [12,11,7,3,2] [0,1,4,5,6,19,36] 37 (by simp[aG,lk,cB,-List.all_eq_true,-List.all_flatMap]) yA) ?_;simp;refine aa.le (Le.nB 36 2 rfl rfl yA zX zX (by simp[aG,ints,lk,cB,-List.all_eq_true,-List.all_flatMap])) ?_;simp[aG,ints];refine aa.trim [12,11,7,3,2] [0,1,2,4,5,6,19] 20 (by simp[lk,cZ,cB,-List.all_eq_true,-List.all_flatMap]) yA ⟨out++[⟨YB,PM.1,[]⟩],PM.2,?_,?_,YF.1,?_⟩
      ·rw[hM];simp[hj]
      ·simp;omega
      ·simp[aG,ints,dp,cM,eF,bz,lk,cZ,cB,hj]
   ·rintro s rfl;obtain⟨_,Qv,YI,hf0,hfi⟩:=HI L (nf.1+1) 0 nf.2 yA;have Wb:=hfi Xb;obtain⟨fs,RP⟩:∃ fs,uu L (nf.1+1) 0 nf.2=fs:=⟨_,rfl⟩;simp only[RP] at hR Qv YI hf0 Wb ⊢;clear hfi;refine T.le (Le.dz (o:=5) rfl (iD gs.1)) ?_;have PY:List.take (gs.1.length*(gx gs.1).sz) (gx gs.1).cells=gs.1.flatMap nW:=List.take_of_length_le (Nat.le_of_eq (bk (f:=nW) (n:=2) (fun _=>rfl) gs.1));simp[cB,PY,dp];refine T.le (Le.dz (o:=4) rfl (eT ms.1)) ?_;have Tn:List.take (ms.1.length*(fB ms.1).sz) (fB ms.1).cells=ms.1.flatMap eL:=List.take_of_length_le (Nat.le_of_eq (bk (f:=eL) (n:=3) (fun _=>rfl) ms.1));simp[cB,Tn];refine T.le (Le.trim [7,3,2] [0,1,2,6,19] 20 (by simp[aG,lk,cB,-List.all_eq_true,-List.all_flatMap]) yA) ?_;simp;have ew:(⟨185,0,[CV.av 0 0,CV.az (gs.1.flatMap nW) gs.1.length,CV.az (ms.1.flatMap eL) ms.1.length,CV.bj 2 0 fs.1.length,.int .i64 24,CV.bool (decide (a.1=1))]⟩:Ob)=bq gs.1 ms.1 fs.1.length 24 (decide (a.1=1)):=rfl;rw[ew];clear ew PY Tn;have h19:(lk.map (cB 4 (fB ms.1).cells (fB ms.1).sz∘cB 5 (gx gs.1).cells (gx gs.1).sz))=lk:=rfl;rw[h19];clear h19;have hmp:0<ms.1.length:=by omega
    have PZ:∀ m∈ms.1,m.size≤1000:=fun m hm=>by have:=(YG m hm).1;omega
    have Qy:∀ f∈fs.1,f.params.length≤2:=fun f hf=>by
     obtain⟨_,k,h1,h2⟩:=YI f hf;have:=congrArg List.length h2;simp[nP] at this;omega
    refine T.cut (fun s=>∃ (i left:Nat),s=⟨[(3,.av 1 0),(2,.av 19 0)],[(0,aG L i),(1,bq gs.1 ms.1 R.fs.length left (decide (a.1=1))),(2,cM R.fs),(19,⟨27,0,lk⟩)],20⟩) ?_ ?_
    ·apply aj;simp[hC];apply T.block;refine T.aJ (J34e L (decide (a.1=1)) ms.1 gs.1 fs.1 (nf.1+1) R.fs) (n:=nf.1+1) ?_ ?_
     ·refine aa.trim [16,7,3,2] [0,1,2,6,19] 20 (by simp[aG,lk,bq]) yA ⟨0,fs.1,fs.2,24,?_,by omega,by omega,rfl,Qy,by omega,Wb,?_⟩
      ·rw[← hR]
      ·simp
     ·rintro n s ⟨j,fl,i,left,hM,hjn,TK,UA,XN,hlt24,hi,rfl⟩
      cases n with
      | zero=>
       have hj:¬ j<fl.length:=by omega
       have P8:R.fs=fl:=by rw[hM];rfl
       apply aU;simp[hC,bq,hj];refine bh ?_;simp;apply T.exit;simp;refine aa.trim [3,2] [0,1,2,19] 20 Wj yA ⟨i,left,?_⟩;simp[P8]
      | succ n=>
       have hj:j<fl.length:=by omega
       obtain⟨f,hf⟩:∃ f,fl[j]? = some f:=⟨fl[j],List.getElem?_eq_getElem hj⟩;have Td:=XN f (List.mem_of_getElem? hf);apply aU;simp[hC,bq,hj];refine gQ ?_;simp;have hobl:(jf gs.1 f.params).length≤10:=by
        have h2:=CO f.params;unfold jf;rw[List.length_append,List.length_map];omega
       have WQ:=DM L hL gs.1 ms.1 hmp yA PZ (decide (a.1=1)) fl yA yA (fun f hf=>by have:=XN f hf;omega) f.name f.params yA (bz f.body) f.body.length left left (jf gs.1 f.params) 2 6 i (Nat.le_refl _) yA yA yA yA hi;have hM2:=hM;rw[Ky,hf] at hM2;simp only at hM2;have Zb:oK L (decide (a.1=1)) ms.1 fl=⟨L,decide (a.1=1),ms.1,fs.1.map fun f=>(f.name,f.params)⟩:=by
        have h2:fl.map (fun f=>(f.name,f.params))=fs.1.map fun f=>(f.name,f.params):=UA;simp only[oK,h2]
       obtain⟨YL,Qf⟩:=sE (oK L (decide (a.1=1)) ms.1 fl) f.params left (jf gs.1 f.params) 2 6 i left hi;rw[Zb] at WQ YL Qf;obtain⟨b,hb⟩:∃ b,l7 ⟨L,decide (a.1=1),ms.1,fs.1.map fun f=>(f.name,f.params)⟩ f.params left (jf gs.1 f.params) 2 6 i left=b:=⟨_,rfl⟩;rw[hb] at WQ YL Qf;rw[hb] at hM2;have PX:(cM fl).cells.length=fl.length*3:=bk (f:=eF) (n:=3) (fun _=>rfl) fl;have hs1:j*3+2<fl.length*3:=by omega
       have XG:j*3+2+1≤fl.length*3:=by omega
       have hs3:j*3+3≤fl.length*3:=by omega
       have ew:(⟨185,0,[CV.av 0 0,CV.az (gs.1.flatMap nW) gs.1.length,CV.az (ms.1.flatMap eL) ms.1.length,CV.bj 2 0 fl.length,I left,CV.bool (decide (a.1=1))]⟩:Ob)=bq gs.1 ms.1 fl.length left (decide (a.1=1)):=rfl;have hfc:fW f.name f.params (bz f.body) f.body.length=[.str f.name,.az (f.params.flatMap kj) f.params.length,.az (bz f.body) f.body.length]:=rfl;rw[hfc] at WQ;have SC:=MQ hf b.1;refine T.cut (fun s=>s=⟨[(16,I j),(7,.bj 6 0 gs.1.length),(3,.av 1 0),(2,.av 19 0)],[(0,aG L b.2.1),(1,bq gs.1 ms.1 fl.length b.2.2 (decide (a.1=1))),(2,cM (fl.set j ⟨f.name,f.params,b.1⟩)),(6,ba (gs.1.map (·.name))),(19,⟨27,0,lk⟩)],20⟩) ?_ ?_
       rotate_left
       ·rintro s rfl;have wj:=cE ((j:Int)+1) yA yA;apply aW;simp[hC,wj];refine⟨n,by omega,aa.trim [16,7,3,2] [0,1,2,6,19] 20 (by simp[aG,lk,bq]) yA ⟨j+1,fl.set j ⟨f.name,f.params,b.1⟩,b.2.1,b.2.2,hM2,by omega,by simp[TK],?_,?_,by omega,YL,?_⟩⟩
        ·rw[Gv (f':=⟨f.name,f.params,b.1⟩) hf rfl];exact UA
        ·intro f' Yb;rcases List.mem_or_eq_of_mem_set Yb with h | h
         ·exact XN f' h
         ·rw[h];exact Td
        ·simp
       apply T.block;have hb0:gs.1.length*16≤140737488355328:=by omega
       have QU:(ba (gs.1.map (·.name))).cells.length=gs.1.length:=by simp[ba]
       have Sz:(ba (gs.1.map (·.name))).sz=1:=rfl;have P3:(ba (gs.1.map (·.name))).elem=9:=rfl;apply aj;simp[hC,hb0,QU,Sz];have PY:List.take gs.1.length (ba (gs.1.map (·.name))).cells=(ba (gs.1.map (·.name))).cells:=List.take_of_length_le (Nat.le_of_eq QU);simp only[PY,ew];have PL:(cM fl).cells.drop (j*3)=eF f++(fl.drop (j+1)).flatMap eF:=aO (f:=eF) (n:=3) (fun _=>rfl) hf;have Rz:(cM fl).cells.drop (j*3+1)=(eF f).drop 1++(fl.drop (j+1)).flatMap eF:=bS (f:=eF) (n:=3) (fun _=>rfl) hf 1 yA;have Vo:(cM fl).sz=3:=rfl;refine T.cut (fun s=>s=⟨[(17,.bj 21 0 (jf gs.1 f.params).length),(16,I j),(7,.bj 6 0 gs.1.length),(3,.av 1 0),(2,.av 19 0)],[(0,aG L i),(1,bq gs.1 ms.1 fl.length left (decide (a.1=1))),(2,cM fl),(6,ba (gs.1.map (·.name))),(19,⟨27,0,lk⟩),(21,ba (jf gs.1 f.params))],22⟩) ?_ ?_
       ·apply aj;simp[hC];apply T.block;refine T.aJ (J34f L (decide (a.1=1)) ms.1 gs.1 fl f i left j) (n:=f.params.length) ?_ ?_
        ·refine aa.trim [18,17,16,7,3,2] [0,1,2,6,19,21] 22 (by simp[aG,lk,bq]) yA ⟨0,by simp,by omega,?_⟩;simp[ba]
        ·rintro n1 s ⟨q,hq,RI,rfl⟩;obtain⟨ow,ZE⟩:∃ ow,gs.1.map (·.name)++(f.params.take q).flatMap (fun p=>if p.mutex=true then [] else [p.name])=ow:=⟨_,rfl⟩;have hol:ow.length≤10:=by
          have h2:=CO (f.params.take q);rw[List.length_take] at h2;rw[← ZE,List.length_append,List.length_map];omega
         rw[ZE];by_cases Uk:q<f.params.length
         ·obtain⟨p,hp⟩:∃ p,f.params[q]? = some p:=⟨f.params[q],List.getElem?_eq_getElem Uk⟩;have hpd:(f.params.flatMap kj).drop (q*2)=kj p++(f.params.drop (q+1)).flatMap kj:=aO (f:=kj) (n:=2) (fun _=>rfl) hp;have hpd1:(f.params.flatMap kj).drop (q*2+1)=(kj p).drop 1++(f.params.drop (q+1)).flatMap kj:=bS (f:=kj) (n:=2) (fun _=>rfl) hp 1 yA;apply aU;simp[hC,bq,hj,Rz,eF,Uk];refine gQ ?_;simp;apply dZ;have Ui:f.params.take (q+1)=f.params.take q++[p]:=by rw[List.take_add_one,hp];rfl
          have wq:=cE ((q:Int)+1) yA yA;obtain⟨pn,pmx⟩:=p
          cases pmx with
          | true=>
           apply aj;simp[hC,hj,Rz,eF,Uk,hpd,kj];refine bh ?_;simp;apply T.skip;simp;apply aW;simp[hC,wq];refine⟨f.params.length-(q+1),by omega,?_⟩;refine aa.trim [18,17,16,7,3,2] [0,1,2,6,19,21] 22 Wj yA ⟨q+1,rfl,by omega,?_⟩;rw[Ui,List.flatMap_append,← List.append_assoc,ZE];simp[bq]
          | false=>
           apply aj;simp[hC,hj,Rz,eF,Uk,hpd,kj];refine fx ?_;simp;have S8:(ow.length+1)*16≤140737488355328:=by omega
           have V1:(ba ow).cells.length=ow.length:=by simp[ba]
           have hws:(ba ow).sz=1:=rfl;have hwe:(ba ow).elem=9:=rfl;apply aW;simp[hC,hj,Rz,eF,Uk,hpd,kj,S8,V1,hws,hwe,aX];apply aW;simp[hC,wq];refine⟨f.params.length-(q+1),by omega,?_⟩;refine aa.le (Le.trim [18,17,16,7,3,2] [0,1,2,6,19,23] 24 yBx yA) ?_;simp;refine aa.le (Le.nB 23 21 rfl rfl yA zX zX (by simp[aG,ints,lk,cM,-List.all_eq_true,-List.all_flatMap,bf (cF fl)])) ?_;simp[aG,ints];refine aa.trim [18,17,16,7,3,2] [0,1,2,6,19,21] 22 Yu yA ⟨q+1,rfl,by omega,?_⟩;rw[Ui,List.flatMap_append,← List.append_assoc,ZE];simp[aG,ints,bq,ba,lk,cZ]
         ·have hqe:q=f.params.length:=by omega
          apply aU;simp[hC,bq,hj,Rz,eF,Uk];refine bh ?_;simp;apply T.exit;simp;refine aa.trim [17,16,7,3,2] [0,1,2,6,19,21] 22 Wj yA ?_;have how2:ow=jf gs.1 f.params:=by
           rw[← ZE,hqe,List.take_length];rfl
          rw[← how2];simp
       rintro s rfl;refine T.rxw ah follows [(1,3,[.bj 2 0 fl.length])] (by simp[uZ,yR,bq]) [0,1,2,3,4,5,6,7,8,9,10,11,12,13,14,15,16,17,18,19] [(4,16)] PH ?_;simp[hC,bq,wR];refine RX.quiet (.bj 2 0 fl.length) rfl zX rfl (XV.load ah rfl rfl zX rfl rfl) ?_;simp[wR];refine RX.quiet (.bj 2 0 fl.length) rfl zX rfl (XV.load ah rfl rfl zX rfl rfl) ?_;simp[hj,PL,eF,wR];rw[ew];refine RX.ja 3 21 [0,1,2,21] [0,1] 4 (WQ) rfl zX rfl rfl rfl zX yA zX zX rfl zX Ug rfl zX zX zX rfl zX ?_;simp[hj,Vo,PX,XG,-ic,oF,thenS,Nn,yR,wR];simp[bq,SC,-ic];refine aa.trim [16,7,3,2] [0,1,2,6,19] 20 (by simp[aG,lk,-List.all_eq_true,-List.all_flatMap,-ic]) yA ?_;simp[-ic];rfl
    ·rintro s ⟨i,left,rfl⟩;apply aj;simp[hC,bq,lk];apply T.ret;refine aa.le (Le.trim [2] [2,19] 20 SK yA) ?_;simp;refine aa.le (Le.dz (o:=2) rfl (cF R.fs)) ?_;have htk3:List.take (R.fs.length*(cM R.fs).sz) (cM R.fs).cells=R.fs.flatMap eF:=List.take_of_length_le (Nat.le_of_eq (bk (f:=eF) (n:=3) (fun _=>rfl) R.fs));simp[cB,htk3];apply aa.here;simp[vS,dU];rw[← hR];exact⟨⟨rfl,rfl⟩,⟨rfl,rfl⟩⟩
end Go.Proofs.YtnecpnjdonibmaaGreat
