/- lockordermade.Program. -/
import Derived.Test.YtmnglemlimfpbaaGreatZ27
namespace Go.Proofs.YtmnglemlimfpbaaGreat
open Go.Can Go.aX
def fX (l:List Mx):Ob:=⟨95,3,l.flatMap cq⟩
def gX (l:List Gl):Ob:=⟨133,2,l.flatMap pd⟩
def lO:List CV:=[.ah,.ah,.ah]
def dH (ng nm nf left:Nat)(ar:Bool):Ob:=⟨129,0,[.aw 0 0,.bx 5 0 ng,.bx 4 0 nm,.bx 2 0 nf,I left,.bool ar]⟩
def J34 (L:List Int)(ar:Bool)(MS:List Mx×Nat)(N:Nat)(m:Nat)(s:St):Prop:=∃ (out:List Mx) (i:Nat),MS=(out++(qM L m out.length i).1,(qM L m out.length i).2)∧m+out.length=N∧i≤L.length∧
 s=⟨[(4,I out.length),(5,I N),(3,.aw 1 0),(2,.aw 19 0)],[(0,aA L i),(1,dH 0 out.length 0 24 ar),(2,⟨137,3,[]⟩),(4,fX out),(5,⟨133,2,[]⟩),(19,⟨27,0,lO⟩)],20⟩
def J34b (L:List Int)(ar:Bool)(ms:List Mx)(MS:List Gl×Nat)(N:Nat)(m:Nat)(s:St):Prop:=∃ (out:List Gl) (i:Nat),MS=(out++(vW L m out.length i).1,(vW L m out.length i).2)∧m+out.length=N∧i≤L.length∧
 s=⟨[(8,I out.length),(9,I N),(7,.bx 6 0 out.length),(3,.aw 1 0),(2,.aw 19 0)],[(0,aA L i),(1,dH out.length ms.length 0 24 ar),(2,⟨137,3,[]⟩),(4,fX ms),(5,gX out),(6,bb (out.map (·.name))),(19,⟨27,0,lO⟩)],20⟩
def J34c (L:List Int)(ar:Bool)(ms:List Mx)(gs:List Gl)(MS:List Fu×Nat)(N:Nat)(m:Nat)(s:St):Prop:=∃ (out:List Fu) (i:Nat),MS=(out++(u6 L m out.length i).1,(u6 L m out.length i).2)∧m+out.length=N+1∧i≤L.length∧
 s=⟨[(12,I out.length),(11,I N),(7,.bx 6 0 gs.length),(3,.aw 1 0),(2,.aw 19 0)],[(0,aA L i),(1,dH gs.length ms.length out.length 24 ar),(2,cX out),(4,fX ms),(5,gX gs),(6,bb (gs.map (·.name))),(19,⟨27,0,lO⟩)],20⟩
theorem oF (c:Nat)(hc:c≤10)(k:Int)(m:Nat)(hm:k=m)(hk2:m≤100):IntKind.i64.wrap (k+c)=k+c∧IntKind.u8.wrap (k+c)=k+c∧(0≤k+c∧k+c<256)∧(k+c).toNat=m+c:=by
 refine⟨ct _ yA yA,IntWalk.u8_in _ yA,by omega,by omega⟩
theorem ai {α:Type}{f:α→List CV}(hf:∀ x,trees (f x)=true)(l:List α):trees (l.flatMap f)=true:=by
 induction l with
 | nil=>rfl
 | cons a r ih=>rw[List.flatMap_cons,aC,hf,ih];rfl
mutual
theorem As (o:Nat)(ds:List CV)(n:Nat):∀ c:CV,tree c=true→cL o ds n c=c
 | .bx _ _ _,h=>by simp[tree] at h
 | .aw _ _,h=>by simp[tree] at h
 | .iter _ _ _,h=>by simp[tree] at h
 | .mp _ _,h=>by simp[tree] at h
 | .agg cs,h=>by
  simp only[tree] at h
  rw[cL,lR o ds n cs h]
 | .fn _ cs,h=>by
  simp only[tree] at h
  rw[cL,lR o ds n cs h]
 | .iface _ cs,h=>by
  simp only[tree] at h
  rw[cL,lR o ds n cs h]
 | .cr cs,h=>by
  simp only[tree] at h
  rw[cL,lR o ds n cs h]
 | .int _ _,_=>rfl
 | .bool _,_=>rfl
 | .str _,_=>rfl
 | .av _ _,_=>rfl
 | .ah,_=>rfl
 | .cM _,_=>rfl
 | .bm,_=>rfl
 | .cw,_=>rfl
 | .any,_=>rfl
theorem lR (o:Nat)(ds:List CV)(n:Nat):∀ cs:List CV,trees cs=true→iy o ds n cs=cs
 | [],_=>rfl
 | c::cs,h=>by
  simp only[trees,Bool.and_eq_true] at h
  rw[iy,As o ds n c h.1,lR o ds n cs h.2]
end
theorem ak {cs:List CV}(h:trees cs=true)(o:Nat)(ds:List CV)(n:Nat):cs.map (cL o ds n)=cs:=by
 rw[List.map_congr_left (g:=id) fun c hc=>As o ds n c (iB h c hc),List.map_id]
theorem dp (l:List Mx):trees (l.flatMap cq)=true:=ai (fun _=>rfl) l
theorem je (l:List Gl):trees (l.flatMap pd)=true:=ai (fun _=>rfl) l
@[simp] theorem mxOb_lt (l:List Mx)(n:Nat):(fX l).cells.all (a8 n)=true:=aj (dp l) n
@[simp] theorem mxOb_lts (l:List Mx)(n:Nat):aQ n (fX l).cells=true:=by rw[a7];exact aj (dp l) n
@[simp] theorem mxOb_ok1 (l:List Mx)(o q:Nat):(fX l).cells.all (m8 o q)=true:=bh (dp l) o q
@[simp] theorem Ml (l:List Mx)(o q:Nat):(fX l).cells.map (dj o q)=(fX l).cells:=aY (dp l) o q
@[simp] theorem mxOb_frz (l:List Mx)(o:Nat)(cs:List CV)(n:Nat):(⟨(fX l).elem,(fX l).sz,(fX l).cells.map (cL o cs n)⟩:Ob)=fX l:=by rw[ak (cs:=(fX l).cells) (dp l)]
@[simp] theorem glOb_frz (l:List Gl)(o:Nat)(cs:List CV)(n:Nat):(⟨(gX l).elem,(gX l).sz,(gX l).cells.map (cL o cs n)⟩:Ob)=gX l:=by rw[ak (cs:=(gX l).cells) (je l)]
@[simp] theorem mxOb_eta (l:List Mx):(⟨(fX l).elem,(fX l).sz,(fX l).cells⟩:Ob)=fX l:=rfl
@[simp] theorem glOb_lt (l:List Gl)(n:Nat):(gX l).cells.all (a8 n)=true:=aj (je l) n
@[simp] theorem glOb_lts (l:List Gl)(n:Nat):aQ n (gX l).cells=true:=by rw[a7];exact aj (je l) n
@[simp] theorem glOb_ok1 (l:List Gl)(o q:Nat):(gX l).cells.all (m8 o q)=true:=bh (je l) o q
@[simp] theorem Mq (l:List Gl)(o q:Nat):(gX l).cells.map (dj o q)=(gX l).cells:=aY (je l) o q
@[simp] theorem glOb_eta (l:List Gl):(⟨(gX l).elem,(gX l).sz,(gX l).cells⟩:Ob)=gX l:=rfl
def mY (l:List Pm):Ob:=⟨139,2,l.flatMap ld⟩
theorem nw (l:List Pm):trees (l.flatMap ld)=true:=ai (fun _=>rfl) l
@[simp] theorem pmOb_lt (l:List Pm)(n:Nat):(mY l).cells.all (a8 n)=true:=aj (nw l) n
@[simp] theorem pmOb_lts (l:List Pm)(n:Nat):aQ n (mY l).cells=true:=by rw[a7];exact aj (nw l) n
@[simp] theorem pmOb_ok1 (l:List Pm)(o q:Nat):(mY l).cells.all (m8 o q)=true:=bh (nw l) o q
@[simp] theorem LW (l:List Pm)(o q:Nat):(mY l).cells.map (dj o q)=(mY l).cells:=aY (nw l) o q
@[simp] theorem pmOb_eta (l:List Pm):(⟨(mY l).elem,(mY l).sz,(mY l).cells⟩:Ob)=mY l:=rfl
def J34d (L:List Int)(ar:Bool)(ms:List Mx)(gs:List Gl)(out:List Fu)(j N:Nat)(nm1:ByteArray)(PM:List Pm×Nat)(n:Nat)(s:St):Prop:=∃ (m:Nat) (po:List Pm) (i:Nat),PM=(po++(CK L n i).1,(CK L n i).2)∧n=(if j=0 then 0 else m)∧m+po.length≤2∧i≤L.length∧
 s=⟨[(14,I m),(13,.aw 21 0),(12,I j),(11,I N),(7,.bx 6 0 gs.length),(3,.aw 1 0),(2,.aw 19 0)],[(0,aA L i),(1,dH gs.length ms.length j 24 ar),(2,cX out),(4,fX ms),(5,gX gs),(6,bb (gs.map (·.name))),(19,⟨27,0,lO⟩),(21,⟨137,0,[.str nm1,.bx 22 0 po.length,.ah]⟩),(22,mY po)],23⟩
def J34e (L:List Int)(ar:Bool)(ms:List Mx)(gs:List Gl)(fs0:List Fu)(N:Nat)(RF:List Fu)(n:Nat)(s:St):Prop:=∃ (j:Nat) (fl:List Fu) (i left:Nat),RF=Ji ⟨L,ar,ms,fs0.map fun f=>(f.name,f.params)⟩ gs n j fl i left∧n+j=N∧fl.length=N∧fl.map sg=fs0.map sg∧(∀ f∈fl,f.params.length≤2)∧left≤24∧i≤L.length∧
 s=⟨[(16,I j),(7,.bx 6 0 gs.length),(3,.aw 1 0),(2,.aw 19 0)],[(0,aA L i),(1,bt gs ms fl.length left ar),(2,cX fl),(6,bb (gs.map (·.name))),(19,⟨27,0,lO⟩)],20⟩
theorem CM (l:List Pm):(l.flatMap fun p=>if p.mutex=true then [] else [p.name]).length≤l.length:=by
 induction l with
 | nil=>exact Nat.le_refl _
 | cons x r ih=>
  rw[List.flatMap_cons,List.length_append,List.length_cons]
  split
  ·simp only[List.length_nil];omega
  ·simp only[List.length_cons,List.length_nil];omega
theorem K2 {fl:List Fu}{j:Nat}{f:Fu}(h:fl[j]? = some f)(b:List Sm):eO (cX fl).cells (j*3+2) [.av (bA b) b.length]=(cX (fl.set j ⟨f.name,f.params,b⟩)).cells:=by
 induction fl generalizing j with
 | nil=>simp at h
 | cons a r ih=>
  cases j with
  | zero=>
   simp only[List.getElem?_cons_zero,Option.some.injEq] at h
   subst h
   simp[cX,fk,eO]
  | succ j=>
   simp only[List.getElem?_cons_succ] at h
   have e:=ih h
   simp only[cX,eO,List.flatMap_cons,List.set_cons_succ] at e ⊢
   rw[show (j+1)*3+2=(fk a).length+(j*3+2) by simp[fk];omega,List.take_append,List.take_of_length_le yA,Nat.add_sub_cancel_left,show (fk a).length+(j*3+2)+[CV.av (bA b) b.length].length=(fk a).length+(j*3+2+[CV.av (bA b) b.length].length) by omega,List.drop_append,List.drop_of_length_le yA,Nat.add_sub_cancel_left,List.nil_append,List.append_assoc,List.append_assoc,← List.append_assoc (List.take _ _),e]
def J34f (L:List Int)(ar:Bool)(ms:List Mx)(gs:List Gl)(fl:List Fu)(f:Fu)(i left j:Nat)(n:Nat)(s:St):Prop:=∃ q:Nat,n=f.params.length-q∧q≤f.params.length∧
 s=⟨[(18,I q),(17,.bx 21 0 (gs.map (·.name)++(f.params.take q).flatMap (fun p=>if p.mutex=true then [] else [p.name])).length),(16,I j),(7,.bx 6 0 gs.length),(3,.aw 1 0),(2,.aw 19 0)],[(0,aA L i),(1,bt gs ms fl.length left ar),(2,cX fl),(6,bb (gs.map (·.name))),(19,⟨27,0,lO⟩),(21,bb (gs.map (·.name)++(f.params.take q).flatMap (fun p=>if p.mutex=true then [] else [p.name])))],22⟩
set_option maxHeartbeats 8000000 in
theorem BN (l:List Int)(hl:l.length≤9223372036854775807):ae Tryz.prog 34 [ints l] (wT (Bj l)):=by
 generalize hR:Bj l=R
 refine ae.aB ag Tryz.func34 rfl yAb (by simp[Tryz.ntmps34]) rfl fun C hC hC0=>?_
 rw[Tryz.ntmps34] at hC
 apply au
 simp[hC]
 apply au
 simp[hC]
 refine cH yAd (Ld l 400 hl) ?_
 simp[hC]
 have hL:(l.take 400).length≤1000:=by simp;omega
 simp only[Bj] at hR
 generalize l.take 400=L at hL hR
 refine T.le (Le.up 20 yAa) ?_
 simp
 refine T.le (Le.trim [3,2] [0,1,2] 20 yAa yA) ?_
 simp
 refine T.le (Le.oP 0 19 rfl rfl yA yAa yAa (by simp[ints])) ?_
 simp[ints]
 refine T.le (Le.oP 1 0 rfl rfl yA yAa yAa yAa) ?_
 simp
 refine T.le (Le.oP 2 1 rfl rfl yA yAa yAa yAa) ?_
 simp
 refine T.le (Le.kz 1 3 137 3 rfl rfl) ?_
 simp
 refine T.le (Le.kz 1 2 95 3 rfl rfl) ?_
 simp
 refine T.le (Le.kz 1 1 133 2 rfl rfl) ?_
 simp
 refine T.le (Le.oP 20 2 rfl rfl yA yAa yAa yAa) ?_
 simp
 refine T.le (Le.oP 21 4 rfl rfl yA yAa yAa yAa) ?_
 simp
 refine T.le (Le.oP 22 5 rfl rfl yA yAa yAa yAa) ?_
 simp
 refine T.le (Le.trim [3,2] [0,1,2,4,5,19] 20 yAa yA) ?_
 simp
 have es:(⟨127,0,[CV.av (L.map bM) L.length,.int .i64 0]⟩:Ob)=aA L 0:=rfl
 rw[es]
 have hi0:=ba L 3 (Nat.zero_le L.length)
 have hn0:=cz L 0 3 (Nat.zero_le _) hL yA yA
 obtain⟨a,ha⟩:∃ a,cb L 0 3=a:=⟨_,rfl⟩
 rw[ha] at hi0 hn0
 simp only[ha] at hR
 apply au
 simp[hC]
 refine TL.cO ag [0] 1 (hn0) yAc rfl rfl rfl rfl yAa yAi yAj rfl (TL.go' ag ?_)
 simp[hC]
 have hi1:=ba L 4 hi0
 have hn1:=cz L a.2 4 hi0 hL yA yA
 have hlt1:=dk L a.2 (show 0<4 by omega)
 obtain⟨nm,hnm⟩:∃ nm,cb L a.2 4=nm:=⟨_,rfl⟩
 rw[hnm] at hi1 hn1 hlt1
 simp only[hnm] at hR
 have w1:=ct (1+(nm.1:Int)) yA yA
 refine T.cut (fun s=>s=⟨[(3,.aw 1 0),(2,.aw 19 0)],[(0,aA L (qM L (1+nm.1) 0 nm.2).2),(1,dH 0 (qM L (1+nm.1) 0 nm.2).1.length 0 24 (decide (a.1=1))),(2,⟨137,3,[]⟩),(4,fX (qM L (1+nm.1) 0 nm.2).1),(5,⟨133,2,[]⟩),(19,⟨27,0,lO⟩)],20⟩) ?_ ?_
 ·clear hR
  apply au
  simp[hC]
  refine TL.cO ag [0] 1 (hn1) yAc rfl rfl rfl rfl yAa yAi yAj rfl (TL.go' ag ?_)
  simp[hC,w1]
  apply T.block
  generalize hMS:qM L (1+nm.1) 0 nm.2=MS
  refine T.aL (J34 L (decide (a.1=1)) MS (1+nm.1)) (n:=1+nm.1) ?_ ?_
  ·refine aa.trim [4,5,3,2] [0,1,2,4,5,19] 20 yAx yA ⟨[],nm.2,by simp[hMS],by simp,hi1,?_⟩
   simp[dH,fX,lO]
  ·rintro n s ⟨out,i,hM,hno,hi,rfl⟩
   cases n with
   | zero=>
    have ho:out.length=1+nm.1:=by omega
    have hlt:¬ ((out.length:Int)<1+nm.1):=by omega
    apply aJ
    simp[hC,hlt]
    refine bj ?_
    simp
    apply T.exit
    simp
    refine aa.trim [3,2] [0,1,2,4,5,19] 20 yBg yA ?_
    rw[hM]
    simp[qM]
   | succ n=>
    have ho:out.length≤3:=by omega
    obtain⟨c1,c2,c3,c4⟩:=oF out.length yA 97 97 rfl yA
    have hlt:(out.length:Int)<1+nm.1:=by omega
    apply aJ
    simp[hC,hlt]
    refine iv ?_
    simp
    apply fq
    refine T.seq (T.Bl ag ?_)
    simp[hC,c1,c2,c3,c4]
    refine T.le (Le.trim [6,4,5,3,2] [0,1,2,4,5,19,21] 22 yBg yA) ?_
    simp
    have hch:(⟨#[97+UInt8.ofNat out.length]⟩:ByteArray)=eg (97+out.length):=by simp[eg]
    rw[hch]
    refine T.cut (fun s=>∃ (m:Mx) (i2:Nat),qM L (n+1) out.length i=(m::(qM L n (out.length+1) i2).1,(qM L n (out.length+1) i2).2)∧i2≤L.length∧
     s=⟨[(6,.aw 21 0),(4,I out.length),(5,I (1+nm.1)),(3,.aw 1 0),(2,.aw 19 0)],[(21,⟨95,0,cq m⟩),(0,aA L i2),(1,dH 0 out.length 0 24 (decide (a.1=1))),(2,⟨137,3,[]⟩),(4,fX out),(5,⟨133,2,[]⟩),(19,⟨27,0,lO⟩)],22⟩) ?_ ?_
    ·have hnx:=cz L i 5 hi hL yA yA
     have hi2:=ba L 5 hi
     rw[qM]
     obtain⟨k,hk⟩:∃ k,cb L i 5=k:=⟨_,rfl⟩
     simp only[hk] at hnx hi2 ⊢
     apply au
     simp[hC,dH]
     refine TL.cO ag [0] 1 (hnx) yAc rfl rfl rfl rfl yAa yAi yAj rfl (TL.go' ag ?_)
     simp
     apply T.block
     apply au
     simp[hC]
     refine T.bg rfl (fun h=>?_) (fun h=>?_)
     ·have h1:k.1=1:=by simpa using h
      apply aO
      simp[hC]
      refine aa.trim [6,4,5,3,2] [21,0,1,2,4,5,19] 22 yBj yA ⟨⟨eg (97+out.length),true,0⟩,k.2,by rw[if_pos h1],hi2,?_⟩
      simp[cq]
     have h1:¬ k.1=1:=by simpa using h
     apply au
     simp[hC]
     refine T.bg rfl (fun h=>?_) (fun h=>?_)
     ·have h2:k.1=2:=by simpa using h
      have hn3:=cz L k.2 3 hi2 hL yA yA
      have hi3:=ba L 3 hi2
      have hlt3:=dk L k.2 (show 0<3 by omega)
      obtain⟨q,hq⟩:∃ q,cb L k.2 3=q:=⟨_,rfl⟩
      simp only[hq] at hn3 hi3 hlt3 ⊢
      have wq:=ct (1+(q.1:Int)) yA yA
      apply aO
      simp[hC]
      refine TL.cO ag [0] 1 (hn3) yAc rfl rfl rfl rfl yAa yAi yAj rfl (TL.go' ag ?_)
      simp[hC,wq]
      refine aa.trim [6,4,5,3,2] [21,0,1,2,4,5,19] 22 yBj yA ⟨⟨eg (97+out.length),false,1+q.1⟩,q.2,by rw[if_neg h1,if_pos h2],hi3,?_⟩
      simp[cq]
     ·have h2:¬ k.1=2:=by simpa using h
      apply T.skip
      simp
      refine aa.trim [6,4,5,3,2] [21,0,1,2,4,5,19] 22 yBj yA ⟨⟨eg (97+out.length),false,0⟩,k.2,by rw[if_neg h1,if_neg h2],hi2,?_⟩
      simp[cq]
    rintro s ⟨m,i2,hm,hi2,rfl⟩
    have hb:(out.length+1)*32≤140737488355328:=by omega
    have hml:(fX out).cells.length=out.length*3:=aD (f:=cq) (n:=3) (fun _=>rfl) out
    have hms:(fX out).sz=3:=rfl
    have hme:(fX out).elem=95:=rfl
    have wo:=ct ((out.length:Int)+1) yA yA
    refine T.rx ag follows [0,1,2,3,4,5,6,7,8,9,10,11,12] [(5,7)] yAb ?_
    simp[hC,dH,cq,hml,hms,hme,hb,aI]
    apply aO
    simp[hC,wo]
    refine⟨n,by omega,?_⟩
    refine aa.le (Le.trim [4,5,3,2] [0,1,2,5,19,35] 36 yCc yA) ?_
    simp
    refine aa.le (Le.oP 35 4 rfl rfl yA yAa yAa yCg) ?_
    simp[aA,ints]
    refine aa.trim [4,5,3,2] [0,1,2,4,5,19] 20 yBr yA ⟨out++[m],i2,?_,?_,hi2,?_⟩
    ·rw[hM,hm];simp
    ·simp;omega
    ·simp[aA,ints,dH,fX,cq,lO,dj]
 ·rintro s rfl
  obtain⟨_,hml,hmz,hmi⟩:=zZ L (1+nm.1) 0 nm.2 yA
  have hi2:=hmi hi1
  obtain⟨ms,hms⟩:∃ ms,qM L (1+nm.1) 0 nm.2=ms:=⟨_,rfl⟩
  simp only[hms] at hR hml hmz hi2 ⊢
  clear hmi
  have hn2:=cz L ms.2 3 hi2 hL yA yA
  have hi3:=ba L 3 hi2
  have hlt2:=dk L ms.2 (show 0<3 by omega)
  obtain⟨ng,hng⟩:∃ ng,cb L ms.2 3=ng:=⟨_,rfl⟩
  rw[hng] at hn2 hi3 hlt2
  simp only[hng] at hR
  apply au
  simp[hC]
  refine T.cut (fun s=>s=⟨[(7,.bx 6 0 ng.1),(3,.aw 1 0),(2,.aw 19 0)],[(0,aA L (vW L ng.1 0 ng.2).2),(1,dH ng.1 ms.1.length 0 24 (decide (a.1=1))),(2,⟨137,3,[]⟩),(4,fX ms.1),(5,gX (vW L ng.1 0 ng.2).1),(6,bb ((vW L ng.1 0 ng.2).1.map (·.name))),(19,⟨27,0,lO⟩)],20⟩) ?_ ?_
  ·clear hR
   apply au
   simp[hC,dH]
   refine TL.cO ag [0] 1 (hn2) yAc rfl rfl rfl rfl yAa yAi yAj rfl (TL.go' ag ?_)
   simp[hC]
   apply T.block
   generalize hMS:vW L ng.1 0 ng.2=MS
   have ew:(⟨129,0,[CV.aw 0 0,CV.bx 5 0 0,CV.bx 4 0 ms.1.length,CV.bx 2 0 0,I 24,CV.bool (decide (a.1=1))]⟩:Ob)=dH 0 ms.1.length 0 24 (decide (a.1=1)):=rfl
   refine T.aL (J34b L (decide (a.1=1)) ms.1 MS ng.1) (n:=ng.1) ?_ ?_
   ·refine aa.le (Le.own 7 9 1 rfl) ?_
    simp
    refine aa.le (Le.oP 20 6 rfl rfl yA yAa yAa yCg) ?_
    simp[aA,ints]
    refine aa.trim [8,9,7,3,2] [0,1,2,4,5,6,19] 20 yBr yA ⟨[],ng.2,?_,by simp,hi3,?_⟩
    ·simp[hMS]
    ·simp[aA,ints,dH,gX,bb,lO,dj]
   ·rintro n s ⟨out,i,hM,hno,hi,rfl⟩
    cases n with
    | zero=>
     have ho:out.length=ng.1:=by omega
     have hlt:¬ ((out.length:Int)<ng.1):=by omega
     apply aJ
     simp[hC,hlt]
     refine bj ?_
     simp
     apply T.exit
     simp
     refine aa.trim [7,3,2] [0,1,2,4,5,6,19] 20 yBg yA ?_
     rw[hM]
     simp[vW,ho,dH]
    | succ n=>
     have ho:out.length≤1:=by omega
     obtain⟨c1,c2,c3,c4⟩:=oF out.length yA 48 48 rfl yA
     have hlt:(out.length:Int)<ng.1:=by omega
     have hnx:=cz L i 5 hi hL yA yA
     have hi2:=ba L 5 hi
     have hlt5:=dk L i (show 0<5 by omega)
     rw[vW] at hM
     obtain⟨k,hk⟩:∃ k,cb L i 5=k:=⟨_,rfl⟩
     simp only[hk] at hnx hi2 hlt5 hM
     have wk:=ct ((k.1:Int)-2) yA yA
     have hch:(⟨#[48+UInt8.ofNat out.length]⟩:ByteArray)=eg (48+out.length):=by simp[eg]
     have so:lK BinOp.add ⟨#[103]⟩ (eg (48+out.length))=some (.str (⟨#[103]⟩++eg (48+out.length))):=rfl
     apply aJ
     simp[hC,hlt]
     refine iv ?_
     simp
     apply fq
     apply T.seq
     refine T.rx ag follows [0,1,2,3,4,5,6,7,8,9,13,10,11,12,14] [(2,13),(2,10),(3,9),(3,13),(3,10),(4,13),(4,10),(9,13),(13,10)] yAb ?_
     simp[hC,dH,c1,c2,c3,c4,hch,so]
     refine RX.cO [0] [0] 1 (hnx) rfl yAa rfl rfl rfl rfl yAa yAi yAj rfl rfl rfl yAa ?_
     simp[wk]
     refine T.le (Le.trim [10,8,9,7,3,2] [0,1,2,4,5,6,19,33] 34 yBj yA) ?_
     simp
     have hb:(out.length+1)*24≤140737488355328:=by omega
     have hb2:(out.length+1)*16≤140737488355328:=by omega
     have hgl:(gX out).cells.length=out.length*2:=aD (f:=pd) (n:=2) (fun _=>rfl) out
     have hgs:(gX out).sz=2:=rfl
     have hge:(gX out).elem=133:=rfl
     have hnl:(bb (out.map (·.name))).cells.length=out.length:=by simp[bb]
     have hns:(bb (out.map (·.name))).sz=1:=rfl
     have hne:(bb (out.map (·.name))).elem=9:=rfl
     have wo:=ct ((out.length:Int)+1) yA yA
     refine T.rx ag follows [0,1,2,3,4,5,6,7,8,9,10,11,12,13,14,15,16,17,18] [(5,7),(5,12),(6,12),(7,11),(7,12),(8,11),(8,12)] yAb ?_
     simp[hC,hb,hb2,hgl,hgs,hge,hnl,hns,hne,aI]
     apply aO
     simp[hC,wo]
     refine⟨n,by omega,?_⟩
     refine aa.le (Le.trim [8,9,7,3,2] [0,1,2,4,19,53,54] 55 yCc yA) ?_
     simp
     refine aa.le (Le.oP 53 5 rfl rfl yA yAa yAa yCg) ?_
     simp[aA,ints]
     refine aa.le (Le.oP 54 6 rfl rfl yA yAa yAa yBr) ?_
     simp
     refine aa.trim [8,9,7,3,2] [0,1,2,4,5,6,19] 20 yBr yA ⟨out++[⟨⟨#[103]⟩++eg (48+out.length),(k.1:Int)-2⟩],k.2,?_,?_,hi2,?_⟩
     ·rw[hM];simp
     ·simp;omega
     ·simp[aA,ints,dH,gX,pd,bb,lO,dj]
  ·rintro s rfl
   obtain⟨_,hgl,hgz,hgi⟩:=GP L ng.1 0 ng.2 yA
   have hi4:=hgi hi3
   obtain⟨gs,hgs⟩:∃ gs,vW L ng.1 0 ng.2=gs:=⟨_,rfl⟩
   simp only[hgs] at hR hgl hgz hi4 ⊢
   clear hgi
   rw[← hgl]
   have hn3:=cz L gs.2 4 hi4 hL yA yA
   have hi5:=ba L 4 hi4
   have hlt3:=dk L gs.2 (show 0<4 by omega)
   obtain⟨nf,hnf⟩:∃ nf,cb L gs.2 4=nf:=⟨_,rfl⟩
   rw[hnf] at hn3 hi5 hlt3
   simp only[hnf] at hR
   apply au
   simp[hC,dH]
   refine TL.cO ag [0] 1 (hn3) yAc rfl rfl rfl rfl yAa yAi yAj rfl (TL.go' ag ?_)
   simp[hC]
   refine T.cut (fun s=>s=⟨[(7,.bx 6 0 gs.1.length),(3,.aw 1 0),(2,.aw 19 0)],[(0,aA L (u6 L (nf.1+1) 0 nf.2).2),(1,dH gs.1.length ms.1.length (u6 L (nf.1+1) 0 nf.2).1.length 24 (decide (a.1=1))),(2,cX (u6 L (nf.1+1) 0 nf.2).1),(4,fX ms.1),(5,gX gs.1),(6,bb (gs.1.map (·.name))),(19,⟨27,0,lO⟩)],20⟩) ?_ ?_
   ·clear hR
    apply au
    simp[hC]
    apply T.block
    generalize hMS:u6 L (nf.1+1) 0 nf.2=MS
    refine T.aL (J34c L (decide (a.1=1)) ms.1 gs.1 MS nf.1) (n:=nf.1+1) ?_ ?_
    ·refine aa.trim [12,11,7,3,2] [0,1,2,4,5,6,19] 20 yBj yA ⟨[],nf.2,by simp[hMS],by simp,hi5,?_⟩
     simp[dH,cX]
    ·rintro n s ⟨out,i,hM,hno,hi,rfl⟩
     cases n with
     | zero=>
      have ho:out.length=nf.1+1:=by omega
      have hlt:¬ ((out.length:Int)≤nf.1):=by omega
      apply aJ
      simp[hC,hlt]
      refine bj ?_
      simp
      apply T.exit
      simp
      refine aa.trim [7,3,2] [0,1,2,4,5,6,19] 20 yBg yA ?_
      rw[hM]
      simp[u6,ho,dH]
     | succ n=>
      obtain⟨j,hj⟩:∃ j,out.length=j:=⟨_,rfl⟩
      simp only[hj] at hM hno ⊢
      have ho:j≤3:=by omega
      obtain⟨c1,c2,c3,c4⟩:=oF j yA 48 48 rfl yA
      have hlt:(j:Int)≤nf.1:=by omega
      have hch:(⟨#[48+UInt8.ofNat j]⟩:ByteArray)=eg (48+j):=by simp[eg]
      have so:lK BinOp.add ⟨#[102]⟩ (eg (48+j))=some (.str (⟨#[102]⟩++eg (48+j))):=rfl
      apply aJ
      simp[hC,hlt]
      refine iv ?_
      simp
      apply fq
      refine T.seq (T.Bl ag ?_)
      simp[hC,c1,c2,c3,c4,hch,so]
      refine T.le (Le.trim [13,12,11,7,3,2] [0,1,2,4,5,6,19,21] 22 yBg yA) ?_
      simp
      rw[u6] at hM
      simp only at hM
      obtain⟨nm1,hnm1⟩:∃ x,(if j=0 then (⟨#[109,97,105,110]⟩:ByteArray) else ⟨#[102]⟩++eg (48+j))=x:=⟨_,rfl⟩
      rw[hnm1] at hM
      refine T.cut (fun s=>s=⟨[(13,.aw 21 0),(12,I j),(11,I nf.1),(7,.bx 6 0 gs.1.length),(3,.aw 1 0),(2,.aw 19 0)],[(0,aA L i),(1,dH gs.1.length ms.1.length j 24 (decide (a.1=1))),(2,cX out),(4,fX ms.1),(5,gX gs.1),(6,bb (gs.1.map (·.name))),(19,⟨27,0,lO⟩),(21,⟨137,0,[.str nm1,.ah,.ah]⟩)],22⟩) ?_ ?_
      ·apply au
       simp[hC]
       refine T.bg rfl (fun h=>?_) (fun h=>?_)
       ·have h0:j=0:=by
         simp at h
         omega
        rw[if_pos h0] at hnm1
        apply aO
        simp[hC]
        refine aa.trim [13,12,11,7,3,2] [0,1,2,4,5,6,19,21] 22 yBg yA ?_
        simp[hnm1]
       ·have h0:¬ j=0:=by
         simp at h
         omega
        rw[if_neg h0] at hnm1
        apply T.skip
        simp
        refine aa.trim [13,12,11,7,3,2] [0,1,2,4,5,6,19,21] 22 yBg yA ?_
        simp[hnm1]
      rintro s rfl
      have hnx:=cz L i 3 hi hL yA yA
      have hi6:=ba L 3 hi
      have hlt6:=dk L i (show 0<3 by omega)
      obtain⟨k,hk⟩:∃ k,cb L i 3=k:=⟨_,rfl⟩
      rw[hk] at hnx hi6 hlt6
      simp only[hk] at hM
      obtain⟨PM,hPM⟩:∃ x,CK L (if j=0 then 0 else k.1) k.2=x:=⟨_,rfl⟩
      rw[hPM] at hM
      have hpi:PM.2≤L.length∧PM.1.length≤2:=by
       rw[← hPM]
       have h1:(if j=0 then 0 else k.1)≤2:=by split<;>omega
       obtain⟨_,p2,p3⟩:=FW L (if j=0 then 0 else k.1) k.2 h1
       exact⟨p3 hi6,by omega⟩
      refine T.cut (fun s=>s=⟨[(13,.aw 21 0),(12,I j),(11,I nf.1),(7,.bx 6 0 gs.1.length),(3,.aw 1 0),(2,.aw 19 0)],[(0,aA L PM.2),(1,dH gs.1.length ms.1.length j 24 (decide (a.1=1))),(2,cX out),(4,fX ms.1),(5,gX gs.1),(6,bb (gs.1.map (·.name))),(19,⟨27,0,lO⟩),(21,⟨137,0,[.str nm1,.bx 22 0 PM.1.length,.ah]⟩),(22,mY PM.1)],23⟩) ?_ ?_
      ·apply au
       simp[hC,dH]
       refine TL.cO ag [0] 1 (hnx) yAc rfl rfl rfl rfl yAa yAi yAj rfl (TL.go' ag ?_)
       simp[hC]
       apply T.block
       refine T.aL (J34d L (decide (a.1=1)) ms.1 gs.1 out j nf.1 nm1 PM) (n:=if j=0 then 0 else k.1) ?_ ?_
       ·refine aa.le (Le.kz 21 1 139 2 rfl rfl) ?_
        simp
        refine aa.trim [14,13,12,11,7,3,2] [0,1,2,4,5,6,19,21,22] 23 yBj yA ⟨k.1,[],k.2,?_,rfl,?_,hi6,?_⟩
        ·simp[hPM]
        ·simp;omega
        ·simp[dH,mY]
       ·rintro n1 s ⟨m,po,i1,hP,hn1,hpo,hi7,rfl⟩
        by_cases hg:0<n1
        ·have h0:¬ j=0:=by
          intro h
          rw[if_pos h] at hn1
          omega
         rw[if_neg h0] at hn1
         subst hn1
         obtain⟨m,rfl⟩:∃ q,n1=q+1:=⟨n1-1,by omega⟩
         have g1:0<j:=by omega
         rw[CK] at hP
         have hnx1:=cz L i1 3 hi7 hL yA yA
         have hi8:=ba L 3 hi7
         obtain⟨q,hq⟩:∃ q,cb L i1 3=q:=⟨_,rfl⟩
         simp only[hq] at hnx1 hi8 hP
         obtain⟨mm,hmm⟩:∃ mm,m+1=mm:=⟨_,rfl⟩
         simp only[hmm] at hP ⊢
         obtain⟨d1,d2,d3,d4⟩:=oF mm yA 48 48 rfl yA
         have hch1:(⟨#[48+UInt8.ofNat mm]⟩:ByteArray)=eg (48+mm):=by simp[eg]
         have so1:lK BinOp.add ⟨#[112]⟩ (eg (48+mm))=some (.str (⟨#[112]⟩++eg (48+mm))):=rfl
         have hmp:0<mm:=by omega
         apply aJ
         simp[hC,g1,hmp]
         refine iv ?_
         simp
         refine T.seq (T.block (T.seq ?_))
         refine T.rx ag follows [0,1,2,3,4,5,6,7,8,9,13,10,11,12,14] [(2,13),(2,10),(3,9),(3,13),(3,10),(4,13),(4,10),(9,13),(13,10)] yAb ?_
         simp[hC,dH,d1,d2,d3,d4,hch1,so1]
         refine RX.cO [0] [0] 1 (hnx1) rfl yAa rfl rfl rfl rfl yAa yAi yAj rfl rfl rfl yAa ?_
         simp
         have hb:(po.length+1)*24≤140737488355328:=by omega
         have hgl:(mY po).cells.length=po.length*2:=aD (f:=ld) (n:=2) (fun _=>rfl) po
         have hgs:(mY po).sz=2:=rfl
         have hge:(mY po).elem=139:=rfl
         have wo:=ct (m:Int) yA yA
         have wm:(mm:Int)-1=(m:Int):=by omega
         apply aO
         simp[hC,hb,hgl,hgs,hge,aI]
         apply aO
         simp[hC,wm,wo]
         refine⟨m,by omega,?_⟩
         refine aa.le (Le.trim [14,13,12,11,7,3,2] [0,1,2,4,5,6,19,21,39] 40 yCc yA) ?_
         simp
         refine aa.le (Le.oP 39 22 rfl rfl yA yAa yAa (by simp[aA,ints,lO,cX,-List.all_eq_true,-List.all_flatMap,bh (cP out)])) ?_
         simp[aA,ints]
         refine aa.trim [14,13,12,11,7,3,2] [0,1,2,4,5,6,19,21,22] 23 yBr yA ⟨m,po++[⟨⟨#[112]⟩++eg (48+mm),decide (0<q.1)⟩],q.2,?_,?_,?_,hi8,?_⟩
         ·rw[hP];simp
         ·rw[if_neg h0]
         ·simp;omega
         ·simp[aA,ints,dH,mY,ld,lO,dj]
        ·have hn0:n1=0:=by omega
         have hPM2:PM=(po,i1):=by
          rw[hP,hn0]
          simp[CK]
         by_cases hm0:0<m
         ·have g1:¬ 0<j:=by
           intro h
           rw[if_neg yA] at hn1
           omega
          apply aJ
          simp[hC,hm0,g1]
          refine bj ?_
          simp
          apply T.exit
          simp
          refine aa.trim [13,12,11,7,3,2] [0,1,2,4,5,6,19,21,22] 23 yBg yA ?_
          simp[hPM2,dH]
         ·apply aJ
          simp[hC,hm0]
          refine bj ?_
          simp
          apply T.exit
          simp
          refine aa.trim [13,12,11,7,3,2] [0,1,2,4,5,6,19,21,22] 23 yBg yA ?_
          simp[hPM2,dH]
      rintro s rfl
      refine T.le (Le.nz [] [21]) ?_
      simp[nz]
      refine T.le (Le.cG (o:=22) rfl (nw PM.1)) ?_
      have htk:List.take (PM.1.length*(mY PM.1).sz) (mY PM.1).cells=PM.1.flatMap ld:=List.take_of_length_le (Nat.le_of_eq (aD (f:=ld) (n:=2) (fun _=>rfl) PM.1))
      simp[cL,htk,dH]
      have hb:(j+1)*64≤140737488355328:=by omega
      have hgl:(cX out).cells.length=j*3:=by rw[← hj];exact aD (f:=fk) (n:=3) (fun _=>rfl) out
      have hgs:(cX out).sz=3:=rfl
      have hge:(cX out).elem=137:=rfl
      have wo:=ct ((j:Int)+1) yA yA
      refine T.rx ag follows [0,1,2,3,4,5,6,7,8,9,10,11,12] [(5,7)] yAb ?_
      simp[hC,hgl,hgs,hge,hb,aI]
      apply aO
      simp[hC,wo]
      refine⟨n,by omega,?_⟩
      refine aa.le (Le.trim [12,11,7,3,2] [0,1,4,5,6,19,36] 37 (by simp[aA,lO,cL,-List.all_eq_true,-List.all_flatMap]) yA) ?_
      simp
      refine aa.le (Le.oP 36 2 rfl rfl yA yAa yAa (by simp[aA,ints,lO,cL,-List.all_eq_true,-List.all_flatMap])) ?_
      simp[aA,ints]
      refine aa.trim [12,11,7,3,2] [0,1,2,4,5,6,19] 20 (by simp[lO,dj,cL,-List.all_eq_true,-List.all_flatMap]) yA ⟨out++[⟨nm1,PM.1,[]⟩],PM.2,?_,?_,hpi.1,?_⟩
      ·rw[hM];simp[hj]
      ·simp;omega
      ·simp[aA,ints,dH,cX,fk,bA,lO,dj,cL,hj]
   ·rintro s rfl
    obtain⟨_,hfl,hfz,hf0,hfi⟩:=GQ L (nf.1+1) 0 nf.2 yA
    have hi6:=hfi hi5
    obtain⟨fs,hfs⟩:∃ fs,u6 L (nf.1+1) 0 nf.2=fs:=⟨_,rfl⟩
    simp only[hfs] at hR hfl hfz hf0 hi6 ⊢
    clear hfi
    refine T.le (Le.cG (o:=5) rfl (je gs.1)) ?_
    have htk:List.take (gs.1.length*(gX gs.1).sz) (gX gs.1).cells=gs.1.flatMap pd:=List.take_of_length_le (Nat.le_of_eq (aD (f:=pd) (n:=2) (fun _=>rfl) gs.1))
    simp[cL,htk,dH]
    refine T.le (Le.cG (o:=4) rfl (dp ms.1)) ?_
    have htk2:List.take (ms.1.length*(fX ms.1).sz) (fX ms.1).cells=ms.1.flatMap cq:=List.take_of_length_le (Nat.le_of_eq (aD (f:=cq) (n:=3) (fun _=>rfl) ms.1))
    simp[cL,htk2]
    refine T.le (Le.trim [7,3,2] [0,1,2,6,19] 20 (by simp[aA,lO,cL,-List.all_eq_true,-List.all_flatMap]) yA) ?_
    simp
    have ew:(⟨129,0,[CV.aw 0 0,CV.av (gs.1.flatMap pd) gs.1.length,CV.av (ms.1.flatMap cq) ms.1.length,CV.bx 2 0 fs.1.length,.int .i64 24,CV.bool (decide (a.1=1))]⟩:Ob)=bt gs.1 ms.1 fs.1.length 24 (decide (a.1=1)):=rfl
    rw[ew]
    clear ew htk htk2
    have h19:(lO.map (cL 4 (fX ms.1).cells (fX ms.1).sz∘cL 5 (gX gs.1).cells (gX gs.1).sz))=lO:=rfl
    rw[h19]
    clear h19
    have hmp:0<ms.1.length:=by omega
    have hsz:∀ m∈ms.1,m.size≤1000:=fun m hm=>by have:=(hmz m hm).1;omega
    have hpl:∀ f∈fs.1,f.params.length≤2:=fun f hf=>by
     obtain⟨_,k,h1,h2⟩:=hfz f hf
     have:=congrArg List.length h2
     simp[nP] at this
     omega
    refine T.cut (fun s=>∃ (i left:Nat),s=⟨[(3,.aw 1 0),(2,.aw 19 0)],[(0,aA L i),(1,bt gs.1 ms.1 R.fs.length left (decide (a.1=1))),(2,cX R.fs),(19,⟨27,0,lO⟩)],20⟩) ?_ ?_
    ·apply au
     simp[hC]
     apply T.block
     refine T.aL (J34e L (decide (a.1=1)) ms.1 gs.1 fs.1 (nf.1+1) R.fs) (n:=nf.1+1) ?_ ?_
     ·refine aa.trim [16,7,3,2] [0,1,2,6,19] 20 (by simp[aA,lO,bt]) yA ⟨0,fs.1,fs.2,24,?_,by omega,by omega,rfl,hpl,by omega,hi6,?_⟩
      ·rw[← hR]
      ·simp
     ·rintro n s ⟨j,fl,i,left,hM,hjn,hll,hsg,hpl1,hlt24,hi,rfl⟩
      cases n with
      | zero=>
       have hj:¬ j<fl.length:=by omega
       have hfin:R.fs=fl:=by rw[hM];rfl
       apply aJ
       simp[hC,bt,hj]
       refine bj ?_
       simp
       apply T.exit
       simp
       refine aa.trim [3,2] [0,1,2,19] 20 yBj yA ⟨i,left,?_⟩
       simp[hfin]
      | succ n=>
       have hj:j<fl.length:=by omega
       obtain⟨f,hf⟩:∃ f,fl[j]? = some f:=⟨fl[j],List.getElem?_eq_getElem hj⟩
       have hfp:=hpl1 f (List.mem_of_getElem? hf)
       apply aJ
       simp[hC,bt,hj]
       refine iv ?_
       simp
       have hobl:(jF gs.1 f.params).length≤10:=by
        have h2:=CM f.params
        unfold jF
        rw[List.length_append,List.length_map]
        omega
       have hbok:=Dx L hL gs.1 ms.1 hmp yA hsz (decide (a.1=1)) fl yA yA (fun f hf=>by have:=hpl1 f hf;omega) f.name f.params yA (bA f.body) f.body.length left left (jF gs.1 f.params) 2 6 i (Nat.le_refl _) yA yA yA yA hi
       have hM2:=hM
       rw[Ji,hf] at hM2
       simp only at hM2
       have hwr:pU L (decide (a.1=1)) ms.1 fl=⟨L,decide (a.1=1),ms.1,fs.1.map fun f=>(f.name,f.params)⟩:=by
        have h2:fl.map (fun f=>(f.name,f.params))=fs.1.map fun f=>(f.name,f.params):=hsg
        simp only[pU,h2]
       obtain⟨hbi,hbl⟩:=tj (pU L (decide (a.1=1)) ms.1 fl) f.params left (jF gs.1 f.params) 2 6 i left hi
       rw[hwr] at hbok hbi hbl
       obtain⟨b,hb⟩:∃ b,nh ⟨L,decide (a.1=1),ms.1,fs.1.map fun f=>(f.name,f.params)⟩ f.params left (jF gs.1 f.params) 2 6 i left=b:=⟨_,rfl⟩
       rw[hb] at hbok hbi hbl
       rw[hb] at hM2
       have hcl:(cX fl).cells.length=fl.length*3:=aD (f:=fk) (n:=3) (fun _=>rfl) fl
       have hs1:j*3+2<fl.length*3:=by omega
       have hs2:j*3+2+1≤fl.length*3:=by omega
       have hs3:j*3+3≤fl.length*3:=by omega
       have ew:(⟨129,0,[CV.aw 0 0,CV.av (gs.1.flatMap pd) gs.1.length,CV.av (ms.1.flatMap cq) ms.1.length,CV.bx 2 0 fl.length,I left,CV.bool (decide (a.1=1))]⟩:Ob)=bt gs.1 ms.1 fl.length left (decide (a.1=1)):=rfl
       have hfc:gD f.name f.params (bA f.body) f.body.length=[.str f.name,.av (f.params.flatMap ld) f.params.length,.av (bA f.body) f.body.length]:=rfl
       rw[hfc] at hbok
       have hset:=K2 hf b.1
       refine T.cut (fun s=>s=⟨[(16,I j),(7,.bx 6 0 gs.1.length),(3,.aw 1 0),(2,.aw 19 0)],[(0,aA L b.2.1),(1,bt gs.1 ms.1 fl.length b.2.2 (decide (a.1=1))),(2,cX (fl.set j ⟨f.name,f.params,b.1⟩)),(6,bb (gs.1.map (·.name))),(19,⟨27,0,lO⟩)],20⟩) ?_ ?_
       rotate_left
       ·rintro s rfl
        have wj:=ct ((j:Int)+1) yA yA
        apply aO
        simp[hC,wj]
        refine⟨n,by omega,aa.trim [16,7,3,2] [0,1,2,6,19] 20 (by simp[aA,lO,bt]) yA ⟨j+1,fl.set j ⟨f.name,f.params,b.1⟩,b.2.1,b.2.2,hM2,by omega,by simp[hll],?_,?_,by omega,hbi,?_⟩⟩
        ·rw[FE (f':=⟨f.name,f.params,b.1⟩) hf rfl]
         exact hsg
        ·intro f' hf'
         rcases List.mem_or_eq_of_mem_set hf' with h | h
         ·exact hpl1 f' h
         ·rw[h];exact hfp
        ·simp
       apply T.block
       have hb0:gs.1.length*16≤140737488355328:=by omega
       have hnl:(bb (gs.1.map (·.name))).cells.length=gs.1.length:=by simp[bb]
       have hns:(bb (gs.1.map (·.name))).sz=1:=rfl
       have hne:(bb (gs.1.map (·.name))).elem=9:=rfl
       apply au
       simp[hC,hb0,hnl,hns]
       have htk:List.take gs.1.length (bb (gs.1.map (·.name))).cells=(bb (gs.1.map (·.name))).cells:=List.take_of_length_le (Nat.le_of_eq hnl)
       simp only[htk,ew]
       have hdr:(cX fl).cells.drop (j*3)=fk f++(fl.drop (j+1)).flatMap fk:=aE (f:=fk) (n:=3) (fun _=>rfl) hf
       have hdr1:(cX fl).cells.drop (j*3+1)=(fk f).drop 1++(fl.drop (j+1)).flatMap fk:=cB (f:=fk) (n:=3) (fun _=>rfl) hf 1 yA
       have hsz1:(cX fl).sz=3:=rfl
       refine T.cut (fun s=>s=⟨[(17,.bx 21 0 (jF gs.1 f.params).length),(16,I j),(7,.bx 6 0 gs.1.length),(3,.aw 1 0),(2,.aw 19 0)],[(0,aA L i),(1,bt gs.1 ms.1 fl.length left (decide (a.1=1))),(2,cX fl),(6,bb (gs.1.map (·.name))),(19,⟨27,0,lO⟩),(21,bb (jF gs.1 f.params))],22⟩) ?_ ?_
       ·apply au
        simp[hC]
        apply T.block
        refine T.aL (J34f L (decide (a.1=1)) ms.1 gs.1 fl f i left j) (n:=f.params.length) ?_ ?_
        ·refine aa.trim [18,17,16,7,3,2] [0,1,2,6,19,21] 22 (by simp[aA,lO,bt]) yA ⟨0,by simp,by omega,?_⟩
         simp[bb]
        ·rintro n1 s ⟨q,hq,hql,rfl⟩
         obtain⟨ow,how⟩:∃ ow,gs.1.map (·.name)++(f.params.take q).flatMap (fun p=>if p.mutex=true then [] else [p.name])=ow:=⟨_,rfl⟩
         have hol:ow.length≤10:=by
          have h2:=CM (f.params.take q)
          rw[List.length_take] at h2
          rw[← how,List.length_append,List.length_map]
          omega
         rw[how]
         by_cases hqn:q<f.params.length
         ·obtain⟨p,hp⟩:∃ p,f.params[q]? = some p:=⟨f.params[q],List.getElem?_eq_getElem hqn⟩
          have hpd:(f.params.flatMap ld).drop (q*2)=ld p++(f.params.drop (q+1)).flatMap ld:=aE (f:=ld) (n:=2) (fun _=>rfl) hp
          have hpd1:(f.params.flatMap ld).drop (q*2+1)=(ld p).drop 1++(f.params.drop (q+1)).flatMap ld:=cB (f:=ld) (n:=2) (fun _=>rfl) hp 1 yA
          apply aJ
          simp[hC,bt,hj,hdr1,fk,hqn]
          refine iv ?_
          simp
          apply fq
          have htake:f.params.take (q+1)=f.params.take q++[p]:=by rw[List.take_add_one,hp];rfl
          have wq:=ct ((q:Int)+1) yA yA
          obtain⟨pn,pmx⟩:=p
          cases pmx with
          | true=>
           apply au
           simp[hC,hj,hdr1,fk,hqn,hpd,ld]
           refine bj ?_
           simp
           apply T.skip
           simp
           apply aO
           simp[hC,wq]
           refine⟨f.params.length-(q+1),by omega,?_⟩
           refine aa.trim [18,17,16,7,3,2] [0,1,2,6,19,21] 22 yBj yA ⟨q+1,rfl,by omega,?_⟩
           rw[htake,List.flatMap_append,← List.append_assoc,how]
           simp[bt]
          | false=>
           apply au
           simp[hC,hj,hdr1,fk,hqn,hpd,ld]
           refine dN ?_
           simp
           have hb1:(ow.length+1)*16≤140737488355328:=by omega
           have hwl:(bb ow).cells.length=ow.length:=by simp[bb]
           have hws:(bb ow).sz=1:=rfl
           have hwe:(bb ow).elem=9:=rfl
           apply aO
           simp[hC,hj,hdr1,fk,hqn,hpd,ld,hb1,hwl,hws,hwe,aI]
           apply aO
           simp[hC,wq]
           refine⟨f.params.length-(q+1),by omega,?_⟩
           refine aa.le (Le.trim [18,17,16,7,3,2] [0,1,2,6,19,23] 24 yCc yA) ?_
           simp
           refine aa.le (Le.oP 23 21 rfl rfl yA yAa yAa (by simp[aA,ints,lO,cX,-List.all_eq_true,-List.all_flatMap,bh (cP fl)])) ?_
           simp[aA,ints]
           refine aa.trim [18,17,16,7,3,2] [0,1,2,6,19,21] 22 yBr yA ⟨q+1,rfl,by omega,?_⟩
           rw[htake,List.flatMap_append,← List.append_assoc,how]
           simp[aA,ints,bt,bb,lO,dj]
         ·have hqe:q=f.params.length:=by omega
          apply aJ
          simp[hC,bt,hj,hdr1,fk,hqn]
          refine bj ?_
          simp
          apply T.exit
          simp
          refine aa.trim [17,16,7,3,2] [0,1,2,6,19,21] 22 yBj yA ?_
          have how2:ow=jF gs.1 f.params:=by
           rw[← how,hqe,List.take_length]
           rfl
          rw[← how2]
          simp
       rintro s rfl
       refine T.GX ag follows [0,1,2,3,5,6,7,8,9,10,12,15] 8 yAb yAb yAa rfl ?_
       simp[hC]
       refine XZ.read (i:=11) yAb rfl ?_
       simp[dT,rF,m9,eX,hC,bt]
       refine XZ.read (i:=13) yAb rfl ?_
       simp[dT,rF,m9,eX,hC,hj]
       refine XZ.read (i:=14) yAb rfl ?_
       simp[dT,rF,m9,eX,hC,hdr,fk]
       rw[ew]
       refine XZ.two (i:=4) (j:=16) yAb ?_ ?_
       ·refine Bd.op (i:=4) rfl ?_
        simp[bt,dT,rF,m9,eX,hC,-eO]
        rw[ew]
        refine XZ.one (i:=16) yAb ?_
        refine Bd.call (i:=16) rfl rfl (TL.jq ag 3 21 [0,1,2,21] 4 hbok yAc rfl rfl rfl yAa yA yAa yAa rfl yAa rfl rfl yAa yAa (TL.nil ?_))
        simp
        refine XZ.one (i:=17) yAb ?_
        refine Bd.op (i:=17) rfl ?_
        simp[dT,rF,m9,eX,hC,hj,-eO]
        refine XZ.one (i:=18) yAb ?_
        refine Bd.op (i:=18) rfl ?_
        simp[dT,rF,m9,eX,hC,-eO]
        refine XZ.one (i:=19) yAb ?_
        refine Bd.op (i:=19) rfl ?_
        simp[dT,rF,vk,eX,hsz1,hcl,hs2,-eO]
        refine XZ.end yAb ?_
        simp only[oa,eR]
        refine aa.trim [16,7,3,2] [0,1,2,6,19] 20 (by simp[aA,lO,bt,-List.all_eq_true,-List.all_flatMap,-eO,hset]) yA ?_
        simp[bt,hset,-eO]
        rfl
       ·refine Bd.call (i:=16) rfl rfl (TL.jq ag 3 21 [0,1,2,21] 4 hbok yAc rfl rfl rfl yAa yA yAa yAa rfl yAa rfl rfl yAa yAa (TL.nil ?_))
        simp
        refine XZ.one (i:=4) yAb ?_
        refine Bd.op (i:=4) rfl ?_
        simp[bt,dT,rF,m9,eX,hC,-eO]
        refine XZ.one (i:=17) yAb ?_
        refine Bd.op (i:=17) rfl ?_
        simp[dT,rF,m9,eX,hC,hj,-eO]
        refine XZ.one (i:=18) yAb ?_
        refine Bd.op (i:=18) rfl ?_
        simp[dT,rF,m9,eX,hC,-eO]
        refine XZ.one (i:=19) yAb ?_
        refine Bd.op (i:=19) rfl ?_
        simp[dT,rF,vk,eX,hsz1,hcl,hs2,-eO]
        refine XZ.end yAb ?_
        simp only[oa,eR]
        refine aa.trim [16,7,3,2] [0,1,2,6,19] 20 (by simp[aA,lO,-List.all_eq_true,-List.all_flatMap,-eO,hset]) yA ?_
        simp[hset,-eO]
        rfl
    ·rintro s ⟨i,left,rfl⟩
     apply au
     simp[hC,bt,lO]
     apply T.ret
     refine aa.le (Le.trim [2] [2,19] 20 yAu yA) ?_
     simp
     refine aa.le (Le.cG (o:=2) rfl (cP R.fs)) ?_
     have htk3:List.take (R.fs.length*(cX R.fs).sz) (cX R.fs).cells=R.fs.flatMap fk:=List.take_of_length_le (Nat.le_of_eq (aD (f:=fk) (n:=3) (fun _=>rfl) R.fs))
     simp[cL,htk3]
     apply aa.here
     simp[wT,eH]
     rw[← hR]
     exact⟨⟨rfl,rfl⟩,⟨rfl,rfl⟩⟩
end Go.Proofs.YtmnglemlimfpbaaGreat
