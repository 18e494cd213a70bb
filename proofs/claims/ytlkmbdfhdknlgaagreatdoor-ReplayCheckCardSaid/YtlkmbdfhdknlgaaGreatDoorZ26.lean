/- lockordermade.Program. -/
import Derived.Test.YtlkmbdfhdknlgaaGreatDoorZ24
import Derived.Test.YtlkmbdfhdknlgaaGreatDoorZ25
namespace Go.Proofs.YtlkmbdfhdknlgaaGreatDoor
open Go.Can Go.aT
def e9 (l:List Mx):Ob:=⟨89,3,l.flatMap eQ⟩
def fK (l:List Gl):Ob:=⟨105,2,l.flatMap mL⟩
def ko:List CV:=[.ag,.ag,.ag]
def cX (ng nm nf left:Nat)(ar:Bool):Ob:=⟨102,0,[.ai 0 0,.bw 5 0 ng,.bw 4 0 nm,.bw 2 0 nf,I left,.bool ar]⟩
def J34 (L:List Int)(ar:Bool)(MS:List Mx×Nat)(N:Nat)(m:Nat)(s:St):Prop:=∃ (out:List Mx) (i:Nat),MS=(out++(oO L m out.length i).1,(oO L m out.length i).2)∧m+out.length=N∧i≤L.length∧
 s=⟨[(4,I out.length),(5,I N),(3,.ai 1 0),(2,.ai 19 0)],[(0,ax L i),(1,cX 0 out.length 0 24 ar),(2,⟨109,3,[]⟩),(4,e9 out),(5,⟨105,2,[]⟩),(19,⟨27,0,ko⟩)],20⟩
def J34b (L:List Int)(ar:Bool)(ms:List Mx)(MS:List Gl×Nat)(N:Nat)(m:Nat)(s:St):Prop:=∃ (out:List Gl) (i:Nat),MS=(out++(sJ L m out.length i).1,(sJ L m out.length i).2)∧m+out.length=N∧i≤L.length∧
 s=⟨[(8,I out.length),(9,I N),(7,.bw 6 0 out.length),(3,.ai 1 0),(2,.ai 19 0)],[(0,ax L i),(1,cX out.length ms.length 0 24 ar),(2,⟨109,3,[]⟩),(4,e9 ms),(5,fK out),(6,aW (out.map (·.name))),(19,⟨27,0,ko⟩)],20⟩
def J34c (L:List Int)(ar:Bool)(ms:List Mx)(gs:List Gl)(MS:List Fu×Nat)(N:Nat)(m:Nat)(s:St):Prop:=∃ (out:List Fu) (i:Nat),MS=(out++(rJ L m out.length i).1,(rJ L m out.length i).2)∧m+out.length=N+1∧i≤L.length∧
 s=⟨[(12,I out.length),(11,I N),(7,.bw 6 0 gs.length),(3,.ai 1 0),(2,.ai 19 0)],[(0,ax L i),(1,cX gs.length ms.length out.length 24 ar),(2,cu out),(4,e9 ms),(5,fK gs),(6,aW (gs.map (·.name))),(19,⟨27,0,ko⟩)],20⟩
theorem mg (c:Nat)(hc:c≤10)(k:Int)(m:Nat)(hm:k=m)(MX:m≤100):IntKind.i64.wrap (k+c)=k+c∧IntKind.u8.wrap (k+c)=k+c∧(0≤k+c∧k+c<256)∧(k+c).toNat=m+c:=by
 refine⟨cm _ yA yA,IntWalk.u8_in _ yA,by omega,by omega⟩
theorem aE {α:Type}{f:α→List CV}(hf:∀ x,trees (f x)=true)(l:List α):trees (l.flatMap f)=true:=by
 induction l with
 | nil=>rfl
 | cons a r ih=>rw[List.flatMap_cons,bu,hf,ih];rfl
mutual
theorem xx (o:Nat)(ds:List CV)(n:Nat):∀ c:CV,tree c=true→bZ o ds n c=c
 | .bw _ _ _,h=>by simp[tree] at h
 | .ai _ _,h=>by simp[tree] at h
 | .iter _ _ _,h=>by simp[tree] at h
 | .mp _ _,h=>by simp[tree] at h
 | .agg cs,h=>by
  simp only[tree] at h;rw[bZ,j7 o ds n cs h]
 | .fn _ cs,h=>by
  simp only[tree] at h;rw[bZ,j7 o ds n cs h]
 | .iface _ cs,h=>by
  simp only[tree] at h;rw[bZ,j7 o ds n cs h]
 | .db cs,h=>by
  simp only[tree] at h;rw[bZ,j7 o ds n cs h]
 | .int _ _,_=>rfl
 | .bool _,_=>rfl
 | .str _,_=>rfl
 | .au _ _,_=>rfl
 | .ag,_=>rfl
 | .cc _,_=>rfl
 | .bg,_=>rfl
 | .bT,_=>rfl
 | .any,_=>rfl
theorem j7 (o:Nat)(ds:List CV)(n:Nat):∀ cs:List CV,trees cs=true→gu o ds n cs=cs
 | [],_=>rfl
 | c::cs,h=>by
  simp only[trees,Bool.and_eq_true] at h;rw[gu,xx o ds n c h.1,j7 o ds n cs h.2]
end
theorem dv {cs:List CV}(h:trees cs=true)(o:Nat)(ds:List CV)(n:Nat):cs.map (bZ o ds n)=cs:=by
 rw[List.map_congr_left (g:=id) fun c hc=>xx o ds n c (jW h c hc),List.map_id]
theorem fj (l:List Mx):trees (l.flatMap eQ)=true:=aE (fun _=>rfl) l
theorem gP (l:List Gl):trees (l.flatMap mL)=true:=aE (fun _=>rfl) l
@[simp] theorem mxOb_lt (l:List Mx)(n:Nat):(e9 l).cells.all (aZ n)=true:=aj (fj l) n
@[simp] theorem mxOb_lts (l:List Mx)(n:Nat):aO n (e9 l).cells=true:=by rw[bU];exact aj (fj l) n
@[simp] theorem mxOb_ok1 (l:List Mx)(o q:Nat):(e9 l).cells.all (kX o q)=true:=aY (fj l) o q
@[simp] theorem Jw (l:List Mx)(o q:Nat):(e9 l).cells.map (cH o q)=(e9 l).cells:=aM (fj l) o q
@[simp] theorem mxOb_frz (l:List Mx)(o:Nat)(cs:List CV)(n:Nat):(⟨(e9 l).elem,(e9 l).sz,(e9 l).cells.map (bZ o cs n)⟩:Ob)=e9 l:=by rw[dv (cs:=(e9 l).cells) (fj l)]
@[simp] theorem glOb_frz (l:List Gl)(o:Nat)(cs:List CV)(n:Nat):(⟨(fK l).elem,(fK l).sz,(fK l).cells.map (bZ o cs n)⟩:Ob)=fK l:=by rw[dv (cs:=(fK l).cells) (gP l)]
@[simp] theorem mxOb_eta (l:List Mx):(⟨(e9 l).elem,(e9 l).sz,(e9 l).cells⟩:Ob)=e9 l:=rfl
@[simp] theorem glOb_lt (l:List Gl)(n:Nat):(fK l).cells.all (aZ n)=true:=aj (gP l) n
@[simp] theorem glOb_lts (l:List Gl)(n:Nat):aO n (fK l).cells=true:=by rw[bU];exact aj (gP l) n
@[simp] theorem glOb_ok1 (l:List Gl)(o q:Nat):(fK l).cells.all (kX o q)=true:=aY (gP l) o q
@[simp] theorem JA (l:List Gl)(o q:Nat):(fK l).cells.map (cH o q)=(fK l).cells:=aM (gP l) o q
@[simp] theorem glOb_eta (l:List Gl):(⟨(fK l).elem,(fK l).sz,(fK l).cells⟩:Ob)=fK l:=rfl
def kW (l:List Pm):Ob:=⟨111,2,l.flatMap jB⟩
theorem lh (l:List Pm):trees (l.flatMap jB)=true:=aE (fun _=>rfl) l
@[simp] theorem pmOb_lt (l:List Pm)(n:Nat):(kW l).cells.all (aZ n)=true:=aj (lh l) n
@[simp] theorem pmOb_lts (l:List Pm)(n:Nat):aO n (kW l).cells=true:=by rw[bU];exact aj (lh l) n
@[simp] theorem pmOb_ok1 (l:List Pm)(o q:Nat):(kW l).cells.all (kX o q)=true:=aY (lh l) o q
@[simp] theorem I9 (l:List Pm)(o q:Nat):(kW l).cells.map (cH o q)=(kW l).cells:=aM (lh l) o q
@[simp] theorem pmOb_eta (l:List Pm):(⟨(kW l).elem,(kW l).sz,(kW l).cells⟩:Ob)=kW l:=rfl
def J34d (L:List Int)(ar:Bool)(ms:List Mx)(gs:List Gl)(out:List Fu)(j N:Nat)(R1:ByteArray)(PM:List Pm×Nat)(n:Nat)(s:St):Prop:=∃ (m:Nat) (po:List Pm) (i:Nat),PM=(po++(zH L n i).1,(zH L n i).2)∧n=(if j=0 then 0 else m)∧m+po.length≤2∧i≤L.length∧
 s=⟨[(14,I m),(13,.ai 21 0),(12,I j),(11,I N),(7,.bw 6 0 gs.length),(3,.ai 1 0),(2,.ai 19 0)],[(0,ax L i),(1,cX gs.length ms.length j 24 ar),(2,cu out),(4,e9 ms),(5,fK gs),(6,aW (gs.map (·.name))),(19,⟨27,0,ko⟩),(21,⟨109,0,[.str R1,.bw 22 0 po.length,.ag]⟩),(22,kW po)],23⟩
def J34e (L:List Int)(ar:Bool)(ms:List Mx)(gs:List Gl)(Yz:List Fu)(N:Nat)(RF:List Fu)(n:Nat)(s:St):Prop:=∃ (j:Nat) (fl:List Fu) (i left:Nat),RF=Ge ⟨L,ar,ms,Yz.map fun f=>(f.name,f.params)⟩ gs n j fl i left∧n+j=N∧fl.length=N∧fl.map sg=Yz.map sg∧(∀ f∈fl,f.params.length≤2)∧left≤24∧i≤L.length∧
 s=⟨[(16,I j),(7,.bw 6 0 gs.length),(3,.ai 1 0),(2,.ai 19 0)],[(0,ax L i),(1,ba gs ms fl.length left ar),(2,cu fl),(6,aW (gs.map (·.name))),(19,⟨27,0,ko⟩)],20⟩
theorem zJ (l:List Pm):(l.flatMap fun p=>if p.mutex=true then [] else [p.name]).length≤l.length:=by
 induction l with
 | nil=>exact Nat.le_refl _
 | cons x r ih=>
  rw[List.flatMap_cons,List.length_append,List.length_cons];split
  ·simp only[List.length_nil];omega
  ·simp only[List.length_cons,List.length_nil];omega
theorem Ib {fl:List Fu}{j:Nat}{f:Fu}(h:fl[j]? = some f)(b:List Sm):fL (cu fl).cells (j*3+2) [.au (bh b) b.length]=(cu (fl.set j ⟨f.name,f.params,b⟩)).cells:=by
 induction fl generalizing j with
 | nil=>simp at h
 | cons a r ih=>
  cases j with
  | zero=>
   simp only[List.getElem?_cons_zero,Option.some.injEq] at h;subst h;simp[cu,ed,fL]
  | succ j=>
   simp only[List.getElem?_cons_succ] at h;have e:=ih h;simp only[cu,fL,List.flatMap_cons,List.set_cons_succ] at e ⊢;rw[show (j+1)*3+2=(ed a).length+(j*3+2) by simp[ed];omega,List.take_append,List.take_of_length_le yA,Nat.add_sub_cancel_left,show (ed a).length+(j*3+2)+[CV.au (bh b) b.length].length=(ed a).length+(j*3+2+[CV.au (bh b) b.length].length) by omega,List.drop_append,List.drop_of_length_le yA,Nat.add_sub_cancel_left,List.nil_append,List.append_assoc,List.append_assoc,← List.append_assoc (List.take _ _),e]
def J34f (L:List Int)(ar:Bool)(ms:List Mx)(gs:List Gl)(fl:List Fu)(f:Fu)(i left j:Nat)(n:Nat)(s:St):Prop:=∃ q:Nat,n=f.params.length-q∧q≤f.params.length∧
 s=⟨[(18,I q),(17,.bw 21 0 (gs.map (·.name)++(f.params.take q).flatMap (fun p=>if p.mutex=true then [] else [p.name])).length),(16,I j),(7,.bw 6 0 gs.length),(3,.ai 1 0),(2,.ai 19 0)],[(0,ax L i),(1,ba gs ms fl.length left ar),(2,cu fl),(6,aW (gs.map (·.name))),(19,⟨27,0,ko⟩),(21,aW (gs.map (·.name)++(f.params.take q).flatMap (fun p=>if p.mutex=true then [] else [p.name])))],22⟩
set_option maxHeartbeats 8000000 in
theorem yR (l:List Int)(hl:l.length≤9223372036854775807):ae Tryz.prog 18 [ints l] (tv (zV l)):=by
 generalize hR:zV l=R;refine ae.aD af Tryz.func18 rfl lz (by simp[Tryz.ntmps18]) rfl fun C hC xJ=>?_;rw[Tryz.ntmps18] at hC;apply ah;simp[hC];apply ah;simp[hC];refine dk zK (Ik l 400 hl) ?_;simp[hC];have hL:(l.take 400).length≤1000:=by simp;omega
 simp only[zV] at hR;generalize l.take 400=L at hL hR;refine T.le (Le.up 20 j5) ?_;simp;refine T.le (Le.trim [3,2] [0,1,2] 20 j5 yA) ?_;simp;refine T.le (Le.mq 0 19 rfl rfl yA j5 j5 (by simp[ints])) ?_;simp[ints];refine T.le (Le.mq 1 0 rfl rfl yA j5 j5 j5) ?_;simp;refine T.le (Le.mq 2 1 rfl rfl yA j5 j5 j5) ?_;simp;refine T.le (Le.nZ 1 3 109 3 rfl rfl) ?_;simp;refine T.le (Le.nZ 1 2 89 3 rfl rfl) ?_;simp;refine T.le (Le.nZ 1 1 105 2 rfl rfl) ?_;simp;refine T.le (Le.mq 20 2 rfl rfl yA j5 j5 j5) ?_;simp;refine T.le (Le.mq 21 4 rfl rfl yA j5 j5 j5) ?_;simp;refine T.le (Le.mq 22 5 rfl rfl yA j5 j5 j5) ?_;simp;refine T.le (Le.trim [3,2] [0,1,2,4,5,19] 20 j5 yA) ?_;simp;have es:(⟨69,0,[CV.au (L.map um) L.length,.int .i64 0]⟩:Ob)=ax L 0:=rfl;rw[es];have Nf:=aV L 3 (Nat.zero_le L.length);have ML:=bX L 0 3 (Nat.zero_le _) hL yA yA;obtain⟨a,ha⟩:∃ a,bO L 0 3=a:=⟨_,rfl⟩;rw[ha] at Nf ML;simp only[ha] at hR;apply ah;simp[hC];refine TL.cd af [0] 1 (ML) yI rfl rfl rfl rfl j5 Ku Kt rfl (TL.go' af ?_);simp[hC];have Kp:=aV L 4 Nf;have KG:=bX L a.2 4 Nf hL yA yA;have MC:=cI L a.2 (show 0<4 by omega);obtain⟨nm,KV⟩:∃ nm,bO L a.2 4=nm:=⟨_,rfl⟩;rw[KV] at Kp KG MC;simp only[KV] at hR;have w1:=cm (1+(nm.1:Int)) yA yA;refine T.cut (fun s=>s=⟨[(3,.ai 1 0),(2,.ai 19 0)],[(0,ax L (oO L (1+nm.1) 0 nm.2).2),(1,cX 0 (oO L (1+nm.1) 0 nm.2).1.length 0 24 (decide (a.1=1))),(2,⟨109,3,[]⟩),(4,e9 (oO L (1+nm.1) 0 nm.2).1),(5,⟨105,2,[]⟩),(19,⟨27,0,ko⟩)],20⟩) ?_ ?_
 ·clear hR;apply ah;simp[hC];refine TL.cd af [0] 1 (KG) yI rfl rfl rfl rfl j5 Ku Kt rfl (TL.go' af ?_);simp[hC,w1];apply T.block;generalize Ud:oO L (1+nm.1) 0 nm.2=MS;refine T.aI (J34 L (decide (a.1=1)) MS (1+nm.1)) (n:=1+nm.1) ?_ ?_
  ·refine aa.trim [4,5,3,2] [0,1,2,4,5,19] 20 NJ yA ⟨[],nm.2,by simp[Ud],by simp,Kp,?_⟩;simp[cX,e9,ko]
  ·rintro n s ⟨out,i,hM,KD,hi,rfl⟩
   cases n with
   | zero=>
    have ho:out.length=1+nm.1:=by omega
    have yN:¬ ((out.length:Int)<1+nm.1):=by omega
    apply aL;simp[hC,yN];refine aU ?_;simp;apply T.exit;simp;refine aa.trim [3,2] [0,1,2,4,5,19] 20 P9 yA ?_;rw[hM];simp[oO]
   | succ n=>
    have ho:out.length≤3:=by omega
    obtain⟨c1,c2,c3,c4⟩:=mg out.length yA 97 97 rfl yA;have yN:(out.length:Int)<1+nm.1:=by omega
    apply aL;simp[hC,yN];refine gF ?_;simp;apply fw;refine T.seq (T.yh af ?_);simp[hC,c1,c2,c3,c4];refine T.le (Le.trim [6,4,5,3,2] [0,1,2,4,5,19,21] 22 P9 yA) ?_;simp;have NH:(⟨#[97+UInt8.ofNat out.length]⟩:ByteArray)=dr (97+out.length):=by simp[dr]
    rw[NH];refine T.cut (fun s=>∃ (m:Mx) (i2:Nat),oO L (n+1) out.length i=(m::(oO L n (out.length+1) i2).1,(oO L n (out.length+1) i2).2)∧i2≤L.length∧
     s=⟨[(6,.ai 21 0),(4,I out.length),(5,I (1+nm.1)),(3,.ai 1 0),(2,.ai 19 0)],[(21,⟨89,0,eQ m⟩),(0,ax L i2),(1,cX 0 out.length 0 24 (decide (a.1=1))),(2,⟨109,3,[]⟩),(4,e9 out),(5,⟨105,2,[]⟩),(19,⟨27,0,ko⟩)],22⟩) ?_ ?_
    ·have KB:=bX L i 5 hi hL yA yA;have KK:=aV L 5 hi;rw[oO];obtain⟨k,hk⟩:∃ k,bO L i 5=k:=⟨_,rfl⟩;simp only[hk] at KB KK ⊢;apply ah;simp[hC,cX];refine TL.cd af [0] 1 (KB) yI rfl rfl rfl rfl j5 Ku Kt rfl (TL.go' af ?_);simp;apply T.block;apply ah;simp[hC];refine T.aX rfl (fun h=>?_) (fun h=>?_)
     ·have h1:k.1=1:=by simpa using h
      apply a8;simp[hC];refine aa.trim [6,4,5,3,2] [21,0,1,2,4,5,19] 22 P7 yA ⟨⟨dr (97+out.length),true,0⟩,k.2,by rw[if_pos h1],KK,?_⟩;simp[eQ]
     have h1:¬ k.1=1:=by simpa using h
     apply ah;simp[hC];refine T.aX rfl (fun h=>?_) (fun h=>?_)
     ·have h2:k.1=2:=by simpa using h
      have R8:=bX L k.2 3 KK hL yA yA;have Mq:=aV L 3 KK;have MB:=cI L k.2 (show 0<3 by omega);obtain⟨q,hq⟩:∃ q,bO L k.2 3=q:=⟨_,rfl⟩;simp only[hq] at R8 Mq MB ⊢;have wq:=cm (1+(q.1:Int)) yA yA;apply a8;simp[hC];refine TL.cd af [0] 1 (R8) yI rfl rfl rfl rfl j5 Ku Kt rfl (TL.go' af ?_);simp[hC,wq];refine aa.trim [6,4,5,3,2] [21,0,1,2,4,5,19] 22 P7 yA ⟨⟨dr (97+out.length),false,1+q.1⟩,q.2,by rw[if_neg h1,if_pos h2],Mq,?_⟩;simp[eQ]
     ·have h2:¬ k.1=2:=by simpa using h
      apply T.skip;simp;refine aa.trim [6,4,5,3,2] [21,0,1,2,4,5,19] 22 P7 yA ⟨⟨dr (97+out.length),false,0⟩,k.2,by rw[if_neg h1,if_neg h2],KK,?_⟩;simp[eQ]
    rintro s ⟨m,i2,hm,KK,rfl⟩;have hb:(out.length+1)*32≤140737488355328:=by omega
    have MV:(e9 out).cells.length=out.length*3:=aQ (f:=eQ) (n:=3) (fun _=>rfl) out;have K3:(e9 out).sz=3:=rfl;have V4:(e9 out).elem=89:=rfl;have wo:=cm ((out.length:Int)+1) yA yA;refine T.rx af follows [0,1,2,3,4,5,6,7,8,9,10,11,12] [(5,7)] lz ?_;simp[hC,cX,eQ,MV,K3,V4,hb,aS];apply a8;simp[hC,wo];refine⟨n,by omega,?_⟩;refine aa.le (Le.trim [4,5,3,2] [0,1,2,5,19,35] 36 Uh yA) ?_;simp;refine aa.le (Le.mq 35 4 rfl rfl yA j5 j5 U0) ?_;simp[ax,ints];refine aa.trim [4,5,3,2] [0,1,2,4,5,19] 20 RQ yA ⟨out++[m],i2,?_,?_,KK,?_⟩
    ·rw[hM,hm];simp
    ·simp;omega
    ·simp[ax,ints,cX,e9,eQ,ko,cH]
 ·rintro s rfl;obtain⟨_,MV,R9,Re⟩:=wV L (1+nm.1) 0 nm.2 yA;have KK:=Re Kp;obtain⟨ms,K3⟩:∃ ms,oO L (1+nm.1) 0 nm.2=ms:=⟨_,rfl⟩;simp only[K3] at hR MV R9 KK ⊢;clear Re;have Mp:=bX L ms.2 3 KK hL yA yA;have Mq:=aV L 3 KK;have Ky:=cI L ms.2 (show 0<3 by omega);obtain⟨ng,Mz⟩:∃ ng,bO L ms.2 3=ng:=⟨_,rfl⟩;rw[Mz] at Mp Mq Ky;simp only[Mz] at hR;apply ah;simp[hC];refine T.cut (fun s=>s=⟨[(7,.bw 6 0 ng.1),(3,.ai 1 0),(2,.ai 19 0)],[(0,ax L (sJ L ng.1 0 ng.2).2),(1,cX ng.1 ms.1.length 0 24 (decide (a.1=1))),(2,⟨109,3,[]⟩),(4,e9 ms.1),(5,fK (sJ L ng.1 0 ng.2).1),(6,aW ((sJ L ng.1 0 ng.2).1.map (·.name))),(19,⟨27,0,ko⟩)],20⟩) ?_ ?_
  ·clear hR;apply ah;simp[hC,cX];refine TL.cd af [0] 1 (Mp) yI rfl rfl rfl rfl j5 Ku Kt rfl (TL.go' af ?_);simp[hC];apply T.block;generalize Ud:sJ L ng.1 0 ng.2=MS;have ew:(⟨102,0,[CV.ai 0 0,CV.bw 5 0 0,CV.bw 4 0 ms.1.length,CV.bw 2 0 0,I 24,CV.bool (decide (a.1=1))]⟩:Ob)=cX 0 ms.1.length 0 24 (decide (a.1=1)):=rfl;refine T.aI (J34b L (decide (a.1=1)) ms.1 MS ng.1) (n:=ng.1) ?_ ?_
   ·refine aa.le (Le.own 7 9 1 rfl) ?_;simp;refine aa.le (Le.mq 20 6 rfl rfl yA j5 j5 U0) ?_;simp[ax,ints];refine aa.trim [8,9,7,3,2] [0,1,2,4,5,6,19] 20 RQ yA ⟨[],ng.2,?_,by simp,Mq,?_⟩
    ·simp[Ud]
    ·simp[ax,ints,cX,fK,aW,ko,cH]
   ·rintro n s ⟨out,i,hM,KD,hi,rfl⟩
    cases n with
    | zero=>
     have ho:out.length=ng.1:=by omega
     have yN:¬ ((out.length:Int)<ng.1):=by omega
     apply aL;simp[hC,yN];refine aU ?_;simp;apply T.exit;simp;refine aa.trim [7,3,2] [0,1,2,4,5,6,19] 20 P9 yA ?_;rw[hM];simp[sJ,ho,cX]
    | succ n=>
     have ho:out.length≤1:=by omega
     obtain⟨c1,c2,c3,c4⟩:=mg out.length yA 48 48 rfl yA;have yN:(out.length:Int)<ng.1:=by omega
     have KB:=bX L i 5 hi hL yA yA;have KK:=aV L 5 hi;have Rj:=cI L i (show 0<5 by omega);rw[sJ] at hM;obtain⟨k,hk⟩:∃ k,bO L i 5=k:=⟨_,rfl⟩;simp only[hk] at KB KK Rj hM;have wk:=cm ((k.1:Int)-2) yA yA;have NH:(⟨#[48+UInt8.ofNat out.length]⟩:ByteArray)=dr (48+out.length):=by simp[dr]
     have so:jY BinOp.add ⟨#[103]⟩ (dr (48+out.length))=some (.str (⟨#[103]⟩++dr (48+out.length))):=rfl;apply aL;simp[hC,yN];refine gF ?_;simp;apply fw;apply T.seq;refine T.rx af follows [0,1,2,3,4,5,6,7,8,9,13,10,11,12,14] [(2,13),(2,10),(3,9),(3,13),(3,10),(4,13),(4,10),(9,13),(13,10)] lz ?_;simp[hC,cX,c1,c2,c3,c4,NH,so];refine RX.cd [0] [0] 1 (KB) rfl j5 rfl rfl rfl rfl j5 Ku Kt rfl rfl rfl j5 ?_;simp[wk];refine T.le (Le.trim [10,8,9,7,3,2] [0,1,2,4,5,6,19,33] 34 P7 yA) ?_;simp;have hb:(out.length+1)*24≤140737488355328:=by omega
     have K0:(out.length+1)*16≤140737488355328:=by omega
     have NR:(fK out).cells.length=out.length*2:=aQ (f:=mL) (n:=2) (fun _=>rfl) out;have P1:(fK out).sz=2:=rfl;have MN:(fK out).elem=105:=rfl;have NA:(aW (out.map (·.name))).cells.length=out.length:=by simp[aW]
     have Mo:(aW (out.map (·.name))).sz=1:=rfl;have F0:(aW (out.map (·.name))).elem=9:=rfl;have wo:=cm ((out.length:Int)+1) yA yA;refine T.rx af follows [0,1,2,3,4,5,6,7,8,9,10,11,12,13,14,15,16,17,18] [(5,7),(5,12),(6,12),(7,11),(7,12),(8,11),(8,12)] lz ?_;simp[hC,hb,K0,NR,P1,MN,NA,Mo,F0,aS];apply a8;simp[hC,wo];refine⟨n,by omega,?_⟩;refine aa.le (Le.trim [8,9,7,3,2] [0,1,2,4,19,53,54] 55 Uh yA) ?_;simp;refine aa.le (Le.mq 53 5 rfl rfl yA j5 j5 U0) ?_;simp[ax,ints];refine aa.le (Le.mq 54 6 rfl rfl yA j5 j5 RQ) ?_;simp;refine aa.trim [8,9,7,3,2] [0,1,2,4,5,6,19] 20 RQ yA ⟨out++[⟨⟨#[103]⟩++dr (48+out.length),(k.1:Int)-2⟩],k.2,?_,?_,KK,?_⟩
     ·rw[hM];simp
     ·simp;omega
     ·simp[ax,ints,cX,fK,mL,aW,ko,cH]
  ·rintro s rfl;obtain⟨_,NR,ZQ,Sa⟩:=DH L ng.1 0 ng.2 yA;have P0:=Sa Mq;obtain⟨gs,P1⟩:∃ gs,sJ L ng.1 0 ng.2=gs:=⟨_,rfl⟩;simp only[P1] at hR NR ZQ P0 ⊢;clear Sa;rw[← NR];have R8:=bX L gs.2 4 P0 hL yA yA;have QG:=aV L 4 P0;have MB:=cI L gs.2 (show 0<4 by omega);obtain⟨nf,Ti⟩:∃ nf,bO L gs.2 4=nf:=⟨_,rfl⟩;rw[Ti] at R8 QG MB;simp only[Ti] at hR;apply ah;simp[hC,cX];refine TL.cd af [0] 1 (R8) yI rfl rfl rfl rfl j5 Ku Kt rfl (TL.go' af ?_);simp[hC];refine T.cut (fun s=>s=⟨[(7,.bw 6 0 gs.1.length),(3,.ai 1 0),(2,.ai 19 0)],[(0,ax L (rJ L (nf.1+1) 0 nf.2).2),(1,cX gs.1.length ms.1.length (rJ L (nf.1+1) 0 nf.2).1.length 24 (decide (a.1=1))),(2,cu (rJ L (nf.1+1) 0 nf.2).1),(4,e9 ms.1),(5,fK gs.1),(6,aW (gs.1.map (·.name))),(19,⟨27,0,ko⟩)],20⟩) ?_ ?_
   ·clear hR;apply ah;simp[hC];apply T.block;generalize Ud:rJ L (nf.1+1) 0 nf.2=MS;refine T.aI (J34c L (decide (a.1=1)) ms.1 gs.1 MS nf.1) (n:=nf.1+1) ?_ ?_
    ·refine aa.trim [12,11,7,3,2] [0,1,2,4,5,6,19] 20 P7 yA ⟨[],nf.2,by simp[Ud],by simp,QG,?_⟩;simp[cX,cu]
    ·rintro n s ⟨out,i,hM,KD,hi,rfl⟩
     cases n with
     | zero=>
      have ho:out.length=nf.1+1:=by omega
      have yN:¬ ((out.length:Int)≤nf.1):=by omega
      apply aL;simp[hC,yN];refine aU ?_;simp;apply T.exit;simp;refine aa.trim [7,3,2] [0,1,2,4,5,6,19] 20 P9 yA ?_;rw[hM];simp[rJ,ho,cX]
     | succ n=>
      obtain⟨j,hj⟩:∃ j,out.length=j:=⟨_,rfl⟩;simp only[hj] at hM KD ⊢;have ho:j≤3:=by omega
      obtain⟨c1,c2,c3,c4⟩:=mg j yA 48 48 rfl yA;have yN:(j:Int)≤nf.1:=by omega
      have NH:(⟨#[48+UInt8.ofNat j]⟩:ByteArray)=dr (48+j):=by simp[dr]
      have so:jY BinOp.add ⟨#[102]⟩ (dr (48+j))=some (.str (⟨#[102]⟩++dr (48+j))):=rfl;apply aL;simp[hC,yN];refine gF ?_;simp;apply fw;refine T.seq (T.yh af ?_);simp[hC,c1,c2,c3,c4,NH,so];refine T.le (Le.trim [13,12,11,7,3,2] [0,1,2,4,5,6,19,21] 22 P9 yA) ?_;simp;rw[rJ] at hM;simp only at hM;obtain⟨R1,Ps⟩:∃ x,(if j=0 then (⟨#[109,97,105,110]⟩:ByteArray) else ⟨#[102]⟩++dr (48+j))=x:=⟨_,rfl⟩;rw[Ps] at hM;refine T.cut (fun s=>s=⟨[(13,.ai 21 0),(12,I j),(11,I nf.1),(7,.bw 6 0 gs.1.length),(3,.ai 1 0),(2,.ai 19 0)],[(0,ax L i),(1,cX gs.1.length ms.1.length j 24 (decide (a.1=1))),(2,cu out),(4,e9 ms.1),(5,fK gs.1),(6,aW (gs.1.map (·.name))),(19,⟨27,0,ko⟩),(21,⟨109,0,[.str R1,.ag,.ag]⟩)],22⟩) ?_ ?_
      ·apply ah;simp[hC];refine T.aX rfl (fun h=>?_) (fun h=>?_)
       ·have h0:j=0:=by
         simp at h;omega
        rw[if_pos h0] at Ps;apply a8;simp[hC];refine aa.trim [13,12,11,7,3,2] [0,1,2,4,5,6,19,21] 22 P9 yA ?_;simp[Ps]
       ·have h0:¬ j=0:=by
         simp at h;omega
        rw[if_neg h0] at Ps;apply T.skip;simp;refine aa.trim [13,12,11,7,3,2] [0,1,2,4,5,6,19,21] 22 P9 yA ?_;simp[Ps]
      rintro s rfl;have KB:=bX L i 3 hi hL yA yA;have PZ:=aV L 3 hi;have Rh:=cI L i (show 0<3 by omega);obtain⟨k,hk⟩:∃ k,bO L i 3=k:=⟨_,rfl⟩;rw[hk] at KB PZ Rh;simp only[hk] at hM;obtain⟨PM,W5⟩:∃ x,zH L (if j=0 then 0 else k.1) k.2=x:=⟨_,rfl⟩;rw[W5] at hM;have VP:PM.2≤L.length∧PM.1.length≤2:=by
       rw[← W5];have h1:(if j=0 then 0 else k.1)≤2:=by split<;>omega
       obtain⟨_,p2,p3⟩:=CP L (if j=0 then 0 else k.1) k.2 h1;exact⟨p3 PZ,by omega⟩
      refine T.cut (fun s=>s=⟨[(13,.ai 21 0),(12,I j),(11,I nf.1),(7,.bw 6 0 gs.1.length),(3,.ai 1 0),(2,.ai 19 0)],[(0,ax L PM.2),(1,cX gs.1.length ms.1.length j 24 (decide (a.1=1))),(2,cu out),(4,e9 ms.1),(5,fK gs.1),(6,aW (gs.1.map (·.name))),(19,⟨27,0,ko⟩),(21,⟨109,0,[.str R1,.bw 22 0 PM.1.length,.ag]⟩),(22,kW PM.1)],23⟩) ?_ ?_
      ·apply ah;simp[hC,cX];refine TL.cd af [0] 1 (KB) yI rfl rfl rfl rfl j5 Ku Kt rfl (TL.go' af ?_);simp[hC];apply T.block;refine T.aI (J34d L (decide (a.1=1)) ms.1 gs.1 out j nf.1 R1 PM) (n:=if j=0 then 0 else k.1) ?_ ?_
       ·refine aa.le (Le.nZ 21 1 111 2 rfl rfl) ?_;simp;refine aa.trim [14,13,12,11,7,3,2] [0,1,2,4,5,6,19,21,22] 23 P7 yA ⟨k.1,[],k.2,?_,rfl,?_,PZ,?_⟩
        ·simp[W5]
        ·simp;omega
        ·simp[cX,kW]
       ·rintro n1 s ⟨m,po,i1,hP,KG,VN,Yj,rfl⟩;by_cases hg:0<n1
        ·have h0:¬ j=0:=by
          intro h;rw[if_pos h] at KG;omega
         rw[if_neg h0] at KG;subst KG;obtain⟨m,rfl⟩:∃ q,n1=q+1:=⟨n1-1,by omega⟩;have g1:0<j:=by omega
         rw[zH] at hP;have Tf:=bX L i1 3 Yj hL yA yA;have TA:=aV L 3 Yj;obtain⟨q,hq⟩:∃ q,bO L i1 3=q:=⟨_,rfl⟩;simp only[hq] at Tf TA hP;obtain⟨mm,L9⟩:∃ mm,m+1=mm:=⟨_,rfl⟩;simp only[L9] at hP ⊢;obtain⟨d1,d2,d3,d4⟩:=mg mm yA 48 48 rfl yA;have WT:(⟨#[48+UInt8.ofNat mm]⟩:ByteArray)=dr (48+mm):=by simp[dr]
         have YU:jY BinOp.add ⟨#[112]⟩ (dr (48+mm))=some (.str (⟨#[112]⟩++dr (48+mm))):=rfl;have V0:0<mm:=by omega
         apply aL;simp[hC,g1,V0];refine gF ?_;simp;refine T.seq (T.block (T.seq ?_));refine T.rx af follows [0,1,2,3,4,5,6,7,8,9,13,10,11,12,14] [(2,13),(2,10),(3,9),(3,13),(3,10),(4,13),(4,10),(9,13),(13,10)] lz ?_;simp[hC,cX,d1,d2,d3,d4,WT,YU];refine RX.cd [0] [0] 1 (Tf) rfl j5 rfl rfl rfl rfl j5 Ku Kt rfl rfl rfl j5 ?_;simp;have hb:(po.length+1)*24≤140737488355328:=by omega
         have NR:(kW po).cells.length=po.length*2:=aQ (f:=jB) (n:=2) (fun _=>rfl) po;have P1:(kW po).sz=2:=rfl;have MN:(kW po).elem=111:=rfl;have wo:=cm (m:Int) yA yA;have wm:(mm:Int)-1=(m:Int):=by omega
         apply a8;simp[hC,hb,NR,P1,MN,aS];apply a8;simp[hC,wm,wo];refine⟨m,by omega,?_⟩;refine aa.le (Le.trim [14,13,12,11,7,3,2] [0,1,2,4,5,6,19,21,39] 40 Uh yA) ?_;simp;refine aa.le (Le.mq 39 22 rfl rfl yA j5 j5 (by simp[ax,ints,ko,cu,-List.all_eq_true,-List.all_flatMap,aY (cf out)])) ?_;simp[ax,ints];refine aa.trim [14,13,12,11,7,3,2] [0,1,2,4,5,6,19,21,22] 23 RQ yA ⟨m,po++[⟨⟨#[112]⟩++dr (48+mm),decide (0<q.1)⟩],q.2,?_,?_,?_,TA,?_⟩
         ·rw[hP];simp
         ·rw[if_neg h0]
         ·simp;omega
         ·simp[ax,ints,cX,kW,jB,ko,cH]
        ·have ML:n1=0:=by omega
         have Ub:PM=(po,i1):=by
          rw[hP,ML];simp[zH]
         by_cases MW:0<m
         ·have g1:¬ 0<j:=by
           intro h;rw[if_neg yA] at KG;omega
          apply aL;simp[hC,MW,g1];refine aU ?_;simp;apply T.exit;simp;refine aa.trim [13,12,11,7,3,2] [0,1,2,4,5,6,19,21,22] 23 P9 yA ?_;simp[Ub,cX]
         ·apply aL;simp[hC,MW];refine aU ?_;simp;apply T.exit;simp;refine aa.trim [13,12,11,7,3,2] [0,1,2,4,5,6,19,21,22] 23 P9 yA ?_;simp[Ub,cX]
      rintro s rfl;refine T.le (Le.nz [] [21]) ?_;simp[nz];refine T.le (Le.dC (o:=22) rfl (lh PM.1)) ?_;have Kk:List.take (PM.1.length*(kW PM.1).sz) (kW PM.1).cells=PM.1.flatMap jB:=List.take_of_length_le (Nat.le_of_eq (aQ (f:=jB) (n:=2) (fun _=>rfl) PM.1));simp[bZ,Kk,cX];have hb:(j+1)*64≤140737488355328:=by omega
      have NR:(cu out).cells.length=j*3:=by rw[← hj];exact aQ (f:=ed) (n:=3) (fun _=>rfl) out
      have P1:(cu out).sz=3:=rfl;have MN:(cu out).elem=109:=rfl;have wo:=cm ((j:Int)+1) yA yA;refine T.rx af follows [0,1,2,3,4,5,6,7,8,9,10,11,12] [(5,7)] lz ?_;simp[hC,NR,P1,MN,hb,aS];apply a8;simp[hC,wo];refine⟨n,by omega,?_⟩;refine aa.le (Le.trim [12,11,7,3,2] [0,1,4,5,6,19,36] 37 (by simp[ax,ko,bZ,-List.all_eq_true,-List.all_flatMap]) yA) ?_;simp;refine aa.le (Le.mq 36 2 rfl rfl yA j5 j5 (by simp[ax,ints,ko,bZ,-List.all_eq_true,-List.all_flatMap])) ?_;simp[ax,ints];refine aa.trim [12,11,7,3,2] [0,1,2,4,5,6,19] 20 (by simp[ko,cH,bZ,-List.all_eq_true,-List.all_flatMap]) yA ⟨out++[⟨R1,PM.1,[]⟩],PM.2,?_,?_,VP.1,?_⟩
      ·rw[hM];simp[hj]
      ·simp;omega
      ·simp[ax,ints,cX,cu,ed,bh,ko,cH,bZ,hj]
   ·rintro s rfl;obtain⟨_,Ld,LY,WC,QJ⟩:=DI L (nf.1+1) 0 nf.2 yA;have PZ:=QJ QG;obtain⟨fs,LL⟩:∃ fs,rJ L (nf.1+1) 0 nf.2=fs:=⟨_,rfl⟩;simp only[LL] at hR Ld LY WC PZ ⊢;clear QJ;refine T.le (Le.dC (o:=5) rfl (gP gs.1)) ?_;have Kk:List.take (gs.1.length*(fK gs.1).sz) (fK gs.1).cells=gs.1.flatMap mL:=List.take_of_length_le (Nat.le_of_eq (aQ (f:=mL) (n:=2) (fun _=>rfl) gs.1));simp[bZ,Kk,cX];refine T.le (Le.dC (o:=4) rfl (fj ms.1)) ?_;have Ly:List.take (ms.1.length*(e9 ms.1).sz) (e9 ms.1).cells=ms.1.flatMap eQ:=List.take_of_length_le (Nat.le_of_eq (aQ (f:=eQ) (n:=3) (fun _=>rfl) ms.1));simp[bZ,Ly];refine T.le (Le.trim [7,3,2] [0,1,2,6,19] 20 (by simp[ax,ko,bZ,-List.all_eq_true,-List.all_flatMap]) yA) ?_;simp;have ew:(⟨102,0,[CV.ai 0 0,CV.au (gs.1.flatMap mL) gs.1.length,CV.au (ms.1.flatMap eQ) ms.1.length,CV.bw 2 0 fs.1.length,.int .i64 24,CV.bool (decide (a.1=1))]⟩:Ob)=ba gs.1 ms.1 fs.1.length 24 (decide (a.1=1)):=rfl;rw[ew];clear ew Kk Ly;have Yw:(ko.map (bZ 4 (e9 ms.1).cells (e9 ms.1).sz∘bZ 5 (fK gs.1).cells (fK gs.1).sz))=ko:=rfl;rw[Yw];clear Yw;have V0:0<ms.1.length:=by omega
    have CX:∀ m∈ms.1,m.size≤1000:=fun m hm=>by have:=(R9 m hm).1;omega
    have LX:∀ f∈fs.1,f.params.length≤2:=fun f hf=>by
     obtain⟨_,k,h1,h2⟩:=LY f hf;have:=congrArg List.length h2;simp[nP] at this;omega
    refine T.cut (fun s=>∃ (i left:Nat),s=⟨[(3,.ai 1 0),(2,.ai 19 0)],[(0,ax L i),(1,ba gs.1 ms.1 R.fs.length left (decide (a.1=1))),(2,cu R.fs),(19,⟨27,0,ko⟩)],20⟩) ?_ ?_
    ·apply ah;simp[hC];apply T.block;refine T.aI (J34e L (decide (a.1=1)) ms.1 gs.1 fs.1 (nf.1+1) R.fs) (n:=nf.1+1) ?_ ?_
     ·refine aa.trim [16,7,3,2] [0,1,2,6,19] 20 (by simp[ax,ko,ba]) yA ⟨0,fs.1,fs.2,24,?_,by omega,by omega,rfl,LX,by omega,PZ,?_⟩
      ·rw[← hR]
      ·simp
     ·rintro n s ⟨j,fl,i,left,hM,Yg,MD,OA,Q6,X8,hi,rfl⟩
      cases n with
      | zero=>
       have hj:¬ j<fl.length:=by omega
       have MY:R.fs=fl:=by rw[hM];rfl
       apply aL;simp[hC,ba,hj];refine aU ?_;simp;apply T.exit;simp;refine aa.trim [3,2] [0,1,2,19] 20 P7 yA ⟨i,left,?_⟩;simp[MY]
      | succ n=>
       have hj:j<fl.length:=by omega
       obtain⟨f,hf⟩:∃ f,fl[j]? = some f:=⟨fl[j],List.getElem?_eq_getElem hj⟩;have Ng:=Q6 f (List.mem_of_getElem? hf);apply aL;simp[hC,ba,hj];refine gF ?_;simp;have Zx:(ij gs.1 f.params).length≤10:=by
        have h2:=zJ f.params;unfold ij;rw[List.length_append,List.length_map];omega
       have Qs:=AE L hL gs.1 ms.1 V0 yA CX (decide (a.1=1)) fl yA yA (fun f hf=>by have:=Q6 f hf;omega) f.name f.params yA (bh f.body) f.body.length left left (ij gs.1 f.params) 2 6 i (Nat.le_refl _) yA yA yA yA hi;have US:=hM;rw[Ge,hf] at US;simp only at US;have Vq:nE L (decide (a.1=1)) ms.1 fl=⟨L,decide (a.1=1),ms.1,fs.1.map fun f=>(f.name,f.params)⟩:=by
        have h2:fl.map (fun f=>(f.name,f.params))=fs.1.map fun f=>(f.name,f.params):=OA;simp only[nE,h2]
       obtain⟨Se,Nh⟩:=qB (nE L (decide (a.1=1)) ms.1 fl) f.params left (ij gs.1 f.params) 2 6 i left hi;rw[Vq] at Qs Se Nh;obtain⟨b,hb⟩:∃ b,k9 ⟨L,decide (a.1=1),ms.1,fs.1.map fun f=>(f.name,f.params)⟩ f.params left (ij gs.1 f.params) 2 6 i left=b:=⟨_,rfl⟩;rw[hb] at Qs Se Nh;rw[hb] at US;have De:(cu fl).cells.length=fl.length*3:=aQ (f:=ed) (n:=3) (fun _=>rfl) fl;have Ux:j*3+2<fl.length*3:=by omega
       have Q2:j*3+2+1≤fl.length*3:=by omega
       have Uw:j*3+3≤fl.length*3:=by omega
       have ew:(⟨102,0,[CV.ai 0 0,CV.au (gs.1.flatMap mL) gs.1.length,CV.au (ms.1.flatMap eQ) ms.1.length,CV.bw 2 0 fl.length,I left,CV.bool (decide (a.1=1))]⟩:Ob)=ba gs.1 ms.1 fl.length left (decide (a.1=1)):=rfl;have ZX:fy f.name f.params (bh f.body) f.body.length=[.str f.name,.au (f.params.flatMap jB) f.params.length,.au (bh f.body) f.body.length]:=rfl;rw[ZX] at Qs;have Qd:=Ib hf b.1;refine T.cut (fun s=>s=⟨[(16,I j),(7,.bw 6 0 gs.1.length),(3,.ai 1 0),(2,.ai 19 0)],[(0,ax L b.2.1),(1,ba gs.1 ms.1 fl.length b.2.2 (decide (a.1=1))),(2,cu (fl.set j ⟨f.name,f.params,b.1⟩)),(6,aW (gs.1.map (·.name))),(19,⟨27,0,ko⟩)],20⟩) ?_ ?_
       rotate_left
       ·rintro s rfl;have wj:=cm ((j:Int)+1) yA yA;apply a8;simp[hC,wj];refine⟨n,by omega,aa.trim [16,7,3,2] [0,1,2,6,19] 20 (by simp[ax,ko,ba]) yA ⟨j+1,fl.set j ⟨f.name,f.params,b.1⟩,b.2.1,b.2.2,US,by omega,by simp[MD],?_,?_,by omega,Se,?_⟩⟩
        ·rw[CD (f':=⟨f.name,f.params,b.1⟩) hf rfl];exact OA
        ·intro f' Rt;rcases List.mem_or_eq_of_mem_set Rt with h | h
         ·exact Q6 f' h
         ·rw[h];exact Ng
        ·simp
       apply T.block;have UO:gs.1.length*16≤140737488355328:=by omega
       have NA:(aW (gs.1.map (·.name))).cells.length=gs.1.length:=by simp[aW]
       have Mo:(aW (gs.1.map (·.name))).sz=1:=rfl;have F0:(aW (gs.1.map (·.name))).elem=9:=rfl;apply ah;simp[hC,UO,NA,Mo];have Kk:List.take gs.1.length (aW (gs.1.map (·.name))).cells=(aW (gs.1.map (·.name))).cells:=List.take_of_length_le (Nat.le_of_eq NA);simp only[Kk,ew];have oy:(cu fl).cells.drop (j*3)=ed f++(fl.drop (j+1)).flatMap ed:=az (f:=ed) (n:=3) (fun _=>rfl) hf;have KU:(cu fl).cells.drop (j*3+1)=(ed f).drop 1++(fl.drop (j+1)).flatMap ed:=bb (f:=ed) (n:=3) (fun _=>rfl) hf 1 yA;have Pe:(cu fl).sz=3:=rfl;refine T.cut (fun s=>s=⟨[(17,.bw 21 0 (ij gs.1 f.params).length),(16,I j),(7,.bw 6 0 gs.1.length),(3,.ai 1 0),(2,.ai 19 0)],[(0,ax L i),(1,ba gs.1 ms.1 fl.length left (decide (a.1=1))),(2,cu fl),(6,aW (gs.1.map (·.name))),(19,⟨27,0,ko⟩),(21,aW (ij gs.1 f.params))],22⟩) ?_ ?_
       ·apply ah;simp[hC];apply T.block;refine T.aI (J34f L (decide (a.1=1)) ms.1 gs.1 fl f i left j) (n:=f.params.length) ?_ ?_
        ·refine aa.trim [18,17,16,7,3,2] [0,1,2,6,19,21] 22 (by simp[ax,ko,ba]) yA ⟨0,by simp,by omega,?_⟩;simp[aW]
        ·rintro n1 s ⟨q,hq,Nc,rfl⟩;obtain⟨ow,OD⟩:∃ ow,gs.1.map (·.name)++(f.params.take q).flatMap (fun p=>if p.mutex=true then [] else [p.name])=ow:=⟨_,rfl⟩;have NO:ow.length≤10:=by
          have h2:=zJ (f.params.take q);rw[List.length_take] at h2;rw[← OD,List.length_append,List.length_map];omega
         rw[OD];by_cases Nb:q<f.params.length
         ·obtain⟨p,hp⟩:∃ p,f.params[q]? = some p:=⟨f.params[q],List.getElem?_eq_getElem Nb⟩;have VQ:(f.params.flatMap jB).drop (q*2)=jB p++(f.params.drop (q+1)).flatMap jB:=az (f:=jB) (n:=2) (fun _=>rfl) hp;have Zt:(f.params.flatMap jB).drop (q*2+1)=(jB p).drop 1++(f.params.drop (q+1)).flatMap jB:=bb (f:=jB) (n:=2) (fun _=>rfl) hp 1 yA;apply aL;simp[hC,ba,hj,KU,ed,Nb];refine gF ?_;simp;apply fw;have Ok:f.params.take (q+1)=f.params.take q++[p]:=by rw[List.take_add_one,hp];rfl
          have wq:=cm ((q:Int)+1) yA yA;obtain⟨pn,YW⟩:=p
          cases YW with
          | true=>
           apply ah;simp[hC,hj,KU,ed,Nb,VQ,jB];refine aU ?_;simp;apply T.skip;simp;apply a8;simp[hC,wq];refine⟨f.params.length-(q+1),by omega,?_⟩;refine aa.trim [18,17,16,7,3,2] [0,1,2,6,19,21] 22 P7 yA ⟨q+1,rfl,by omega,?_⟩;rw[Ok,List.flatMap_append,← List.append_assoc,OD];simp[ba]
          | false=>
           apply ah;simp[hC,hj,KU,ed,Nb,VQ,jB];refine cz ?_;simp;have K1:(ow.length+1)*16≤140737488355328:=by omega
           have QV:(aW ow).cells.length=ow.length:=by simp[aW]
           have Vp:(aW ow).sz=1:=rfl;have Vt:(aW ow).elem=9:=rfl;apply a8;simp[hC,hj,KU,ed,Nb,VQ,jB,K1,QV,Vp,Vt,aS];apply a8;simp[hC,wq];refine⟨f.params.length-(q+1),by omega,?_⟩;refine aa.le (Le.trim [18,17,16,7,3,2] [0,1,2,6,19,23] 24 Uh yA) ?_;simp;refine aa.le (Le.mq 23 21 rfl rfl yA j5 j5 (by simp[ax,ints,ko,cu,-List.all_eq_true,-List.all_flatMap,aY (cf fl)])) ?_;simp[ax,ints];refine aa.trim [18,17,16,7,3,2] [0,1,2,6,19,21] 22 RQ yA ⟨q+1,rfl,by omega,?_⟩;rw[Ok,List.flatMap_append,← List.append_assoc,OD];simp[ax,ints,ba,aW,ko,cH]
         ·have Zn:q=f.params.length:=by omega
          apply aL;simp[hC,ba,hj,KU,ed,Nb];refine aU ?_;simp;apply T.exit;simp;refine aa.trim [17,16,7,3,2] [0,1,2,6,19,21] 22 P7 yA ?_;have Pp:ow=ij gs.1 f.params:=by
           rw[← OD,Zn,List.take_length];rfl
          rw[← Pp];simp
       rintro s rfl;refine T.rxw af follows [(1,3,[.bw 2 0 fl.length])] (by simp[ss,vJ,ba]) [0,1,2,3,4,5,6,7,8,9,10,11,12,13,14,15,16,17,18,19] [(4,16)] lz ?_;simp[hC,ba,ui];refine RX.quiet (.bw 2 0 fl.length) rfl j5 rfl (XV.load af rfl rfl j5 rfl rfl) ?_;simp[ui];refine RX.quiet (.bw 2 0 fl.length) rfl j5 rfl (XV.load af rfl rfl j5 rfl rfl) ?_;simp[hj,oy,ed,ui];rw[ew];refine RX.hZ 3 21 [0,1,2,21] [0,1] 4 (Qs) rfl j5 rfl rfl rfl j5 yA j5 j5 rfl j5 Of rfl j5 j5 j5 rfl j5 ?_;simp[hj,Pe,De,Q2,-fL,nA,eC,IF,vJ,ui];simp[ba,Qd,-fL];refine aa.trim [16,7,3,2] [0,1,2,6,19] 20 (by simp[ax,ko,-List.all_eq_true,-List.all_flatMap,-fL]) yA ?_;simp[-fL];rfl
    ·rintro s ⟨i,left,rfl⟩;apply ah;simp[hC,ba,ko];apply T.ret;refine aa.le (Le.trim [2] [2,19] 20 LR yA) ?_;simp;refine aa.le (Le.dC (o:=2) rfl (cf R.fs)) ?_;have VC:List.take (R.fs.length*(cu R.fs).sz) (cu R.fs).cells=R.fs.flatMap ed:=List.take_of_length_le (Nat.le_of_eq (aQ (f:=ed) (n:=3) (fun _=>rfl) R.fs));simp[bZ,VC];apply aa.here;simp[tv,dH];rw[← hR];exact⟨⟨rfl,rfl⟩,⟨rfl,rfl⟩⟩
end Go.Proofs.YtlkmbdfhdknlgaaGreatDoor
