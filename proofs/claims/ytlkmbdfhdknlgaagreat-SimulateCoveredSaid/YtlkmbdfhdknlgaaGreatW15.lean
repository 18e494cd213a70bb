/- Lemmas. -/
import Derived.Test.YtlkmbdfhdknlgaaGreatW13
import Derived.Test.YtlkmbdfhdknlgaaGreatW14
namespace Go.Proofs.YtlkmbdfhdknlgaaGreat
open Go.Can Go.aK List
def gL (l:List Mx):Ob:=⟨98,3,l.flatMap cP⟩
def iN (l:List Gl):Ob:=⟨132,2,l.flatMap qH⟩
def nB:List CV:=[.aj,.aj,.aj]
def dZ (ng nm nf left:Nat)(ar:Bool):Ob:=⟨128,0,[.ax 0 0,.a7 5 0 ng,.a7 4 0 nm,.a7 2 0 nf,I left,.bool ar]⟩
def J34 (L:List Int)(ar:Bool)(MS:List Mx×Nat)(N:Nat)(m:Nat)(s:St):Prop:=∃ (out:List Mx) (i:Nat),MS=(out++(ue L m out.length i).1,(ue L m out.length i).2)/\m+out.length=N/\i<=L.length/\
 s=⟨[(4,I out.length),(5,I N),(3,.ax 1 0),(2,.ax 19 0)],[(0,aJ L i),(1,dZ 0 out.length 0 24 ar),(2,⟨136,3,[]⟩),(4,gL out),(5,⟨132,2,[]⟩),(19,⟨27,0,nB⟩)],20⟩
def J34b (L:List Int)(ar:Bool)(ms:List Mx)(MS:List Gl×Nat)(N:Nat)(m:Nat)(s:St):Prop:=∃ (out:List Gl) (i:Nat),MS=(out++(yV L m out.length i).1,(yV L m out.length i).2)/\m+out.length=N/\i<=L.length/\
 s=⟨[(8,I out.length),(9,I N),(7,.a7 6 0 out.length),(3,.ax 1 0),(2,.ax 19 0)],[(0,aJ L i),(1,dZ out.length ms.length 0 24 ar),(2,⟨136,3,[]⟩),(4,gL ms),(5,iN out),(6,bu (out.map (·.name))),(19,⟨27,0,nB⟩)],20⟩
def J34c (L:List Int)(ar:Bool)(ms:List Mx)(gs:List Gl)(MS:List Fu×Nat)(N:Nat)(m:Nat)(s:St):Prop:=∃ (out:List Fu) (i:Nat),MS=(out++(xT L m out.length i).1,(xT L m out.length i).2)/\m+out.length=N+1/\i<=L.length/\
 s=⟨[(12,I out.length),(11,I N),(7,.a7 6 0 gs.length),(3,.ax 1 0),(2,.ax 19 0)],[(0,aJ L i),(1,dZ gs.length ms.length out.length 24 ar),(2,dp out),(4,gL ms),(5,iN gs),(6,bu (gs.map (·.name))),(19,⟨27,0,nB⟩)],20⟩
theorem qi (c:Nat)(hc:c<=10)(k:Int)(m:Nat)(hm:k=m)(X0:m<=100):IntKind.i64.wrap (k+c)=k+c/\IntKind.u8.wrap (k+c)=k+c/\(0<=k+c/\k+c<256)/\(k+c).toNat=m+c:=by
 refine⟨cr _ yA yA,IntWalk.u8_in _ yA,by omega,by omega⟩
theorem ak {α:Type}{f:α->List CV}(hf:∀ x,trees (f x)=true)(l:List α):trees (l.flatMap f)=true:=by
 induction l with
 | nil=>rfl
 | cons a r ih=>rw[flatMap_cons,a9,hf,ih];rfl
mutual
theorem Dd (o:Nat)(ds:List CV)(n:Nat):∀ c:CV,tree c=true->cC o ds n c=c
 | .a7 _ _ _,h=>by simp[tree] at h
 | .ax _ _,h=>by simp[tree] at h
 | .iter _ _ _,h=>by simp[tree] at h
 | .mp _ _,h=>by simp[tree] at h
 | .agg cs,h=>by
  simp only[tree] at h;rw[cC,m9 o ds n cs h]
 | .fn _ cs,h=>by
  simp only[tree] at h;rw[cC,m9 o ds n cs h]
 | .iface _ cs,h=>by
  simp only[tree] at h;rw[cC,m9 o ds n cs h]
 | .cF cs,h=>by
  simp only[tree] at h;rw[cC,m9 o ds n cs h]
 | .int _ _,_=>rfl
 | .bool _,_=>rfl
 | .str _,_=>rfl
 | .az _ _,_=>rfl
 | .aj,_=>rfl
 | .cM _,_=>rfl
 | .bL,_=>rfl
 | .cH,_=>rfl
 | .any,_=>rfl
theorem m9 (o:Nat)(ds:List CV)(n:Nat):∀ cs:List CV,trees cs=true->jq o ds n cs=cs
 | [],_=>rfl
 | c::cs,h=>by
  simp only[trees,Bool.and_eq_true] at h;rw[jq,Dd o ds n c h.1,m9 o ds n cs h.2]
end
theorem aN {cs:List CV}(h:trees cs=true)(o:Nat)(ds:List CV)(n:Nat):cs.map (cC o ds n)=cs:=by
 rw[map_congr_left (g:=id) λ c hc=>Dd o ds n c (ju h c hc),map_id]
theorem dw (l:List Mx):trees (l.flatMap cP)=true:=ak (λ _=>rfl) l
theorem jO (l:List Gl):trees (l.flatMap qH)=true:=ak (λ _=>rfl) l
@[simp] theorem mxOb_lt (l:List Mx)(n:Nat):(gL l).cells.all (aU n)=true:=ai (dw l) n
@[simp] theorem mxOb_lts (l:List Mx)(n:Nat):ba n (gL l).cells=true:=by rw[aT];exact ai (dw l) n
@[simp] theorem mxOb_ok1 (l:List Mx)(o q:Nat):(gL l).cells.all (oM o q)=true:=bx (dw l) o q
@[simp] theorem Sa (l:List Mx)(o q:Nat):(gL l).cells.map (dG o q)=(gL l).cells:=bl (dw l) o q
@[simp] theorem mxOb_frz (l:List Mx)(o:Nat)(cs:List CV)(n:Nat):(⟨(gL l).elem,(gL l).sz,(gL l).cells.map (cC o cs n)⟩:Ob)=gL l:=by rw[aN (cs:=(gL l).cells) (dw l)]
@[simp] theorem glOb_frz (l:List Gl)(o:Nat)(cs:List CV)(n:Nat):(⟨(iN l).elem,(iN l).sz,(iN l).cells.map (cC o cs n)⟩:Ob)=iN l:=by rw[aN (cs:=(iN l).cells) (jO l)]
@[simp] theorem mxOb_eta (l:List Mx):(⟨(gL l).elem,(gL l).sz,(gL l).cells⟩:Ob)=gL l:=rfl
@[simp] theorem glOb_lt (l:List Gl)(n:Nat):(iN l).cells.all (aU n)=true:=ai (jO l) n
@[simp] theorem glOb_lts (l:List Gl)(n:Nat):ba n (iN l).cells=true:=by rw[aT];exact ai (jO l) n
@[simp] theorem glOb_ok1 (l:List Gl)(o q:Nat):(iN l).cells.all (oM o q)=true:=bx (jO l) o q
@[simp] theorem Sf (l:List Gl)(o q:Nat):(iN l).cells.map (dG o q)=(iN l).cells:=bl (jO l) o q
@[simp] theorem glOb_eta (l:List Gl):(⟨(iN l).elem,(iN l).sz,(iN l).cells⟩:Ob)=iN l:=rfl
def oJ (l:List Pm):Ob:=⟨138,2,l.flatMap mr⟩
theorem oU (l:List Pm):trees (l.flatMap mr)=true:=ak (λ _=>rfl) l
@[simp] theorem pmOb_lt (l:List Pm)(n:Nat):(oJ l).cells.all (aU n)=true:=ai (oU l) n
@[simp] theorem pmOb_lts (l:List Pm)(n:Nat):ba n (oJ l).cells=true:=by rw[aT];exact ai (oU l) n
@[simp] theorem pmOb_ok1 (l:List Pm)(o q:Nat):(oJ l).cells.all (oM o q)=true:=bx (oU l) o q
@[simp] theorem RM (l:List Pm)(o q:Nat):(oJ l).cells.map (dG o q)=(oJ l).cells:=bl (oU l) o q
@[simp] theorem pmOb_eta (l:List Pm):(⟨(oJ l).elem,(oJ l).sz,(oJ l).cells⟩:Ob)=oJ l:=rfl
def J34d (L:List Int)(ar:Bool)(ms:List Mx)(gs:List Gl)(out:List Fu)(j N:Nat)(nm1:ByteArray)(PM:List Pm×Nat)(n:Nat)(s:St):Prop:=∃ (m:Nat) (po:List Pm) (i:Nat),PM=(po++(Gd L n i).1,(Gd L n i).2)/\n=(if j=0 then 0 else m)/\m+po.length<=2/\i<=L.length/\
 s=⟨[(14,I m),(13,.ax 21 0),(12,I j),(11,I N),(7,.a7 6 0 gs.length),(3,.ax 1 0),(2,.ax 19 0)],[(0,aJ L i),(1,dZ gs.length ms.length j 24 ar),(2,dp out),(4,gL ms),(5,iN gs),(6,bu (gs.map (·.name))),(19,⟨27,0,nB⟩),(21,⟨136,0,[.str nm1,.a7 22 0 po.length,.aj]⟩),(22,oJ po)],23⟩
def J34e (L:List Int)(ar:Bool)(ms:List Mx)(gs:List Gl)(fs0:List Fu)(N:Nat)(RF:List Fu)(n:Nat)(s:St):Prop:=∃ (j:Nat) (fl:List Fu) (i left:Nat),RF=Ov ⟨L,ar,ms,fs0.map λ f=>(f.name,f.params)⟩ gs n j fl i left/\n+j=N/\fl.length=N/\fl.map sg=fs0.map sg/\(∀ f∈fl,f.params.length<=2)/\left<=24/\i<=L.length/\
 s=⟨[(16,I j),(7,.a7 6 0 gs.length),(3,.ax 1 0),(2,.ax 19 0)],[(0,aJ L i),(1,bN gs ms fl.length left ar),(2,dp fl),(6,bu (gs.map (·.name))),(19,⟨27,0,nB⟩)],20⟩
theorem Gh (l:List Pm):(l.flatMap λ p=>if p.mutex=true then [] else [p.name]).length<=l.length:=by
 induction l with
 | nil=>exact Nat.le_refl _
 | cons x r ih=>
  rw[flatMap_cons,length_append,length_cons];split
  .simp only[length_nil];omega
  .simp only[length_cons,length_nil];omega
theorem QP {fl:List Fu}{j:Nat}{f:Fu}(h:fl[j]? = some f)(b:List Sm):gX (dp fl).cells (j*3+2) [.az (bP b) b.length]=(dp (fl.set j ⟨f.name,f.params,b⟩)).cells:=by
 induction fl generalizing j with
 | nil=>simp at h
 | cons a r ih=>
  cases j with
  | zero=>
   simp only[getElem?_cons_zero,Option.some.injEq] at h;subst h;simp[dp,fT,gX]
  | succ j=>
   simp only[getElem?_cons_succ] at h;have e:=ih h;simp only[dp,gX,flatMap_cons,set_cons_succ] at e |-;rw[show (j+1)*3+2=(fT a).length+(j*3+2) by simp[fT];omega,take_append,take_of_length_le yA,Nat.add_sub_cancel_left,show (fT a).length+(j*3+2)+[CV.az (bP b) b.length].length=(fT a).length+(j*3+2+[CV.az (bP b) b.length].length) by omega,drop_append,drop_of_length_le yA,Nat.add_sub_cancel_left,nil_append,append_assoc,append_assoc,<- append_assoc (take _ _),e]
def J34f (L:List Int)(ar:Bool)(ms:List Mx)(gs:List Gl)(fl:List Fu)(f:Fu)(i left j:Nat)(n:Nat)(s:St):Prop:=∃ q:Nat,n=f.params.length-q/\q<=f.params.length/\
 s=⟨[(18,I q),(17,.a7 21 0 (gs.map (·.name)++(f.params.take q).flatMap (λ p=>if p.mutex=true then [] else [p.name])).length),(16,I j),(7,.a7 6 0 gs.length),(3,.ax 1 0),(2,.ax 19 0)],[(0,aJ L i),(1,bN gs ms fl.length left ar),(2,dp fl),(6,bu (gs.map (·.name))),(19,⟨27,0,nB⟩),(21,bu (gs.map (·.name)++(f.params.take q).flatMap (λ p=>if p.mutex=true then [] else [p.name])))],22⟩
set_option maxHeartbeats 8000000 in
theorem EM (l:List Int)(hl:l.length<=9223372036854775807):ae Tryz.prog 26 [ints l] (zt (D0 l)):=by
 generalize hR:D0 l=R;refine ae.aD af Tryz.func26 rfl Bw (by simp[Tryz.ntmps26]) rfl λ C hC M0=>?_;rw[Tryz.ntmps26] at hC;apply aq;simp[hC];apply aq;simp[hC];refine cS SD (QZ l 400 hl) ?_;simp[hC];have hL:(l.take 400).length<=1000:=by simp;omega
 simp only[D0] at hR;generalize l.take 400=L at hL hR;refine T.le (Le.up 20 xr) ?_;simp;refine T.le (Le.trim [3,2] [0,1,2] 20 xr yA) ?_;simp;refine T.le (Le.qt 0 19 rfl rfl yA xr xr (by simp[ints])) ?_;simp[ints];refine T.le (Le.qt 1 0 rfl rfl yA xr xr xr) ?_;simp;refine T.le (Le.qt 2 1 rfl rfl yA xr xr xr) ?_;simp;refine T.le (Le.mU 1 3 136 3 rfl rfl) ?_;simp;refine T.le (Le.mU 1 2 98 3 rfl rfl) ?_;simp;refine T.le (Le.mU 1 1 132 2 rfl rfl) ?_;simp;refine T.le (Le.qt 20 2 rfl rfl yA xr xr xr) ?_;simp;refine T.le (Le.qt 21 4 rfl rfl yA xr xr xr) ?_;simp;refine T.le (Le.qt 22 5 rfl rfl yA xr xr xr) ?_;simp;refine T.le (Le.trim [3,2] [0,1,2,4,5,19] 20 xr yA) ?_;simp;have es:(⟨126,0,[CV.az (L.map dg) L.length,.int .i64 0]⟩:Ob)=aJ L 0:=rfl;rw[es];have Y3:=bq L 3 (Nat.zero_le L.length);have Vt:=cQ L 0 3 (Nat.zero_le _) hL yA yA;obtain⟨a,ha⟩:∃ a,cw L 0 3=a:=⟨_,rfl⟩;rw[ha] at Y3 Vt;simp only[ha] at hR;apply aq;simp[hC];refine TL.cZ af [0] 1 (Vt) Rg rfl rfl rfl rfl xr TJ TG rfl (TL.go' af ?_);simp[hC];have Tf:=bq L 4 Y3;have Wx:=cQ L a.2 4 Y3 hL yA yA;have hlt1:=dH L a.2 (show 0<4 by omega);obtain⟨nm,Tu⟩:∃ nm,cw L a.2 4=nm:=⟨_,rfl⟩;rw[Tu] at Tf Wx hlt1;simp only[Tu] at hR;have w1:=cr (1+(nm.1:Int)) yA yA;refine T.cut (λ s=>s=⟨[(3,.ax 1 0),(2,.ax 19 0)],[(0,aJ L (ue L (1+nm.1) 0 nm.2).2),(1,dZ 0 (ue L (1+nm.1) 0 nm.2).1.length 0 24 (decide (a.1=1))),(2,⟨136,3,[]⟩),(4,gL (ue L (1+nm.1) 0 nm.2).1),(5,⟨132,2,[]⟩),(19,⟨27,0,nB⟩)],20⟩) ?_ ?_
 .clear hR;apply aq;simp[hC];refine TL.cZ af [0] 1 (Wx) Rg rfl rfl rfl rfl xr TJ TG rfl (TL.go' af ?_);simp[hC,w1];apply T.block;generalize hMS:ue L (1+nm.1) 0 nm.2=MS;refine T.aI (J34 L (decide (a.1=1)) MS (1+nm.1)) (n:=1+nm.1) ?_ ?_
  .refine aa.trim [4,5,3,2] [0,1,2,4,5,19] 20 WL yA ⟨[],nm.2,by simp[hMS],by simp,Tf,?_⟩;simp[dZ,gL,nB]
  .rintro n s ⟨out,i,hM,Ty,hi,rfl⟩
   cases n with
   | zero=>
    have ho:out.length=1+nm.1:=by omega
    have P1:¬ ((out.length:Int)<1+nm.1):=by omega
    apply aW;simp[hC,P1];refine bg ?_;simp;apply T.exit;simp;refine aa.trim [3,2] [0,1,2,4,5,19] 20 Y9 yA ?_;rw[hM];simp[ue]
   | succ n=>
    have ho:out.length<=3:=by omega
    obtain⟨c1,c2,c3,c4⟩:=qi out.length yA 97 97 rfl yA;have P1:(out.length:Int)<1+nm.1:=by omega
    apply aW;simp[hC,P1];refine jk ?_;simp;apply eE;refine T.seq (T.D2 af ?_);simp[hC,c1,c2,c3,c4];refine T.le (Le.trim [6,4,5,3,2] [0,1,2,4,5,19,21] 22 Y9 yA) ?_;simp;have WJ:(⟨#[97+UInt8.ofNat out.length]⟩:ByteArray)=eR (97+out.length):=by simp[eR]
    rw[WJ];refine T.cut (λ s=>∃ (m:Mx) (i2:Nat),ue L (n+1) out.length i=(m::(ue L n (out.length+1) i2).1,(ue L n (out.length+1) i2).2)/\i2<=L.length/\
     s=⟨[(6,.ax 21 0),(4,I out.length),(5,I (1+nm.1)),(3,.ax 1 0),(2,.ax 19 0)],[(21,⟨98,0,cP m⟩),(0,aJ L i2),(1,dZ 0 out.length 0 24 (decide (a.1=1))),(2,⟨136,3,[]⟩),(4,gL out),(5,⟨132,2,[]⟩),(19,⟨27,0,nB⟩)],22⟩) ?_ ?_
    .have T6:=cQ L i 5 hi hL yA yA;have TQ:=bq L 5 hi;rw[ue];obtain⟨k,hk⟩:∃ k,cw L i 5=k:=⟨_,rfl⟩;simp only[hk] at T6 TQ |-;apply aq;simp[hC,dZ];refine TL.cZ af [0] 1 (T6) Rg rfl rfl rfl rfl xr TJ TG rfl (TL.go' af ?_);simp;apply T.block;apply aq;simp[hC];refine T.bw rfl (λ h=>?_) (λ h=>?_)
     .have h1:k.1=1:=by simpa using h
      apply aM;simp[hC];refine aa.trim [6,4,5,3,2] [21,0,1,2,4,5,19] 22 Y7 yA ⟨⟨eR (97+out.length),true,0⟩,k.2,by rw[if_pos h1],TQ,?_⟩;simp[cP]
     have h1:¬ k.1=1:=by simpa using h
     apply aq;simp[hC];refine T.bw rfl (λ h=>?_) (λ h=>?_)
     .have h2:k.1=2:=by simpa using h
      have YZ:=cQ L k.2 3 TQ hL yA yA;have WB:=bq L 3 TQ;have Yy:=dH L k.2 (show 0<3 by omega);obtain⟨q,hq⟩:∃ q,cw L k.2 3=q:=⟨_,rfl⟩;simp only[hq] at YZ WB Yy |-;have wq:=cr (1+(q.1:Int)) yA yA;apply aM;simp[hC];refine TL.cZ af [0] 1 (YZ) Rg rfl rfl rfl rfl xr TJ TG rfl (TL.go' af ?_);simp[hC,wq];refine aa.trim [6,4,5,3,2] [21,0,1,2,4,5,19] 22 Y7 yA ⟨⟨eR (97+out.length),false,1+q.1⟩,q.2,by rw[if_neg h1,if_pos h2],WB,?_⟩;simp[cP]
     .have h2:¬ k.1=2:=by simpa using h
      apply T.skip;simp;refine aa.trim [6,4,5,3,2] [21,0,1,2,4,5,19] 22 Y7 yA ⟨⟨eR (97+out.length),false,0⟩,k.2,by rw[if_neg h1,if_neg h2],TQ,?_⟩;simp[cP]
    rintro s ⟨m,i2,hm,TQ,rfl⟩;have hb:(out.length+1)*32<=140737488355328:=by omega
    have Ua:(gL out).cells.length=out.length*3:=aG (f:=cP) (n:=3) (λ _=>rfl) out;have TP:(gL out).sz=3:=rfl;have Zt:(gL out).elem=98:=rfl;have wo:=cr ((out.length:Int)+1) yA yA;refine T.rx af follows [0,1,2,3,4,5,6,7,8,9,10,11,12] [(5,7)] Bw ?_;simp[hC,dZ,cP,Ua,TP,Zt,hb,aY];apply aM;simp[hC,wo];refine⟨n,by omega,?_⟩;refine aa.le (Le.trim [4,5,3,2] [0,1,2,5,19,35] 36 yCw yA) ?_;simp;refine aa.le (Le.qt 35 4 rfl rfl yA xr xr yDh) ?_;simp[aJ,ints];refine aa.trim [4,5,3,2] [0,1,2,4,5,19] 20 yCd yA ⟨out++[m],i2,?_,?_,TQ,?_⟩
    .rw[hM,hm];simp
    .simp;omega
    .simp[aJ,ints,dZ,gL,cP,nB,dG]
 .rintro s rfl;obtain⟨_,Ua,hmz,Wy⟩:=CG L (1+nm.1) 0 nm.2 yA;have TQ:=Wy Tf;obtain⟨ms,TP⟩:∃ ms,ue L (1+nm.1) 0 nm.2=ms:=⟨_,rfl⟩;simp only[TP] at hR Ua hmz TQ |-;clear Wy;have U5:=cQ L ms.2 3 TQ hL yA yA;have WB:=bq L 3 TQ;have Um:=dH L ms.2 (show 0<3 by omega);obtain⟨ng,Vs⟩:∃ ng,cw L ms.2 3=ng:=⟨_,rfl⟩;rw[Vs] at U5 WB Um;simp only[Vs] at hR;apply aq;simp[hC];refine T.cut (λ s=>s=⟨[(7,.a7 6 0 ng.1),(3,.ax 1 0),(2,.ax 19 0)],[(0,aJ L (yV L ng.1 0 ng.2).2),(1,dZ ng.1 ms.1.length 0 24 (decide (a.1=1))),(2,⟨136,3,[]⟩),(4,gL ms.1),(5,iN (yV L ng.1 0 ng.2).1),(6,bu ((yV L ng.1 0 ng.2).1.map (·.name))),(19,⟨27,0,nB⟩)],20⟩) ?_ ?_
  .clear hR;apply aq;simp[hC,dZ];refine TL.cZ af [0] 1 (U5) Rg rfl rfl rfl rfl xr TJ TG rfl (TL.go' af ?_);simp[hC];apply T.block;generalize hMS:yV L ng.1 0 ng.2=MS;have ew:(⟨128,0,[CV.ax 0 0,CV.a7 5 0 0,CV.a7 4 0 ms.1.length,CV.a7 2 0 0,I 24,CV.bool (decide (a.1=1))]⟩:Ob)=dZ 0 ms.1.length 0 24 (decide (a.1=1)):=rfl;refine T.aI (J34b L (decide (a.1=1)) ms.1 MS ng.1) (n:=ng.1) ?_ ?_
   .refine aa.le (Le.own 7 9 1 rfl) ?_;simp;refine aa.le (Le.qt 20 6 rfl rfl yA xr xr yDh) ?_;simp[aJ,ints];refine aa.trim [8,9,7,3,2] [0,1,2,4,5,6,19] 20 yCd yA ⟨[],ng.2,?_,by simp,WB,?_⟩
    .simp[hMS]
    .simp[aJ,ints,dZ,iN,bu,nB,dG]
   .rintro n s ⟨out,i,hM,Ty,hi,rfl⟩
    cases n with
    | zero=>
     have ho:out.length=ng.1:=by omega
     have P1:¬ ((out.length:Int)<ng.1):=by omega
     apply aW;simp[hC,P1];refine bg ?_;simp;apply T.exit;simp;refine aa.trim [7,3,2] [0,1,2,4,5,6,19] 20 Y9 yA ?_;rw[hM];simp[yV,ho,dZ]
    | succ n=>
     have ho:out.length<=1:=by omega
     obtain⟨c1,c2,c3,c4⟩:=qi out.length yA 48 48 rfl yA;have P1:(out.length:Int)<ng.1:=by omega
     have T6:=cQ L i 5 hi hL yA yA;have TQ:=bq L 5 hi;have hlt5:=dH L i (show 0<5 by omega);rw[yV] at hM;obtain⟨k,hk⟩:∃ k,cw L i 5=k:=⟨_,rfl⟩;simp only[hk] at T6 TQ hlt5 hM;have wk:=cr ((k.1:Int)-2) yA yA;have WJ:(⟨#[48+UInt8.ofNat out.length]⟩:ByteArray)=eR (48+out.length):=by simp[eR]
     have so:mQ BinOp.add ⟨#[103]⟩ (eR (48+out.length))=some (.str (⟨#[103]⟩++eR (48+out.length))):=rfl;apply aW;simp[hC,P1];refine jk ?_;simp;apply eE;apply T.seq;refine T.rx af follows [0,1,2,3,4,5,6,7,8,9,13,10,11,12,14] [(2,13),(2,10),(3,9),(3,13),(3,10),(4,13),(4,10),(9,13),(13,10)] Bw ?_;simp[hC,dZ,c1,c2,c3,c4,WJ,so];refine RX.cZ [0] [0] 1 (T6) rfl xr rfl rfl rfl rfl xr TJ TG rfl rfl rfl xr ?_;simp[wk];refine T.le (Le.trim [10,8,9,7,3,2] [0,1,2,4,5,6,19,33] 34 Y7 yA) ?_;simp;have hb:(out.length+1)*24<=140737488355328:=by omega
     have T0:(out.length+1)*16<=140737488355328:=by omega
     have XI:(iN out).cells.length=out.length*2:=aG (f:=qH) (n:=2) (λ _=>rfl) out;have hgs:(iN out).sz=2:=rfl;have WD:(iN out).elem=132:=rfl;have Ul:(bu (out.map (·.name))).cells.length=out.length:=by simp[bu]
     have Vr:(bu (out.map (·.name))).sz=1:=rfl;have SL:(bu (out.map (·.name))).elem=9:=rfl;have wo:=cr ((out.length:Int)+1) yA yA;refine T.rx af follows [0,1,2,3,4,5,6,7,8,9,10,11,12,13,14,15,16,17,18] [(5,7),(5,12),(6,12),(7,11),(7,12),(8,11),(8,12)] Bw ?_;simp[hC,hb,T0,XI,hgs,WD,Ul,Vr,SL,aY];apply aM;simp[hC,wo];refine⟨n,by omega,?_⟩;refine aa.le (Le.trim [8,9,7,3,2] [0,1,2,4,19,53,54] 55 yCw yA) ?_;simp;refine aa.le (Le.qt 53 5 rfl rfl yA xr xr yDh) ?_;simp[aJ,ints];refine aa.le (Le.qt 54 6 rfl rfl yA xr xr yCd) ?_;simp;refine aa.trim [8,9,7,3,2] [0,1,2,4,5,6,19] 20 yCd yA ⟨out++[⟨⟨#[103]⟩++eR (48+out.length),(k.1:Int)-2⟩],k.2,?_,?_,TQ,?_⟩
     .rw[hM];simp
     .simp;omega
     .simp[aJ,ints,dZ,iN,qH,bu,nB,dG]
  .rintro s rfl;obtain⟨_,XI,hgz,X3⟩:=La L ng.1 0 ng.2 yA;have Y2:=X3 WB;obtain⟨gs,hgs⟩:∃ gs,yV L ng.1 0 ng.2=gs:=⟨_,rfl⟩;simp only[hgs] at hR XI hgz Y2 |-;clear X3;rw[<- XI];have YZ:=cQ L gs.2 4 Y2 hL yA yA;have Z2:=bq L 4 Y2;have Yy:=dH L gs.2 (show 0<4 by omega);obtain⟨nf,hnf⟩:∃ nf,cw L gs.2 4=nf:=⟨_,rfl⟩;rw[hnf] at YZ Z2 Yy;simp only[hnf] at hR;apply aq;simp[hC,dZ];refine TL.cZ af [0] 1 (YZ) Rg rfl rfl rfl rfl xr TJ TG rfl (TL.go' af ?_);simp[hC];refine T.cut (λ s=>s=⟨[(7,.a7 6 0 gs.1.length),(3,.ax 1 0),(2,.ax 19 0)],[(0,aJ L (xT L (nf.1+1) 0 nf.2).2),(1,dZ gs.1.length ms.1.length (xT L (nf.1+1) 0 nf.2).1.length 24 (decide (a.1=1))),(2,dp (xT L (nf.1+1) 0 nf.2).1),(4,gL ms.1),(5,iN gs.1),(6,bu (gs.1.map (·.name))),(19,⟨27,0,nB⟩)],20⟩) ?_ ?_
   .clear hR;apply aq;simp[hC];apply T.block;generalize hMS:xT L (nf.1+1) 0 nf.2=MS;refine T.aI (J34c L (decide (a.1=1)) ms.1 gs.1 MS nf.1) (n:=nf.1+1) ?_ ?_
    .refine aa.trim [12,11,7,3,2] [0,1,2,4,5,6,19] 20 Y7 yA ⟨[],nf.2,by simp[hMS],by simp,Z2,?_⟩;simp[dZ,dp]
    .rintro n s ⟨out,i,hM,Ty,hi,rfl⟩
     cases n with
     | zero=>
      have ho:out.length=nf.1+1:=by omega
      have P1:¬ ((out.length:Int)<=nf.1):=by omega
      apply aW;simp[hC,P1];refine bg ?_;simp;apply T.exit;simp;refine aa.trim [7,3,2] [0,1,2,4,5,6,19] 20 Y9 yA ?_;rw[hM];simp[xT,ho,dZ]
     | succ n=>
      obtain⟨j,hj⟩:∃ j,out.length=j:=⟨_,rfl⟩;simp only[hj] at hM Ty |-;have ho:j<=3:=by omega
      obtain⟨c1,c2,c3,c4⟩:=qi j yA 48 48 rfl yA;have P1:(j:Int)<=nf.1:=by omega
      have WJ:(⟨#[48+UInt8.ofNat j]⟩:ByteArray)=eR (48+j):=by simp[eR]
      have so:mQ BinOp.add ⟨#[102]⟩ (eR (48+j))=some (.str (⟨#[102]⟩++eR (48+j))):=rfl;apply aW;simp[hC,P1];refine jk ?_;simp;apply eE;refine T.seq (T.D2 af ?_);simp[hC,c1,c2,c3,c4,WJ,so];refine T.le (Le.trim [13,12,11,7,3,2] [0,1,2,4,5,6,19,21] 22 Y9 yA) ?_;simp;rw[xT] at hM;simp only at hM;obtain⟨nm1,Yv⟩:∃ x,(if j=0 then (⟨#[109,97,105,110]⟩:ByteArray) else ⟨#[102]⟩++eR (48+j))=x:=⟨_,rfl⟩;rw[Yv] at hM;refine T.cut (λ s=>s=⟨[(13,.ax 21 0),(12,I j),(11,I nf.1),(7,.a7 6 0 gs.1.length),(3,.ax 1 0),(2,.ax 19 0)],[(0,aJ L i),(1,dZ gs.1.length ms.1.length j 24 (decide (a.1=1))),(2,dp out),(4,gL ms.1),(5,iN gs.1),(6,bu (gs.1.map (·.name))),(19,⟨27,0,nB⟩),(21,⟨136,0,[.str nm1,.aj,.aj]⟩)],22⟩) ?_ ?_
      .apply aq;simp[hC];refine T.bw rfl (λ h=>?_) (λ h=>?_)
       .have h0:j=0:=by
         simp at h;omega
        rw[if_pos h0] at Yv;apply aM;simp[hC];refine aa.trim [13,12,11,7,3,2] [0,1,2,4,5,6,19,21] 22 Y9 yA ?_;simp[Yv]
       .have h0:¬ j=0:=by
         simp at h;omega
        rw[if_neg h0] at Yv;apply T.skip;simp;refine aa.trim [13,12,11,7,3,2] [0,1,2,4,5,6,19,21] 22 Y9 yA ?_;simp[Yv]
      rintro s rfl;have T6:=cQ L i 3 hi hL yA yA;have Y1:=bq L 3 hi;have hlt6:=dH L i (show 0<3 by omega);obtain⟨k,hk⟩:∃ k,cw L i 3=k:=⟨_,rfl⟩;rw[hk] at T6 Y1 hlt6;simp only[hk] at hM;obtain⟨PM,hPM⟩:∃ x,Gd L (if j=0 then 0 else k.1) k.2=x:=⟨_,rfl⟩;rw[hPM] at hM;have V5:PM.2<=L.length/\PM.1.length<=2:=by
       rw[<- hPM];have h1:(if j=0 then 0 else k.1)<=2:=by split<;>omega
       obtain⟨_,p2,p3⟩:=J8 L (if j=0 then 0 else k.1) k.2 h1;exact⟨p3 Y1,by omega⟩
      refine T.cut (λ s=>s=⟨[(13,.ax 21 0),(12,I j),(11,I nf.1),(7,.a7 6 0 gs.1.length),(3,.ax 1 0),(2,.ax 19 0)],[(0,aJ L PM.2),(1,dZ gs.1.length ms.1.length j 24 (decide (a.1=1))),(2,dp out),(4,gL ms.1),(5,iN gs.1),(6,bu (gs.1.map (·.name))),(19,⟨27,0,nB⟩),(21,⟨136,0,[.str nm1,.a7 22 0 PM.1.length,.aj]⟩),(22,oJ PM.1)],23⟩) ?_ ?_
      .apply aq;simp[hC,dZ];refine TL.cZ af [0] 1 (T6) Rg rfl rfl rfl rfl xr TJ TG rfl (TL.go' af ?_);simp[hC];apply T.block;refine T.aI (J34d L (decide (a.1=1)) ms.1 gs.1 out j nf.1 nm1 PM) (n:=if j=0 then 0 else k.1) ?_ ?_
       .refine aa.le (Le.mU 21 1 138 2 rfl rfl) ?_;simp;refine aa.trim [14,13,12,11,7,3,2] [0,1,2,4,5,6,19,21,22] 23 Y7 yA ⟨k.1,[],k.2,?_,rfl,?_,Y1,?_⟩
        .simp[hPM]
        .simp;omega
        .simp[dZ,oJ]
       .rintro n1 s ⟨m,po,i1,hP,Wx,hpo,hi7,rfl⟩;by_cases hg:0<n1
        .have h0:¬ j=0:=by
          intro h;rw[if_pos h] at Wx;omega
         rw[if_neg h0] at Wx;subst Wx;obtain⟨m,rfl⟩:∃ q,n1=q+1:=⟨n1-1,by omega⟩;have g1:0<j:=by omega
         rw[Gd] at hP;have hnx1:=cQ L i1 3 hi7 hL yA yA;have hi8:=bq L 3 hi7;obtain⟨q,hq⟩:∃ q,cw L i1 3=q:=⟨_,rfl⟩;simp only[hq] at hnx1 hi8 hP;obtain⟨mm,TF⟩:∃ mm,m+1=mm:=⟨_,rfl⟩;simp only[TF] at hP |-;obtain⟨d1,d2,d3,d4⟩:=qi mm yA 48 48 rfl yA;have hch1:(⟨#[48+UInt8.ofNat mm]⟩:ByteArray)=eR (48+mm):=by simp[eR]
         have so1:mQ BinOp.add ⟨#[112]⟩ (eR (48+mm))=some (.str (⟨#[112]⟩++eR (48+mm))):=rfl;have hmp:0<mm:=by omega
         apply aW;simp[hC,g1,hmp];refine jk ?_;simp;refine T.seq (T.block (T.seq ?_));refine T.rx af follows [0,1,2,3,4,5,6,7,8,9,13,10,11,12,14] [(2,13),(2,10),(3,9),(3,13),(3,10),(4,13),(4,10),(9,13),(13,10)] Bw ?_;simp[hC,dZ,d1,d2,d3,d4,hch1,so1];refine RX.cZ [0] [0] 1 (hnx1) rfl xr rfl rfl rfl rfl xr TJ TG rfl rfl rfl xr ?_;simp;have hb:(po.length+1)*24<=140737488355328:=by omega
         have XI:(oJ po).cells.length=po.length*2:=aG (f:=mr) (n:=2) (λ _=>rfl) po;have hgs:(oJ po).sz=2:=rfl;have WD:(oJ po).elem=138:=rfl;have wo:=cr (m:Int) yA yA;have wm:(mm:Int)-1=(m:Int):=by omega
         apply aM;simp[hC,hb,XI,hgs,WD,aY];apply aM;simp[hC,wm,wo];refine⟨m,by omega,?_⟩;refine aa.le (Le.trim [14,13,12,11,7,3,2] [0,1,2,4,5,6,19,21,39] 40 yCw yA) ?_;simp;refine aa.le (Le.qt 39 22 rfl rfl yA xr xr (by simp[aJ,ints,nB,dp,-all_eq_true,-all_flatMap,bx (da out)])) ?_;simp[aJ,ints];refine aa.trim [14,13,12,11,7,3,2] [0,1,2,4,5,6,19,21,22] 23 yCd yA ⟨m,po++[⟨⟨#[112]⟩++eR (48+mm),decide (0<q.1)⟩],q.2,?_,?_,?_,hi8,?_⟩
         .rw[hP];simp
         .rw[if_neg h0]
         .simp;omega
         .simp[aJ,ints,dZ,oJ,mr,nB,dG]
        .have Vt:n1=0:=by omega
         have hPM2:PM=(po,i1):=by
          rw[hP,Vt];simp[Gd]
         by_cases V6:0<m
         .have g1:¬ 0<j:=by
           intro h;rw[if_neg yA] at Wx;omega
          apply aW;simp[hC,V6,g1];refine bg ?_;simp;apply T.exit;simp;refine aa.trim [13,12,11,7,3,2] [0,1,2,4,5,6,19,21,22] 23 Y9 yA ?_;simp[hPM2,dZ]
         .apply aW;simp[hC,V6];refine bg ?_;simp;apply T.exit;simp;refine aa.trim [13,12,11,7,3,2] [0,1,2,4,5,6,19,21,22] 23 Y9 yA ?_;simp[hPM2,dZ]
      rintro s rfl;refine T.le (Le.nz [] [21]) ?_;simp[nz];refine T.le (Le.di (o:=22) rfl (oU PM.1)) ?_;have SE:take (PM.1.length*(oJ PM.1).sz) (oJ PM.1).cells=PM.1.flatMap mr:=take_of_length_le (Nat.le_of_eq (aG (f:=mr) (n:=2) (λ _=>rfl) PM.1));simp[cC,SE,dZ];have hb:(j+1)*64<=140737488355328:=by omega
      have XI:(dp out).cells.length=j*3:=by rw[<- hj];exact aG (f:=fT) (n:=3) (λ _=>rfl) out
      have hgs:(dp out).sz=3:=rfl;have WD:(dp out).elem=136:=rfl;have wo:=cr ((j:Int)+1) yA yA;refine T.rx af follows [0,1,2,3,4,5,6,7,8,9,10,11,12] [(5,7)] Bw ?_;simp[hC,XI,hgs,WD,hb,aY];apply aM;simp[hC,wo];refine⟨n,by omega,?_⟩;refine aa.le (Le.trim [12,11,7,3,2] [0,1,4,5,6,19,36] 37 (by simp[aJ,nB,cC,-all_eq_true,-all_flatMap]) yA) ?_;simp;refine aa.le (Le.qt 36 2 rfl rfl yA xr xr (by simp[aJ,ints,nB,cC,-all_eq_true,-all_flatMap])) ?_;simp[aJ,ints];refine aa.trim [12,11,7,3,2] [0,1,2,4,5,6,19] 20 (by simp[nB,dG,cC,-all_eq_true,-all_flatMap]) yA ⟨out++[⟨nm1,PM.1,[]⟩],PM.2,?_,?_,V5.1,?_⟩
      .rw[hM];simp[hj]
      .simp;omega
      .simp[aJ,ints,dZ,dp,fT,bP,nB,dG,cC,hj]
   .rintro s rfl;obtain⟨_,Tg,hfz,Tq,hfi⟩:=Lb L (nf.1+1) 0 nf.2 yA;have Y1:=hfi Z2;obtain⟨fs,TZ⟩:∃ fs,xT L (nf.1+1) 0 nf.2=fs:=⟨_,rfl⟩;simp only[TZ] at hR Tg hfz Tq Y1 |-;clear hfi;refine T.le (Le.di (o:=5) rfl (jO gs.1)) ?_;have SE:take (gs.1.length*(iN gs.1).sz) (iN gs.1).cells=gs.1.flatMap qH:=take_of_length_le (Nat.le_of_eq (aG (f:=qH) (n:=2) (λ _=>rfl) gs.1));simp[cC,SE,dZ];refine T.le (Le.di (o:=4) rfl (dw ms.1)) ?_;have Xx:take (ms.1.length*(gL ms.1).sz) (gL ms.1).cells=ms.1.flatMap cP:=take_of_length_le (Nat.le_of_eq (aG (f:=cP) (n:=3) (λ _=>rfl) ms.1));simp[cC,Xx];refine T.le (Le.trim [7,3,2] [0,1,2,6,19] 20 (by simp[aJ,nB,cC,-all_eq_true,-all_flatMap]) yA) ?_;simp;have ew:(⟨128,0,[CV.ax 0 0,CV.az (gs.1.flatMap qH) gs.1.length,CV.az (ms.1.flatMap cP) ms.1.length,CV.a7 2 0 fs.1.length,.int .i64 24,CV.bool (decide (a.1=1))]⟩:Ob)=bN gs.1 ms.1 fs.1.length 24 (decide (a.1=1)):=rfl;rw[ew];clear ew SE Xx;have h19:(nB.map (cC 4 (gL ms.1).cells (gL ms.1).sz∘cC 5 (iN gs.1).cells (iN gs.1).sz))=nB:=rfl;rw[h19];clear h19;have hmp:0<ms.1.length:=by omega
    have SB:∀ m∈ms.1,m.size<=1000:=λ m hm=>by have:=(hmz m hm).1;omega
    have Tx:∀ f∈fs.1,f.params.length<=2:=λ f hf=>by
     obtain⟨_,k,h1,h2⟩:=hfz f hf;have:=congrArg length h2;simp[nP] at this;omega
    refine T.cut (λ s=>∃ (i left:Nat),s=⟨[(3,.ax 1 0),(2,.ax 19 0)],[(0,aJ L i),(1,bN gs.1 ms.1 R.fs.length left (decide (a.1=1))),(2,dp R.fs),(19,⟨27,0,nB⟩)],20⟩) ?_ ?_
    .apply aq;simp[hC];apply T.block;refine T.aI (J34e L (decide (a.1=1)) ms.1 gs.1 fs.1 (nf.1+1) R.fs) (n:=nf.1+1) ?_ ?_
     .refine aa.trim [16,7,3,2] [0,1,2,6,19] 20 (by simp[aJ,nB,bN]) yA ⟨0,fs.1,fs.2,24,?_,by omega,by omega,rfl,Tx,by omega,Y1,?_⟩
      .rw[<- hR]
      .simp
     .rintro n s ⟨j,fl,i,left,hM,hjn,TY,Xz,hpl1,hlt24,hi,rfl⟩
      cases n with
      | zero=>
       have hj:¬ j<fl.length:=by omega
       have TB:R.fs=fl:=by rw[hM];rfl
       apply aW;simp[hC,bN,hj];refine bg ?_;simp;apply T.exit;simp;refine aa.trim [3,2] [0,1,2,19] 20 Y7 yA ⟨i,left,?_⟩;simp[TB]
      | succ n=>
       have hj:j<fl.length:=by omega
       obtain⟨f,hf⟩:∃ f,fl[j]? = some f:=⟨fl[j],getElem?_eq_getElem hj⟩;have V7:=hpl1 f (mem_of_getElem? hf);apply aW;simp[hC,bN,hj];refine jk ?_;simp;have hobl:(ku gs.1 f.params).length<=10:=by
        have h2:=Gh f.params;unfold ku;rw[length_append,length_map];omega
       have ZF:=Hm L hL gs.1 ms.1 hmp yA SB (decide (a.1=1)) fl yA yA (λ f hf=>by have:=hpl1 f hf;omega) f.name f.params yA (bP f.body) f.body.length left left (ku gs.1 f.params) 2 6 i (Nat.le_refl _) yA yA yA yA hi;have hM2:=hM;rw[Ov,hf] at hM2;simp only at hM2;have hwr:rY L (decide (a.1=1)) ms.1 fl=⟨L,decide (a.1=1),ms.1,fs.1.map λ f=>(f.name,f.params)⟩:=by
        have h2:fl.map (λ f=>(f.name,f.params))=fs.1.map λ f=>(f.name,f.params):=Xz;simp only[rY,h2]
       obtain⟨hbi,UE⟩:=wG (rY L (decide (a.1=1)) ms.1 fl) f.params left (ku gs.1 f.params) 2 6 i left hi;rw[hwr] at ZF hbi UE;obtain⟨b,hb⟩:∃ b,oQ ⟨L,decide (a.1=1),ms.1,fs.1.map λ f=>(f.name,f.params)⟩ f.params left (ku gs.1 f.params) 2 6 i left=b:=⟨_,rfl⟩;rw[hb] at ZF hbi UE;rw[hb] at hM2;have SA:(dp fl).cells.length=fl.length*3:=aG (f:=fT) (n:=3) (λ _=>rfl) fl;have hs1:j*3+2<fl.length*3:=by omega
       have hs2:j*3+2+1<=fl.length*3:=by omega
       have hs3:j*3+3<=fl.length*3:=by omega
       have ew:(⟨128,0,[CV.ax 0 0,CV.az (gs.1.flatMap qH) gs.1.length,CV.az (ms.1.flatMap cP) ms.1.length,CV.a7 2 0 fl.length,I left,CV.bool (decide (a.1=1))]⟩:Ob)=bN gs.1 ms.1 fl.length left (decide (a.1=1)):=rfl;have hfc:iu f.name f.params (bP f.body) f.body.length=[.str f.name,.az (f.params.flatMap mr) f.params.length,.az (bP f.body) f.body.length]:=rfl;rw[hfc] at ZF;have SQ:=QP hf b.1;refine T.cut (λ s=>s=⟨[(16,I j),(7,.a7 6 0 gs.1.length),(3,.ax 1 0),(2,.ax 19 0)],[(0,aJ L b.2.1),(1,bN gs.1 ms.1 fl.length b.2.2 (decide (a.1=1))),(2,dp (fl.set j ⟨f.name,f.params,b.1⟩)),(6,bu (gs.1.map (·.name))),(19,⟨27,0,nB⟩)],20⟩) ?_ ?_
       rotate_left
       .rintro s rfl;have wj:=cr ((j:Int)+1) yA yA;apply aM;simp[hC,wj];refine⟨n,by omega,aa.trim [16,7,3,2] [0,1,2,6,19] 20 (by simp[aJ,nB,bN]) yA ⟨j+1,fl.set j ⟨f.name,f.params,b.1⟩,b.2.1,b.2.2,hM2,by omega,by simp[TY],?_,?_,by omega,hbi,?_⟩⟩
        .rw[JN (f':=⟨f.name,f.params,b.1⟩) hf rfl];exact Xz
        .intro f' hf';rcases mem_or_eq_of_mem_set hf' with h | h
         .exact hpl1 f' h
         .rw[h];exact V7
        .simp
       apply T.block;have hb0:gs.1.length*16<=140737488355328:=by omega
       have Ul:(bu (gs.1.map (·.name))).cells.length=gs.1.length:=by simp[bu]
       have Vr:(bu (gs.1.map (·.name))).sz=1:=rfl;have SL:(bu (gs.1.map (·.name))).elem=9:=rfl;apply aq;simp[hC,hb0,Ul,Vr];have SE:take gs.1.length (bu (gs.1.map (·.name))).cells=(bu (gs.1.map (·.name))).cells:=take_of_length_le (Nat.le_of_eq Ul);simp only[SE,ew];have OZ:(dp fl).cells.drop (j*3)=fT f++(fl.drop (j+1)).flatMap fT:=aL (f:=fT) (n:=3) (λ _=>rfl) hf;have Uq:(dp fl).cells.drop (j*3+1)=(fT f).drop 1++(fl.drop (j+1)).flatMap fT:=cb (f:=fT) (n:=3) (λ _=>rfl) hf 1 yA;have Yk:(dp fl).sz=3:=rfl;refine T.cut (λ s=>s=⟨[(17,.a7 21 0 (ku gs.1 f.params).length),(16,I j),(7,.a7 6 0 gs.1.length),(3,.ax 1 0),(2,.ax 19 0)],[(0,aJ L i),(1,bN gs.1 ms.1 fl.length left (decide (a.1=1))),(2,dp fl),(6,bu (gs.1.map (·.name))),(19,⟨27,0,nB⟩),(21,bu (ku gs.1 f.params))],22⟩) ?_ ?_
       .apply aq;simp[hC];apply T.block;refine T.aI (J34f L (decide (a.1=1)) ms.1 gs.1 fl f i left j) (n:=f.params.length) ?_ ?_
        .refine aa.trim [18,17,16,7,3,2] [0,1,2,6,19,21] 22 (by simp[aJ,nB,bN]) yA ⟨0,by simp,by omega,?_⟩;simp[bu]
        .rintro n1 s ⟨q,hq,UO,rfl⟩;obtain⟨ow,how⟩:∃ ow,gs.1.map (·.name)++(f.params.take q).flatMap (λ p=>if p.mutex=true then [] else [p.name])=ow:=⟨_,rfl⟩;have ZY:ow.length<=10:=by
          have h2:=Gh (f.params.take q);rw[length_take] at h2;rw[<- how,length_append,length_map];omega
         rw[how];by_cases Yo:q<f.params.length
         .obtain⟨p,hp⟩:∃ p,f.params[q]? = some p:=⟨f.params[q],getElem?_eq_getElem Yo⟩;have hpd:(f.params.flatMap mr).drop (q*2)=mr p++(f.params.drop (q+1)).flatMap mr:=aL (f:=mr) (n:=2) (λ _=>rfl) hp;have hpd1:(f.params.flatMap mr).drop (q*2+1)=(mr p).drop 1++(f.params.drop (q+1)).flatMap mr:=cb (f:=mr) (n:=2) (λ _=>rfl) hp 1 yA;apply aW;simp[hC,bN,hj,Uq,fT,Yo];refine jk ?_;simp;apply eE;have Xk:f.params.take (q+1)=f.params.take q++[p]:=by rw[take_add_one,hp];rfl
          have wq:=cr ((q:Int)+1) yA yA;obtain⟨pn,pmx⟩:=p
          cases pmx with
          | true=>
           apply aq;simp[hC,hj,Uq,fT,Yo,hpd,mr];refine bg ?_;simp;apply T.skip;simp;apply aM;simp[hC,wq];refine⟨f.params.length-(q+1),by omega,?_⟩;refine aa.trim [18,17,16,7,3,2] [0,1,2,6,19,21] 22 Y7 yA ⟨q+1,rfl,by omega,?_⟩;rw[Xk,flatMap_append,<- append_assoc,how];simp[bN]
          | false=>
           apply aq;simp[hC,hj,Uq,fT,Yo,hpd,mr];refine du ?_;simp;have WW:(ow.length+1)*16<=140737488355328:=by omega
           have ZO:(bu ow).cells.length=ow.length:=by simp[bu]
           have hws:(bu ow).sz=1:=rfl;have hwe:(bu ow).elem=9:=rfl;apply aM;simp[hC,hj,Uq,fT,Yo,hpd,mr,WW,ZO,hws,hwe,aY];apply aM;simp[hC,wq];refine⟨f.params.length-(q+1),by omega,?_⟩;refine aa.le (Le.trim [18,17,16,7,3,2] [0,1,2,6,19,23] 24 yCw yA) ?_;simp;refine aa.le (Le.qt 23 21 rfl rfl yA xr xr (by simp[aJ,ints,nB,dp,-all_eq_true,-all_flatMap,bx (da fl)])) ?_;simp[aJ,ints];refine aa.trim [18,17,16,7,3,2] [0,1,2,6,19,21] 22 yCd yA ⟨q+1,rfl,by omega,?_⟩;rw[Xk,flatMap_append,<- append_assoc,how];simp[aJ,ints,bN,bu,nB,dG]
         .have hqe:q=f.params.length:=by omega
          apply aW;simp[hC,bN,hj,Uq,fT,Yo];refine bg ?_;simp;apply T.exit;simp;refine aa.trim [17,16,7,3,2] [0,1,2,6,19,21] 22 Y7 yA ?_;have how2:ow=ku gs.1 f.params:=by
           rw[<- how,hqe,take_length];rfl
          rw[<- how2];simp
       rintro s rfl;refine T.rxw af follows [(1,3,[.a7 2 0 fl.length])] (by simp[yK,BP,bN]) [0,1,2,3,4,5,6,7,8,9,10,11,12,13,14,15,16,17,18,19] [(4,16)] Bw ?_;simp[hC,bN,Aa];refine RX.quiet (.a7 2 0 fl.length) rfl xr rfl (XV.load af rfl rfl xr rfl rfl) ?_;simp[Aa];refine RX.quiet (.a7 2 0 fl.length) rfl xr rfl (XV.load af rfl rfl xr rfl rfl) ?_;simp[hj,OZ,fT,Aa];rw[ew];refine RX.ke 3 21 [0,1,2,21] [0,1] 4 (ZF) rfl xr rfl rfl rfl xr yA xr xr rfl xr Xd rfl xr xr xr rfl xr ?_;simp[hj,Yk,SA,hs2,-gX,rJ,fz,Rh,BP,Aa];simp[bN,SQ,-gX];refine aa.trim [16,7,3,2] [0,1,2,6,19] 20 (by simp[aJ,nB,-all_eq_true,-all_flatMap,-gX]) yA ?_;simp[-gX];rfl
    .rintro s ⟨i,left,rfl⟩;apply aq;simp[hC,bN,nB];apply T.ret;refine aa.le (Le.trim [2] [2,19] 20 We yA) ?_;simp;refine aa.le (Le.di (o:=2) rfl (da R.fs)) ?_;have htk3:take (R.fs.length*(dp R.fs).sz) (dp R.fs).cells=R.fs.flatMap fT:=take_of_length_le (Nat.le_of_eq (aG (f:=fT) (n:=3) (λ _=>rfl) R.fs));simp[cC,htk3];apply aa.here;simp[zt,fp];rw[<- hR];exact⟨⟨rfl,rfl⟩,⟨rfl,rfl⟩⟩
end Go.Proofs.YtlkmbdfhdknlgaaGreat
