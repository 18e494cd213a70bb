/- lockordermade.Program. -/
import Derived.Test.YtlkmbdfhdknlgaaGreatZ23
namespace Go.Proofs.YtlkmbdfhdknlgaaGreat
open Go.Can Go.aJ List
def gI (l:List Mx):Ob:=⟨98,3,l.flatMap cH⟩
def iv (l:List Gl):Ob:=⟨132,2,l.flatMap qk⟩
def mX:List CV:=[.aj,.aj,.aj]
def dW (ng nm nf left:Nat)(ar:Bool):Ob:=⟨128,0,[.aw 0 0,.bb 5 0 ng,.bb 4 0 nm,.bb 2 0 nf,I left,.bool ar]⟩
def J34 (L:List Int)(ar:Bool)(MS:List Mx×Nat)(N:Nat)(m:Nat)(s:St):Prop:=∃ (out:List Mx) (i:Nat),MS=(out++(sU L m out.length i).1,(sU L m out.length i).2)/\m+out.length=N/\i<=L.length/\
 s=⟨[(4,I out.length),(5,I N),(3,.aw 1 0),(2,.aw 19 0)],[(0,aG L i),(1,dW 0 out.length 0 24 ar),(2,⟨136,3,[]⟩),(4,gI out),(5,⟨132,2,[]⟩),(19,⟨27,0,mX⟩)],20⟩
def J34b (L:List Int)(ar:Bool)(ms:List Mx)(MS:List Gl×Nat)(N:Nat)(m:Nat)(s:St):Prop:=∃ (out:List Gl) (i:Nat),MS=(out++(yu L m out.length i).1,(yu L m out.length i).2)/\m+out.length=N/\i<=L.length/\
 s=⟨[(8,I out.length),(9,I N),(7,.bb 6 0 out.length),(3,.aw 1 0),(2,.aw 19 0)],[(0,aG L i),(1,dW out.length ms.length 0 24 ar),(2,⟨136,3,[]⟩),(4,gI ms),(5,iv out),(6,bt (out.map (·.name))),(19,⟨27,0,mX⟩)],20⟩
def J34c (L:List Int)(ar:Bool)(ms:List Mx)(gs:List Gl)(MS:List Fu×Nat)(N:Nat)(m:Nat)(s:St):Prop:=∃ (out:List Fu) (i:Nat),MS=(out++(xz L m out.length i).1,(xz L m out.length i).2)/\m+out.length=N+1/\i<=L.length/\
 s=⟨[(12,I out.length),(11,I N),(7,.bb 6 0 gs.length),(3,.aw 1 0),(2,.aw 19 0)],[(0,aG L i),(1,dW gs.length ms.length out.length 24 ar),(2,di out),(4,gI ms),(5,iv gs),(6,bt (gs.map (·.name))),(19,⟨27,0,mX⟩)],20⟩
theorem pV (c:Nat)(hc:c<=10)(k:Int)(m:Nat)(hm:k=m)(Xg:m<=100):IntKind.i64.wrap (k+c)=k+c/\IntKind.u8.wrap (k+c)=k+c/\(0<=k+c/\k+c<256)/\(k+c).toNat=m+c:=by
 refine⟨cF _ yA yA,IntWalk.u8_in _ yA,by omega,by omega⟩
theorem ak {α:Type}{f:α->List CV}(hf:∀ x,trees (f x)=true)(l:List α):trees (l.flatMap f)=true:=by
 induction l with
 | nil=>rfl
 | cons a r ih=>rw[flatMap_cons,bg,hf,ih];rfl
mutual
theorem C2 (o:Nat)(ds:List CV)(n:Nat):∀ c:CV,tree c=true->cw o ds n c=c
 | .bb _ _ _,h=>by simp[tree] at h
 | .aw _ _,h=>by simp[tree] at h
 | .iter _ _ _,h=>by simp[tree] at h
 | .mp _ _,h=>by simp[tree] at h
 | .agg cs,h=>by
  simp only[tree] at h;rw[cw,mG o ds n cs h]
 | .fn _ cs,h=>by
  simp only[tree] at h;rw[cw,mG o ds n cs h]
 | .iface _ cs,h=>by
  simp only[tree] at h;rw[cw,mG o ds n cs h]
 | .cB cs,h=>by
  simp only[tree] at h;rw[cw,mG o ds n cs h]
 | .int _ _,_=>rfl
 | .bool _,_=>rfl
 | .str _,_=>rfl
 | .ax _ _,_=>rfl
 | .aj,_=>rfl
 | .cQ _,_=>rfl
 | .bJ,_=>rfl
 | .cE,_=>rfl
 | .any,_=>rfl
theorem mG (o:Nat)(ds:List CV)(n:Nat):∀ cs:List CV,trees cs=true->iW o ds n cs=cs
 | [],_=>rfl
 | c::cs,h=>by
  simp only[trees,Bool.and_eq_true] at h;rw[iW,C2 o ds n c h.1,mG o ds n cs h.2]
end
theorem aS {cs:List CV}(h:trees cs=true)(o:Nat)(ds:List CV)(n:Nat):cs.map (cw o ds n)=cs:=by
 rw[map_congr_left (g:=id) λ c hc=>C2 o ds n c (mo h c hc),map_id]
theorem dG (l:List Mx):trees (l.flatMap cH)=true:=ak (λ _=>rfl) l
theorem jr (l:List Gl):trees (l.flatMap qk)=true:=ak (λ _=>rfl) l
@[simp] theorem mxOb_lt (l:List Mx)(n:Nat):(gI l).cells.all (aU n)=true:=ai (dG l) n
@[simp] theorem mxOb_lts (l:List Mx)(n:Nat):ba n (gI l).cells=true:=by rw[aT];exact ai (dG l) n
@[simp] theorem mxOb_ok1 (l:List Mx)(o q:Nat):(gI l).cells.all (od o q)=true:=bw (dG l) o q
@[simp] theorem Rw (l:List Mx)(o q:Nat):(gI l).cells.map (dC o q)=(gI l).cells:=bl (dG l) o q
@[simp] theorem mxOb_frz (l:List Mx)(o:Nat)(cs:List CV)(n:Nat):(⟨(gI l).elem,(gI l).sz,(gI l).cells.map (cw o cs n)⟩:Ob)=gI l:=by rw[aS (cs:=(gI l).cells) (dG l)]
@[simp] theorem glOb_frz (l:List Gl)(o:Nat)(cs:List CV)(n:Nat):(⟨(iv l).elem,(iv l).sz,(iv l).cells.map (cw o cs n)⟩:Ob)=iv l:=by rw[aS (cs:=(iv l).cells) (jr l)]
@[simp] theorem mxOb_eta (l:List Mx):(⟨(gI l).elem,(gI l).sz,(gI l).cells⟩:Ob)=gI l:=rfl
@[simp] theorem glOb_lt (l:List Gl)(n:Nat):(iv l).cells.all (aU n)=true:=ai (jr l) n
@[simp] theorem glOb_lts (l:List Gl)(n:Nat):ba n (iv l).cells=true:=by rw[aT];exact ai (jr l) n
@[simp] theorem glOb_ok1 (l:List Gl)(o q:Nat):(iv l).cells.all (od o q)=true:=bw (jr l) o q
@[simp] theorem RB (l:List Gl)(o q:Nat):(iv l).cells.map (dC o q)=(iv l).cells:=bl (jr l) o q
@[simp] theorem glOb_eta (l:List Gl):(⟨(iv l).elem,(iv l).sz,(iv l).cells⟩:Ob)=iv l:=rfl
def oa (l:List Pm):Ob:=⟨138,2,l.flatMap lU⟩
theorem oA (l:List Pm):trees (l.flatMap lU)=true:=ak (λ _=>rfl) l
@[simp] theorem pmOb_lt (l:List Pm)(n:Nat):(oa l).cells.all (aU n)=true:=ai (oA l) n
@[simp] theorem pmOb_lts (l:List Pm)(n:Nat):ba n (oa l).cells=true:=by rw[aT];exact ai (oA l) n
@[simp] theorem pmOb_ok1 (l:List Pm)(o q:Nat):(oa l).cells.all (od o q)=true:=bw (oA l) o q
@[simp] theorem Q6 (l:List Pm)(o q:Nat):(oa l).cells.map (dC o q)=(oa l).cells:=bl (oA l) o q
@[simp] theorem pmOb_eta (l:List Pm):(⟨(oa l).elem,(oa l).sz,(oa l).cells⟩:Ob)=oa l:=rfl
def J34d (L:List Int)(ar:Bool)(ms:List Mx)(gs:List Gl)(out:List Fu)(j N:Nat)(nm1:ByteArray)(PM:List Pm×Nat)(n:Nat)(s:St):Prop:=∃ (m:Nat) (po:List Pm) (i:Nat),PM=(po++(FT L n i).1,(FT L n i).2)/\n=(if j=0 then 0 else m)/\m+po.length<=2/\i<=L.length/\
 s=⟨[(14,I m),(13,.aw 21 0),(12,I j),(11,I N),(7,.bb 6 0 gs.length),(3,.aw 1 0),(2,.aw 19 0)],[(0,aG L i),(1,dW gs.length ms.length j 24 ar),(2,di out),(4,gI ms),(5,iv gs),(6,bt (gs.map (·.name))),(19,⟨27,0,mX⟩),(21,⟨136,0,[.str nm1,.bb 22 0 po.length,.aj]⟩),(22,oa po)],23⟩
def J34e (L:List Int)(ar:Bool)(ms:List Mx)(gs:List Gl)(fs0:List Fu)(N:Nat)(RF:List Fu)(n:Nat)(s:St):Prop:=∃ (j:Nat) (fl:List Fu) (i left:Nat),RF=NK ⟨L,ar,ms,fs0.map λ f=>(f.name,f.params)⟩ gs n j fl i left/\n+j=N/\fl.length=N/\fl.map sg=fs0.map sg/\(∀ f∈fl,f.params.length<=2)/\left<=24/\i<=L.length/\
 s=⟨[(16,I j),(7,.bb 6 0 gs.length),(3,.aw 1 0),(2,.aw 19 0)],[(0,aG L i),(1,bK gs ms fl.length left ar),(2,di fl),(6,bt (gs.map (·.name))),(19,⟨27,0,mX⟩)],20⟩
theorem FW (l:List Pm):(l.flatMap λ p=>if p.mutex=true then [] else [p.name]).length<=l.length:=by
 induction l with
 | nil=>exact Nat.le_refl _
 | cons x r ih=>
  rw[flatMap_cons,length_append,length_cons];split
  ·simp only[length_nil];omega
  ·simp only[length_cons,length_nil];omega
theorem Qb {fl:List Fu}{j:Nat}{f:Fu}(h:fl[j]? = some f)(b:List Sm):gP (di fl).cells (j*3+2) [.ax (bO b) b.length]=(di (fl.set j ⟨f.name,f.params,b⟩)).cells:=by
 induction fl generalizing j with
 | nil=>simp at h
 | cons a r ih=>
  cases j with
  | zero=>
   simp only[getElem?_cons_zero,Option.some.injEq] at h;subst h;simp[di,fL,gP]
  | succ j=>
   simp only[getElem?_cons_succ] at h;have e:=ih h;simp only[di,gP,flatMap_cons,set_cons_succ] at e |-;rw[show (j+1)*3+2=(fL a).length+(j*3+2) by simp[fL];omega,take_append,take_of_length_le yA,Nat.add_sub_cancel_left,show (fL a).length+(j*3+2)+[CV.ax (bO b) b.length].length=(fL a).length+(j*3+2+[CV.ax (bO b) b.length].length) by omega,drop_append,drop_of_length_le yA,Nat.add_sub_cancel_left,nil_append,append_assoc,append_assoc,<- append_assoc (take _ _),e]
def J34f (L:List Int)(ar:Bool)(ms:List Mx)(gs:List Gl)(fl:List Fu)(f:Fu)(i left j:Nat)(n:Nat)(s:St):Prop:=∃ q:Nat,n=f.params.length-q/\q<=f.params.length/\
 s=⟨[(18,I q),(17,.bb 21 0 (gs.map (·.name)++(f.params.take q).flatMap (λ p=>if p.mutex=true then [] else [p.name])).length),(16,I j),(7,.bb 6 0 gs.length),(3,.aw 1 0),(2,.aw 19 0)],[(0,aG L i),(1,bK gs ms fl.length left ar),(2,di fl),(6,bt (gs.map (·.name))),(19,⟨27,0,mX⟩),(21,bt (gs.map (·.name)++(f.params.take q).flatMap (λ p=>if p.mutex=true then [] else [p.name])))],22⟩
set_option maxHeartbeats 8000000 in
theorem Ev (l:List Int)(hl:l.length<=9223372036854775807):ae Tryz.prog 26 [ints l] (y9 (DL l)):=by
 generalize hR:DL l=R;refine ae.aE ah Tryz.func26 rfl Ix (by simp[Tryz.ntmps26]) rfl λ C hC RR=>?_;rw[Tryz.ntmps26] at hC;apply aq;simp[hC];apply aq;simp[hC];refine cX R2 (Qm l 400 hl) ?_;simp[hC];have hL:(l.take 400).length<=1000:=by simp;omega
 simp only[DL] at hR;generalize l.take 400=L at hL hR;refine T.le (Le.up 20 xr) ?_;simp;refine T.le (Le.trim [3,2] [0,1,2] 20 xr yA) ?_;simp;refine T.le (Le.p7 0 19 rfl rfl yA xr xr (by simp[ints])) ?_;simp[ints];refine T.le (Le.p7 1 0 rfl rfl yA xr xr xr) ?_;simp;refine T.le (Le.p7 2 1 rfl rfl yA xr xr xr) ?_;simp;refine T.le (Le.nk 1 3 136 3 rfl rfl) ?_;simp;refine T.le (Le.nk 1 2 98 3 rfl rfl) ?_;simp;refine T.le (Le.nk 1 1 132 2 rfl rfl) ?_;simp;refine T.le (Le.p7 20 2 rfl rfl yA xr xr xr) ?_;simp;refine T.le (Le.p7 21 4 rfl rfl yA xr xr xr) ?_;simp;refine T.le (Le.p7 22 5 rfl rfl yA xr xr xr) ?_;simp;refine T.le (Le.trim [3,2] [0,1,2,4,5,19] 20 xr yA) ?_;simp;have es:(⟨126,0,[CV.ax (L.map dc) L.length,.int .i64 0]⟩:Ob)=aG L 0:=rfl;rw[es];have Ym:=bq L 3 (Nat.zero_le L.length);have Uj:=cL L 0 3 (Nat.zero_le _) hL yA yA;obtain⟨a,ha⟩:∃ a,cq L 0 3=a:=⟨_,rfl⟩;rw[ha] at Ym Uj;simp only[ha] at hR;apply aq;simp[hC];refine TL.cU ah [0] 1 (Uj) RT rfl rfl rfl rfl xr SZ SY rfl (TL.go' ah ?_);simp[hC];have Sz:=bq L 4 Ym;have Wi:=cL L a.2 4 Ym hL yA yA;have hlt1:=dE L a.2 (show 0<4 by omega);obtain⟨nm,SW⟩:∃ nm,cq L a.2 4=nm:=⟨_,rfl⟩;rw[SW] at Sz Wi hlt1;simp only[SW] at hR;have w1:=cF (1+(nm.1:Int)) yA yA;refine T.cut (λ s=>s=⟨[(3,.aw 1 0),(2,.aw 19 0)],[(0,aG L (sU L (1+nm.1) 0 nm.2).2),(1,dW 0 (sU L (1+nm.1) 0 nm.2).1.length 0 24 (decide (a.1=1))),(2,⟨136,3,[]⟩),(4,gI (sU L (1+nm.1) 0 nm.2).1),(5,⟨132,2,[]⟩),(19,⟨27,0,mX⟩)],20⟩) ?_ ?_
 ·clear hR;apply aq;simp[hC];refine TL.cU ah [0] 1 (Wi) RT rfl rfl rfl rfl xr SZ SY rfl (TL.go' ah ?_);simp[hC,w1];apply T.block;generalize hMS:sU L (1+nm.1) 0 nm.2=MS;refine T.aH (J34 L (decide (a.1=1)) MS (1+nm.1)) (n:=1+nm.1) ?_ ?_
  ·refine aa.trim [4,5,3,2] [0,1,2,4,5,19] 20 V1 yA ⟨[],nm.2,by simp[hMS],by simp,Sz,?_⟩;simp[dW,gI,mX]
  ·rintro n s ⟨out,i,hM,SX,hi,rfl⟩
   cases n with
   | zero=>
    have ho:out.length=1+nm.1:=by omega
    have RS:¬ ((out.length:Int)<1+nm.1):=by omega
    apply aW;simp[hC,RS];refine a9 ?_;simp;apply T.exit;simp;refine aa.trim [3,2] [0,1,2,4,5,19] 20 Yt yA ?_;rw[hM];simp[sU]
   | succ n=>
    have ho:out.length<=3:=by omega
    obtain⟨c1,c2,c3,c4⟩:=pV out.length yA 97 97 rfl yA;have RS:(out.length:Int)<1+nm.1:=by omega
    apply aW;simp[hC,RS];refine gw ?_;simp;apply eN;refine T.seq (T.DN ah ?_);simp[hC,c1,c2,c3,c4];refine T.le (Le.trim [6,4,5,3,2] [0,1,2,4,5,19,21] 22 Yt yA) ?_;simp;have WL:(⟨#[97+UInt8.ofNat out.length]⟩:ByteArray)=eP (97+out.length):=by simp[eP]
    rw[WL];refine T.cut (λ s=>∃ (m:Mx) (i2:Nat),sU L (n+1) out.length i=(m::(sU L n (out.length+1) i2).1,(sU L n (out.length+1) i2).2)/\i2<=L.length/\
     s=⟨[(6,.aw 21 0),(4,I out.length),(5,I (1+nm.1)),(3,.aw 1 0),(2,.aw 19 0)],[(21,⟨98,0,cH m⟩),(0,aG L i2),(1,dW 0 out.length 0 24 (decide (a.1=1))),(2,⟨136,3,[]⟩),(4,gI out),(5,⟨132,2,[]⟩),(19,⟨27,0,mX⟩)],22⟩) ?_ ?_
    ·have Te:=cL L i 5 hi hL yA yA;have Tc:=bq L 5 hi;rw[sU];obtain⟨k,hk⟩:∃ k,cq L i 5=k:=⟨_,rfl⟩;simp only[hk] at Te Tc |-;apply aq;simp[hC,dW];refine TL.cU ah [0] 1 (Te) RT rfl rfl rfl rfl xr SZ SY rfl (TL.go' ah ?_);simp;apply T.block;apply aq;simp[hC];refine T.bu rfl (λ h=>?_) (λ h=>?_)
     ·have h1:k.1=1:=by simpa using h
      apply aN;simp[hC];refine aa.trim [6,4,5,3,2] [21,0,1,2,4,5,19] 22 Yr yA ⟨⟨eP (97+out.length),true,0⟩,k.2,by rw[if_pos h1],Tc,?_⟩;simp[cH]
     have h1:¬ k.1=1:=by simpa using h
     apply aq;simp[hC];refine T.bu rfl (λ h=>?_) (λ h=>?_)
     ·have h2:k.1=2:=by simpa using h
      have Yi:=cL L k.2 3 Tc hL yA yA;have Wl:=bq L 3 Tc;have hlt3:=dE L k.2 (show 0<3 by omega);obtain⟨q,hq⟩:∃ q,cq L k.2 3=q:=⟨_,rfl⟩;simp only[hq] at Yi Wl hlt3 |-;have wq:=cF (1+(q.1:Int)) yA yA;apply aN;simp[hC];refine TL.cU ah [0] 1 (Yi) RT rfl rfl rfl rfl xr SZ SY rfl (TL.go' ah ?_);simp[hC,wq];refine aa.trim [6,4,5,3,2] [21,0,1,2,4,5,19] 22 Yr yA ⟨⟨eP (97+out.length),false,1+q.1⟩,q.2,by rw[if_neg h1,if_pos h2],Wl,?_⟩;simp[cH]
     ·have h2:¬ k.1=2:=by simpa using h
      apply T.skip;simp;refine aa.trim [6,4,5,3,2] [21,0,1,2,4,5,19] 22 Yr yA ⟨⟨eP (97+out.length),false,0⟩,k.2,by rw[if_neg h1,if_neg h2],Tc,?_⟩;simp[cH]
    rintro s ⟨m,i2,hm,Tc,rfl⟩;have hb:(out.length+1)*32<=140737488355328:=by omega
    have Tb:(gI out).cells.length=out.length*3:=aC (f:=cH) (n:=3) (λ _=>rfl) out;have Tf:(gI out).sz=3:=rfl;have YK:(gI out).elem=98:=rfl;have wo:=cF ((out.length:Int)+1) yA yA;refine T.rx ah follows [0,1,2,3,4,5,6,7,8,9,10,11,12] [(5,7)] Ix ?_;simp[hC,dW,cH,Tb,Tf,YK,hb,aY];apply aN;simp[hC,wo];refine⟨n,by omega,?_⟩;refine aa.le (Le.trim [4,5,3,2] [0,1,2,5,19,35] 36 yCw yA) ?_;simp;refine aa.le (Le.p7 35 4 rfl rfl yA xr xr yDh) ?_;simp[aG,ints];refine aa.trim [4,5,3,2] [0,1,2,4,5,19] 20 yCd yA ⟨out++[m],i2,?_,?_,Tc,?_⟩
    ·rw[hM,hm];simp
    ·simp;omega
    ·simp[aG,ints,dW,gI,cH,mX,dC]
 ·rintro s rfl;obtain⟨_,Tb,hmz,Xe⟩:=Cu L (1+nm.1) 0 nm.2 yA;have Tc:=Xe Sz;obtain⟨ms,Tf⟩:∃ ms,sU L (1+nm.1) 0 nm.2=ms:=⟨_,rfl⟩;simp only[Tf] at hR Tb hmz Tc |-;clear Xe;have Up:=cL L ms.2 3 Tc hL yA yA;have Wl:=bq L 3 Tc;have T7:=dE L ms.2 (show 0<3 by omega);obtain⟨ng,UJ⟩:∃ ng,cq L ms.2 3=ng:=⟨_,rfl⟩;rw[UJ] at Up Wl T7;simp only[UJ] at hR;apply aq;simp[hC];refine T.cut (λ s=>s=⟨[(7,.bb 6 0 ng.1),(3,.aw 1 0),(2,.aw 19 0)],[(0,aG L (yu L ng.1 0 ng.2).2),(1,dW ng.1 ms.1.length 0 24 (decide (a.1=1))),(2,⟨136,3,[]⟩),(4,gI ms.1),(5,iv (yu L ng.1 0 ng.2).1),(6,bt ((yu L ng.1 0 ng.2).1.map (·.name))),(19,⟨27,0,mX⟩)],20⟩) ?_ ?_
  ·clear hR;apply aq;simp[hC,dW];refine TL.cU ah [0] 1 (Up) RT rfl rfl rfl rfl xr SZ SY rfl (TL.go' ah ?_);simp[hC];apply T.block;generalize hMS:yu L ng.1 0 ng.2=MS;have ew:(⟨128,0,[CV.aw 0 0,CV.bb 5 0 0,CV.bb 4 0 ms.1.length,CV.bb 2 0 0,I 24,CV.bool (decide (a.1=1))]⟩:Ob)=dW 0 ms.1.length 0 24 (decide (a.1=1)):=rfl;refine T.aH (J34b L (decide (a.1=1)) ms.1 MS ng.1) (n:=ng.1) ?_ ?_
   ·refine aa.le (Le.own 7 9 1 rfl) ?_;simp;refine aa.le (Le.p7 20 6 rfl rfl yA xr xr yDh) ?_;simp[aG,ints];refine aa.trim [8,9,7,3,2] [0,1,2,4,5,6,19] 20 yCd yA ⟨[],ng.2,?_,by simp,Wl,?_⟩
    ·simp[hMS]
    ·simp[aG,ints,dW,iv,bt,mX,dC]
   ·rintro n s ⟨out,i,hM,SX,hi,rfl⟩
    cases n with
    | zero=>
     have ho:out.length=ng.1:=by omega
     have RS:¬ ((out.length:Int)<ng.1):=by omega
     apply aW;simp[hC,RS];refine a9 ?_;simp;apply T.exit;simp;refine aa.trim [7,3,2] [0,1,2,4,5,6,19] 20 Yt yA ?_;rw[hM];simp[yu,ho,dW]
    | succ n=>
     have ho:out.length<=1:=by omega
     obtain⟨c1,c2,c3,c4⟩:=pV out.length yA 48 48 rfl yA;have RS:(out.length:Int)<ng.1:=by omega
     have Te:=cL L i 5 hi hL yA yA;have Tc:=bq L 5 hi;have hlt5:=dE L i (show 0<5 by omega);rw[yu] at hM;obtain⟨k,hk⟩:∃ k,cq L i 5=k:=⟨_,rfl⟩;simp only[hk] at Te Tc hlt5 hM;have wk:=cF ((k.1:Int)-2) yA yA;have WL:(⟨#[48+UInt8.ofNat out.length]⟩:ByteArray)=eP (48+out.length):=by simp[eP]
     have so:mr BinOp.add ⟨#[103]⟩ (eP (48+out.length))=some (.str (⟨#[103]⟩++eP (48+out.length))):=rfl;apply aW;simp[hC,RS];refine gw ?_;simp;apply eN;apply T.seq;refine T.rx ah follows [0,1,2,3,4,5,6,7,8,9,13,10,11,12,14] [(2,13),(2,10),(3,9),(3,13),(3,10),(4,13),(4,10),(9,13),(13,10)] Ix ?_;simp[hC,dW,c1,c2,c3,c4,WL,so];refine RX.cU [0] [0] 1 (Te) rfl xr rfl rfl rfl rfl xr SZ SY rfl rfl rfl xr ?_;simp[wk];refine T.le (Le.trim [10,8,9,7,3,2] [0,1,2,4,5,6,19,33] 34 Yr yA) ?_;simp;have hb:(out.length+1)*24<=140737488355328:=by omega
     have TG:(out.length+1)*16<=140737488355328:=by omega
     have W1:(iv out).cells.length=out.length*2:=aC (f:=qk) (n:=2) (λ _=>rfl) out;have hgs:(iv out).sz=2:=rfl;have VV:(iv out).elem=132:=rfl;have U8:(bt (out.map (·.name))).cells.length=out.length:=by simp[bt]
     have UI:(bt (out.map (·.name))).sz=1:=rfl;have Sb:(bt (out.map (·.name))).elem=9:=rfl;have wo:=cF ((out.length:Int)+1) yA yA;refine T.rx ah follows [0,1,2,3,4,5,6,7,8,9,10,11,12,13,14,15,16,17,18] [(5,7),(5,12),(6,12),(7,11),(7,12),(8,11),(8,12)] Ix ?_;simp[hC,hb,TG,W1,hgs,VV,U8,UI,Sb,aY];apply aN;simp[hC,wo];refine⟨n,by omega,?_⟩;refine aa.le (Le.trim [8,9,7,3,2] [0,1,2,4,19,53,54] 55 yCw yA) ?_;simp;refine aa.le (Le.p7 53 5 rfl rfl yA xr xr yDh) ?_;simp[aG,ints];refine aa.le (Le.p7 54 6 rfl rfl yA xr xr yCd) ?_;simp;refine aa.trim [8,9,7,3,2] [0,1,2,4,5,6,19] 20 yCd yA ⟨out++[⟨⟨#[103]⟩++eP (48+out.length),(k.1:Int)-2⟩],k.2,?_,?_,Tc,?_⟩
     ·rw[hM];simp
     ·simp;omega
     ·simp[aG,ints,dW,iv,qk,bt,mX,dC]
  ·rintro s rfl;obtain⟨_,W1,hgz,Yn⟩:=KF L ng.1 0 ng.2 yA;have Yl:=Yn Wl;obtain⟨gs,hgs⟩:∃ gs,yu L ng.1 0 ng.2=gs:=⟨_,rfl⟩;simp only[hgs] at hR W1 hgz Yl |-;clear Yn;rw[<- W1];have Yi:=cL L gs.2 4 Yl hL yA yA;have Zp:=bq L 4 Yl;have hlt3:=dE L gs.2 (show 0<4 by omega);obtain⟨nf,hnf⟩:∃ nf,cq L gs.2 4=nf:=⟨_,rfl⟩;rw[hnf] at Yi Zp hlt3;simp only[hnf] at hR;apply aq;simp[hC,dW];refine TL.cU ah [0] 1 (Yi) RT rfl rfl rfl rfl xr SZ SY rfl (TL.go' ah ?_);simp[hC];refine T.cut (λ s=>s=⟨[(7,.bb 6 0 gs.1.length),(3,.aw 1 0),(2,.aw 19 0)],[(0,aG L (xz L (nf.1+1) 0 nf.2).2),(1,dW gs.1.length ms.1.length (xz L (nf.1+1) 0 nf.2).1.length 24 (decide (a.1=1))),(2,di (xz L (nf.1+1) 0 nf.2).1),(4,gI ms.1),(5,iv gs.1),(6,bt (gs.1.map (·.name))),(19,⟨27,0,mX⟩)],20⟩) ?_ ?_
   ·clear hR;apply aq;simp[hC];apply T.block;generalize hMS:xz L (nf.1+1) 0 nf.2=MS;refine T.aH (J34c L (decide (a.1=1)) ms.1 gs.1 MS nf.1) (n:=nf.1+1) ?_ ?_
    ·refine aa.trim [12,11,7,3,2] [0,1,2,4,5,6,19] 20 Yr yA ⟨[],nf.2,by simp[hMS],by simp,Zp,?_⟩;simp[dW,di]
    ·rintro n s ⟨out,i,hM,SX,hi,rfl⟩
     cases n with
     | zero=>
      have ho:out.length=nf.1+1:=by omega
      have RS:¬ ((out.length:Int)<=nf.1):=by omega
      apply aW;simp[hC,RS];refine a9 ?_;simp;apply T.exit;simp;refine aa.trim [7,3,2] [0,1,2,4,5,6,19] 20 Yt yA ?_;rw[hM];simp[xz,ho,dW]
     | succ n=>
      obtain⟨j,hj⟩:∃ j,out.length=j:=⟨_,rfl⟩;simp only[hj] at hM SX |-;have ho:j<=3:=by omega
      obtain⟨c1,c2,c3,c4⟩:=pV j yA 48 48 rfl yA;have RS:(j:Int)<=nf.1:=by omega
      have WL:(⟨#[48+UInt8.ofNat j]⟩:ByteArray)=eP (48+j):=by simp[eP]
      have so:mr BinOp.add ⟨#[102]⟩ (eP (48+j))=some (.str (⟨#[102]⟩++eP (48+j))):=rfl;apply aW;simp[hC,RS];refine gw ?_;simp;apply eN;refine T.seq (T.DN ah ?_);simp[hC,c1,c2,c3,c4,WL,so];refine T.le (Le.trim [13,12,11,7,3,2] [0,1,2,4,5,6,19,21] 22 Yt yA) ?_;simp;rw[xz] at hM;simp only at hM;obtain⟨nm1,XO⟩:∃ x,(if j=0 then (⟨#[109,97,105,110]⟩:ByteArray) else ⟨#[102]⟩++eP (48+j))=x:=⟨_,rfl⟩;rw[XO] at hM;refine T.cut (λ s=>s=⟨[(13,.aw 21 0),(12,I j),(11,I nf.1),(7,.bb 6 0 gs.1.length),(3,.aw 1 0),(2,.aw 19 0)],[(0,aG L i),(1,dW gs.1.length ms.1.length j 24 (decide (a.1=1))),(2,di out),(4,gI ms.1),(5,iv gs.1),(6,bt (gs.1.map (·.name))),(19,⟨27,0,mX⟩),(21,⟨136,0,[.str nm1,.aj,.aj]⟩)],22⟩) ?_ ?_
      ·apply aq;simp[hC];refine T.bu rfl (λ h=>?_) (λ h=>?_)
       ·have h0:j=0:=by
         simp at h;omega
        rw[if_pos h0] at XO;apply aN;simp[hC];refine aa.trim [13,12,11,7,3,2] [0,1,2,4,5,6,19,21] 22 Yt yA ?_;simp[XO]
       ·have h0:¬ j=0:=by
         simp at h;omega
        rw[if_neg h0] at XO;apply T.skip;simp;refine aa.trim [13,12,11,7,3,2] [0,1,2,4,5,6,19,21] 22 Yt yA ?_;simp[XO]
      rintro s rfl;have Te:=cL L i 3 hi hL yA yA;have Yk:=bq L 3 hi;have hlt6:=dE L i (show 0<3 by omega);obtain⟨k,hk⟩:∃ k,cq L i 3=k:=⟨_,rfl⟩;rw[hk] at Te Yk hlt6;simp only[hk] at hM;obtain⟨PM,hPM⟩:∃ x,FT L (if j=0 then 0 else k.1) k.2=x:=⟨_,rfl⟩;rw[hPM] at hM;have Wf:PM.2<=L.length/\PM.1.length<=2:=by
       rw[<- hPM];have h1:(if j=0 then 0 else k.1)<=2:=by split<;>omega
       obtain⟨_,p2,p3⟩:=Jz L (if j=0 then 0 else k.1) k.2 h1;exact⟨p3 Yk,by omega⟩
      refine T.cut (λ s=>s=⟨[(13,.aw 21 0),(12,I j),(11,I nf.1),(7,.bb 6 0 gs.1.length),(3,.aw 1 0),(2,.aw 19 0)],[(0,aG L PM.2),(1,dW gs.1.length ms.1.length j 24 (decide (a.1=1))),(2,di out),(4,gI ms.1),(5,iv gs.1),(6,bt (gs.1.map (·.name))),(19,⟨27,0,mX⟩),(21,⟨136,0,[.str nm1,.bb 22 0 PM.1.length,.aj]⟩),(22,oa PM.1)],23⟩) ?_ ?_
      ·apply aq;simp[hC,dW];refine TL.cU ah [0] 1 (Te) RT rfl rfl rfl rfl xr SZ SY rfl (TL.go' ah ?_);simp[hC];apply T.block;refine T.aH (J34d L (decide (a.1=1)) ms.1 gs.1 out j nf.1 nm1 PM) (n:=if j=0 then 0 else k.1) ?_ ?_
       ·refine aa.le (Le.nk 21 1 138 2 rfl rfl) ?_;simp;refine aa.trim [14,13,12,11,7,3,2] [0,1,2,4,5,6,19,21,22] 23 Yr yA ⟨k.1,[],k.2,?_,rfl,?_,Yk,?_⟩
        ·simp[hPM]
        ·simp;omega
        ·simp[dW,oa]
       ·rintro n1 s ⟨m,po,i1,hP,Wi,hpo,hi7,rfl⟩;by_cases hg:0<n1
        ·have h0:¬ j=0:=by
          intro h;rw[if_pos h] at Wi;omega
         rw[if_neg h0] at Wi;subst Wi;obtain⟨m,rfl⟩:∃ q,n1=q+1:=⟨n1-1,by omega⟩;have g1:0<j:=by omega
         rw[FT] at hP;have hnx1:=cL L i1 3 hi7 hL yA yA;have hi8:=bq L 3 hi7;obtain⟨q,hq⟩:∃ q,cq L i1 3=q:=⟨_,rfl⟩;simp only[hq] at hnx1 hi8 hP;obtain⟨mm,SS⟩:∃ mm,m+1=mm:=⟨_,rfl⟩;simp only[SS] at hP |-;obtain⟨d1,d2,d3,d4⟩:=pV mm yA 48 48 rfl yA;have hch1:(⟨#[48+UInt8.ofNat mm]⟩:ByteArray)=eP (48+mm):=by simp[eP]
         have so1:mr BinOp.add ⟨#[112]⟩ (eP (48+mm))=some (.str (⟨#[112]⟩++eP (48+mm))):=rfl;have hmp:0<mm:=by omega
         apply aW;simp[hC,g1,hmp];refine gw ?_;simp;refine T.seq (T.block (T.seq ?_));refine T.rx ah follows [0,1,2,3,4,5,6,7,8,9,13,10,11,12,14] [(2,13),(2,10),(3,9),(3,13),(3,10),(4,13),(4,10),(9,13),(13,10)] Ix ?_;simp[hC,dW,d1,d2,d3,d4,hch1,so1];refine RX.cU [0] [0] 1 (hnx1) rfl xr rfl rfl rfl rfl xr SZ SY rfl rfl rfl xr ?_;simp;have hb:(po.length+1)*24<=140737488355328:=by omega
         have W1:(oa po).cells.length=po.length*2:=aC (f:=lU) (n:=2) (λ _=>rfl) po;have hgs:(oa po).sz=2:=rfl;have VV:(oa po).elem=138:=rfl;have wo:=cF (m:Int) yA yA;have wm:(mm:Int)-1=(m:Int):=by omega
         apply aN;simp[hC,hb,W1,hgs,VV,aY];apply aN;simp[hC,wm,wo];refine⟨m,by omega,?_⟩;refine aa.le (Le.trim [14,13,12,11,7,3,2] [0,1,2,4,5,6,19,21,39] 40 yCw yA) ?_;simp;refine aa.le (Le.p7 39 22 rfl rfl yA xr xr (by simp[aG,ints,mX,di,-all_eq_true,-all_flatMap,bw (cV out)])) ?_;simp[aG,ints];refine aa.trim [14,13,12,11,7,3,2] [0,1,2,4,5,6,19,21,22] 23 yCd yA ⟨m,po++[⟨⟨#[112]⟩++eP (48+mm),decide (0<q.1)⟩],q.2,?_,?_,?_,hi8,?_⟩
         ·rw[hP];simp
         ·rw[if_neg h0]
         ·simp;omega
         ·simp[aG,ints,dW,oa,lU,mX,dC]
        ·have Uj:n1=0:=by omega
         have hPM2:PM=(po,i1):=by
          rw[hP,Uj];simp[FT]
         by_cases Vp:0<m
         ·have g1:¬ 0<j:=by
           intro h;rw[if_neg yA] at Wi;omega
          apply aW;simp[hC,Vp,g1];refine a9 ?_;simp;apply T.exit;simp;refine aa.trim [13,12,11,7,3,2] [0,1,2,4,5,6,19,21,22] 23 Yt yA ?_;simp[hPM2,dW]
         ·apply aW;simp[hC,Vp];refine a9 ?_;simp;apply T.exit;simp;refine aa.trim [13,12,11,7,3,2] [0,1,2,4,5,6,19,21,22] 23 Yt yA ?_;simp[hPM2,dW]
      rintro s rfl;refine T.le (Le.nz [] [21]) ?_;simp[nz];refine T.le (Le.dn (o:=22) rfl (oA PM.1)) ?_;have R3:take (PM.1.length*(oa PM.1).sz) (oa PM.1).cells=PM.1.flatMap lU:=take_of_length_le (Nat.le_of_eq (aC (f:=lU) (n:=2) (λ _=>rfl) PM.1));simp[cw,R3,dW];have hb:(j+1)*64<=140737488355328:=by omega
      have W1:(di out).cells.length=j*3:=by rw[<- hj];exact aC (f:=fL) (n:=3) (λ _=>rfl) out
      have hgs:(di out).sz=3:=rfl;have VV:(di out).elem=136:=rfl;have wo:=cF ((j:Int)+1) yA yA;refine T.rx ah follows [0,1,2,3,4,5,6,7,8,9,10,11,12] [(5,7)] Ix ?_;simp[hC,W1,hgs,VV,hb,aY];apply aN;simp[hC,wo];refine⟨n,by omega,?_⟩;refine aa.le (Le.trim [12,11,7,3,2] [0,1,4,5,6,19,36] 37 (by simp[aG,mX,cw,-all_eq_true,-all_flatMap]) yA) ?_;simp;refine aa.le (Le.p7 36 2 rfl rfl yA xr xr (by simp[aG,ints,mX,cw,-all_eq_true,-all_flatMap])) ?_;simp[aG,ints];refine aa.trim [12,11,7,3,2] [0,1,2,4,5,6,19] 20 (by simp[mX,dC,cw,-all_eq_true,-all_flatMap]) yA ⟨out++[⟨nm1,PM.1,[]⟩],PM.2,?_,?_,Wf.1,?_⟩
      ·rw[hM];simp[hj]
      ·simp;omega
      ·simp[aG,ints,dW,di,fL,bO,mX,dC,cw,hj]
   ·rintro s rfl;obtain⟨_,SK,hfz,SL,Yo⟩:=KH L (nf.1+1) 0 nf.2 yA;have Yk:=Yo Zp;obtain⟨fs,Th⟩:∃ fs,xz L (nf.1+1) 0 nf.2=fs:=⟨_,rfl⟩;simp only[Th] at hR SK hfz SL Yk |-;clear Yo;refine T.le (Le.dn (o:=5) rfl (jr gs.1)) ?_;have R3:take (gs.1.length*(iv gs.1).sz) (iv gs.1).cells=gs.1.flatMap qk:=take_of_length_le (Nat.le_of_eq (aC (f:=qk) (n:=2) (λ _=>rfl) gs.1));simp[cw,R3,dW];refine T.le (Le.dn (o:=4) rfl (dG ms.1)) ?_;have YB:take (ms.1.length*(gI ms.1).sz) (gI ms.1).cells=ms.1.flatMap cH:=take_of_length_le (Nat.le_of_eq (aC (f:=cH) (n:=3) (λ _=>rfl) ms.1));simp[cw,YB];refine T.le (Le.trim [7,3,2] [0,1,2,6,19] 20 (by simp[aG,mX,cw,-all_eq_true,-all_flatMap]) yA) ?_;simp;have ew:(⟨128,0,[CV.aw 0 0,CV.ax (gs.1.flatMap qk) gs.1.length,CV.ax (ms.1.flatMap cH) ms.1.length,CV.bb 2 0 fs.1.length,.int .i64 24,CV.bool (decide (a.1=1))]⟩:Ob)=bK gs.1 ms.1 fs.1.length 24 (decide (a.1=1)):=rfl;rw[ew];clear ew R3 YB;have h19:(mX.map (cw 4 (gI ms.1).cells (gI ms.1).sz∘cw 5 (iv gs.1).cells (iv gs.1).sz))=mX:=rfl;rw[h19];clear h19;have hmp:0<ms.1.length:=by omega
    have R0:∀ m∈ms.1,m.size<=1000:=λ m hm=>by have:=(hmz m hm).1;omega
    have SR:∀ f∈fs.1,f.params.length<=2:=λ f hf=>by
     obtain⟨_,k,h1,h2⟩:=hfz f hf;have:=congrArg length h2;simp[nP] at this;omega
    refine T.cut (λ s=>∃ (i left:Nat),s=⟨[(3,.aw 1 0),(2,.aw 19 0)],[(0,aG L i),(1,bK gs.1 ms.1 R.fs.length left (decide (a.1=1))),(2,di R.fs),(19,⟨27,0,mX⟩)],20⟩) ?_ ?_
    ·apply aq;simp[hC];apply T.block;refine T.aH (J34e L (decide (a.1=1)) ms.1 gs.1 fs.1 (nf.1+1) R.fs) (n:=nf.1+1) ?_ ?_
     ·refine aa.trim [16,7,3,2] [0,1,2,6,19] 20 (by simp[aG,mX,bK]) yA ⟨0,fs.1,fs.2,24,?_,by omega,by omega,rfl,SR,by omega,Yk,?_⟩
      ·rw[<- hR]
      ·simp
     ·rintro n s ⟨j,fl,i,left,hM,hjn,Tg,WW,Z2,hlt24,hi,rfl⟩
      cases n with
      | zero=>
       have hj:¬ j<fl.length:=by omega
       have S0:R.fs=fl:=by rw[hM];rfl
       apply aW;simp[hC,bK,hj];refine a9 ?_;simp;apply T.exit;simp;refine aa.trim [3,2] [0,1,2,19] 20 Yr yA ⟨i,left,?_⟩;simp[S0]
      | succ n=>
       have hj:j<fl.length:=by omega
       obtain⟨f,hf⟩:∃ f,fl[j]? = some f:=⟨fl[j],getElem?_eq_getElem hj⟩;have Vr:=Z2 f (mem_of_getElem? hf);apply aW;simp[hC,bK,hj];refine gw ?_;simp;have hobl:(jS gs.1 f.params).length<=10:=by
        have h2:=FW f.params;unfold jS;rw[length_append,length_map];omega
       have YZ:=G4 L hL gs.1 ms.1 hmp yA R0 (decide (a.1=1)) fl yA yA (λ f hf=>by have:=Z2 f hf;omega) f.name f.params yA (bO f.body) f.body.length left left (jS gs.1 f.params) 2 6 i (Nat.le_refl _) yA yA yA yA hi;have hM2:=hM;rw[NK,hf] at hM2;simp only at hM2;have hwr:qW L (decide (a.1=1)) ms.1 fl=⟨L,decide (a.1=1),ms.1,fs.1.map λ f=>(f.name,f.params)⟩:=by
        have h2:fl.map (λ f=>(f.name,f.params))=fs.1.map λ f=>(f.name,f.params):=WW;simp only[qW,h2]
       obtain⟨hbi,TO⟩:=vU (qW L (decide (a.1=1)) ms.1 fl) f.params left (jS gs.1 f.params) 2 6 i left hi;rw[hwr] at YZ hbi TO;obtain⟨b,hb⟩:∃ b,oq ⟨L,decide (a.1=1),ms.1,fs.1.map λ f=>(f.name,f.params)⟩ f.params left (jS gs.1 f.params) 2 6 i left=b:=⟨_,rfl⟩;rw[hb] at YZ hbi TO;rw[hb] at hM2;have RY:(di fl).cells.length=fl.length*3:=aC (f:=fL) (n:=3) (λ _=>rfl) fl;have hs1:j*3+2<fl.length*3:=by omega
       have ZY:j*3+2+1<=fl.length*3:=by omega
       have hs3:j*3+3<=fl.length*3:=by omega
       have ew:(⟨128,0,[CV.aw 0 0,CV.ax (gs.1.flatMap qk) gs.1.length,CV.ax (ms.1.flatMap cH) ms.1.length,CV.bb 2 0 fl.length,I left,CV.bool (decide (a.1=1))]⟩:Ob)=bK gs.1 ms.1 fl.length left (decide (a.1=1)):=rfl;have hfc:g7 f.name f.params (bO f.body) f.body.length=[.str f.name,.ax (f.params.flatMap lU) f.params.length,.ax (bO f.body) f.body.length]:=rfl;rw[hfc] at YZ;have Sc:=Qb hf b.1;refine T.cut (λ s=>s=⟨[(16,I j),(7,.bb 6 0 gs.1.length),(3,.aw 1 0),(2,.aw 19 0)],[(0,aG L b.2.1),(1,bK gs.1 ms.1 fl.length b.2.2 (decide (a.1=1))),(2,di (fl.set j ⟨f.name,f.params,b.1⟩)),(6,bt (gs.1.map (·.name))),(19,⟨27,0,mX⟩)],20⟩) ?_ ?_
       rotate_left
       ·rintro s rfl;have wj:=cF ((j:Int)+1) yA yA;apply aN;simp[hC,wj];refine⟨n,by omega,aa.trim [16,7,3,2] [0,1,2,6,19] 20 (by simp[aG,mX,bK]) yA ⟨j+1,fl.set j ⟨f.name,f.params,b.1⟩,b.2.1,b.2.2,hM2,by omega,by simp[Tg],?_,?_,by omega,hbi,?_⟩⟩
        ·rw[Ji (f':=⟨f.name,f.params,b.1⟩) hf rfl];exact WW
        ·intro f' hf';rcases mem_or_eq_of_mem_set hf' with h | h
         ·exact Z2 f' h
         ·rw[h];exact Vr
        ·simp
       apply T.block;have hb0:gs.1.length*16<=140737488355328:=by omega
       have U8:(bt (gs.1.map (·.name))).cells.length=gs.1.length:=by simp[bt]
       have UI:(bt (gs.1.map (·.name))).sz=1:=rfl;have Sb:(bt (gs.1.map (·.name))).elem=9:=rfl;apply aq;simp[hC,hb0,U8,UI];have R3:take gs.1.length (bt (gs.1.map (·.name))).cells=(bt (gs.1.map (·.name))).cells:=take_of_length_le (Nat.le_of_eq U8);simp only[R3,ew];have Qd:(di fl).cells.drop (j*3)=fL f++(fl.drop (j+1)).flatMap fL:=aI (f:=fL) (n:=3) (λ _=>rfl) hf;have TF:(di fl).cells.drop (j*3+1)=(fL f).drop 1++(fl.drop (j+1)).flatMap fL:=b9 (f:=fL) (n:=3) (λ _=>rfl) hf 1 yA;have XC:(di fl).sz=3:=rfl;refine T.cut (λ s=>s=⟨[(17,.bb 21 0 (jS gs.1 f.params).length),(16,I j),(7,.bb 6 0 gs.1.length),(3,.aw 1 0),(2,.aw 19 0)],[(0,aG L i),(1,bK gs.1 ms.1 fl.length left (decide (a.1=1))),(2,di fl),(6,bt (gs.1.map (·.name))),(19,⟨27,0,mX⟩),(21,bt (jS gs.1 f.params))],22⟩) ?_ ?_
       ·apply aq;simp[hC];apply T.block;refine T.aH (J34f L (decide (a.1=1)) ms.1 gs.1 fl f i left j) (n:=f.params.length) ?_ ?_
        ·refine aa.trim [18,17,16,7,3,2] [0,1,2,6,19,21] 22 (by simp[aG,mX,bK]) yA ⟨0,by simp,by omega,?_⟩;simp[bt]
        ·rintro n1 s ⟨q,hq,Ux,rfl⟩;obtain⟨ow,how⟩:∃ ow,gs.1.map (·.name)++(f.params.take q).flatMap (λ p=>if p.mutex=true then [] else [p.name])=ow:=⟨_,rfl⟩;have Zl:ow.length<=10:=by
          have h2:=FW (f.params.take q);rw[length_take] at h2;rw[<- how,length_append,length_map];omega
         rw[how];by_cases YG:q<f.params.length
         ·obtain⟨p,hp⟩:∃ p,f.params[q]? = some p:=⟨f.params[q],getElem?_eq_getElem YG⟩;have hpd:(f.params.flatMap lU).drop (q*2)=lU p++(f.params.drop (q+1)).flatMap lU:=aI (f:=lU) (n:=2) (λ _=>rfl) hp;have hpd1:(f.params.flatMap lU).drop (q*2+1)=(lU p).drop 1++(f.params.drop (q+1)).flatMap lU:=b9 (f:=lU) (n:=2) (λ _=>rfl) hp 1 yA;apply aW;simp[hC,bK,hj,TF,fL,YG];refine gw ?_;simp;apply eN;have WB:f.params.take (q+1)=f.params.take q++[p]:=by rw[take_add_one,hp];rfl
          have wq:=cF ((q:Int)+1) yA yA;obtain⟨pn,pmx⟩:=p
          cases pmx with
          | true=>
           apply aq;simp[hC,hj,TF,fL,YG,hpd,lU];refine a9 ?_;simp;apply T.skip;simp;apply aN;simp[hC,wq];refine⟨f.params.length-(q+1),by omega,?_⟩;refine aa.trim [18,17,16,7,3,2] [0,1,2,6,19,21] 22 Yr yA ⟨q+1,rfl,by omega,?_⟩;rw[WB,flatMap_append,<- append_assoc,how];simp[bK]
          | false=>
           apply aq;simp[hC,hj,TF,fL,YG,hpd,lU];refine dy ?_;simp;have Vl:(ow.length+1)*16<=140737488355328:=by omega
           have hwl:(bt ow).cells.length=ow.length:=by simp[bt]
           have hws:(bt ow).sz=1:=rfl;have hwe:(bt ow).elem=9:=rfl;apply aN;simp[hC,hj,TF,fL,YG,hpd,lU,Vl,hwl,hws,hwe,aY];apply aN;simp[hC,wq];refine⟨f.params.length-(q+1),by omega,?_⟩;refine aa.le (Le.trim [18,17,16,7,3,2] [0,1,2,6,19,23] 24 yCw yA) ?_;simp;refine aa.le (Le.p7 23 21 rfl rfl yA xr xr (by simp[aG,ints,mX,di,-all_eq_true,-all_flatMap,bw (cV fl)])) ?_;simp[aG,ints];refine aa.trim [18,17,16,7,3,2] [0,1,2,6,19,21] 22 yCd yA ⟨q+1,rfl,by omega,?_⟩;rw[WB,flatMap_append,<- append_assoc,how];simp[aG,ints,bK,bt,mX,dC]
         ·have hqe:q=f.params.length:=by omega
          apply aW;simp[hC,bK,hj,TF,fL,YG];refine a9 ?_;simp;apply T.exit;simp;refine aa.trim [17,16,7,3,2] [0,1,2,6,19,21] 22 Yr yA ?_;have how2:ow=jS gs.1 f.params:=by
           rw[<- how,hqe,take_length];rfl
          rw[<- how2];simp
       rintro s rfl;refine T.rxw ah follows [(1,3,[.bb 2 0 fl.length])] (by simp[yh,BE,bK]) [0,1,2,3,4,5,6,7,8,9,10,11,12,13,14,15,16,17,18,19] [(4,16)] Ix ?_;simp[hC,bK,zS];refine RX.quiet (.bb 2 0 fl.length) rfl xr rfl (XV.load ah rfl rfl xr rfl rfl) ?_;simp[zS];refine RX.quiet (.bb 2 0 fl.length) rfl xr rfl (XV.load ah rfl rfl xr rfl rfl) ?_;simp[hj,Qd,fL,zS];rw[ew];refine RX.jM 3 21 [0,1,2,21] [0,1] 4 (YZ) rfl xr rfl rfl rfl xr yA xr xr rfl xr Wt rfl xr xr xr rfl xr ?_;simp[hj,XC,RY,ZY,-gP,qQ,fy,QG,BE,zS];simp[bK,Sc,-gP];refine aa.trim [16,7,3,2] [0,1,2,6,19] 20 (by simp[aG,mX,-all_eq_true,-all_flatMap,-gP]) yA ?_;simp[-gP];rfl
    ·rintro s ⟨i,left,rfl⟩;apply aq;simp[hC,bK,mX];apply T.ret;refine aa.le (Le.trim [2] [2,19] 20 Vz yA) ?_;simp;refine aa.le (Le.dn (o:=2) rfl (cV R.fs)) ?_;have htk3:take (R.fs.length*(di R.fs).sz) (di R.fs).cells=R.fs.flatMap fL:=take_of_length_le (Nat.le_of_eq (aC (f:=fL) (n:=3) (λ _=>rfl) R.fs));simp[cw,htk3];apply aa.here;simp[y9,fo];rw[<- hR];exact⟨⟨rfl,rfl⟩,⟨rfl,rfl⟩⟩
end Go.Proofs.YtlkmbdfhdknlgaaGreat
