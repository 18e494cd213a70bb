/- writer.block. -/
import Derived.Test.YtlkmbdfhdknlgaaGreatV23
namespace Go.Proofs.YtlkmbdfhdknlgaaGreat
open Go.Can Go.aV List
def dr (fs:List Fu):Ob:=⟨136,3,fs.flatMap fD⟩
def jK (l:List Sm):Ob:=⟨207,11,bS l⟩
def qj (L:List Int)(ar:Bool)(ms:List Mx)(fs:List Fu):Wr:=⟨L,ar,ms,fs.map λ f=>(f.name,f.params)⟩
theorem iS (x:Sm):trees (iD x)=true:=by
 cases x with
 | dP u r=>rcases r with ⟨_,_ | _⟩<;>rfl
 | ia s e=>cases e<;>rfl
 | iX s e=>cases e<;>rfl
 | lO e _ _=>cases e<;>rfl
 | dh e _=>cases e<;>rfl
 | _=>rfl
theorem bU (l:List Sm):trees (bS l)=true:=by
 induction l with
 | nil=>rfl
 | cons a r ih=>rw[bS,aF,ih,iS];rfl
theorem nU (l:List Sm):(bS l).length=l.length*11:=by rw[oO];exact aA (f:=iD) kN l
theorem uW:∀ a b:List Sm,bS (a++b)=bS a++bS b
 | [],b=>rfl
 | x::r,b=>by rw[cons_append,bS,bS,uW r b,append_assoc]
theorem Gz (x:Sm):take 11 (iD x)=iD x:=take_of_length_le (by simp[kN])
theorem dj (fs:List Fu):trees (fs.flatMap fD)=true:=by
 induction fs with
 | nil=>rfl
 | cons a r ih=>rw[flatMap_cons,aF,ih];rfl
theorem Kr (fs:List Fu)(o:Nat)(cs:List CV)(n:Nat):(fs.flatMap fD).map (cK o cs n)=fs.flatMap fD:=by
 induction fs with
 | nil=>rfl
 | cons a r ih=>rw[flatMap_cons,map_append,ih];rfl
@[simp] theorem fsOb_frz (l:List Fu)(o:Nat)(cs:List CV)(n:Nat):(⟨(dr l).elem,(dr l).sz,(dr l).cells.map (cK o cs n)⟩:Ob)=dr l:=by
 simp only[dr,Kr]
@[simp] theorem NV (ρ:Nat->Nat)(l:List Fu):bf ρ (dr l)=dr l:=by
 simp only[bf,dr,ae ρ _ (dj l)]
@[simp] theorem Kp (l:List Fu)(n:Nat):(dr l).cells.all (aU n)=true:=aj (dj l) n
@[simp] theorem fsOb_lts (l:List Fu)(n:Nat):aX n (dr l).cells=true:=by rw[aE];exact aj (dj l) n
@[simp] theorem fsOb_ok1 (l:List Fu)(o q:Nat):(dr l).cells.all (nC o q)=true:=bC (dj l) o q
@[simp] theorem FH (l:List Fu)(o q:Nat):(dr l).cells.map (dE o q)=(dr l).cells:=bm (dj l) o q
@[simp] theorem fsOb_eta (l:List Fu):(⟨(dr l).elem,(dr l).sz,(dr l).cells⟩:Ob)=dr l:=rfl
@[simp] theorem OC (l:List Fu)(n o q:Nat):(dr l).cells.all (aU n∘dE o q)=true:=by rw[<- all_map,FH];exact Kp l n
@[simp] theorem Js (l:List Sm)(n:Nat):(jK l).cells.all (aU n)=true:=aj (bU l) n
@[simp] theorem smOb_ok1 (l:List Sm)(o q:Nat):(jK l).cells.all (nC o q)=true:=bC (bU l) o q
@[simp] theorem EV (l:List Sm)(o q:Nat):(jK l).cells.map (dE o q)=(jK l).cells:=bm (bU l) o q
@[simp] theorem smOb_eta (l:List Sm):(⟨(jK l).elem,(jK l).sz,(jK l).cells⟩:Ob)=jK l:=rfl
@[simp] theorem NR (l:List Sm)(n o q:Nat):(jK l).cells.all (aU n∘dE o q)=true:=by rw[<- all_map,EV];exact Js l n
section
variable (L:List Int)(gs:List Gl)(ms:List Mx)(ar:Bool)(fs:List Fu)(nm:ByteArray)(ps:List Pm)(bc:List CV)(bn:Nat)(Pn:List ByteArray)(rec:Rec)(deep f:Nat)(Yj:List Sm×Nat×Nat)
def J56 (m:Nat)(s:St):Prop:=∃ (vars:List ByteArray) (i left:Nat) (out:List Sm),Yj=(out++(sZ (qj L ar ms fs) rec ps deep m vars i left).1,(sZ (qj L ar ms fs) rec ps deep m vars i left).2)/\
 i<=L.length/\left<=f/\vars.length+left<=500/\out.length+2*left<=1000/\m<=10/\
 s=⟨[(12,I m),(11,.bg 6 0 out.length),(2,.bg 5 0 vars.length),(6,.ax 4 0),(0,.ax 1 0),(3,I deep)],
  [(0,aI L i),(1,bO gs ms fs.length left ar),(2,dr fs),(3,bw Pn),(4,⟨136,0,gK nm ps bc bn⟩),(5,bw vars),(6,jK out)],7⟩
def K56 (m:Nat)(out:List Sm)(b:LR)(s:St):Prop:=∃ (front:List Sm) (last:Sm),b.out=front++[last]/\
 s=⟨[(12,I m),(11,.bg 6 0 (out++front).length),(2,.bg 5 0 b.vars.length),(13,.ax 7 0),(6,.ax 4 0),(0,.ax 1 0),(3,I deep)],
  [(0,aI L b.i),(1,bO gs ms fs.length b.left ar),(2,dr fs),(3,bw Pn),(4,⟨136,0,gK nm ps bc bn⟩),(5,bw b.vars),(6,jK (out++front)),(7,⟨207,0,iD last⟩)],8⟩
end
@[simp] theorem OE (e:Ex)(a b c d f:CV):take 7 (a8 e++[a,b,c,d,f])=a8 e++[a,b,c]:=by cases e<;>rfl
@[simp] theorem OG (e:Ex)(a b c d f:CV):drop 8 (a8 e++[a,b,c,d,f])=[f]:=by cases e<;>rfl
@[simp] theorem OD (e:Ex)(a b c d f:CV):take 8 (a8 e++[a,b,c,d,f])=a8 e++[a,b,c,d]:=by cases e<;>rfl
@[simp] theorem OF (e:Ex)(a b c d f:CV):drop 9 (a8 e++[a,b,c,d,f])=[]:=by cases e<;>rfl
@[simp] theorem nz_smsC (l:List Sm):(bS l).map nz=bS l:=by
 induction l with
 | nil=>rfl
 | cons a r ih=>
  rw[bS,map_append,ih];congr 1
  cases a with
  | dP u r=>rcases r with ⟨_,_ | _⟩<;>rfl
  | ia s e=>cases e<;>rfl
  | iX s e=>cases e<;>rfl
  | lO e _ _=>cases e<;>rfl
  | dh e _=>cases e<;>rfl
  | _=>rfl
def stK (c:Int):List CV:=[I c,.str ⟨#[]⟩,.int .i64 0,.int .i64 0,.str ⟨#[]⟩,.ak,.str ⟨#[]⟩,.ak,.ak,.ak,.ak]
def Dx:List CV:=[I 5,.str ⟨#[]⟩,.int .i64 0,.int .i64 0,.str ⟨#[]⟩,.ak,.str ⟨#[]⟩,.ak,.ak,.ak,.ak]
set_option maxHeartbeats 8000000 in
theorem EA (L:List Int)(hL:L.length<=1000)(gs:List Gl)(ms:List Mx)(hm:0<ms.length)(Tc:ms.length<=100)(O0:∀ m∈ms,m.size<=1000)(ar:Bool)(fs:List Fu)(Qq:0<fs.length)(hfs2:fs.length<=100)(SE:∀ f∈fs,f.params.length<=100)
  (nm:ByteArray) (ps:List Pm) (hp:ps.length<=100) (bc:List CV) (bn:Nat):∀ (left f:Nat) (vars:List ByteArray) (deep most i:Nat),left<=f->left<=100->vars.length+left<=500->deep<=10->most<=9->i<=L.length ->
  Body Tryz.prog av 66 [.ax 1 0,.agg (gK nm ps bc bn),.bg 3 0 vars.length,I deep,I most] [(0,aI L i),(1,bO gs ms fs.length left ar),(2,dr fs),(3,bw vars)] 4
   (jk (.au (bS (nJ (qj L ar ms fs) ps f vars deep most i left).1) (nJ (qj L ar ms fs) ps f vars deep most i left).1.length) [(0,aI L (nJ (qj L ar ms fs) ps f vars deep most i left).2.1),(1,bO gs ms fs.length (nJ (qj L ar ms fs) ps f vars deep most i left).2.2 ar),(2,dr fs),(3,bw vars)] 4):=by
 intro Q9
 induction Q9 using Nat.strongRecOn with
 | _ Q9 ih=>
 intro f Pn deep most i0 hl hf Tm Wz VV TP;generalize Xr:nJ (qj L ar ms fs) ps f Pn deep most i0 Q9=Yj;have U6:Yj=sZ (qj L ar ms fs) (nJ (qj L ar ms fs) ps (f-1)) ps deep (cA L i0 (most+1)).1 Pn (cA L i0 (most+1)).2 Q9:=by
  cases f with
  | zero=>
   have:Q9=0:=by omega
   subst this;rw[<- Xr]
   cases h:(cA L i0 (most+1)).1 with
   | zero=>simp[nJ,sZ,qj]
   | succ n=>simp[nJ,sZ,qj]
  | succ f=>rw[<- Xr];rfl
 clear Xr;have VL:wC L (nJ (qj L ar ms fs) ps (f-1)):=uK (qj L ar ms fs) ps (f-1);have YF:=λ (left:Nat) (OT:left<Q9)=>ih left OT (f-1);clear ih;generalize hrec:nJ (qj L ar ms fs) ps (f-1)=rec at YF U6 VL;have WW:(cA L i0 (most+1)).1<=most:=Nat.le_of_lt_succ (dF L i0 yA);have PH:=bu L (most+1) TP;have wm:=cw ((most:Int)+1) yA yA;refine Body.jb Tryz.func66 rfl GK (by simp[Tryz.ntmps66]) λ C hC OR=>?_;rw[Tryz.ntmps66] at hC;apply aq;simp[hC,gK];apply aq;simp[hC];have hb0:Pn.length*16<=140737488355328:=by omega
 apply aq;simp[hC,bw,hb0];apply aT;simp[hC,wm,bO];refine TL.di ag [0] 1 (cT L i0 (most+1) TP hL yA yA) OU rfl rfl rfl rfl xr Qe Qd rfl (TL.go' ag ?_);simp[hC];generalize cA L i0 (most+1)=k at WW PH U6;have Pb:take Pn.length (Pn.map CV.str)=Pn.map CV.str:=take_of_length_le xr;simp only[Pb];apply T.block;refine T.aQ (J56 L gs ms ar fs nm ps bc bn Pn rec deep Q9 Yj) (n:=k.1) ?_ ?_
 ·refine aa.le (Le.own 11 207 11 rfl) ?_;simp;refine aa.le (Le.trim [12,11,2,6,0,3] [0,1,2,3,4,6,7] 8 (by simp[aI,dr,-all_eq_true,-all_flatMap,aj (dj fs)]) yA) ?_;simp;refine aa.le (Le.ph 6 5 rfl rfl yA xr xr (by simp[aI,ints,dr,-all_eq_true,-all_flatMap,bC (dj fs),bC (eP Pn)])) ?_;simp[bm (dj fs),bm (eP Pn),aI,dr,ints];refine aa.le (Le.ph 7 6 rfl rfl yA xr xr (by simp[-all_eq_true,-all_flatMap,bC (dj fs),bC (eP Pn)])) ?_;simp[bm (dj fs),bm (eP Pn)];refine aa.trim [12,11,2,6,0,3] [0,1,2,3,4,5,6] 7 (by simp[-all_eq_true,-all_flatMap,aj (dj fs),aj (eP Pn)]) yA ⟨Pn,k.2,Q9,[],?_,PH,Nat.le_refl _,Tm,?_,by omega,?_⟩
  ·rw[U6];rfl
  ·simp;omega
  ·simp[bw,aI,bO,dr,jK,ints,bS,gK]
 ·rintro n s ⟨vars,i,left,out,hR,hi,hle,hvl',Sf,hm10,rfl⟩;by_cases Rc:n=0
  ·subst Rc;have Rq:Yj=(out,i,left):=by rw[hR];simp[sZ]
   clear hR;apply aT;simp[hC];refine bh ?_;simp;apply T.exit;simp;apply aq;simp[hC];apply T.ret;have YL:(bS out).take (out.length*11)=bS out:=take_of_length_le (by rw[nU];exact Nat.le_refl _);refine aa.le (Le.trim [10] [0,1,2,3,6] 7 (by simp[aI,bO,-all_eq_true,-all_flatMap]) yA) ?_;simp;refine aa.le (Le.cF (o:=6) rfl (bU out)) ?_;simp[jK,YL];refine aa.trim [10] [0,1,2,3] 4 (by simp[aI,bO,-all_eq_true,-all_flatMap]) yA ⟨_,?_,rfl,?_,rfl⟩
   ·simp[Rq]
   ·simp[bO,bw,Rq]
  obtain⟨n1,rfl⟩:∃ n1,n=n1+1:=⟨n-1,by omega⟩;by_cases Re:left=0
  ·subst Re;have Rq:Yj=(out,i,0):=by rw[hR];simp[sZ]
   clear hR;apply aT;simp[hC,bO];refine bh ?_;simp;apply T.exit;simp;apply aq;simp[hC];apply T.ret;have YL:(bS out).take (out.length*11)=bS out:=take_of_length_le (by rw[nU];exact Nat.le_refl _);refine aa.le (Le.trim [10] [0,1,2,3,6] 7 (by simp[aI,-all_eq_true,-all_flatMap]) yA) ?_;simp;refine aa.le (Le.cF (o:=6) rfl (bU out)) ?_;simp[jK,YL];refine aa.trim [10] [0,1,2,3] 4 (by simp[aI,-all_eq_true,-all_flatMap]) yA ⟨_,?_,rfl,?_,rfl⟩
   ·simp[Rq]
   ·simp[bw,Rq]
  obtain⟨lf,rfl⟩:∃ lf,left=lf+1:=⟨left-1,by omega⟩;have Zi:sZ (qj L ar ms fs) rec ps deep (n1+1) vars i (lf+1)=((zK (qj L ar ms fs) rec ps vars deep i lf).out++(sZ (qj L ar ms fs) rec ps deep n1 (zK (qj L ar ms fs) rec ps vars deep i lf).vars (zK (qj L ar ms fs) rec ps vars deep i lf).i (zK (qj L ar ms fs) rec ps vars deep i lf).left).1,(sZ (qj L ar ms fs) rec ps deep n1 (zK (qj L ar ms fs) rec ps vars deep i lf).vars (zK (qj L ar ms fs) rec ps vars deep i lf).i (zK (qj L ar ms fs) rec ps vars deep i lf).left).2):=by
   rw[sZ,if_neg yA];rfl
  rw[Zi] at hR;have wl:((lf+1:Nat):Int)-1=(lf:Int):=by omega
  have wlf:=cw (lf:Int) yA yA;apply aT;simp[hC,bO];refine iI ?_;simp;have Pk:=GM (w:=qj L ar ms fs) VL ps vars deep lf hi;generalize hB:zK (qj L ar ms fs) rec ps vars deep i lf=B at Pk hR Zi;clear Zi;apply eZ;apply aq;simp[hC,wlf];apply aq;simp[hC];refine T.cut (K56 L gs ms ar fs nm ps bc bn Pn deep (n1+1) out B) ?_ ?_
  ·have PH:=bu L 14 hi;have PO:=hB;have QP:=cT L i 14 hi hL yA yA;obtain⟨k,hk⟩:∃ k,cA L i 14=k:=⟨_,rfl⟩;simp only[zK,qj,hk] at PO;rw[hk] at PH QP;apply aq;simp[hC];refine TL.di ag [0] 1 (QP) OU rfl rfl rfl rfl xr Qe Qd rfl (TL.go' ag ?_);simp[hC];have SN:vars.length<=1000:=by omega
   refine T.le (Le.trim [14,12,11,2,13,6,0,3] [0,1,2,3,4,5,6,7] 8 (by simp[aI,gK,-all_eq_true,-all_flatMap]) yA) ?_;simp;have ew:(⟨128,0,[CV.ax 0 0,CV.au (gs.flatMap pE) gs.length,CV.au (ms.flatMap cI) ms.length,CV.bg 2 0 fs.length,.int .i64 lf,CV.bool ar]⟩:Ob)=bO gs ms fs.length lf ar:=rfl;rw[ew];apply T.block;apply aq;simp[hC];refine T.bB rfl (λ h=>?_) (λ h=>?_)
   ·have h1:k.1<4:=by simpa using h
    rw[if_pos h1] at PO;apply aG;simp[hC,gK];refine TL.jG ag 3 5 [0,1,5] 4 (uu L hL vars SN gs ms hm Tc O0 fs.length lf ar k.2 PH nm ps hp bc bn) OU rfl rfl rfl xr yA xr xr rfl xr Tz rfl xr xr (TL.go' ag ?_);simp[hC,ld];refine aa.le (Le.nz [] [7]) ?_;simp;refine aa.trim [12,11,2,13,6,0,3] [0,1,2,3,4,5,6,7] 8 RY yA ⟨[],.dP false (jB L ar ms ps vars k.2).1,?_,?_⟩
    ·rw[<- PO];rfl
    ·rw[<- PO];simp[iD,ld,a8,eS,gK]
   have h1:¬ k.1<4:=by simpa using h
   rw[if_neg h1] at PO;apply aq;simp[hC];refine T.bB rfl (λ h=>?_) (λ h=>?_)
   ·have h2:k.1<7:=by simpa using h
    rw[if_pos h2] at PO;apply aG;simp[hC,gK];refine TL.jG ag 3 5 [0,1,5] 4 (uu L hL vars SN gs ms hm Tc O0 fs.length lf ar k.2 PH nm ps hp bc bn) OU rfl rfl rfl xr yA xr xr rfl xr Tz rfl xr xr (TL.go' ag ?_);simp[hC,ld];refine aa.le (Le.nz [] [7]) ?_;simp;refine aa.trim [12,11,2,13,6,0,3] [0,1,2,3,4,5,6,7] 8 RY yA ⟨[],.dP true (jB L ar ms ps vars k.2).1,?_,?_⟩
    ·rw[<- PO];rfl
    ·rw[<- PO];simp[iD,ld,a8,eS,gK]
   have h2:¬ k.1<7:=by simpa using h
   rw[if_neg h2] at PO;apply aq;simp[hC];refine T.bB rfl (λ h=>?_) (λ h=>?_)
   ·have h3:k.1=7:=by simpa using h
    rw[if_pos h3] at PO;apply T.seq;obtain⟨a,ha⟩:∃ a,lf % 26=a:=⟨_,rfl⟩;obtain⟨q,hq⟩:∃ q,lf / 26=q:=⟨_,rfl⟩;obtain⟨b,hb⟩:∃ b,q % 26=b:=⟨_,rfl⟩;have Vf:fJ lf=⟨#[118]⟩++⟨#[97+UInt8.ofNat a,97+UInt8.ofNat b]⟩:=by simp[fJ,ha,hq,hb]
    have so:lW BinOp.add ⟨#[118]⟩ ⟨#[97+UInt8.ofNat a,97+UInt8.ofNat b]⟩=some (.str (fJ lf)):=by rw[Vf];rfl
    have a1:(lf:Int).tmod 26=(a:Int):=by rw[Int.tmod_eq_emod_of_nonneg yA];omega
    have a2:=cw (97+(a:Int)) yA yA;have a3:IntKind.u8.wrap (97+(a:Int))=97+(a:Int):=IntWalk.u8_in _ yA;have a4:(0:Int)<=97+(a:Int)/\97+(a:Int)<256:=by omega
    have a5:(97+(a:Int)).toNat=97+a:=by omega
    have q1:IntKind.i64.wrap ((lf:Int) / 26)=(q:Int):=by rw[cw _ yA yA];omega
    have b1:(q:Int).tmod 26=(b:Int):=by rw[Int.tmod_eq_emod_of_nonneg yA];omega
    have b2:=cw (97+(b:Int)) yA yA;have b3:IntKind.u8.wrap (97+(b:Int))=97+(b:Int):=IntWalk.u8_in _ yA;have b4:(0:Int)<=97+(b:Int)/\97+(b:Int)<256:=by omega
    have b5:(97+(b:Int)).toNat=97+b:=by omega
    refine T.rx ag follows [0,1,3,4,5,6,7,8,9,10,11,12,13,14,15,16,17,18,19,20,21,2,22,23,24,25,26] [(6,2),(6,22),(6,24),(9,2),(9,22),(9,24),(13,2),(13,22),(13,24),(17,2),(17,22),(17,24),(18,2),(18,22),(18,24),(19,2),(19,22),(19,24)] GK ?_;simp[hC,bO,a1,a2,a3,a4,a5,q1,b1,b2,b3,b4,b5,so];rw[ew];refine RX.jG 3 5 [0,1,5] [0] 4 (nO L hL vars SN gs ms fs.length lf ar k.2 PH) rfl xr rfl rfl rfl xr yA xr xr rfl xr Tz rfl xr xr xr rfl xr ?_;simp[bA];have hbv:(vars.length+1)*16<=140737488355328:=by omega
    apply aG;simp[hC,bw,hbv];refine aa.le (Le.trim [12,11,2,13,6,0,3] [0,1,2,3,4,6,7,36] 37 (by simp[gK,-all_eq_true,-all_flatMap,gG]) yA) ?_;simp;refine aa.le (Le.ph 36 5 rfl rfl yA xr xr (by simp[aI,ints,bO,gK,-all_eq_true,-all_flatMap,y3])) ?_;simp[aI,ints,bO,gK];refine aa.le (Le.nz [] [7]) ?_;simp;refine aa.trim [12,11,2,13,6,0,3] [0,1,2,3,4,5,6,7] 8 Ym yA ⟨[],.ia (fJ lf) (dH L ar vars k.2).1,?_,?_⟩
    ·rw[<- PO];rfl
    ·rw[<- PO];simp[iD,lh,eS,gK,bw,aI,ints,bO]
   have h3:¬ k.1=7:=by simpa using h
   rw[if_neg h3] at PO
      /- an assignment? -/
   refine T.cut (λ s=>s=⟨[(119,.bool (decide (k.1=8/\0<vars.length))),(14,I k.1),(12,.int .i64 ((n1:Int)+1)),(11,.bg 6 0 out.length),(2,.bg 5 0 vars.length),(13,.ax 7 0),(6,.ax 4 0),(0,.ax 1 0),(3,I deep)],
    [(0,aI L k.2),(1,bO gs ms fs.length lf ar),(2,dr fs),(3,bw Pn),(4,⟨136,0,gK nm ps bc bn⟩),(5,bw vars),(6,jK out),(7,⟨207,0,Dx⟩)],8⟩) ?_ ?_
   ·by_cases h8:k.1=8
    ·apply aG;simp[hC,h8];refine aa.trim [119,14,12,11,2,13,6,0,3] [0,1,2,3,4,5,6,7] 8 Yl yA ?_;simp[Dx]
    ·apply aG;simp[hC,h8];refine aa.trim [119,14,12,11,2,13,6,0,3] [0,1,2,3,4,5,6,7] 8 Yl yA ?_;simp[Dx]
   rintro s rfl;refine T.bB rfl (λ h=>?_) (λ h=>?_)
   ·have h4:k.1=8/\0<vars.length:=by simpa using h
    rw[if_pos h4] at PO;have OT:=dF L k.2 h4.2;have Y9:=cT L k.2 vars.length PH hL h4.2 yA;have Qn:=bu L vars.length PH;obtain⟨j,hj⟩:∃ j,cA L k.2 vars.length=j:=⟨_,rfl⟩;rw[hj] at OT Y9 Qn;simp only[hj] at PO;have OS:(bw vars).cells.drop j.1=.str (vars.getD j.1 eS)::(vars.map CV.str).drop (j.1+1):=jq OT;have UE:(bw vars).sz=1:=rfl;refine T.rx ag follows [0,1,2,3,4,5,6,10,11,13,7,8,9,12,14,15,16,17,18] [(9,12),(9,14)] GK ?_;simp[hC,bO];rw[ew];refine RX.di [0] [0] 1 (Y9) rfl xr rfl rfl rfl rfl xr Qe Qd rfl rfl rfl xr ?_;simp[OT,OS];refine RX.jG 3 5 [0,1,5] [0] 4 (nO L hL vars SN gs ms fs.length lf ar j.2 Qn) rfl xr rfl rfl rfl xr yA xr xr rfl xr Tz rfl xr xr xr rfl xr ?_;simp[bA,Dx];refine aa.le (Le.nz [] [7]) ?_;simp;refine aa.trim [12,11,2,13,6,0,3] [0,1,2,3,4,5,6,7] 8 (by simp[gK,-all_eq_true,-all_flatMap,gG]) yA ⟨[],.iX (vars.getD j.1 eS) (dH L ar vars j.2).1,?_,?_⟩
    ·rw[<- PO];rfl
    ·rw[<- PO];simp[iD,lh,eS,gK,OT]
   have h4:¬ (k.1=8/\0<vars.length):=by simpa using h
   rw[if_neg h4] at PO
      /- a call? -/
   refine T.cut (λ s=>s=⟨[(143,.bool (decide (k.1=9\/k.1=10))),(14,I k.1),(12,.int .i64 ((n1:Int)+1)),(11,.bg 6 0 out.length),(2,.bg 5 0 vars.length),(13,.ax 7 0),(6,.ax 4 0),(0,.ax 1 0),(3,I deep)],
    [(0,aI L k.2),(1,bO gs ms fs.length lf ar),(2,dr fs),(3,bw Pn),(4,⟨136,0,gK nm ps bc bn⟩),(5,bw vars),(6,jK out),(7,⟨207,0,Dx⟩)],8⟩) ?_ ?_
   ·by_cases h9:k.1=9
    ·apply aG;simp[hC,h9];refine aa.trim [143,14,12,11,2,13,6,0,3] [0,1,2,3,4,5,6,7] 8 Wc yA ?_;simp
    ·apply aG;simp[hC,h9];refine aa.trim [143,14,12,11,2,13,6,0,3] [0,1,2,3,4,5,6,7] 8 Wc yA ?_;simp
   rintro s rfl;refine T.bB rfl (λ h=>?_) (λ h=>?_)
   ·have h5:k.1=9\/k.1=10:=by simpa using h
    have U8:gY ⟨L,ar,ms,fs.map λ f=>(f.name,f.params)⟩ ps vars (decide (k.1=10)) k.2 lf=B:=by
     by_cases h9:k.1=9
     ·rw[if_pos h9] at PO;rw[<- PO];simp[h9]
     ·have Yh:k.1=10:=by omega
      rw[if_neg h9,if_pos Yh] at PO;rw[<- PO];simp[Yh]
    simp only[gY,length_map] at U8;apply aq;simp[hC,Dx];refine T.cut (λ s=>s=⟨[(12,.int .i64 ((n1:Int)+1)),(11,.bg 6 0 out.length),(2,.bg 5 0 vars.length),(13,.ax 7 0),(6,.ax 4 0),(0,.ax 1 0),(3,I deep)],
     [(0,aI L k.2),(1,bO gs ms fs.length lf ar),(2,dr fs),(3,bw Pn),(4,⟨136,0,gK nm ps bc bn⟩),(5,bw vars),(6,jK out),(7,⟨207,0,stK (if k.1=10 then 4 else 3)⟩)],8⟩) ?_ ?_
    ·apply aq;simp[hC];refine T.bB rfl (λ h=>?_) (λ h=>?_)
     ·have Yh:k.1=10:=by simpa using h
      apply aG;simp[hC];refine aa.trim [12,11,2,13,6,0,3] [0,1,2,3,4,5,6,7] 8 Yl yA ?_;simp[Yh,stK]
     ·have Yh:¬ k.1=10:=by simpa using h
      apply T.skip;simp;refine aa.trim [12,11,2,13,6,0,3] [0,1,2,3,4,5,6,7] 8 Yl yA ?_;simp[Yh,stK]
    rintro s rfl;have OT:=dF L k.2 Qq;have Y9:=cT L k.2 fs.length PH hL Qq yA;have Qn:=bu L fs.length PH;obtain⟨j,hj⟩:∃ j,cA L k.2 fs.length=j:=⟨_,rfl⟩;rw[hj] at OT Y9 Qn;simp only[hj] at U8;obtain⟨g,hg⟩:∃ g,fs[j.1]? = some g:=⟨fs[j.1],getElem?_eq_getElem OT⟩;have Sj:(fs.map λ f=>(f.name,f.params)).getD j.1 (eS,[])=(g.name,g.params):=by simp[getD,hg]
    simp only[Sj] at U8;have hgp:=SE g (mem_of_getElem? hg);have OS:(dr fs).cells.drop (j.1*3)=fD g++(fs.drop (j.1+1)).flatMap fD:=aH (f:=fD) (n:=3) (λ _=>rfl) hg;have UE:(dr fs).sz=3:=rfl;have O2:(dr fs).cells.length=fs.length*3:=aA (f:=fD) (n:=3) (λ _=>rfl) fs;apply T.seq;refine T.rx ag follows [0,1,2,3,4,5,6,7,8,9,10,11,12,13,14,18,15,16,17,19] [(4,18),(4,15),(8,18),(13,18),(18,15),(18,17)] GK ?_;simp[hC,bO];rw[ew];refine RX.di [0] [0] 1 (Y9) rfl xr rfl rfl rfl rfl xr Qe Qd rfl rfl rfl xr ?_;simp[OT,OS,fD];refine T.rx ag follows [0,1,2,3,4,5,7,6,8,9,10] [(1,6)] GK ?_;simp[hC,gK];refine RX.jG 3 5 [0,1,5] [0] 4 (Gp L hL vars SN gs ms hm Tc O0 fs.length lf ar j.2 Qn nm ps hp bc bn g.name g.params hgp (bS g.body) g.body.length) rfl xr rfl rfl rfl xr yA xr xr rfl xr Tz rfl xr xr xr rfl xr ?_;simp[stK];refine aa.le (Le.nz [] [7]) ?_;simp;refine aa.trim [12,11,2,13,6,0,3] [0,1,2,3,4,5,6,7] 8 RY yA ⟨[],.en (decide (k.1=10)) g.name (dB L ar ms ps vars g.params j.2).1,?_,?_⟩
    ·rw[<- U8];rfl
    ·rw[<- U8];simp[iD,lh,a8,eS,gK,sI]
   have h5:¬ k.1=9/\¬ k.1=10:=by simpa using h
   rw[if_neg h5.1,if_neg h5.2] at PO
      /- a condition? -/
   refine T.cut (λ s=>s=⟨[(181,.bool (decide (k.1=11/\0<deep))),(14,I k.1),(12,.int .i64 ((n1:Int)+1)),(11,.bg 6 0 out.length),(2,.bg 5 0 vars.length),(13,.ax 7 0),(6,.ax 4 0),(0,.ax 1 0),(3,I deep)],
    [(0,aI L k.2),(1,bO gs ms fs.length lf ar),(2,dr fs),(3,bw Pn),(4,⟨136,0,gK nm ps bc bn⟩),(5,bw vars),(6,jK out),(7,⟨207,0,Dx⟩)],8⟩) ?_ ?_
   ·by_cases h9:k.1=11
    ·apply aG;simp[hC,h9];refine aa.trim [181,14,12,11,2,13,6,0,3] [0,1,2,3,4,5,6,7] 8 Wc yA ?_;simp
    ·apply aG;simp[hC,h9];refine aa.trim [181,14,12,11,2,13,6,0,3] [0,1,2,3,4,5,6,7] 8 Wc yA ?_;simp
   rintro s rfl;refine T.bB rfl (λ h=>?_) (λ h=>?_)
   ·have h6:k.1=11/\0<deep:=by simpa using h
    rw[if_pos h6] at PO;obtain⟨d,rfl⟩:∃ d,deep=d+1:=⟨deep-1,by omega⟩;have Qa:((d+1:Nat):Int)-1=(d:Int):=by omega
    have wd:=cw (d:Int) yA yA;have Qn:=ku L ar vars PH;simp only[Oz,Nat.add_sub_cancel] at PO;have R3:=YF lf yA vars d 3 (dH L ar vars k.2).2 yA yA yA yA yA Qn;obtain⟨Ts,UQ⟩:=VL vars d 3 (dH L ar vars k.2).2 lf Qn;obtain⟨th,SO⟩:∃ th,rec vars d 3 (dH L ar vars k.2).2 lf=th:=⟨_,rfl⟩;rw[SO] at R3 Ts UQ;simp only[SO] at PO;apply T.seq;refine T.rx ag follows [0,1,3,4,5,6,7,9,2,8,10,11,12,13,14] [(4,2)] GK ?_;simp[hC,wd,gK];refine RX.jG 3 5 [0,1,5] [0] 4 (nO L hL vars SN gs ms fs.length lf ar k.2 PH) rfl xr rfl rfl rfl xr yA xr xr rfl xr Tz rfl xr xr xr rfl xr ?_;simp;refine RX.jG 3 5 [0,1,2,5] [0,1] 4 (R3) rfl xr rfl rfl rfl xr yA xr xr rfl xr Tz rfl xr xr xr rfl xr ?_;simp[Dx,bA];have Zd:=cT L th.2.1 2 Ts hL yA yA;have Vp:=bu L 2 Ts;obtain⟨c,hc⟩:∃ c,cA L th.2.1 2=c:=⟨_,rfl⟩;rw[hc] at Zd Vp;simp only[hc] at PO;refine T.le (Le.trim [12,11,2,13,6,0,3] [0,1,2,3,4,5,6,7] 8 Ym yA) ?_;simp;apply aq;simp[hC,bO];refine TL.di ag [0] 1 (Zd) OU rfl rfl rfl rfl xr Qe Qd rfl (TL.go' ag ?_);simp[hC];have ew2:(⟨128,0,[CV.ax 0 0,CV.au (gs.flatMap pE) gs.length,CV.au (ms.flatMap cI) ms.length,CV.bg 2 0 fs.length,I th.2.2,CV.bool ar]⟩:Ob)=bO gs ms fs.length th.2.2 ar:=rfl;rw[ew2];refine T.bB rfl (λ h=>?_) (λ h=>?_)
    ·have Sv:c.1=1:=by simpa using h
     rw[if_pos Sv] at PO;have O7:=YF th.2.2 yA vars d 3 c.2 yA yA yA yA yA Vp;obtain⟨el,S0⟩:∃ el,rec vars d 3 c.2 th.2.2=el:=⟨_,rfl⟩;rw[S0] at O7;simp only[S0] at PO;apply aG;simp[hC,wd];refine TL.jG ag 3 5 [0,1,2,5] 4 (O7) OU rfl rfl rfl xr yA xr xr rfl xr Tz rfl xr xr (TL.go' ag ?_);simp[hC,bA];refine aa.le (Le.nz [] [7]) ?_;simp;refine aa.trim [12,11,2,13,6,0,3] [0,1,2,3,4,5,6,7] 8 Ym yA ⟨[],.lO (dH L ar vars k.2).1 th.1 el.1,?_,?_⟩
     ·rw[<- PO];rfl
     ·rw[<- PO];simp[iD,lh,eS,gK]
    ·have Sv:¬ c.1=1:=by simpa using h
     rw[if_neg Sv] at PO;apply T.skip;simp;refine aa.le (Le.nz [] [7]) ?_;simp;refine aa.trim [12,11,2,13,6,0,3] [0,1,2,3,4,5,6,7] 8 Ym yA ⟨[],.lO (dH L ar vars k.2).1 th.1 [],?_,?_⟩
     ·rw[<- PO];rfl
     ·rw[<- PO];simp[iD,lh,eS,gK,bS]
   have h6:¬ (k.1=11/\0<deep):=by simpa using h
   rw[if_neg h6] at PO
      /- a loop? -/
   refine T.cut (λ s=>s=⟨[(213,.bool (decide (k.1=12/\0<deep))),(14,I k.1),(12,.int .i64 ((n1:Int)+1)),(11,.bg 6 0 out.length),(2,.bg 5 0 vars.length),(13,.ax 7 0),(6,.ax 4 0),(0,.ax 1 0),(3,I deep)],
    [(0,aI L k.2),(1,bO gs ms fs.length lf ar),(2,dr fs),(3,bw Pn),(4,⟨136,0,gK nm ps bc bn⟩),(5,bw vars),(6,jK out),(7,⟨207,0,Dx⟩)],8⟩) ?_ ?_
   ·by_cases h9:k.1=12
    ·apply aG;simp[hC,h9];refine aa.trim [213,14,12,11,2,13,6,0,3] [0,1,2,3,4,5,6,7] 8 Wc yA ?_;simp
    ·apply aG;simp[hC,h9];refine aa.trim [213,14,12,11,2,13,6,0,3] [0,1,2,3,4,5,6,7] 8 Wc yA ?_;simp
   rintro s rfl;refine T.bB rfl (λ h=>?_) (λ h=>?_)
   ·have h7:k.1=12/\0<deep:=by simpa using h
    rw[if_pos h7] at PO;obtain⟨d,rfl⟩:∃ d,deep=d+1:=⟨deep-1,by omega⟩;have Qa:((d+1:Nat):Int)-1=(d:Int):=by omega
    have wd:=cw (d:Int) yA yA;have Qn:=ku L ar vars PH;simp only[NJ,Nat.add_sub_cancel] at PO;have R3:=YF lf yA vars d 3 (dH L ar vars k.2).2 yA yA yA yA yA Qn;obtain⟨th,SO⟩:∃ th,rec vars d 3 (dH L ar vars k.2).2 lf=th:=⟨_,rfl⟩;rw[SO] at R3;simp only[SO] at PO;refine T.rx ag follows [0,1,3,4,5,6,7,9,2,8,10,11,12,13,14] [(4,2)] GK ?_;simp[hC,wd,gK];refine RX.jG 3 5 [0,1,5] [0] 4 (nO L hL vars SN gs ms fs.length lf ar k.2 PH) rfl xr rfl rfl rfl xr yA xr xr rfl xr Tz rfl xr xr xr rfl xr ?_;simp;refine RX.jG 3 5 [0,1,2,5] [0,1] 4 (R3) rfl xr rfl rfl rfl xr yA xr xr rfl xr Tz rfl xr xr xr rfl xr ?_;simp[Dx,bA];refine aa.le (Le.nz [] [7]) ?_;simp;refine aa.trim [12,11,2,13,6,0,3] [0,1,2,3,4,5,6,7] 8 Ym yA ⟨[],.dh (dH L ar vars k.2).1 th.1,?_,?_⟩
    ·rw[<- PO];rfl
    ·rw[<- PO];simp[iD,lh,eS,gK]
   have h7:¬ (k.1=12/\0<deep):=by simpa using h
   rw[if_neg h7] at PO
      /- the end, or statements between a lock and its unlock -/
   obtain⟨i2,SZ⟩:∃ i2,(if k.1=13 then (cA L k.2 3).2 else k.2)=i2:=⟨_,rfl⟩;have Wu:i2<=L.length:=by
    rw[<- SZ];split
    ·exact bu _ _ PH
    ·exact PH
   refine T.cut (λ s=>s=⟨[(232,.bool (decide (k.1=13/\(cA L k.2 3).1=1))),(12,.int .i64 ((n1:Int)+1)),(11,.bg 6 0 out.length),(2,.bg 5 0 vars.length),(13,.ax 7 0),(6,.ax 4 0),(0,.ax 1 0),(3,I deep)],
    [(0,aI L i2),(1,bO gs ms fs.length lf ar),(2,dr fs),(3,bw Pn),(4,⟨136,0,gK nm ps bc bn⟩),(5,bw vars),(6,jK out),(7,⟨207,0,Dx⟩)],8⟩) ?_ ?_
   ·by_cases h9:k.1=13
    ·rw[if_pos h9] at SZ;apply aG;simp[hC,h9,bO];refine TL.di ag [0] 1 (cT L k.2 3 PH hL yA yA) OU rfl rfl rfl rfl xr Qe Qd rfl (TL.go' ag ?_);simp[hC];refine aa.trim [232,12,11,2,13,6,0,3] [0,1,2,3,4,5,6,7] 8 Wc yA ?_;simp[SZ]
    ·rw[if_neg h9] at SZ;apply aG;simp[hC,h9];refine aa.trim [232,12,11,2,13,6,0,3] [0,1,2,3,4,5,6,7] 8 Wc yA ?_;simp[SZ]
   rintro s rfl;refine T.bB rfl (λ h=>?_) (λ h=>?_)
   ·have h8:k.1=13/\(cA L k.2 3).1=1:=by simpa using h
    rw[if_pos h8] at PO;rw[if_pos h8.1] at SZ;apply aG;simp[hC,Dx];refine aa.le (Le.nz [] [7]) ?_;simp;refine aa.trim [12,11,2,13,6,0,3] [0,1,2,3,4,5,6,7] 8 Yl yA ⟨[],.jJ,?_,?_⟩
    ·rw[<- PO];rfl
    ·rw[<- PO,<- SZ];simp[iD,lh,a8,eS,gK]
   have h8:¬ (k.1=13/\(cA L k.2 3).1=1):=by simpa using h
   rw[if_neg h8] at PO;have U8:Bt ⟨L,ar,ms,fs.map λ f=>(f.name,f.params)⟩ rec ps vars i2 lf=B:=by
    rw[<- PO,<- SZ];by_cases h9:k.1=13
    ·rw[if_pos h9,if_pos h9]
    ·rw[if_neg h9,if_neg h9]
   simp only[Bt] at U8;have Vo:=qD L ar ms ps vars Wu;obtain⟨rf,Y3⟩:∃ rf,jB L ar ms ps vars i2=rf:=⟨_,rfl⟩;have Rw:=uu L hL vars SN gs ms hm Tc O0 fs.length lf ar i2 Wu nm ps hp bc bn;rw[Y3] at Rw Vo;simp only[Y3] at U8;have OZ:=YF lf yA vars 0 2 rf.2 yA yA yA yA yA Vo;obtain⟨_,UQ⟩:=VL vars 0 2 rf.2 lf Vo;obtain⟨th,SO⟩:∃ th,rec vars 0 2 rf.2 lf=th:=⟨_,rfl⟩;rw[SO] at OZ UQ;simp only[SO] at U8;apply aq;simp[hC,gK];refine TL.jG ag 3 5 [0,1,5] 4 (Rw) OU rfl rfl rfl xr yA xr xr rfl xr Tz rfl xr xr (TL.go' ag ?_);simp[hC,ld,Dx];apply aq;simp[hC];have Uj:=nU out;have Tg:(out.length+1)*192<=140737488355328:=by omega
   have Q0:(out.length+1+th.1.length)*192<=140737488355328:=by omega
   have hst1:=nU th.1;have hln:(out.length+1)*11=out.length*11+11:=by omega
   apply aq;simp[hC,jK,Uj,Tg,aS];apply aq;simp[hC];refine TL.jG ag 3 5 [0,1,2,5] 4 (OZ) OU rfl rfl rfl xr yA xr xr rfl xr Tz rfl xr xr (TL.go' ag ?_);simp[hC,Uj,hst1,Q0,hln];apply aG;simp[hC];refine aa.le (Le.trim [12,11,2,13,6,0,3] [0,1,2,3,4,5,7,11] 12 yDx yA) ?_;simp;refine aa.le (Le.nz [] [7,11]) ?_;simp;refine aa.le (Le.ph 11 6 rfl rfl yA xr xr (by simp[aI,ints,bO,-all_eq_true,-all_flatMap,bC (bU out),bC (bU th.1)])) ?_;simp[aI,ints,bO,bm (bU out),bm (bU th.1)];refine aa.trim [12,11,2,13,6,0,3] [0,1,2,3,4,5,6,7] 8 yDx yA ⟨.dP false rf.1::th.1,.dP true rf.1,?_,?_⟩
   ·rw[<- U8]
   ·rw[<- U8];have e1:out.length+1+th.1.length=out.length+(th.1.length+1):=by omega
    simp[iD,ld,a8,eS,gK,jK,uW,bS,aI,ints,bO,e1]
  ·rintro s ⟨front,last,SS,rfl⟩;have PS:(out++front).length<=2000:=by
    have:=Pk.n;rw[SS] at this;simp at this |-;omega
   have VK:=nU (out++front);generalize hO:out++front=O at PS VK;have hb:(O.length+1)*192<=140737488355328:=by omega
   have wn:=cw (n1:Int) yA yA;apply aG;simp[hC,jK,kN,aS,VK,hb,Gz];apply aG;simp[hC,wn];refine⟨n1,by omega,aa.le (Le.trim [12,11,2,6,0,3] [0,1,2,3,4,5,9] 10 (by simp[aI,bO,gK,-all_eq_true,-all_flatMap,aj (bU O),aj (iS last)]) yA) ?_⟩;simp;refine aa.le (Le.ph 9 6 rfl rfl yA xr xr (by simp[aI,ints,bO,gK,-all_eq_true,-all_flatMap,bC (bU O),bC (iS last)])) ?_;simp[aI,ints,bO,gK,bm (bU O),bm (iS last)];refine aa.trim [12,11,2,6,0,3] [0,1,2,3,4,5,6] 7 (by simp[-all_eq_true,-all_flatMap,aj (bU O),aj (iS last)]) yA ⟨B.vars,B.i,B.left,out++B.out,?_,Pk.i,?_,?_,?_,by omega,?_⟩
   ·rw[hR,append_assoc]
   ·have:=Pk.l;omega
   ·have:=Pk.v;omega
   ·have:=Pk.n;simp;omega
   ·have e1:out++B.out=O++[last]:=by rw[SS,<- append_assoc,hO]
    rw[e1];simp[jK,uW,bS,aI,ints,bO,gK]
end Go.Proofs.YtlkmbdfhdknlgaaGreat
