/- writer.block. -/
import Derived.Test.YtlkmbdfhdknlgaaGreatZ22
namespace Go.Proofs.YtlkmbdfhdknlgaaGreat
open Go.Can Go.aJ List
def di (fs:List Fu):Ob:=⟨136,3,fs.flatMap fL⟩
def jQ (l:List Sm):Ob:=⟨207,11,bO l⟩
def qW (L:List Int)(ar:Bool)(ms:List Mx)(fs:List Fu):Wr:=⟨L,ar,ms,fs.map λ f=>(f.name,f.params)⟩
theorem iZ (x:Sm):trees (iR x)=true:=by
 cases x with
 | dP u r=>rcases r with ⟨_,_ | _⟩<;>rfl
 | iz s e=>cases e<;>rfl
 | jd s e=>cases e<;>rfl
 | mf e _ _=>cases e<;>rfl
 | cS e _=>cases e<;>rfl
 | _=>rfl
theorem bQ (l:List Sm):trees (bO l)=true:=by
 induction l with
 | nil=>rfl
 | cons a r ih=>rw[bO,bg,ih,iZ];rfl
theorem oD (l:List Sm):(bO l).length=l.length*11:=by rw[pB];exact aC (f:=iR) lg l
theorem wB:∀ a b:List Sm,bO (a++b)=bO a++bO b
 | [],b=>rfl
 | x::r,b=>by rw[cons_append,bO,bO,wB r b,append_assoc]
theorem IZ (x:Sm):take 11 (iR x)=iR x:=take_of_length_le (by simp[lg])
theorem cV (fs:List Fu):trees (fs.flatMap fL)=true:=by
 induction fs with
 | nil=>rfl
 | cons a r ih=>rw[flatMap_cons,bg,ih];rfl
theorem Nj (fs:List Fu)(o:Nat)(cs:List CV)(n:Nat):(fs.flatMap fL).map (cw o cs n)=fs.flatMap fL:=by
 induction fs with
 | nil=>rfl
 | cons a r ih=>rw[flatMap_cons,map_append,ih];rfl
@[simp] theorem fsOb_frz (l:List Fu)(o:Nat)(cs:List CV)(n:Nat):(⟨(di l).elem,(di l).sz,(di l).cells.map (cw o cs n)⟩:Ob)=di l:=by
 simp only[di,Nj]
@[simp] theorem QX (ρ:Nat->Nat)(l:List Fu):bh ρ (di l)=di l:=by
 simp only[bh,di,af ρ _ (cV l)]
@[simp] theorem Nh (l:List Fu)(n:Nat):(di l).cells.all (aU n)=true:=ai (cV l) n
@[simp] theorem fsOb_lts (l:List Fu)(n:Nat):ba n (di l).cells=true:=by rw[aT];exact ai (cV l) n
@[simp] theorem fsOb_ok1 (l:List Fu)(o q:Nat):(di l).cells.all (od o q)=true:=bw (cV l) o q
@[simp] theorem HV (l:List Fu)(o q:Nat):(di l).cells.map (dC o q)=(di l).cells:=bl (cV l) o q
@[simp] theorem fsOb_eta (l:List Fu):(⟨(di l).elem,(di l).sz,(di l).cells⟩:Ob)=di l:=rfl
@[simp] theorem RC (l:List Fu)(n o q:Nat):(di l).cells.all (aU n∘dC o q)=true:=by rw[<- all_map,HV];exact Nh l n
@[simp] theorem Mf (l:List Sm)(n:Nat):(jQ l).cells.all (aU n)=true:=ai (bQ l) n
@[simp] theorem smOb_ok1 (l:List Sm)(o q:Nat):(jQ l).cells.all (od o q)=true:=bw (bQ l) o q
@[simp] theorem Hg (l:List Sm)(o q:Nat):(jQ l).cells.map (dC o q)=(jQ l).cells:=bl (bQ l) o q
@[simp] theorem smOb_eta (l:List Sm):(⟨(jQ l).elem,(jQ l).sz,(jQ l).cells⟩:Ob)=jQ l:=rfl
@[simp] theorem QU (l:List Sm)(n o q:Nat):(jQ l).cells.all (aU n∘dC o q)=true:=by rw[<- all_map,Hg];exact Mf l n
section
variable (L:List Int)(gs:List Gl)(ms:List Mx)(ar:Bool)(fs:List Fu)(nm:ByteArray)(ps:List Pm)(bc:List CV)(bn:Nat)(Sj:List ByteArray)(rec:Rec)(deep f:Nat)(RES:List Sm×Nat×Nat)
def J56 (m:Nat)(s:St):Prop:=∃ (vars:List ByteArray) (i left:Nat) (out:List Sm),RES=(out++(uZ (qW L ar ms fs) rec ps deep m vars i left).1,(uZ (qW L ar ms fs) rec ps deep m vars i left).2)/\
 i<=L.length/\left<=f/\vars.length+left<=500/\out.length+2*left<=1000/\m<=10/\
 s=⟨[(12,I m),(11,.bb 6 0 out.length),(2,.bb 5 0 vars.length),(6,.aw 4 0),(0,.aw 1 0),(3,I deep)],
  [(0,aG L i),(1,bK gs ms fs.length left ar),(2,di fs),(3,bt Sj),(4,⟨136,0,g7 nm ps bc bn⟩),(5,bt vars),(6,jQ out)],7⟩
def K56 (m:Nat)(out:List Sm)(b:OW)(s:St):Prop:=∃ (front:List Sm) (last:Sm),b.out=front++[last]/\
 s=⟨[(12,I m),(11,.bb 6 0 (out++front).length),(2,.bb 5 0 b.vars.length),(13,.aw 7 0),(6,.aw 4 0),(0,.aw 1 0),(3,I deep)],
  [(0,aG L b.i),(1,bK gs ms fs.length b.left ar),(2,di fs),(3,bt Sj),(4,⟨136,0,g7 nm ps bc bn⟩),(5,bt b.vars),(6,jQ (out++front)),(7,⟨207,0,iR last⟩)],8⟩
end
@[simp] theorem RE (e:Ex)(a b c d f:CV):take 7 (bf e++[a,b,c,d,f])=bf e++[a,b,c]:=by cases e<;>rfl
@[simp] theorem RH (e:Ex)(a b c d f:CV):drop 8 (bf e++[a,b,c,d,f])=[f]:=by cases e<;>rfl
@[simp] theorem RD (e:Ex)(a b c d f:CV):take 8 (bf e++[a,b,c,d,f])=bf e++[a,b,c,d]:=by cases e<;>rfl
@[simp] theorem RG (e:Ex)(a b c d f:CV):drop 9 (bf e++[a,b,c,d,f])=[]:=by cases e<;>rfl
@[simp] theorem nz_smsC (l:List Sm):(bO l).map nz=bO l:=by
 induction l with
 | nil=>rfl
 | cons a r ih=>
  rw[bO,map_append,ih];congr 1
  cases a with
  | dP u r=>rcases r with ⟨_,_ | _⟩<;>rfl
  | iz s e=>cases e<;>rfl
  | jd s e=>cases e<;>rfl
  | mf e _ _=>cases e<;>rfl
  | cS e _=>cases e<;>rfl
  | _=>rfl
def stK (c:Int):List CV:=[I c,.str ⟨#[]⟩,.int .i64 0,.int .i64 0,.str ⟨#[]⟩,.aj,.str ⟨#[]⟩,.aj,.aj,.aj,.aj]
def FH:List CV:=[I 5,.str ⟨#[]⟩,.int .i64 0,.int .i64 0,.str ⟨#[]⟩,.aj,.str ⟨#[]⟩,.aj,.aj,.aj,.aj]
set_option maxHeartbeats 8000000 in
theorem G4 (L:List Int)(hL:L.length<=1000)(gs:List Gl)(ms:List Mx)(hm:0<ms.length)(XQ:ms.length<=100)(R0:∀ m∈ms,m.size<=1000)(ar:Bool)(fs:List Fu)(Th:0<fs.length)(hfs2:fs.length<=100)(Vr:∀ f∈fs,f.params.length<=100)
  (nm:ByteArray) (ps:List Pm) (hp:ps.length<=100) (bc:List CV) (bn:Nat):∀ (left f:Nat) (vars:List ByteArray) (deep most i:Nat),left<=f->left<=100->vars.length+left<=500->deep<=10->most<=9->i<=L.length ->
  Body Tryz.prog av 66 [.aw 1 0,.agg (g7 nm ps bc bn),.bb 3 0 vars.length,I deep,I most] [(0,aG L i),(1,bK gs ms fs.length left ar),(2,di fs),(3,bt vars)] 4
   (jC (.ax (bO (oq (qW L ar ms fs) ps f vars deep most i left).1) (oq (qW L ar ms fs) ps f vars deep most i left).1.length) [(0,aG L (oq (qW L ar ms fs) ps f vars deep most i left).2.1),(1,bK gs ms fs.length (oq (qW L ar ms fs) ps f vars deep most i left).2.2 ar),(2,di fs),(3,bt vars)] 4):=by
 intro Ub
 induction Ub using Nat.strongRecOn with
 | _ Ub ih=>
 intro f Sj deep most i0 hl hf Wd UL hmo Ym;generalize hRES:oq (qW L ar ms fs) ps f Sj deep most i0 Ub=RES;have X7:RES=uZ (qW L ar ms fs) (oq (qW L ar ms fs) ps (f-1)) ps deep (cq L i0 (most+1)).1 Sj (cq L i0 (most+1)).2 Ub:=by
  cases f with
  | zero=>
   have:Ub=0:=by omega
   subst this;rw[<- hRES]
   cases h:(cq L i0 (most+1)).1 with
   | zero=>simp[oq,uZ,qW]
   | succ n=>simp[oq,uZ,qW]
  | succ f=>rw[<- hRES];rfl
 clear hRES;have YF:ye L (oq (qW L ar ms fs) ps (f-1)):=vU (qW L ar ms fs) ps (f-1);have ih':=λ (left:Nat) (RS:left<Ub)=>ih left RS (f-1);clear ih;generalize hrec:oq (qW L ar ms fs) ps (f-1)=rec at ih' X7 YF;have ZV:(cq L i0 (most+1)).1<=most:=Nat.le_of_lt_succ (dE L i0 yA);have Sz:=bq L (most+1) Ym;have wm:=cF ((most:Int)+1) yA yA;refine Body.jv Tryz.func66 rfl Ix (by simp[Tryz.ntmps66]) λ C hC RR=>?_;rw[Tryz.ntmps66] at hC;apply aq;simp[hC,g7];apply aq;simp[hC];have hb0:Sj.length*16<=140737488355328:=by omega
 apply aq;simp[hC,bt,hb0];apply aW;simp[hC,wm,bK];refine TL.cU ah [0] 1 (cL L i0 (most+1) Ym hL yA yA) RT rfl rfl rfl rfl xr SZ SY rfl (TL.go' ah ?_);simp[hC];generalize cq L i0 (most+1)=k at ZV Sz X7;have R3:take Sj.length (Sj.map CV.str)=Sj.map CV.str:=take_of_length_le xr;simp only[R3];apply T.block;refine T.aH (J56 L gs ms ar fs nm ps bc bn Sj rec deep Ub RES) (n:=k.1) ?_ ?_
 ·refine aa.le (Le.own 11 207 11 rfl) ?_;simp;refine aa.le (Le.trim [12,11,2,6,0,3] [0,1,2,3,4,6,7] 8 (by simp[aG,di,-all_eq_true,-all_flatMap,ai (cV fs)]) yA) ?_;simp;refine aa.le (Le.p7 6 5 rfl rfl yA xr xr (by simp[aG,ints,di,-all_eq_true,-all_flatMap,bw (cV fs),bw (fe Sj)])) ?_;simp[bl (cV fs),bl (fe Sj),aG,di,ints];refine aa.le (Le.p7 7 6 rfl rfl yA xr xr (by simp[-all_eq_true,-all_flatMap,bw (cV fs),bw (fe Sj)])) ?_;simp[bl (cV fs),bl (fe Sj)];refine aa.trim [12,11,2,6,0,3] [0,1,2,3,4,5,6] 7 (by simp[-all_eq_true,-all_flatMap,ai (cV fs),ai (fe Sj)]) yA ⟨Sj,k.2,Ub,[],?_,Sz,Nat.le_refl _,Wd,?_,by omega,?_⟩
  ·rw[X7];rfl
  ·simp;omega
  ·simp[bt,aG,bK,di,jQ,ints,bO,g7]
 ·rintro n s ⟨vars,i,left,out,hR,hi,hle,hvl',Zl,hm10,rfl⟩;by_cases Uj:n=0
  ·subst Uj;have S0:RES=(out,i,left):=by rw[hR];simp[uZ]
   clear hR;apply aW;simp[hC];refine a9 ?_;simp;apply T.exit;simp;apply aq;simp[hC];apply T.ret;have hxt:(bO out).take (out.length*11)=bO out:=take_of_length_le (by rw[oD];exact Nat.le_refl _);refine aa.le (Le.trim [10] [0,1,2,3,6] 7 (by simp[aG,bK,-all_eq_true,-all_flatMap]) yA) ?_;simp;refine aa.le (Le.dn (o:=6) rfl (bQ out)) ?_;simp[jQ,hxt];refine aa.trim [10] [0,1,2,3] 4 (by simp[aG,bK,-all_eq_true,-all_flatMap]) yA ⟨_,?_,rfl,?_,rfl⟩
   ·simp[S0]
   ·simp[bK,bt,S0]
  obtain⟨n1,rfl⟩:∃ n1,n=n1+1:=⟨n-1,by omega⟩;by_cases UY:left=0
  ·subst UY;have S0:RES=(out,i,0):=by rw[hR];simp[uZ]
   clear hR;apply aW;simp[hC,bK];refine a9 ?_;simp;apply T.exit;simp;apply aq;simp[hC];apply T.ret;have hxt:(bO out).take (out.length*11)=bO out:=take_of_length_le (by rw[oD];exact Nat.le_refl _);refine aa.le (Le.trim [10] [0,1,2,3,6] 7 (by simp[aG,-all_eq_true,-all_flatMap]) yA) ?_;simp;refine aa.le (Le.dn (o:=6) rfl (bQ out)) ?_;simp[jQ,hxt];refine aa.trim [10] [0,1,2,3] 4 (by simp[aG,-all_eq_true,-all_flatMap]) yA ⟨_,?_,rfl,?_,rfl⟩
   ·simp[S0]
   ·simp[bt,S0]
  obtain⟨lf,rfl⟩:∃ lf,left=lf+1:=⟨left-1,by omega⟩;have hlp:uZ (qW L ar ms fs) rec ps deep (n1+1) vars i (lf+1)=((Bx (qW L ar ms fs) rec ps vars deep i lf).out++(uZ (qW L ar ms fs) rec ps deep n1 (Bx (qW L ar ms fs) rec ps vars deep i lf).vars (Bx (qW L ar ms fs) rec ps vars deep i lf).i (Bx (qW L ar ms fs) rec ps vars deep i lf).left).1,(uZ (qW L ar ms fs) rec ps deep n1 (Bx (qW L ar ms fs) rec ps vars deep i lf).vars (Bx (qW L ar ms fs) rec ps vars deep i lf).i (Bx (qW L ar ms fs) rec ps vars deep i lf).left).2):=by
   rw[uZ,if_neg yA];rfl
  rw[hlp] at hR;have wl:((lf+1:Nat):Int)-1=(lf:Int):=by omega
  have wlf:=cF (lf:Int) yA yA;apply aW;simp[hC,bK];refine gw ?_;simp;have RW:=Ja (w:=qW L ar ms fs) YF ps vars deep lf hi;generalize hB:Bx (qW L ar ms fs) rec ps vars deep i lf=B at RW hR hlp;clear hlp;apply eN;apply aq;simp[hC,wlf];apply aq;simp[hC];refine T.cut (K56 L gs ms ar fs nm ps bc bn Sj deep (n1+1) out B) ?_ ?_
  ·have Sz:=bq L 14 hi;have SA:=hB;have Te:=cL L i 14 hi hL yA yA;obtain⟨k,hk⟩:∃ k,cq L i 14=k:=⟨_,rfl⟩;simp only[Bx,qW,hk] at SA;rw[hk] at Sz Te;apply aq;simp[hC];refine TL.cU ah [0] 1 (Te) RT rfl rfl rfl rfl xr SZ SY rfl (TL.go' ah ?_);simp[hC];have VE:vars.length<=1000:=by omega
   refine T.le (Le.trim [14,12,11,2,13,6,0,3] [0,1,2,3,4,5,6,7] 8 (by simp[aG,g7,-all_eq_true,-all_flatMap]) yA) ?_;simp;have ew:(⟨128,0,[CV.aw 0 0,CV.ax (gs.flatMap qk) gs.length,CV.ax (ms.flatMap cH) ms.length,CV.bb 2 0 fs.length,.int .i64 lf,CV.bool ar]⟩:Ob)=bK gs ms fs.length lf ar:=rfl;rw[ew];apply T.block;apply aq;simp[hC];refine T.bu rfl (λ h=>?_) (λ h=>?_)
   ·have h1:k.1<4:=by simpa using h
    rw[if_pos h1] at SA;apply aN;simp[hC,g7];refine TL.jM ah 3 5 [0,1,5] 4 (vA L hL vars VE gs ms hm XQ R0 fs.length lf ar k.2 Sz nm ps hp bc bn) RT rfl rfl rfl xr yA xr xr rfl xr Wt rfl xr xr (TL.go' ah ?_);simp[hC,lN];refine aa.le (Le.nz [] [7]) ?_;simp;refine aa.trim [12,11,2,13,6,0,3] [0,1,2,3,4,5,6,7] 8 Vz yA ⟨[],.dP false (jH L ar ms ps vars k.2).1,?_,?_⟩
    ·rw[<- SA];rfl
    ·rw[<- SA];simp[iR,lN,bf,eS,g7]
   have h1:¬ k.1<4:=by simpa using h
   rw[if_neg h1] at SA;apply aq;simp[hC];refine T.bu rfl (λ h=>?_) (λ h=>?_)
   ·have h2:k.1<7:=by simpa using h
    rw[if_pos h2] at SA;apply aN;simp[hC,g7];refine TL.jM ah 3 5 [0,1,5] 4 (vA L hL vars VE gs ms hm XQ R0 fs.length lf ar k.2 Sz nm ps hp bc bn) RT rfl rfl rfl xr yA xr xr rfl xr Wt rfl xr xr (TL.go' ah ?_);simp[hC,lN];refine aa.le (Le.nz [] [7]) ?_;simp;refine aa.trim [12,11,2,13,6,0,3] [0,1,2,3,4,5,6,7] 8 Vz yA ⟨[],.dP true (jH L ar ms ps vars k.2).1,?_,?_⟩
    ·rw[<- SA];rfl
    ·rw[<- SA];simp[iR,lN,bf,eS,g7]
   have h2:¬ k.1<7:=by simpa using h
   rw[if_neg h2] at SA;apply aq;simp[hC];refine T.bu rfl (λ h=>?_) (λ h=>?_)
   ·have h3:k.1=7:=by simpa using h
    rw[if_pos h3] at SA;apply T.seq;obtain⟨a,ha⟩:∃ a,lf % 26=a:=⟨_,rfl⟩;obtain⟨q,hq⟩:∃ q,lf / 26=q:=⟨_,rfl⟩;obtain⟨b,hb⟩:∃ b,q % 26=b:=⟨_,rfl⟩;have Yg:fY lf=⟨#[118]⟩++⟨#[97+UInt8.ofNat a,97+UInt8.ofNat b]⟩:=by simp[fY,ha,hq,hb]
    have so:mr BinOp.add ⟨#[118]⟩ ⟨#[97+UInt8.ofNat a,97+UInt8.ofNat b]⟩=some (.str (fY lf)):=by rw[Yg];rfl
    have a1:(lf:Int).tmod 26=(a:Int):=by rw[Int.tmod_eq_emod_of_nonneg yA];omega
    have a2:=cF (97+(a:Int)) yA yA;have a3:IntKind.u8.wrap (97+(a:Int))=97+(a:Int):=IntWalk.u8_in _ yA;have a4:(0:Int)<=97+(a:Int)/\97+(a:Int)<256:=by omega
    have a5:(97+(a:Int)).toNat=97+a:=by omega
    have q1:IntKind.i64.wrap ((lf:Int) / 26)=(q:Int):=by rw[cF _ yA yA];omega
    have b1:(q:Int).tmod 26=(b:Int):=by rw[Int.tmod_eq_emod_of_nonneg yA];omega
    have b2:=cF (97+(b:Int)) yA yA;have b3:IntKind.u8.wrap (97+(b:Int))=97+(b:Int):=IntWalk.u8_in _ yA;have b4:(0:Int)<=97+(b:Int)/\97+(b:Int)<256:=by omega
    have b5:(97+(b:Int)).toNat=97+b:=by omega
    refine T.rx ah follows [0,1,3,4,5,6,7,8,9,10,11,12,13,14,15,16,17,18,19,20,21,2,22,23,24,25,26] [(6,2),(6,22),(6,24),(9,2),(9,22),(9,24),(13,2),(13,22),(13,24),(17,2),(17,22),(17,24),(18,2),(18,22),(18,24),(19,2),(19,22),(19,24)] Ix ?_;simp[hC,bK,a1,a2,a3,a4,a5,q1,b1,b2,b3,b4,b5,so];rw[ew];refine RX.jM 3 5 [0,1,5] [0] 4 (oy L hL vars VE gs ms fs.length lf ar k.2 Sz) rfl xr rfl rfl rfl xr yA xr xr rfl xr Wt rfl xr xr xr rfl xr ?_;simp[bA];have hbv:(vars.length+1)*16<=140737488355328:=by omega
    apply aN;simp[hC,bt,hbv];refine aa.le (Le.trim [12,11,2,13,6,0,3] [0,1,2,3,4,6,7,36] 37 (by simp[g7,-all_eq_true,-all_flatMap,gV]) yA) ?_;simp;refine aa.le (Le.p7 36 5 rfl rfl yA xr xr (by simp[aG,ints,bK,g7,-all_eq_true,-all_flatMap,AB])) ?_;simp[aG,ints,bK,g7];refine aa.le (Le.nz [] [7]) ?_;simp;refine aa.trim [12,11,2,13,6,0,3] [0,1,2,3,4,5,6,7] 8 yCo yA ⟨[],.iz (fY lf) (dH L ar vars k.2).1,?_,?_⟩
    ·rw[<- SA];rfl
    ·rw[<- SA];simp[iR,lP,eS,g7,bt,aG,ints,bK]
   have h3:¬ k.1=7:=by simpa using h
   rw[if_neg h3] at SA
      /- an assignment? -/
   refine T.cut (λ s=>s=⟨[(119,.bool (decide (k.1=8/\0<vars.length))),(14,I k.1),(12,.int .i64 ((n1:Int)+1)),(11,.bb 6 0 out.length),(2,.bb 5 0 vars.length),(13,.aw 7 0),(6,.aw 4 0),(0,.aw 1 0),(3,I deep)],
    [(0,aG L k.2),(1,bK gs ms fs.length lf ar),(2,di fs),(3,bt Sj),(4,⟨136,0,g7 nm ps bc bn⟩),(5,bt vars),(6,jQ out),(7,⟨207,0,FH⟩)],8⟩) ?_ ?_
   ·by_cases h8:k.1=8
    ·apply aN;simp[hC,h8];refine aa.trim [119,14,12,11,2,13,6,0,3] [0,1,2,3,4,5,6,7] 8 yCp yA ?_;simp[FH]
    ·apply aN;simp[hC,h8];refine aa.trim [119,14,12,11,2,13,6,0,3] [0,1,2,3,4,5,6,7] 8 yCp yA ?_;simp[FH]
   rintro s rfl;refine T.bu rfl (λ h=>?_) (λ h=>?_)
   ·have h4:k.1=8/\0<vars.length:=by simpa using h
    rw[if_pos h4] at SA;have RS:=dE L k.2 h4.2;have hnv:=cL L k.2 vars.length Sz hL h4.2 yA;have Tc:=bq L vars.length Sz;obtain⟨j,hj⟩:∃ j,cq L k.2 vars.length=j:=⟨_,rfl⟩;rw[hj] at RS hnv Tc;simp only[hj] at SA;have Qd:(bt vars).cells.drop j.1=.str (vars.getD j.1 eS)::(vars.map CV.str).drop (j.1+1):=ju RS;have XC:(bt vars).sz=1:=rfl;refine T.rx ah follows [0,1,2,3,4,5,6,10,11,13,7,8,9,12,14,15,16,17,18] [(9,12),(9,14)] Ix ?_;simp[hC,bK];rw[ew];refine RX.cU [0] [0] 1 (hnv) rfl xr rfl rfl rfl rfl xr SZ SY rfl rfl rfl xr ?_;simp[RS,Qd];refine RX.jM 3 5 [0,1,5] [0] 4 (oy L hL vars VE gs ms fs.length lf ar j.2 Tc) rfl xr rfl rfl rfl xr yA xr xr rfl xr Wt rfl xr xr xr rfl xr ?_;simp[bA,FH];refine aa.le (Le.nz [] [7]) ?_;simp;refine aa.trim [12,11,2,13,6,0,3] [0,1,2,3,4,5,6,7] 8 (by simp[g7,-all_eq_true,-all_flatMap,gV]) yA ⟨[],.jd (vars.getD j.1 eS) (dH L ar vars j.2).1,?_,?_⟩
    ·rw[<- SA];rfl
    ·rw[<- SA];simp[iR,lP,eS,g7,RS]
   have h4:¬ (k.1=8/\0<vars.length):=by simpa using h
   rw[if_neg h4] at SA
      /- a call? -/
   refine T.cut (λ s=>s=⟨[(143,.bool (decide (k.1=9\/k.1=10))),(14,I k.1),(12,.int .i64 ((n1:Int)+1)),(11,.bb 6 0 out.length),(2,.bb 5 0 vars.length),(13,.aw 7 0),(6,.aw 4 0),(0,.aw 1 0),(3,I deep)],
    [(0,aG L k.2),(1,bK gs ms fs.length lf ar),(2,di fs),(3,bt Sj),(4,⟨136,0,g7 nm ps bc bn⟩),(5,bt vars),(6,jQ out),(7,⟨207,0,FH⟩)],8⟩) ?_ ?_
   ·by_cases h9:k.1=9
    ·apply aN;simp[hC,h9];refine aa.trim [143,14,12,11,2,13,6,0,3] [0,1,2,3,4,5,6,7] 8 Y3 yA ?_;simp
    ·apply aN;simp[hC,h9];refine aa.trim [143,14,12,11,2,13,6,0,3] [0,1,2,3,4,5,6,7] 8 Y3 yA ?_;simp
   rintro s rfl;refine T.bu rfl (λ h=>?_) (λ h=>?_)
   ·have h5:k.1=9\/k.1=10:=by simpa using h
    have X9:iq ⟨L,ar,ms,fs.map λ f=>(f.name,f.params)⟩ ps vars (decide (k.1=10)) k.2 lf=B:=by
     by_cases h9:k.1=9
     ·rw[if_pos h9] at SA;rw[<- SA];simp[h9]
     ·have h10:k.1=10:=by omega
      rw[if_neg h9,if_pos h10] at SA;rw[<- SA];simp[h10]
    simp only[iq,length_map] at X9;apply aq;simp[hC,FH];refine T.cut (λ s=>s=⟨[(12,.int .i64 ((n1:Int)+1)),(11,.bb 6 0 out.length),(2,.bb 5 0 vars.length),(13,.aw 7 0),(6,.aw 4 0),(0,.aw 1 0),(3,I deep)],
     [(0,aG L k.2),(1,bK gs ms fs.length lf ar),(2,di fs),(3,bt Sj),(4,⟨136,0,g7 nm ps bc bn⟩),(5,bt vars),(6,jQ out),(7,⟨207,0,stK (if k.1=10 then 4 else 3)⟩)],8⟩) ?_ ?_
    ·apply aq;simp[hC];refine T.bu rfl (λ h=>?_) (λ h=>?_)
     ·have h10:k.1=10:=by simpa using h
      apply aN;simp[hC];refine aa.trim [12,11,2,13,6,0,3] [0,1,2,3,4,5,6,7] 8 yCp yA ?_;simp[h10,stK]
     ·have h10:¬ k.1=10:=by simpa using h
      apply T.skip;simp;refine aa.trim [12,11,2,13,6,0,3] [0,1,2,3,4,5,6,7] 8 yCp yA ?_;simp[h10,stK]
    rintro s rfl;have RS:=dE L k.2 Th;have hnv:=cL L k.2 fs.length Sz hL Th yA;have Tc:=bq L fs.length Sz;obtain⟨j,hj⟩:∃ j,cq L k.2 fs.length=j:=⟨_,rfl⟩;rw[hj] at RS hnv Tc;simp only[hj] at X9;obtain⟨g,hg⟩:∃ g,fs[j.1]? = some g:=⟨fs[j.1],getElem?_eq_getElem RS⟩;have Vc:(fs.map λ f=>(f.name,f.params)).getD j.1 (eS,[])=(g.name,g.params):=by simp[getD,hg]
    simp only[Vc] at X9;have hgp:=Vr g (mem_of_getElem? hg);have Qd:(di fs).cells.drop (j.1*3)=fL g++(fs.drop (j.1+1)).flatMap fL:=aI (f:=fL) (n:=3) (λ _=>rfl) hg;have XC:(di fs).sz=3:=rfl;have RY:(di fs).cells.length=fs.length*3:=aC (f:=fL) (n:=3) (λ _=>rfl) fs;apply T.seq;refine T.rx ah follows [0,1,2,3,4,5,6,7,8,9,10,11,12,13,14,18,15,16,17,19] [(4,18),(4,15),(8,18),(13,18),(18,15),(18,17)] Ix ?_;simp[hC,bK];rw[ew];refine RX.cU [0] [0] 1 (hnv) rfl xr rfl rfl rfl rfl xr SZ SY rfl rfl rfl xr ?_;simp[RS,Qd,fL];refine T.rx ah follows [0,1,2,3,4,5,7,6,8,9,10] [(1,6)] Ix ?_;simp[hC,g7];refine RX.jM 3 5 [0,1,5] [0] 4 (IM L hL vars VE gs ms hm XQ R0 fs.length lf ar j.2 Tc nm ps hp bc bn g.name g.params hgp (bO g.body) g.body.length) rfl xr rfl rfl rfl xr yA xr xr rfl xr Wt rfl xr xr xr rfl xr ?_;simp[stK];refine aa.le (Le.nz [] [7]) ?_;simp;refine aa.trim [12,11,2,13,6,0,3] [0,1,2,3,4,5,6,7] 8 Vz yA ⟨[],.eJ (decide (k.1=10)) g.name (dx L ar ms ps vars g.params j.2).1,?_,?_⟩
    ·rw[<- X9];rfl
    ·rw[<- X9];simp[iR,lP,bf,eS,g7,uH]
   have h5:¬ k.1=9/\¬ k.1=10:=by simpa using h
   rw[if_neg h5.1,if_neg h5.2] at SA
      /- a condition? -/
   refine T.cut (λ s=>s=⟨[(181,.bool (decide (k.1=11/\0<deep))),(14,I k.1),(12,.int .i64 ((n1:Int)+1)),(11,.bb 6 0 out.length),(2,.bb 5 0 vars.length),(13,.aw 7 0),(6,.aw 4 0),(0,.aw 1 0),(3,I deep)],
    [(0,aG L k.2),(1,bK gs ms fs.length lf ar),(2,di fs),(3,bt Sj),(4,⟨136,0,g7 nm ps bc bn⟩),(5,bt vars),(6,jQ out),(7,⟨207,0,FH⟩)],8⟩) ?_ ?_
   ·by_cases h9:k.1=11
    ·apply aN;simp[hC,h9];refine aa.trim [181,14,12,11,2,13,6,0,3] [0,1,2,3,4,5,6,7] 8 Y3 yA ?_;simp
    ·apply aN;simp[hC,h9];refine aa.trim [181,14,12,11,2,13,6,0,3] [0,1,2,3,4,5,6,7] 8 Y3 yA ?_;simp
   rintro s rfl;refine T.bu rfl (λ h=>?_) (λ h=>?_)
   ·have h6:k.1=11/\0<deep:=by simpa using h
    rw[if_pos h6] at SA;obtain⟨d,rfl⟩:∃ d,deep=d+1:=⟨deep-1,by omega⟩;have SU:((d+1:Nat):Int)-1=(d:Int):=by omega
    have wd:=cF (d:Int) yA yA;have Tc:=kN L ar vars Sz;simp only[RA,Nat.add_sub_cancel] at SA;have Xc:=ih' lf yA vars d 3 (dH L ar vars k.2).2 yA yA yA yA yA Tc;obtain⟨Wl,XS⟩:=YF vars d 3 (dH L ar vars k.2).2 lf Tc;obtain⟨th,VG⟩:∃ th,rec vars d 3 (dH L ar vars k.2).2 lf=th:=⟨_,rfl⟩;rw[VG] at Xc Wl XS;simp only[VG] at SA;apply T.seq;refine T.rx ah follows [0,1,3,4,5,6,7,9,2,8,10,11,12,13,14] [(4,2)] Ix ?_;simp[hC,wd,g7];refine RX.jM 3 5 [0,1,5] [0] 4 (oy L hL vars VE gs ms fs.length lf ar k.2 Sz) rfl xr rfl rfl rfl xr yA xr xr rfl xr Wt rfl xr xr xr rfl xr ?_;simp;refine RX.jM 3 5 [0,1,2,5] [0,1] 4 (Xc) rfl xr rfl rfl rfl xr yA xr xr rfl xr Wt rfl xr xr xr rfl xr ?_;simp[FH,bA];have hnc:=cL L th.2.1 2 Wl hL yA yA;have Yl:=bq L 2 Wl;obtain⟨c,hc⟩:∃ c,cq L th.2.1 2=c:=⟨_,rfl⟩;rw[hc] at hnc Yl;simp only[hc] at SA;refine T.le (Le.trim [12,11,2,13,6,0,3] [0,1,2,3,4,5,6,7] 8 yCo yA) ?_;simp;apply aq;simp[hC,bK];refine TL.cU ah [0] 1 (hnc) RT rfl rfl rfl rfl xr SZ SY rfl (TL.go' ah ?_);simp[hC];have ew2:(⟨128,0,[CV.aw 0 0,CV.ax (gs.flatMap qk) gs.length,CV.ax (ms.flatMap cH) ms.length,CV.bb 2 0 fs.length,I th.2.2,CV.bool ar]⟩:Ob)=bK gs ms fs.length th.2.2 ar:=rfl;rw[ew2];refine T.bu rfl (λ h=>?_) (λ h=>?_)
    ·have V0:c.1=1:=by simpa using h
     rw[if_pos V0] at SA;have R7:=ih' th.2.2 yA vars d 3 c.2 yA yA yA yA yA Yl;obtain⟨el,X0⟩:∃ el,rec vars d 3 c.2 th.2.2=el:=⟨_,rfl⟩;rw[X0] at R7;simp only[X0] at SA;apply aN;simp[hC,wd];refine TL.jM ah 3 5 [0,1,2,5] 4 (R7) RT rfl rfl rfl xr yA xr xr rfl xr Wt rfl xr xr (TL.go' ah ?_);simp[hC,bA];refine aa.le (Le.nz [] [7]) ?_;simp;refine aa.trim [12,11,2,13,6,0,3] [0,1,2,3,4,5,6,7] 8 yCo yA ⟨[],.mf (dH L ar vars k.2).1 th.1 el.1,?_,?_⟩
     ·rw[<- SA];rfl
     ·rw[<- SA];simp[iR,lP,eS,g7]
    ·have V0:¬ c.1=1:=by simpa using h
     rw[if_neg V0] at SA;apply T.skip;simp;refine aa.le (Le.nz [] [7]) ?_;simp;refine aa.trim [12,11,2,13,6,0,3] [0,1,2,3,4,5,6,7] 8 yCo yA ⟨[],.mf (dH L ar vars k.2).1 th.1 [],?_,?_⟩
     ·rw[<- SA];rfl
     ·rw[<- SA];simp[iR,lP,eS,g7,bO]
   have h6:¬ (k.1=11/\0<deep):=by simpa using h
   rw[if_neg h6] at SA
      /- a loop? -/
   refine T.cut (λ s=>s=⟨[(213,.bool (decide (k.1=12/\0<deep))),(14,I k.1),(12,.int .i64 ((n1:Int)+1)),(11,.bb 6 0 out.length),(2,.bb 5 0 vars.length),(13,.aw 7 0),(6,.aw 4 0),(0,.aw 1 0),(3,I deep)],
    [(0,aG L k.2),(1,bK gs ms fs.length lf ar),(2,di fs),(3,bt Sj),(4,⟨136,0,g7 nm ps bc bn⟩),(5,bt vars),(6,jQ out),(7,⟨207,0,FH⟩)],8⟩) ?_ ?_
   ·by_cases h9:k.1=12
    ·apply aN;simp[hC,h9];refine aa.trim [213,14,12,11,2,13,6,0,3] [0,1,2,3,4,5,6,7] 8 Y3 yA ?_;simp
    ·apply aN;simp[hC,h9];refine aa.trim [213,14,12,11,2,13,6,0,3] [0,1,2,3,4,5,6,7] 8 Y3 yA ?_;simp
   rintro s rfl;refine T.bu rfl (λ h=>?_) (λ h=>?_)
   ·have h7:k.1=12/\0<deep:=by simpa using h
    rw[if_pos h7] at SA;obtain⟨d,rfl⟩:∃ d,deep=d+1:=⟨deep-1,by omega⟩;have SU:((d+1:Nat):Int)-1=(d:Int):=by omega
    have wd:=cF (d:Int) yA yA;have Tc:=kN L ar vars Sz;simp only[QO,Nat.add_sub_cancel] at SA;have Xc:=ih' lf yA vars d 3 (dH L ar vars k.2).2 yA yA yA yA yA Tc;obtain⟨th,VG⟩:∃ th,rec vars d 3 (dH L ar vars k.2).2 lf=th:=⟨_,rfl⟩;rw[VG] at Xc;simp only[VG] at SA;refine T.rx ah follows [0,1,3,4,5,6,7,9,2,8,10,11,12,13,14] [(4,2)] Ix ?_;simp[hC,wd,g7];refine RX.jM 3 5 [0,1,5] [0] 4 (oy L hL vars VE gs ms fs.length lf ar k.2 Sz) rfl xr rfl rfl rfl xr yA xr xr rfl xr Wt rfl xr xr xr rfl xr ?_;simp;refine RX.jM 3 5 [0,1,2,5] [0,1] 4 (Xc) rfl xr rfl rfl rfl xr yA xr xr rfl xr Wt rfl xr xr xr rfl xr ?_;simp[FH,bA];refine aa.le (Le.nz [] [7]) ?_;simp;refine aa.trim [12,11,2,13,6,0,3] [0,1,2,3,4,5,6,7] 8 yCo yA ⟨[],.cS (dH L ar vars k.2).1 th.1,?_,?_⟩
    ·rw[<- SA];rfl
    ·rw[<- SA];simp[iR,lP,eS,g7]
   have h7:¬ (k.1=12/\0<deep):=by simpa using h
   rw[if_neg h7] at SA
      /- the end, or statements between a lock and its unlock -/
   obtain⟨i2,VU⟩:∃ i2,(if k.1=13 then (cq L k.2 3).2 else k.2)=i2:=⟨_,rfl⟩;have Zp:i2<=L.length:=by
    rw[<- VU];split
    ·exact bq _ _ Sz
    ·exact Sz
   refine T.cut (λ s=>s=⟨[(232,.bool (decide (k.1=13/\(cq L k.2 3).1=1))),(12,.int .i64 ((n1:Int)+1)),(11,.bb 6 0 out.length),(2,.bb 5 0 vars.length),(13,.aw 7 0),(6,.aw 4 0),(0,.aw 1 0),(3,I deep)],
    [(0,aG L i2),(1,bK gs ms fs.length lf ar),(2,di fs),(3,bt Sj),(4,⟨136,0,g7 nm ps bc bn⟩),(5,bt vars),(6,jQ out),(7,⟨207,0,FH⟩)],8⟩) ?_ ?_
   ·by_cases h9:k.1=13
    ·rw[if_pos h9] at VU;apply aN;simp[hC,h9,bK];refine TL.cU ah [0] 1 (cL L k.2 3 Sz hL yA yA) RT rfl rfl rfl rfl xr SZ SY rfl (TL.go' ah ?_);simp[hC];refine aa.trim [232,12,11,2,13,6,0,3] [0,1,2,3,4,5,6,7] 8 Y3 yA ?_;simp[VU]
    ·rw[if_neg h9] at VU;apply aN;simp[hC,h9];refine aa.trim [232,12,11,2,13,6,0,3] [0,1,2,3,4,5,6,7] 8 Y3 yA ?_;simp[VU]
   rintro s rfl;refine T.bu rfl (λ h=>?_) (λ h=>?_)
   ·have h8:k.1=13/\(cq L k.2 3).1=1:=by simpa using h
    rw[if_pos h8] at SA;rw[if_pos h8.1] at VU;apply aN;simp[hC,FH];refine aa.le (Le.nz [] [7]) ?_;simp;refine aa.trim [12,11,2,13,6,0,3] [0,1,2,3,4,5,6,7] 8 yCp yA ⟨[],.jP,?_,?_⟩
    ·rw[<- SA];rfl
    ·rw[<- SA,<- VU];simp[iR,lP,bf,eS,g7]
   have h8:¬ (k.1=13/\(cq L k.2 3).1=1):=by simpa using h
   rw[if_neg h8] at SA;have X9:De ⟨L,ar,ms,fs.map λ f=>(f.name,f.params)⟩ rec ps vars i2 lf=B:=by
    rw[<- SA,<- VU];by_cases h9:k.1=13
    ·rw[if_pos h9,if_pos h9]
    ·rw[if_neg h9,if_neg h9]
   simp only[De] at X9;have Yk:=rO L ar ms ps vars Zp;obtain⟨rf,hrf⟩:∃ rf,jH L ar ms ps vars i2=rf:=⟨_,rfl⟩;have Uq:=vA L hL vars VE gs ms hm XQ R0 fs.length lf ar i2 Zp nm ps hp bc bn;rw[hrf] at Uq Yk;simp only[hrf] at X9;have R4:=ih' lf yA vars 0 2 rf.2 yA yA yA yA yA Yk;obtain⟨_,XS⟩:=YF vars 0 2 rf.2 lf Yk;obtain⟨th,VG⟩:∃ th,rec vars 0 2 rf.2 lf=th:=⟨_,rfl⟩;rw[VG] at R4 XS;simp only[VG] at X9;apply aq;simp[hC,g7];refine TL.jM ah 3 5 [0,1,5] 4 (Uq) RT rfl rfl rfl xr yA xr xr rfl xr Wt rfl xr xr (TL.go' ah ?_);simp[hC,lN,FH];apply aq;simp[hC];have XE:=oD out;have Vl:(out.length+1)*192<=140737488355328:=by omega
   have TG:(out.length+1+th.1.length)*192<=140737488355328:=by omega
   have hst1:=oD th.1;have hln:(out.length+1)*11=out.length*11+11:=by omega
   apply aq;simp[hC,jQ,XE,Vl,aY];apply aq;simp[hC];refine TL.jM ah 3 5 [0,1,2,5] 4 (R4) RT rfl rfl rfl xr yA xr xr rfl xr Wt rfl xr xr (TL.go' ah ?_);simp[hC,XE,hst1,TG,hln];apply aN;simp[hC];refine aa.le (Le.trim [12,11,2,13,6,0,3] [0,1,2,3,4,5,7,11] 12 yDx yA) ?_;simp;refine aa.le (Le.nz [] [7,11]) ?_;simp;refine aa.le (Le.p7 11 6 rfl rfl yA xr xr (by simp[aG,ints,bK,-all_eq_true,-all_flatMap,bw (bQ out),bw (bQ th.1)])) ?_;simp[aG,ints,bK,bl (bQ out),bl (bQ th.1)];refine aa.trim [12,11,2,13,6,0,3] [0,1,2,3,4,5,6,7] 8 yDx yA ⟨.dP false rf.1::th.1,.dP true rf.1,?_,?_⟩
   ·rw[<- X9]
   ·rw[<- X9];have e1:out.length+1+th.1.length=out.length+(th.1.length+1):=by omega
    simp[iR,lN,bf,eS,g7,jQ,wB,bO,aG,ints,bK,e1]
  ·rintro s ⟨front,last,VN,rfl⟩;have SK:(out++front).length<=2000:=by
    have:=RW.n;rw[VN] at this;simp at this |-;omega
   have VH:=oD (out++front);generalize hO:out++front=O at SK VH;have hb:(O.length+1)*192<=140737488355328:=by omega
   have wn:=cF (n1:Int) yA yA;apply aN;simp[hC,jQ,lg,aY,VH,hb,IZ];apply aN;simp[hC,wn];refine⟨n1,by omega,aa.le (Le.trim [12,11,2,6,0,3] [0,1,2,3,4,5,9] 10 (by simp[aG,bK,g7,-all_eq_true,-all_flatMap,ai (bQ O),ai (iZ last)]) yA) ?_⟩;simp;refine aa.le (Le.p7 9 6 rfl rfl yA xr xr (by simp[aG,ints,bK,g7,-all_eq_true,-all_flatMap,bw (bQ O),bw (iZ last)])) ?_;simp[aG,ints,bK,g7,bl (bQ O),bl (iZ last)];refine aa.trim [12,11,2,6,0,3] [0,1,2,3,4,5,6] 7 (by simp[-all_eq_true,-all_flatMap,ai (bQ O),ai (iZ last)]) yA ⟨B.vars,B.i,B.left,out++B.out,?_,RW.i,?_,?_,?_,by omega,?_⟩
   ·rw[hR,append_assoc]
   ·have:=RW.l;omega
   ·have:=RW.v;omega
   ·have:=RW.n;simp;omega
   ·have e1:out++B.out=O++[last]:=by rw[VN,<- append_assoc,hO]
    rw[e1];simp[jQ,wB,bO,aG,ints,bK,g7]
end Go.Proofs.YtlkmbdfhdknlgaaGreat
