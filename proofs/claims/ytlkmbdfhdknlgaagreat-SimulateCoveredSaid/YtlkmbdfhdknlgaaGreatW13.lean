/- Lemmas. -/
import Derived.Test.YtlkmbdfhdknlgaaGreatW12
namespace Go.Proofs.YtlkmbdfhdknlgaaGreat
open Go.Can Go.aK List
def dp (fs:List Fu):Ob:=⟨136,3,fs.flatMap fT⟩
def kk (l:List Sm):Ob:=⟨207,11,bP l⟩
def rY (L:List Int)(ar:Bool)(ms:List Mx)(fs:List Fu):Wr:=⟨L,ar,ms,fs.map λ f=>(f.name,f.params)⟩
theorem js (x:Sm):trees (ji x)=true:=by
 cases x with
 | dS u r=>rcases r with ⟨_,_ | _⟩<;>rfl
 | iU s e=>cases e<;>rfl
 | jx s e=>cases e<;>rfl
 | mL e _ _=>cases e<;>rfl
 | cX e _=>cases e<;>rfl
 | _=>rfl
theorem bQ (l:List Sm):trees (bP l)=true:=by
 induction l with
 | nil=>rfl
 | cons a r ih=>rw[bP,a9,ih,js];rfl
theorem oX (l:List Sm):(bP l).length=l.length*11:=by rw[pV];exact aG (f:=ji) lP l
theorem w9:∀ a b:List Sm,bP (a++b)=bP a++bP b
 | [],b=>rfl
 | x::r,b=>by rw[cons_append,bP,bP,w9 r b,append_assoc]
theorem Jq (x:Sm):take 11 (ji x)=ji x:=take_of_length_le (by simp[lP])
theorem da (fs:List Fu):trees (fs.flatMap fT)=true:=by
 induction fs with
 | nil=>rfl
 | cons a r ih=>rw[flatMap_cons,a9,ih];rfl
theorem N1 (fs:List Fu)(o:Nat)(cs:List CV)(n:Nat):(fs.flatMap fT).map (cC o cs n)=fs.flatMap fT:=by
 induction fs with
 | nil=>rfl
 | cons a r ih=>rw[flatMap_cons,map_append,ih];rfl
@[simp] theorem fsOb_frz (l:List Fu)(o:Nat)(cs:List CV)(n:Nat):(⟨(dp l).elem,(dp l).sz,(dp l).cells.map (cC o cs n)⟩:Ob)=dp l:=by
 simp only[dp,N1]
@[simp] theorem RC (ρ:Nat->Nat)(l:List Fu):bb ρ (dp l)=dp l:=by
 simp only[bb,dp,ah ρ _ (da l)]
@[simp] theorem NZ (l:List Fu)(n:Nat):(dp l).cells.all (aU n)=true:=ai (da l) n
@[simp] theorem fsOb_lts (l:List Fu)(n:Nat):ba n (dp l).cells=true:=by rw[aT];exact ai (da l) n
@[simp] theorem fsOb_ok1 (l:List Fu)(o q:Nat):(dp l).cells.all (oM o q)=true:=bx (da l) o q
@[simp] theorem Ip (l:List Fu)(o q:Nat):(dp l).cells.map (dG o q)=(dp l).cells:=bl (da l) o q
@[simp] theorem fsOb_eta (l:List Fu):(⟨(dp l).elem,(dp l).sz,(dp l).cells⟩:Ob)=dp l:=rfl
@[simp] theorem Sg (l:List Fu)(n o q:Nat):(dp l).cells.all (aU n∘dG o q)=true:=by rw[<- all_map,Ip];exact NZ l n
@[simp] theorem MP (l:List Sm)(n:Nat):(kk l).cells.all (aU n)=true:=ai (bQ l) n
@[simp] theorem smOb_ok1 (l:List Sm)(o q:Nat):(kk l).cells.all (oM o q)=true:=bx (bQ l) o q
@[simp] theorem HC (l:List Sm)(o q:Nat):(kk l).cells.map (dG o q)=(kk l).cells:=bl (bQ l) o q
@[simp] theorem smOb_eta (l:List Sm):(⟨(kk l).elem,(kk l).sz,(kk l).cells⟩:Ob)=kk l:=rfl
@[simp] theorem Ry (l:List Sm)(n o q:Nat):(kk l).cells.all (aU n∘dG o q)=true:=by rw[<- all_map,HC];exact MP l n
section
variable (L:List Int)(gs:List Gl)(ms:List Mx)(ar:Bool)(fs:List Fu)(nm:ByteArray)(ps:List Pm)(bc:List CV)(bn:Nat)(SV:List ByteArray)(rec:Rec)(deep f:Nat)(RES:List Sm×Nat×Nat)
def J56 (m:Nat)(s:St):Prop:=∃ (vars:List ByteArray) (i left:Nat) (out:List Sm),RES=(out++(vp (rY L ar ms fs) rec ps deep m vars i left).1,(vp (rY L ar ms fs) rec ps deep m vars i left).2)/\
 i<=L.length/\left<=f/\vars.length+left<=500/\out.length+2*left<=1000/\m<=10/\
 s=⟨[(12,I m),(11,.a7 6 0 out.length),(2,.a7 5 0 vars.length),(6,.ax 4 0),(0,.ax 1 0),(3,I deep)],
  [(0,aJ L i),(1,bN gs ms fs.length left ar),(2,dp fs),(3,bu SV),(4,⟨136,0,iu nm ps bc bn⟩),(5,bu vars),(6,kk out)],7⟩
def K56 (m:Nat)(out:List Sm)(b:PF)(s:St):Prop:=∃ (front:List Sm) (last:Sm),b.out=front++[last]/\
 s=⟨[(12,I m),(11,.a7 6 0 (out++front).length),(2,.a7 5 0 b.vars.length),(13,.ax 7 0),(6,.ax 4 0),(0,.ax 1 0),(3,I deep)],
  [(0,aJ L b.i),(1,bN gs ms fs.length b.left ar),(2,dp fs),(3,bu SV),(4,⟨136,0,iu nm ps bc bn⟩),(5,bu b.vars),(6,kk (out++front)),(7,⟨207,0,ji last⟩)],8⟩
end
@[simp] theorem Si (e:Ex)(a b c d f:CV):take 7 (bf e++[a,b,c,d,f])=bf e++[a,b,c]:=by cases e<;>rfl
@[simp] theorem Sk (e:Ex)(a b c d f:CV):drop 8 (bf e++[a,b,c,d,f])=[f]:=by cases e<;>rfl
@[simp] theorem Sh (e:Ex)(a b c d f:CV):take 8 (bf e++[a,b,c,d,f])=bf e++[a,b,c,d]:=by cases e<;>rfl
@[simp] theorem Sj (e:Ex)(a b c d f:CV):drop 9 (bf e++[a,b,c,d,f])=[]:=by cases e<;>rfl
@[simp] theorem nz_smsC (l:List Sm):(bP l).map nz=bP l:=by
 induction l with
 | nil=>rfl
 | cons a r ih=>
  rw[bP,map_append,ih];congr 1
  cases a with
  | dS u r=>rcases r with ⟨_,_ | _⟩<;>rfl
  | iU s e=>cases e<;>rfl
  | jx s e=>cases e<;>rfl
  | mL e _ _=>cases e<;>rfl
  | cX e _=>cases e<;>rfl
  | _=>rfl
def stK (c:Int):List CV:=[I c,.str ⟨#[]⟩,.int .i64 0,.int .i64 0,.str ⟨#[]⟩,.aj,.str ⟨#[]⟩,.aj,.aj,.aj,.aj]
def F1:List CV:=[I 5,.str ⟨#[]⟩,.int .i64 0,.int .i64 0,.str ⟨#[]⟩,.aj,.str ⟨#[]⟩,.aj,.aj,.aj,.aj]
set_option maxHeartbeats 8000000 in
theorem Hm (L:List Int)(hL:L.length<=1000)(gs:List Gl)(ms:List Mx)(hm:0<ms.length)(Yx:ms.length<=100)(SB:∀ m∈ms,m.size<=1000)(ar:Bool)(fs:List Fu)(TZ:0<fs.length)(hfs2:fs.length<=100)(V7:∀ f∈fs,f.params.length<=100)
  (nm:ByteArray) (ps:List Pm) (hp:ps.length<=100) (bc:List CV) (bn:Nat):∀ (left f:Nat) (vars:List ByteArray) (deep most i:Nat),left<=f->left<=100->vars.length+left<=500->deep<=10->most<=9->i<=L.length ->
  Body Tryz.prog av 66 [.ax 1 0,.agg (iu nm ps bc bn),.a7 3 0 vars.length,I deep,I most] [(0,aJ L i),(1,bN gs ms fs.length left ar),(2,dp fs),(3,bu vars)] 4
   (iO (.az (bP (oQ (rY L ar ms fs) ps f vars deep most i left).1) (oQ (rY L ar ms fs) ps f vars deep most i left).1.length) [(0,aJ L (oQ (rY L ar ms fs) ps f vars deep most i left).2.1),(1,bN gs ms fs.length (oQ (rY L ar ms fs) ps f vars deep most i left).2.2 ar),(2,dp fs),(3,bu vars)] 4):=by
 intro UL
 induction UL using Nat.strongRecOn with
 | _ UL ih=>
 intro f SV deep most i0 hl hf W0 UQ hmo Y3;generalize hRES:oQ (rY L ar ms fs) ps f SV deep most i0 UL=RES;have YP:RES=vp (rY L ar ms fs) (oQ (rY L ar ms fs) ps (f-1)) ps deep (cw L i0 (most+1)).1 SV (cw L i0 (most+1)).2 UL:=by
  cases f with
  | zero=>
   have:UL=0:=by omega
   subst this;rw[<- hRES]
   cases h:(cw L i0 (most+1)).1 with
   | zero=>simp[oQ,vp,rY]
   | succ n=>simp[oQ,vp,rY]
  | succ f=>rw[<- hRES];rfl
 clear hRES;have Zm:yF L (oQ (rY L ar ms fs) ps (f-1)):=wG (rY L ar ms fs) ps (f-1);have ih':=λ (left:Nat) (P1:left<UL)=>ih left P1 (f-1);clear ih;generalize hrec:oQ (rY L ar ms fs) ps (f-1)=rec at ih' YP Zm;have hsteps:(cw L i0 (most+1)).1<=most:=Nat.le_of_lt_succ (dH L i0 yA);have Tf:=bq L (most+1) Y3;have wm:=cr ((most:Int)+1) yA yA;refine Body.iZ Tryz.func66 rfl Bw (by simp[Tryz.ntmps66]) λ C hC M0=>?_;rw[Tryz.ntmps66] at hC;apply aq;simp[hC,iu];apply aq;simp[hC];have hb0:SV.length*16<=140737488355328:=by omega
 apply aq;simp[hC,bu,hb0];apply aW;simp[hC,wm,bN];refine TL.cZ af [0] 1 (cQ L i0 (most+1) Y3 hL yA yA) Rg rfl rfl rfl rfl xr TJ TG rfl (TL.go' af ?_);simp[hC];generalize cw L i0 (most+1)=k at hsteps Tf YP;have SE:take SV.length (SV.map CV.str)=SV.map CV.str:=take_of_length_le xr;simp only[SE];apply T.block;refine T.aI (J56 L gs ms ar fs nm ps bc bn SV rec deep UL RES) (n:=k.1) ?_ ?_
 .refine aa.le (Le.own 11 207 11 rfl) ?_;simp;refine aa.le (Le.trim [12,11,2,6,0,3] [0,1,2,3,4,6,7] 8 (by simp[aJ,dp,-all_eq_true,-all_flatMap,ai (da fs)]) yA) ?_;simp;refine aa.le (Le.qt 6 5 rfl rfl yA xr xr (by simp[aJ,ints,dp,-all_eq_true,-all_flatMap,bx (da fs),bx (fc SV)])) ?_;simp[bl (da fs),bl (fc SV),aJ,dp,ints];refine aa.le (Le.qt 7 6 rfl rfl yA xr xr (by simp[-all_eq_true,-all_flatMap,bx (da fs),bx (fc SV)])) ?_;simp[bl (da fs),bl (fc SV)];refine aa.trim [12,11,2,6,0,3] [0,1,2,3,4,5,6] 7 (by simp[-all_eq_true,-all_flatMap,ai (da fs),ai (fc SV)]) yA ⟨SV,k.2,UL,[],?_,Tf,Nat.le_refl _,W0,?_,by omega,?_⟩
  .rw[YP];rfl
  .simp;omega
  .simp[bu,aJ,bN,dp,kk,ints,bP,iu]
 .rintro n s ⟨vars,i,left,out,hR,hi,hle,hvl',ZY,hm10,rfl⟩;by_cases Vt:n=0
  .subst Vt;have TB:RES=(out,i,left):=by rw[hR];simp[vp]
   clear hR;apply aW;simp[hC];refine bg ?_;simp;apply T.exit;simp;apply aq;simp[hC];apply T.ret;have hxt:(bP out).take (out.length*11)=bP out:=take_of_length_le (by rw[oX];exact Nat.le_refl _);refine aa.le (Le.trim [10] [0,1,2,3,6] 7 (by simp[aJ,bN,-all_eq_true,-all_flatMap]) yA) ?_;simp;refine aa.le (Le.di (o:=6) rfl (bQ out)) ?_;simp[kk,hxt];refine aa.trim [10] [0,1,2,3] 4 (by simp[aJ,bN,-all_eq_true,-all_flatMap]) yA ⟨_,?_,rfl,?_,rfl⟩
   .simp[TB]
   .simp[bN,bu,TB]
  obtain⟨n1,rfl⟩:∃ n1,n=n1+1:=⟨n-1,by omega⟩;by_cases VE:left=0
  .subst VE;have TB:RES=(out,i,0):=by rw[hR];simp[vp]
   clear hR;apply aW;simp[hC,bN];refine bg ?_;simp;apply T.exit;simp;apply aq;simp[hC];apply T.ret;have hxt:(bP out).take (out.length*11)=bP out:=take_of_length_le (by rw[oX];exact Nat.le_refl _);refine aa.le (Le.trim [10] [0,1,2,3,6] 7 (by simp[aJ,-all_eq_true,-all_flatMap]) yA) ?_;simp;refine aa.le (Le.di (o:=6) rfl (bQ out)) ?_;simp[kk,hxt];refine aa.trim [10] [0,1,2,3] 4 (by simp[aJ,-all_eq_true,-all_flatMap]) yA ⟨_,?_,rfl,?_,rfl⟩
   .simp[TB]
   .simp[bu,TB]
  obtain⟨lf,rfl⟩:∃ lf,left=lf+1:=⟨left-1,by omega⟩;have hlp:vp (rY L ar ms fs) rec ps deep (n1+1) vars i (lf+1)=((BG (rY L ar ms fs) rec ps vars deep i lf).out++(vp (rY L ar ms fs) rec ps deep n1 (BG (rY L ar ms fs) rec ps vars deep i lf).vars (BG (rY L ar ms fs) rec ps vars deep i lf).i (BG (rY L ar ms fs) rec ps vars deep i lf).left).1,(vp (rY L ar ms fs) rec ps deep n1 (BG (rY L ar ms fs) rec ps vars deep i lf).vars (BG (rY L ar ms fs) rec ps vars deep i lf).i (BG (rY L ar ms fs) rec ps vars deep i lf).left).2):=by
   rw[vp,if_neg yA];rfl
  rw[hlp] at hR;have wl:((lf+1:Nat):Int)-1=(lf:Int):=by omega
  have wlf:=cr (lf:Int) yA yA;apply aW;simp[hC,bN];refine jk ?_;simp;have Sz:=JC (w:=rY L ar ms fs) Zm ps vars deep lf hi;generalize hB:BG (rY L ar ms fs) rec ps vars deep i lf=B at Sz hR hlp;clear hlp;apply eE;apply aq;simp[hC,wlf];apply aq;simp[hC];refine T.cut (K56 L gs ms ar fs nm ps bc bn SV deep (n1+1) out B) ?_ ?_
  .have Tf:=bq L 14 hi;have Th:=hB;have T6:=cQ L i 14 hi hL yA yA;obtain⟨k,hk⟩:∃ k,cw L i 14=k:=⟨_,rfl⟩;simp only[BG,rY,hk] at Th;rw[hk] at Tf T6;apply aq;simp[hC];refine TL.cZ af [0] 1 (T6) Rg rfl rfl rfl rfl xr TJ TG rfl (TL.go' af ?_);simp[hC];have Wj:vars.length<=1000:=by omega
   refine T.le (Le.trim [14,12,11,2,13,6,0,3] [0,1,2,3,4,5,6,7] 8 (by simp[aJ,iu,-all_eq_true,-all_flatMap]) yA) ?_;simp;have ew:(⟨128,0,[CV.ax 0 0,CV.az (gs.flatMap qH) gs.length,CV.az (ms.flatMap cP) ms.length,CV.a7 2 0 fs.length,.int .i64 lf,CV.bool ar]⟩:Ob)=bN gs ms fs.length lf ar:=rfl;rw[ew];apply T.block;apply aq;simp[hC];refine T.bw rfl (λ h=>?_) (λ h=>?_)
   .have h1:k.1<4:=by simpa using h
    rw[if_pos h1] at Th;apply aM;simp[hC,iu];refine TL.ke af 3 5 [0,1,5] 4 (vV L hL vars Wj gs ms hm Yx SB fs.length lf ar k.2 Tf nm ps hp bc bn) Rg rfl rfl rfl xr yA xr xr rfl xr Xd rfl xr xr (TL.go' af ?_);simp[hC,mh];refine aa.le (Le.nz [] [7]) ?_;simp;refine aa.trim [12,11,2,13,6,0,3] [0,1,2,3,4,5,6,7] 8 We yA ⟨[],.dS false (j6 L ar ms ps vars k.2).1,?_,?_⟩
    .rw[<- Th];rfl
    .rw[<- Th];simp[ji,mh,bf,eS,iu]
   have h1:¬ k.1<4:=by simpa using h
   rw[if_neg h1] at Th;apply aq;simp[hC];refine T.bw rfl (λ h=>?_) (λ h=>?_)
   .have h2:k.1<7:=by simpa using h
    rw[if_pos h2] at Th;apply aM;simp[hC,iu];refine TL.ke af 3 5 [0,1,5] 4 (vV L hL vars Wj gs ms hm Yx SB fs.length lf ar k.2 Tf nm ps hp bc bn) Rg rfl rfl rfl xr yA xr xr rfl xr Xd rfl xr xr (TL.go' af ?_);simp[hC,mh];refine aa.le (Le.nz [] [7]) ?_;simp;refine aa.trim [12,11,2,13,6,0,3] [0,1,2,3,4,5,6,7] 8 We yA ⟨[],.dS true (j6 L ar ms ps vars k.2).1,?_,?_⟩
    .rw[<- Th];rfl
    .rw[<- Th];simp[ji,mh,bf,eS,iu]
   have h2:¬ k.1<7:=by simpa using h
   rw[if_neg h2] at Th;apply aq;simp[hC];refine T.bw rfl (λ h=>?_) (λ h=>?_)
   .have h3:k.1=7:=by simpa using h
    rw[if_pos h3] at Th;apply T.seq;obtain⟨a,ha⟩:∃ a,lf % 26=a:=⟨_,rfl⟩;obtain⟨q,hq⟩:∃ q,lf / 26=q:=⟨_,rfl⟩;obtain⟨b,hb⟩:∃ b,q % 26=b:=⟨_,rfl⟩;have YW:gm lf=⟨#[118]⟩++⟨#[97+UInt8.ofNat a,97+UInt8.ofNat b]⟩:=by simp[gm,ha,hq,hb]
    have so:mQ BinOp.add ⟨#[118]⟩ ⟨#[97+UInt8.ofNat a,97+UInt8.ofNat b]⟩=some (.str (gm lf)):=by rw[YW];rfl
    have a1:(lf:Int).tmod 26=(a:Int):=by rw[Int.tmod_eq_emod_of_nonneg yA];omega
    have a2:=cr (97+(a:Int)) yA yA;have a3:IntKind.u8.wrap (97+(a:Int))=97+(a:Int):=IntWalk.u8_in _ yA;have a4:(0:Int)<=97+(a:Int)/\97+(a:Int)<256:=by omega
    have a5:(97+(a:Int)).toNat=97+a:=by omega
    have q1:IntKind.i64.wrap ((lf:Int) / 26)=(q:Int):=by rw[cr _ yA yA];omega
    have b1:(q:Int).tmod 26=(b:Int):=by rw[Int.tmod_eq_emod_of_nonneg yA];omega
    have b2:=cr (97+(b:Int)) yA yA;have b3:IntKind.u8.wrap (97+(b:Int))=97+(b:Int):=IntWalk.u8_in _ yA;have b4:(0:Int)<=97+(b:Int)/\97+(b:Int)<256:=by omega
    have b5:(97+(b:Int)).toNat=97+b:=by omega
    refine T.rx af follows [0,1,3,4,5,6,7,8,9,10,11,12,13,14,15,16,17,18,19,20,21,2,22,23,24,25,26] [(6,2),(6,22),(6,24),(9,2),(9,22),(9,24),(13,2),(13,22),(13,24),(17,2),(17,22),(17,24),(18,2),(18,22),(18,24),(19,2),(19,22),(19,24)] Bw ?_;simp[hC,bN,a1,a2,a3,a4,a5,q1,b1,b2,b3,b4,b5,so];rw[ew];refine RX.ke 3 5 [0,1,5] [0] 4 (oT L hL vars Wj gs ms fs.length lf ar k.2 Tf) rfl xr rfl rfl rfl xr yA xr xr rfl xr Xd rfl xr xr xr rfl xr ?_;simp[bC];have hbv:(vars.length+1)*16<=140737488355328:=by omega
    apply aM;simp[hC,bu,hbv];refine aa.le (Le.trim [12,11,2,13,6,0,3] [0,1,2,3,4,6,7,36] 37 (by simp[iu,-all_eq_true,-all_flatMap,ij]) yA) ?_;simp;refine aa.le (Le.qt 36 5 rfl rfl yA xr xr (by simp[aJ,ints,bN,iu,-all_eq_true,-all_flatMap,AM])) ?_;simp[aJ,ints,bN,iu];refine aa.le (Le.nz [] [7]) ?_;simp;refine aa.trim [12,11,2,13,6,0,3] [0,1,2,3,4,5,6,7] 8 yCo yA ⟨[],.iU (gm lf) (dJ L ar vars k.2).1,?_,?_⟩
    .rw[<- Th];rfl
    .rw[<- Th];simp[ji,ml,eS,iu,bu,aJ,ints,bN]
   have h3:¬ k.1=7:=by simpa using h
   rw[if_neg h3] at Th
      /- an assignment? -/
   refine T.cut (λ s=>s=⟨[(119,.bool (decide (k.1=8/\0<vars.length))),(14,I k.1),(12,.int .i64 ((n1:Int)+1)),(11,.a7 6 0 out.length),(2,.a7 5 0 vars.length),(13,.ax 7 0),(6,.ax 4 0),(0,.ax 1 0),(3,I deep)],
    [(0,aJ L k.2),(1,bN gs ms fs.length lf ar),(2,dp fs),(3,bu SV),(4,⟨136,0,iu nm ps bc bn⟩),(5,bu vars),(6,kk out),(7,⟨207,0,F1⟩)],8⟩) ?_ ?_
   .by_cases h8:k.1=8
    .apply aM;simp[hC,h8];refine aa.trim [119,14,12,11,2,13,6,0,3] [0,1,2,3,4,5,6,7] 8 yCp yA ?_;simp[F1]
    .apply aM;simp[hC,h8];refine aa.trim [119,14,12,11,2,13,6,0,3] [0,1,2,3,4,5,6,7] 8 yCp yA ?_;simp[F1]
   rintro s rfl;refine T.bw rfl (λ h=>?_) (λ h=>?_)
   .have h4:k.1=8/\0<vars.length:=by simpa using h
    rw[if_pos h4] at Th;have P1:=dH L k.2 h4.2;have hnv:=cQ L k.2 vars.length Tf hL h4.2 yA;have TQ:=bq L vars.length Tf;obtain⟨j,hj⟩:∃ j,cw L k.2 vars.length=j:=⟨_,rfl⟩;rw[hj] at P1 hnv TQ;simp only[hj] at Th;have OZ:(bu vars).cells.drop j.1=.str (vars.getD j.1 eS)::(vars.map CV.str).drop (j.1+1):=jR P1;have Yk:(bu vars).sz=1:=rfl;refine T.rx af follows [0,1,2,3,4,5,6,10,11,13,7,8,9,12,14,15,16,17,18] [(9,12),(9,14)] Bw ?_;simp[hC,bN];rw[ew];refine RX.cZ [0] [0] 1 (hnv) rfl xr rfl rfl rfl rfl xr TJ TG rfl rfl rfl xr ?_;simp[P1,OZ];refine RX.ke 3 5 [0,1,5] [0] 4 (oT L hL vars Wj gs ms fs.length lf ar j.2 TQ) rfl xr rfl rfl rfl xr yA xr xr rfl xr Xd rfl xr xr xr rfl xr ?_;simp[bC,F1];refine aa.le (Le.nz [] [7]) ?_;simp;refine aa.trim [12,11,2,13,6,0,3] [0,1,2,3,4,5,6,7] 8 (by simp[iu,-all_eq_true,-all_flatMap,ij]) yA ⟨[],.jx (vars.getD j.1 eS) (dJ L ar vars j.2).1,?_,?_⟩
    .rw[<- Th];rfl
    .rw[<- Th];simp[ji,ml,eS,iu,P1]
   have h4:¬ (k.1=8/\0<vars.length):=by simpa using h
   rw[if_neg h4] at Th
      /- a call? -/
   refine T.cut (λ s=>s=⟨[(143,.bool (decide (k.1=9\/k.1=10))),(14,I k.1),(12,.int .i64 ((n1:Int)+1)),(11,.a7 6 0 out.length),(2,.a7 5 0 vars.length),(13,.ax 7 0),(6,.ax 4 0),(0,.ax 1 0),(3,I deep)],
    [(0,aJ L k.2),(1,bN gs ms fs.length lf ar),(2,dp fs),(3,bu SV),(4,⟨136,0,iu nm ps bc bn⟩),(5,bu vars),(6,kk out),(7,⟨207,0,F1⟩)],8⟩) ?_ ?_
   .by_cases h9:k.1=9
    .apply aM;simp[hC,h9];refine aa.trim [143,14,12,11,2,13,6,0,3] [0,1,2,3,4,5,6,7] 8 ZJ yA ?_;simp
    .apply aM;simp[hC,h9];refine aa.trim [143,14,12,11,2,13,6,0,3] [0,1,2,3,4,5,6,7] 8 ZJ yA ?_;simp
   rintro s rfl;refine T.bw rfl (λ h=>?_) (λ h=>?_)
   .have h5:k.1=9\/k.1=10:=by simpa using h
    have YQ:iJ ⟨L,ar,ms,fs.map λ f=>(f.name,f.params)⟩ ps vars (decide (k.1=10)) k.2 lf=B:=by
     by_cases h9:k.1=9
     .rw[if_pos h9] at Th;rw[<- Th];simp[h9]
     .have h10:k.1=10:=by omega
      rw[if_neg h9,if_pos h10] at Th;rw[<- Th];simp[h10]
    simp only[iJ,length_map] at YQ;apply aq;simp[hC,F1];refine T.cut (λ s=>s=⟨[(12,.int .i64 ((n1:Int)+1)),(11,.a7 6 0 out.length),(2,.a7 5 0 vars.length),(13,.ax 7 0),(6,.ax 4 0),(0,.ax 1 0),(3,I deep)],
     [(0,aJ L k.2),(1,bN gs ms fs.length lf ar),(2,dp fs),(3,bu SV),(4,⟨136,0,iu nm ps bc bn⟩),(5,bu vars),(6,kk out),(7,⟨207,0,stK (if k.1=10 then 4 else 3)⟩)],8⟩) ?_ ?_
    .apply aq;simp[hC];refine T.bw rfl (λ h=>?_) (λ h=>?_)
     .have h10:k.1=10:=by simpa using h
      apply aM;simp[hC];refine aa.trim [12,11,2,13,6,0,3] [0,1,2,3,4,5,6,7] 8 yCp yA ?_;simp[h10,stK]
     .have h10:¬ k.1=10:=by simpa using h
      apply T.skip;simp;refine aa.trim [12,11,2,13,6,0,3] [0,1,2,3,4,5,6,7] 8 yCp yA ?_;simp[h10,stK]
    rintro s rfl;have P1:=dH L k.2 TZ;have hnv:=cQ L k.2 fs.length Tf hL TZ yA;have TQ:=bq L fs.length Tf;obtain⟨j,hj⟩:∃ j,cw L k.2 fs.length=j:=⟨_,rfl⟩;rw[hj] at P1 hnv TQ;simp only[hj] at YQ;obtain⟨g,hg⟩:∃ g,fs[j.1]? = some g:=⟨fs[j.1],getElem?_eq_getElem P1⟩;have VV:(fs.map λ f=>(f.name,f.params)).getD j.1 (eS,[])=(g.name,g.params):=by simp[getD,hg]
    simp only[VV] at YQ;have hgp:=V7 g (mem_of_getElem? hg);have OZ:(dp fs).cells.drop (j.1*3)=fT g++(fs.drop (j.1+1)).flatMap fT:=aL (f:=fT) (n:=3) (λ _=>rfl) hg;have Yk:(dp fs).sz=3:=rfl;have SA:(dp fs).cells.length=fs.length*3:=aG (f:=fT) (n:=3) (λ _=>rfl) fs;apply T.seq;refine T.rx af follows [0,1,2,3,4,5,6,7,8,9,10,11,12,13,14,18,15,16,17,19] [(4,18),(4,15),(8,18),(13,18),(18,15),(18,17)] Bw ?_;simp[hC,bN];rw[ew];refine RX.cZ [0] [0] 1 (hnv) rfl xr rfl rfl rfl rfl xr TJ TG rfl rfl rfl xr ?_;simp[P1,OZ,fT];refine T.rx af follows [0,1,2,3,4,5,7,6,8,9,10] [(1,6)] Bw ?_;simp[hC,iu];refine RX.ke 3 5 [0,1,5] [0] 4 (Je L hL vars Wj gs ms hm Yx SB fs.length lf ar j.2 TQ nm ps hp bc bn g.name g.params hgp (bP g.body) g.body.length) rfl xr rfl rfl rfl xr yA xr xr rfl xr Xd rfl xr xr xr rfl xr ?_;simp[stK];refine aa.le (Le.nz [] [7]) ?_;simp;refine aa.trim [12,11,2,13,6,0,3] [0,1,2,3,4,5,6,7] 8 We yA ⟨[],.eM (decide (k.1=10)) g.name (dC L ar ms ps vars g.params j.2).1,?_,?_⟩
    .rw[<- YQ];rfl
    .rw[<- YQ];simp[ji,ml,bf,eS,iu,u0]
   have h5:¬ k.1=9/\¬ k.1=10:=by simpa using h
   rw[if_neg h5.1,if_neg h5.2] at Th
      /- a condition? -/
   refine T.cut (λ s=>s=⟨[(181,.bool (decide (k.1=11/\0<deep))),(14,I k.1),(12,.int .i64 ((n1:Int)+1)),(11,.a7 6 0 out.length),(2,.a7 5 0 vars.length),(13,.ax 7 0),(6,.ax 4 0),(0,.ax 1 0),(3,I deep)],
    [(0,aJ L k.2),(1,bN gs ms fs.length lf ar),(2,dp fs),(3,bu SV),(4,⟨136,0,iu nm ps bc bn⟩),(5,bu vars),(6,kk out),(7,⟨207,0,F1⟩)],8⟩) ?_ ?_
   .by_cases h9:k.1=11
    .apply aM;simp[hC,h9];refine aa.trim [181,14,12,11,2,13,6,0,3] [0,1,2,3,4,5,6,7] 8 ZJ yA ?_;simp
    .apply aM;simp[hC,h9];refine aa.trim [181,14,12,11,2,13,6,0,3] [0,1,2,3,4,5,6,7] 8 ZJ yA ?_;simp
   rintro s rfl;refine T.bw rfl (λ h=>?_) (λ h=>?_)
   .have h6:k.1=11/\0<deep:=by simpa using h
    rw[if_pos h6] at Th;obtain⟨d,rfl⟩:∃ d,deep=d+1:=⟨deep-1,by omega⟩;have Tz:((d+1:Nat):Int)-1=(d:Int):=by omega
    have wd:=cr (d:Int) yA yA;have TQ:=lp L ar vars Tf;simp only[Se,Nat.add_sub_cancel] at Th;have WO:=ih' lf yA vars d 3 (dJ L ar vars k.2).2 yA yA yA yA yA TQ;obtain⟨WB,YA⟩:=Zm vars d 3 (dJ L ar vars k.2).2 lf TQ;obtain⟨th,Wl⟩:∃ th,rec vars d 3 (dJ L ar vars k.2).2 lf=th:=⟨_,rfl⟩;rw[Wl] at WO WB YA;simp only[Wl] at Th;apply T.seq;refine T.rx af follows [0,1,3,4,5,6,7,9,2,8,10,11,12,13,14] [(4,2)] Bw ?_;simp[hC,wd,iu];refine RX.ke 3 5 [0,1,5] [0] 4 (oT L hL vars Wj gs ms fs.length lf ar k.2 Tf) rfl xr rfl rfl rfl xr yA xr xr rfl xr Xd rfl xr xr xr rfl xr ?_;simp;refine RX.ke 3 5 [0,1,2,5] [0,1] 4 (WO) rfl xr rfl rfl rfl xr yA xr xr rfl xr Xd rfl xr xr xr rfl xr ?_;simp[F1,bC];have hnc:=cQ L th.2.1 2 WB hL yA yA;have Y2:=bq L 2 WB;obtain⟨c,hc⟩:∃ c,cw L th.2.1 2=c:=⟨_,rfl⟩;rw[hc] at hnc Y2;simp only[hc] at Th;refine T.le (Le.trim [12,11,2,13,6,0,3] [0,1,2,3,4,5,6,7] 8 yCo yA) ?_;simp;apply aq;simp[hC,bN];refine TL.cZ af [0] 1 (hnc) Rg rfl rfl rfl rfl xr TJ TG rfl (TL.go' af ?_);simp[hC];have ew2:(⟨128,0,[CV.ax 0 0,CV.az (gs.flatMap qH) gs.length,CV.az (ms.flatMap cP) ms.length,CV.a7 2 0 fs.length,I th.2.2,CV.bool ar]⟩:Ob)=bN gs ms fs.length th.2.2 ar:=rfl;rw[ew2];refine T.bw rfl (λ h=>?_) (λ h=>?_)
    .have WK:c.1=1:=by simpa using h
     rw[if_pos WK] at Th;have SK:=ih' th.2.2 yA vars d 3 c.2 yA yA yA yA yA Y2;obtain⟨el,YI⟩:∃ el,rec vars d 3 c.2 th.2.2=el:=⟨_,rfl⟩;rw[YI] at SK;simp only[YI] at Th;apply aM;simp[hC,wd];refine TL.ke af 3 5 [0,1,2,5] 4 (SK) Rg rfl rfl rfl xr yA xr xr rfl xr Xd rfl xr xr (TL.go' af ?_);simp[hC,bC];refine aa.le (Le.nz [] [7]) ?_;simp;refine aa.trim [12,11,2,13,6,0,3] [0,1,2,3,4,5,6,7] 8 yCo yA ⟨[],.mL (dJ L ar vars k.2).1 th.1 el.1,?_,?_⟩
     .rw[<- Th];rfl
     .rw[<- Th];simp[ji,ml,eS,iu]
    .have WK:¬ c.1=1:=by simpa using h
     rw[if_neg WK] at Th;apply T.skip;simp;refine aa.le (Le.nz [] [7]) ?_;simp;refine aa.trim [12,11,2,13,6,0,3] [0,1,2,3,4,5,6,7] 8 yCo yA ⟨[],.mL (dJ L ar vars k.2).1 th.1 [],?_,?_⟩
     .rw[<- Th];rfl
     .rw[<- Th];simp[ji,ml,eS,iu,bP]
   have h6:¬ (k.1=11/\0<deep):=by simpa using h
   rw[if_neg h6] at Th
      /- a loop? -/
   refine T.cut (λ s=>s=⟨[(213,.bool (decide (k.1=12/\0<deep))),(14,I k.1),(12,.int .i64 ((n1:Int)+1)),(11,.a7 6 0 out.length),(2,.a7 5 0 vars.length),(13,.ax 7 0),(6,.ax 4 0),(0,.ax 1 0),(3,I deep)],
    [(0,aJ L k.2),(1,bN gs ms fs.length lf ar),(2,dp fs),(3,bu SV),(4,⟨136,0,iu nm ps bc bn⟩),(5,bu vars),(6,kk out),(7,⟨207,0,F1⟩)],8⟩) ?_ ?_
   .by_cases h9:k.1=12
    .apply aM;simp[hC,h9];refine aa.trim [213,14,12,11,2,13,6,0,3] [0,1,2,3,4,5,6,7] 8 ZJ yA ?_;simp
    .apply aM;simp[hC,h9];refine aa.trim [213,14,12,11,2,13,6,0,3] [0,1,2,3,4,5,6,7] 8 ZJ yA ?_;simp
   rintro s rfl;refine T.bw rfl (λ h=>?_) (λ h=>?_)
   .have h7:k.1=12/\0<deep:=by simpa using h
    rw[if_pos h7] at Th;obtain⟨d,rfl⟩:∃ d,deep=d+1:=⟨deep-1,by omega⟩;have Tz:((d+1:Nat):Int)-1=(d:Int):=by omega
    have wd:=cr (d:Int) yA yA;have TQ:=lp L ar vars Tf;simp only[Rq,Nat.add_sub_cancel] at Th;have WO:=ih' lf yA vars d 3 (dJ L ar vars k.2).2 yA yA yA yA yA TQ;obtain⟨th,Wl⟩:∃ th,rec vars d 3 (dJ L ar vars k.2).2 lf=th:=⟨_,rfl⟩;rw[Wl] at WO;simp only[Wl] at Th;refine T.rx af follows [0,1,3,4,5,6,7,9,2,8,10,11,12,13,14] [(4,2)] Bw ?_;simp[hC,wd,iu];refine RX.ke 3 5 [0,1,5] [0] 4 (oT L hL vars Wj gs ms fs.length lf ar k.2 Tf) rfl xr rfl rfl rfl xr yA xr xr rfl xr Xd rfl xr xr xr rfl xr ?_;simp;refine RX.ke 3 5 [0,1,2,5] [0,1] 4 (WO) rfl xr rfl rfl rfl xr yA xr xr rfl xr Xd rfl xr xr xr rfl xr ?_;simp[F1,bC];refine aa.le (Le.nz [] [7]) ?_;simp;refine aa.trim [12,11,2,13,6,0,3] [0,1,2,3,4,5,6,7] 8 yCo yA ⟨[],.cX (dJ L ar vars k.2).1 th.1,?_,?_⟩
    .rw[<- Th];rfl
    .rw[<- Th];simp[ji,ml,eS,iu]
   have h7:¬ (k.1=12/\0<deep):=by simpa using h
   rw[if_neg h7] at Th
      /- the end, or statements between a lock and its unlock -/
   obtain⟨i2,WC⟩:∃ i2,(if k.1=13 then (cw L k.2 3).2 else k.2)=i2:=⟨_,rfl⟩;have Z2:i2<=L.length:=by
    rw[<- WC];split
    .exact bq _ _ Tf
    .exact Tf
   refine T.cut (λ s=>s=⟨[(232,.bool (decide (k.1=13/\(cw L k.2 3).1=1))),(12,.int .i64 ((n1:Int)+1)),(11,.a7 6 0 out.length),(2,.a7 5 0 vars.length),(13,.ax 7 0),(6,.ax 4 0),(0,.ax 1 0),(3,I deep)],
    [(0,aJ L i2),(1,bN gs ms fs.length lf ar),(2,dp fs),(3,bu SV),(4,⟨136,0,iu nm ps bc bn⟩),(5,bu vars),(6,kk out),(7,⟨207,0,F1⟩)],8⟩) ?_ ?_
   .by_cases h9:k.1=13
    .rw[if_pos h9] at WC;apply aM;simp[hC,h9,bN];refine TL.cZ af [0] 1 (cQ L k.2 3 Tf hL yA yA) Rg rfl rfl rfl rfl xr TJ TG rfl (TL.go' af ?_);simp[hC];refine aa.trim [232,12,11,2,13,6,0,3] [0,1,2,3,4,5,6,7] 8 ZJ yA ?_;simp[WC]
    .rw[if_neg h9] at WC;apply aM;simp[hC,h9];refine aa.trim [232,12,11,2,13,6,0,3] [0,1,2,3,4,5,6,7] 8 ZJ yA ?_;simp[WC]
   rintro s rfl;refine T.bw rfl (λ h=>?_) (λ h=>?_)
   .have h8:k.1=13/\(cw L k.2 3).1=1:=by simpa using h
    rw[if_pos h8] at Th;rw[if_pos h8.1] at WC;apply aM;simp[hC,F1];refine aa.le (Le.nz [] [7]) ?_;simp;refine aa.trim [12,11,2,13,6,0,3] [0,1,2,3,4,5,6,7] 8 yCp yA ⟨[],.kj,?_,?_⟩
    .rw[<- Th];rfl
    .rw[<- Th,<- WC];simp[ji,ml,bf,eS,iu]
   have h8:¬ (k.1=13/\(cw L k.2 3).1=1):=by simpa using h
   rw[if_neg h8] at Th;have YQ:Dp ⟨L,ar,ms,fs.map λ f=>(f.name,f.params)⟩ rec ps vars i2 lf=B:=by
    rw[<- Th,<- WC];by_cases h9:k.1=13
    .rw[if_pos h9,if_pos h9]
    .rw[if_neg h9,if_neg h9]
   simp only[Dp] at YQ;have Y1:=sB L ar ms ps vars Z2;obtain⟨rf,hrf⟩:∃ rf,j6 L ar ms ps vars i2=rf:=⟨_,rfl⟩;have U6:=vV L hL vars Wj gs ms hm Yx SB fs.length lf ar i2 Z2 nm ps hp bc bn;rw[hrf] at U6 Y1;simp only[hrf] at YQ;have SF:=ih' lf yA vars 0 2 rf.2 yA yA yA yA yA Y1;obtain⟨_,YA⟩:=Zm vars 0 2 rf.2 lf Y1;obtain⟨th,Wl⟩:∃ th,rec vars 0 2 rf.2 lf=th:=⟨_,rfl⟩;rw[Wl] at SF YA;simp only[Wl] at YQ;apply aq;simp[hC,iu];refine TL.ke af 3 5 [0,1,5] 4 (U6) Rg rfl rfl rfl xr yA xr xr rfl xr Xd rfl xr xr (TL.go' af ?_);simp[hC,mh,F1];apply aq;simp[hC];have W3:=oX out;have WW:(out.length+1)*192<=140737488355328:=by omega
   have T0:(out.length+1+th.1.length)*192<=140737488355328:=by omega
   have Xy:=oX th.1;have hln:(out.length+1)*11=out.length*11+11:=by omega
   apply aq;simp[hC,kk,W3,WW,aY];apply aq;simp[hC];refine TL.ke af 3 5 [0,1,2,5] 4 (SF) Rg rfl rfl rfl xr yA xr xr rfl xr Xd rfl xr xr (TL.go' af ?_);simp[hC,W3,Xy,T0,hln];apply aM;simp[hC];refine aa.le (Le.trim [12,11,2,13,6,0,3] [0,1,2,3,4,5,7,11] 12 yDx yA) ?_;simp;refine aa.le (Le.nz [] [7,11]) ?_;simp;refine aa.le (Le.qt 11 6 rfl rfl yA xr xr (by simp[aJ,ints,bN,-all_eq_true,-all_flatMap,bx (bQ out),bx (bQ th.1)])) ?_;simp[aJ,ints,bN,bl (bQ out),bl (bQ th.1)];refine aa.trim [12,11,2,13,6,0,3] [0,1,2,3,4,5,6,7] 8 yDx yA ⟨.dS false rf.1::th.1,.dS true rf.1,?_,?_⟩
   .rw[<- YQ]
   .rw[<- YQ];have e1:out.length+1+th.1.length=out.length+(th.1.length+1):=by omega
    simp[ji,mh,bf,eS,iu,kk,w9,bP,aJ,ints,bN,e1]
  .rintro s ⟨front,last,Wu,rfl⟩;have Tg:(out++front).length<=2000:=by
    have:=Sz.n;rw[Wu] at this;simp at this |-;omega
   have Ym:=oX (out++front);generalize hO:out++front=O at Tg Ym;have hb:(O.length+1)*192<=140737488355328:=by omega
   have wn:=cr (n1:Int) yA yA;apply aM;simp[hC,kk,lP,aY,Ym,hb,Jq];apply aM;simp[hC,wn];refine⟨n1,by omega,aa.le (Le.trim [12,11,2,6,0,3] [0,1,2,3,4,5,9] 10 (by simp[aJ,bN,iu,-all_eq_true,-all_flatMap,ai (bQ O),ai (js last)]) yA) ?_⟩;simp;refine aa.le (Le.qt 9 6 rfl rfl yA xr xr (by simp[aJ,ints,bN,iu,-all_eq_true,-all_flatMap,bx (bQ O),bx (js last)])) ?_;simp[aJ,ints,bN,iu,bl (bQ O),bl (js last)];refine aa.trim [12,11,2,6,0,3] [0,1,2,3,4,5,6] 7 (by simp[-all_eq_true,-all_flatMap,ai (bQ O),ai (js last)]) yA ⟨B.vars,B.i,B.left,out++B.out,?_,Sz.i,?_,?_,?_,by omega,?_⟩
   .rw[hR,append_assoc]
   .have:=Sz.l;omega
   .have:=Sz.v;omega
   .have:=Sz.n;simp;omega
   .have e1:out++B.out=O++[last]:=by rw[Wu,<- append_assoc,hO]
    rw[e1];simp[kk,w9,bP,aJ,ints,bN,iu]
end Go.Proofs.YtlkmbdfhdknlgaaGreat
