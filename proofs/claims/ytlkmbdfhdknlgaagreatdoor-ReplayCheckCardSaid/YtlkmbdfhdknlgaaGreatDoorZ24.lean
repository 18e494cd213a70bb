/- writer.block. -/
import Derived.Test.YtlkmbdfhdknlgaaGreatDoorZ23
namespace Go.Proofs.YtlkmbdfhdknlgaaGreatDoor
open Go.Can Go.aT
def cu (fs:List Fu):Ob:=⟨109,3,fs.flatMap ed⟩
def ib (l:List Sm):Ob:=⟨170,11,bh l⟩
def nE (L:List Int)(ar:Bool)(ms:List Mx)(fs:List Fu):Wr:=⟨L,ar,ms,fs.map fun f=>(f.name,f.params)⟩
theorem gv (x:Sm):trees (gk x)=true:=by
 cases x with
 | cR u r=>rcases r with ⟨_,_ | _⟩<;>rfl
 | fN s e=>cases e<;>rfl
 | gz s e=>cases e<;>rfl
 | jS e _ _=>cases e<;>rfl
 | cb e _=>cases e<;>rfl
 | _=>rfl
theorem bk (l:List Sm):trees (bh l)=true:=by
 induction l with
 | nil=>rfl
 | cons a r ih=>rw[bh,bu,ih,gv];rfl
theorem ll (l:List Sm):(bh l).length=l.length*11:=by rw[lS];exact aQ (f:=gk) jh l
theorem qM:∀ a b:List Sm,bh (a++b)=bh a++bh b
 | [],b=>rfl
 | x::r,b=>by rw[List.cons_append,bh,bh,qM r b,List.append_assoc]
theorem Co (x:Sm):List.take 11 (gk x)=gk x:=List.take_of_length_le (by simp[jh])
theorem cf (fs:List Fu):trees (fs.flatMap ed)=true:=by
 induction fs with
 | nil=>rfl
 | cons a r ih=>rw[List.flatMap_cons,bu,ih];rfl
theorem FV (fs:List Fu)(o:Nat)(cs:List CV)(n:Nat):(fs.flatMap ed).map (bZ o cs n)=fs.flatMap ed:=by
 induction fs with
 | nil=>rfl
 | cons a r ih=>rw[List.flatMap_cons,List.map_append,ih];rfl
@[simp] theorem fsOb_frz (l:List Fu)(o:Nat)(cs:List CV)(n:Nat):(⟨(cu l).elem,(cu l).sz,(cu l).cells.map (bZ o cs n)⟩:Ob)=cu l:=by
 simp only[cu,FV]
@[simp] theorem I1 (ρ:Nat→Nat)(l:List Fu):cr ρ (cu l)=cu l:=by
 simp only[cr,cu,aF ρ _ (cf l)]
@[simp] theorem FT (l:List Fu)(n:Nat):(cu l).cells.all (aZ n)=true:=aj (cf l) n
@[simp] theorem fsOb_lts (l:List Fu)(n:Nat):aO n (cu l).cells=true:=by rw[bU];exact aj (cf l) n
@[simp] theorem fsOb_ok1 (l:List Fu)(o q:Nat):(cu l).cells.all (kX o q)=true:=aY (cf l) o q
@[simp] theorem Bt (l:List Fu)(o q:Nat):(cu l).cells.map (cH o q)=(cu l).cells:=aM (cf l) o q
@[simp] theorem fsOb_eta (l:List Fu):(⟨(cu l).elem,(cu l).sz,(cu l).cells⟩:Ob)=cu l:=rfl
@[simp] theorem JC (l:List Fu)(n o q:Nat):(cu l).cells.all (aZ n∘cH o q)=true:=by rw[← List.all_map,Bt];exact FT l n
@[simp] theorem E2 (l:List Sm)(n:Nat):(ib l).cells.all (aZ n)=true:=aj (bk l) n
@[simp] theorem smOb_ok1 (l:List Sm)(o q:Nat):(ib l).cells.all (kX o q)=true:=aY (bk l) o q
@[simp] theorem AO (l:List Sm)(o q:Nat):(ib l).cells.map (cH o q)=(ib l).cells:=aM (bk l) o q
@[simp] theorem smOb_eta (l:List Sm):(⟨(ib l).elem,(ib l).sz,(ib l).cells⟩:Ob)=ib l:=rfl
@[simp] theorem IY (l:List Sm)(n o q:Nat):(ib l).cells.all (aZ n∘cH o q)=true:=by rw[← List.all_map,AO];exact E2 l n
section
variable (L:List Int)(gs:List Gl)(ms:List Mx)(ar:Bool)(fs:List Fu)(nm:ByteArray)(ps:List Pm)(bc:List CV)(bn:Nat)(Kf:List ByteArray)(rec:Rec)(deep f:Nat)(Sj:List Sm×Nat×Nat)
def J56 (m:Nat)(s:St):Prop:=∃ (vars:List ByteArray) (i left:Nat) (out:List Sm),Sj=(out++(pT (nE L ar ms fs) rec ps deep m vars i left).1,(pT (nE L ar ms fs) rec ps deep m vars i left).2)∧
 i≤L.length∧left≤f∧vars.length+left≤500∧out.length+2*left≤1000∧m≤10∧
 s=⟨[(12,I m),(11,.bw 6 0 out.length),(2,.bw 5 0 vars.length),(6,.ai 4 0),(0,.ai 1 0),(3,I deep)],
  [(0,ax L i),(1,ba gs ms fs.length left ar),(2,cu fs),(3,aW Kf),(4,⟨109,0,fy nm ps bc bn⟩),(5,aW vars),(6,ib out)],7⟩
def K56 (m:Nat)(out:List Sm)(b:G5)(s:St):Prop:=∃ (front:List Sm) (last:Sm),b.out=front++[last]∧
 s=⟨[(12,I m),(11,.bw 6 0 (out++front).length),(2,.bw 5 0 b.vars.length),(13,.ai 7 0),(6,.ai 4 0),(0,.ai 1 0),(3,I deep)],
  [(0,ax L b.i),(1,ba gs ms fs.length b.left ar),(2,cu fs),(3,aW Kf),(4,⟨109,0,fy nm ps bc bn⟩),(5,aW b.vars),(6,ib (out++front)),(7,⟨170,0,gk last⟩)],8⟩
end
@[simp] theorem JE (e:Ex)(a b c d f:CV):List.take 7 (bC e++[a,b,c,d,f])=bC e++[a,b,c]:=by cases e<;>rfl
@[simp] theorem JG (e:Ex)(a b c d f:CV):List.drop 8 (bC e++[a,b,c,d,f])=[f]:=by cases e<;>rfl
@[simp] theorem JD (e:Ex)(a b c d f:CV):List.take 8 (bC e++[a,b,c,d,f])=bC e++[a,b,c,d]:=by cases e<;>rfl
@[simp] theorem JF (e:Ex)(a b c d f:CV):List.drop 9 (bC e++[a,b,c,d,f])=[]:=by cases e<;>rfl
@[simp] theorem nz_smsC (l:List Sm):(bh l).map nz=bh l:=by
 induction l with
 | nil=>rfl
 | cons a r ih=>
  rw[bh,List.map_append,ih];congr 1
  cases a with
  | cR u r=>rcases r with ⟨_,_ | _⟩<;>rfl
  | fN s e=>cases e<;>rfl
  | gz s e=>cases e<;>rfl
  | jS e _ _=>cases e<;>rfl
  | cb e _=>cases e<;>rfl
  | _=>rfl
def stK (c:Int):List CV:=[I c,.str ⟨#[]⟩,.int .i64 0,.int .i64 0,.str ⟨#[]⟩,.ag,.str ⟨#[]⟩,.ag,.ag,.ag,.ag]
def zx:List CV:=[I 5,.str ⟨#[]⟩,.int .i64 0,.int .i64 0,.str ⟨#[]⟩,.ag,.str ⟨#[]⟩,.ag,.ag,.ag,.ag]
set_option maxHeartbeats 8000000 in
theorem AE (L:List Int)(hL:L.length≤1000)(gs:List Gl)(ms:List Mx)(hm:0<ms.length)(PY:ms.length≤100)(CX:∀ m∈ms,m.size≤1000)(ar:Bool)(fs:List Fu)(LL:0<fs.length)(ZU:fs.length≤100)(Ng:∀ f∈fs,f.params.length≤100)
  (nm:ByteArray) (ps:List Pm) (hp:ps.length≤100) (bc:List CV) (bn:Nat):∀ (left f:Nat) (vars:List ByteArray) (deep most i:Nat),left≤f→left≤100→vars.length+left≤500→deep≤10→most≤9→i≤L.length →
  Body Tryz.prog ak 45 [.ai 1 0,.agg (fy nm ps bc bn),.bw 3 0 vars.length,I deep,I most] [(0,ax L i),(1,ba gs ms fs.length left ar),(2,cu fs),(3,aW vars)] 4
   (jQ (.au (bh (k9 (nE L ar ms fs) ps f vars deep most i left).1) (k9 (nE L ar ms fs) ps f vars deep most i left).1.length) [(0,ax L (k9 (nE L ar ms fs) ps f vars deep most i left).2.1),(1,ba gs ms fs.length (k9 (nE L ar ms fs) ps f vars deep most i left).2.2 ar),(2,cu fs),(3,aW vars)] 4):=by
 intro LU
 induction LU using Nat.strongRecOn with
 | _ LU ih=>
 intro f Kf deep most i0 hl hf Y8 UI hmo Nf;generalize RG:k9 (nE L ar ms fs) ps f Kf deep most i0 LU=Sj;have PN:Sj=pT (nE L ar ms fs) (k9 (nE L ar ms fs) ps (f-1)) ps deep (bO L i0 (most+1)).1 Kf (bO L i0 (most+1)).2 LU:=by
  cases f with
  | zero=>
   have:LU=0:=by omega
   subst this;rw[← RG]
   cases h:(bO L i0 (most+1)).1 with
   | zero=>simp[k9,pT,nE]
   | succ n=>simp[k9,pT,nE]
  | succ f=>rw[← RG];rfl
 clear RG;have Qf:sj L (k9 (nE L ar ms fs) ps (f-1)):=qB (nE L ar ms fs) ps (f-1);have SC:=fun (left:Nat) (yN:left<LU)=>ih left yN (f-1);clear ih;generalize Q3:k9 (nE L ar ms fs) ps (f-1)=rec at SC PN Qf;have QZ:(bO L i0 (most+1)).1≤most:=Nat.le_of_lt_succ (cI L i0 yA);have Kp:=aV L (most+1) Nf;have wm:=cm ((most:Int)+1) yA yA;refine Body.je Tryz.func45 rfl lz (by simp[Tryz.ntmps45]) fun C hC xJ=>?_;rw[Tryz.ntmps45] at hC;apply ah;simp[hC,fy];apply ah;simp[hC];have UO:Kf.length*16≤140737488355328:=by omega
 apply ah;simp[hC,aW,UO];apply aL;simp[hC,wm,ba];refine TL.cd af [0] 1 (bX L i0 (most+1) Nf hL yA yA) yI rfl rfl rfl rfl j5 Ku Kt rfl (TL.go' af ?_);simp[hC];generalize bO L i0 (most+1)=k at QZ Kp PN;have Kk:List.take Kf.length (Kf.map CV.str)=Kf.map CV.str:=List.take_of_length_le j5;simp only[Kk];apply T.block;refine T.aI (J56 L gs ms ar fs nm ps bc bn Kf rec deep LU Sj) (n:=k.1) ?_ ?_
 ·refine aa.le (Le.own 11 170 11 rfl) ?_;simp;refine aa.le (Le.trim [12,11,2,6,0,3] [0,1,2,3,4,6,7] 8 (by simp[ax,cu,-List.all_eq_true,-List.all_flatMap,aj (cf fs)]) yA) ?_;simp;refine aa.le (Le.mq 6 5 rfl rfl yA j5 j5 (by simp[ax,ints,cu,-List.all_eq_true,-List.all_flatMap,aY (cf fs),aY (dE Kf)])) ?_;simp[aM (cf fs),aM (dE Kf),ax,cu,ints];refine aa.le (Le.mq 7 6 rfl rfl yA j5 j5 (by simp[-List.all_eq_true,-List.all_flatMap,aY (cf fs),aY (dE Kf)])) ?_;simp[aM (cf fs),aM (dE Kf)];refine aa.trim [12,11,2,6,0,3] [0,1,2,3,4,5,6] 7 (by simp[-List.all_eq_true,-List.all_flatMap,aj (cf fs),aj (dE Kf)]) yA ⟨Kf,k.2,LU,[],?_,Kp,Nat.le_refl _,Y8,?_,by omega,?_⟩
  ·rw[PN];rfl
  ·simp;omega
  ·simp[aW,ax,ba,cu,ib,ints,bh,fy]
 ·rintro n s ⟨vars,i,left,out,hR,hi,hle,Y7,NO,ZF,rfl⟩;by_cases ML:n=0
  ·subst ML;have MY:Sj=(out,i,left):=by rw[hR];simp[pT]
   clear hR;apply aL;simp[hC];refine aU ?_;simp;apply T.exit;simp;apply ah;simp[hC];apply T.ret;have SH:(bh out).take (out.length*11)=bh out:=List.take_of_length_le (by rw[ll];exact Nat.le_refl _);refine aa.le (Le.trim [10] [0,1,2,3,6] 7 (by simp[ax,ba,-List.all_eq_true,-List.all_flatMap]) yA) ?_;simp;refine aa.le (Le.dC (o:=6) rfl (bk out)) ?_;simp[ib,SH];refine aa.trim [10] [0,1,2,3] 4 (by simp[ax,ba,-List.all_eq_true,-List.all_flatMap]) yA ⟨_,?_,rfl,?_,rfl⟩
   ·simp[MY]
   ·simp[ba,aW,MY]
  obtain⟨n1,rfl⟩:∃ n1,n=n1+1:=⟨n-1,by omega⟩;by_cases N4:left=0
  ·subst N4;have MY:Sj=(out,i,0):=by rw[hR];simp[pT]
   clear hR;apply aL;simp[hC,ba];refine aU ?_;simp;apply T.exit;simp;apply ah;simp[hC];apply T.ret;have SH:(bh out).take (out.length*11)=bh out:=List.take_of_length_le (by rw[ll];exact Nat.le_refl _);refine aa.le (Le.trim [10] [0,1,2,3,6] 7 (by simp[ax,-List.all_eq_true,-List.all_flatMap]) yA) ?_;simp;refine aa.le (Le.dC (o:=6) rfl (bk out)) ?_;simp[ib,SH];refine aa.trim [10] [0,1,2,3] 4 (by simp[ax,-List.all_eq_true,-List.all_flatMap]) yA ⟨_,?_,rfl,?_,rfl⟩
   ·simp[MY]
   ·simp[aW,MY]
  obtain⟨lf,rfl⟩:∃ lf,left=lf+1:=⟨left-1,by omega⟩;have Wa:pT (nE L ar ms fs) rec ps deep (n1+1) vars i (lf+1)=((vC (nE L ar ms fs) rec ps vars deep i lf).out++(pT (nE L ar ms fs) rec ps deep n1 (vC (nE L ar ms fs) rec ps vars deep i lf).vars (vC (nE L ar ms fs) rec ps vars deep i lf).i (vC (nE L ar ms fs) rec ps vars deep i lf).left).1,(pT (nE L ar ms fs) rec ps deep n1 (vC (nE L ar ms fs) rec ps vars deep i lf).vars (vC (nE L ar ms fs) rec ps vars deep i lf).i (vC (nE L ar ms fs) rec ps vars deep i lf).left).2):=by
   rw[pT,if_neg yA];rfl
  rw[Wa] at hR;have wl:((lf+1:Nat):Int)-1=(lf:Int):=by omega
  have YH:=cm (lf:Int) yA yA;apply aL;simp[hC,ba];refine gF ?_;simp;have Km:=Cv (w:=nE L ar ms fs) Qf ps vars deep lf hi;generalize hB:vC (nE L ar ms fs) rec ps vars deep i lf=B at Km hR Wa;clear Wa;apply fw;apply ah;simp[hC,YH];apply ah;simp[hC];refine T.cut (K56 L gs ms ar fs nm ps bc bn Kf deep (n1+1) out B) ?_ ?_
  ·have Kp:=aV L 14 hi;have Kw:=hB;have KB:=bX L i 14 hi hL yA yA;obtain⟨k,hk⟩:∃ k,bO L i 14=k:=⟨_,rfl⟩;simp only[vC,nE,hk] at Kw;rw[hk] at Kp KB;apply ah;simp[hC];refine TL.cd af [0] 1 (KB) yI rfl rfl rfl rfl j5 Ku Kt rfl (TL.go' af ?_);simp[hC];have Nq:vars.length≤1000:=by omega
   refine T.le (Le.trim [14,12,11,2,13,6,0,3] [0,1,2,3,4,5,6,7] 8 (by simp[ax,fy,-List.all_eq_true,-List.all_flatMap]) yA) ?_;simp;have ew:(⟨102,0,[CV.ai 0 0,CV.au (gs.flatMap mL) gs.length,CV.au (ms.flatMap eQ) ms.length,CV.bw 2 0 fs.length,.int .i64 lf,CV.bool ar]⟩:Ob)=ba gs ms fs.length lf ar:=rfl;rw[ew];apply T.block;apply ah;simp[hC];refine T.aX rfl (fun h=>?_) (fun h=>?_)
   ·have h1:k.1<4:=by simpa using h
    rw[if_pos h1] at Kw;apply a8;simp[hC,fy];refine TL.hZ af 3 5 [0,1,5] 4 (qf L hL vars Nq gs ms hm PY CX fs.length lf ar k.2 Kp nm ps hp bc bn) yI rfl rfl rfl j5 yA j5 j5 rfl j5 Of rfl j5 j5 (TL.go' af ?_);simp[hC,jw];refine aa.le (Le.nz [] [7]) ?_;simp;refine aa.trim [12,11,2,13,6,0,3] [0,1,2,3,4,5,6,7] 8 LR yA ⟨[],.cR false (g7 L ar ms ps vars k.2).1,?_,?_⟩
    ·rw[← Kw];rfl
    ·rw[← Kw];simp[gk,jw,bC,eS,fy]
   have h1:¬ k.1<4:=by simpa using h
   rw[if_neg h1] at Kw;apply ah;simp[hC];refine T.aX rfl (fun h=>?_) (fun h=>?_)
   ·have h2:k.1<7:=by simpa using h
    rw[if_pos h2] at Kw;apply a8;simp[hC,fy];refine TL.hZ af 3 5 [0,1,5] 4 (qf L hL vars Nq gs ms hm PY CX fs.length lf ar k.2 Kp nm ps hp bc bn) yI rfl rfl rfl j5 yA j5 j5 rfl j5 Of rfl j5 j5 (TL.go' af ?_);simp[hC,jw];refine aa.le (Le.nz [] [7]) ?_;simp;refine aa.trim [12,11,2,13,6,0,3] [0,1,2,3,4,5,6,7] 8 LR yA ⟨[],.cR true (g7 L ar ms ps vars k.2).1,?_,?_⟩
    ·rw[← Kw];rfl
    ·rw[← Kw];simp[gk,jw,bC,eS,fy]
   have h2:¬ k.1<7:=by simpa using h
   rw[if_neg h2] at Kw;apply ah;simp[hC];refine T.aX rfl (fun h=>?_) (fun h=>?_)
   ·have h3:k.1=7:=by simpa using h
    rw[if_pos h3] at Kw;apply T.seq;obtain⟨a,ha⟩:∃ a,lf % 26=a:=⟨_,rfl⟩;obtain⟨q,hq⟩:∃ q,lf / 26=q:=⟨_,rfl⟩;obtain⟨b,hb⟩:∃ b,q % 26=b:=⟨_,rfl⟩;have PV:eA lf=⟨#[118]⟩++⟨#[97+UInt8.ofNat a,97+UInt8.ofNat b]⟩:=by simp[eA,ha,hq,hb]
    have so:jY BinOp.add ⟨#[118]⟩ ⟨#[97+UInt8.ofNat a,97+UInt8.ofNat b]⟩=some (.str (eA lf)):=by rw[PV];rfl
    have a1:(lf:Int).tmod 26=(a:Int):=by rw[Int.tmod_eq_emod_of_nonneg yA];omega
    have a2:=cm (97+(a:Int)) yA yA;have a3:IntKind.u8.wrap (97+(a:Int))=97+(a:Int):=IntWalk.u8_in _ yA;have a4:(0:Int)≤97+(a:Int)∧97+(a:Int)<256:=by omega
    have a5:(97+(a:Int)).toNat=97+a:=by omega
    have q1:IntKind.i64.wrap ((lf:Int) / 26)=(q:Int):=by rw[cm _ yA yA];omega
    have b1:(q:Int).tmod 26=(b:Int):=by rw[Int.tmod_eq_emod_of_nonneg yA];omega
    have b2:=cm (97+(b:Int)) yA yA;have b3:IntKind.u8.wrap (97+(b:Int))=97+(b:Int):=IntWalk.u8_in _ yA;have b4:(0:Int)≤97+(b:Int)∧97+(b:Int)<256:=by omega
    have b5:(97+(b:Int)).toNat=97+b:=by omega
    refine T.rx af follows [0,1,3,4,5,6,7,8,9,10,11,12,13,14,15,16,17,18,19,20,21,2,22,23,24,25,26] [(6,2),(6,22),(6,24),(9,2),(9,22),(9,24),(13,2),(13,22),(13,24),(17,2),(17,22),(17,24),(18,2),(18,22),(18,24),(19,2),(19,22),(19,24)] lz ?_;simp[hC,ba,a1,a2,a3,a4,a5,q1,b1,b2,b3,b4,b5,so];rw[ew];refine RX.hZ 3 5 [0,1,5] [0] 4 (lg L hL vars Nq gs ms fs.length lf ar k.2 Kp) rfl j5 rfl rfl rfl j5 yA j5 j5 rfl j5 Of rfl j5 j5 j5 rfl j5 ?_;simp[bA];have hbv:(vars.length+1)*16≤140737488355328:=by omega
    apply a8;simp[hC,aW,hbv];refine aa.le (Le.trim [12,11,2,13,6,0,3] [0,1,2,3,4,6,7,36] 37 (by simp[fy,-List.all_eq_true,-List.all_flatMap,gL]) yA) ?_;simp;refine aa.le (Le.mq 36 5 rfl rfl yA j5 j5 (by simp[ax,ints,ba,fy,-List.all_eq_true,-List.all_flatMap,uW])) ?_;simp[ax,ints,ba,fy];refine aa.le (Le.nz [] [7]) ?_;simp;refine aa.trim [12,11,2,13,6,0,3] [0,1,2,3,4,5,6,7] 8 Sn yA ⟨[],.fN (eA lf) (cL L ar vars k.2).1,?_,?_⟩
    ·rw[← Kw];rfl
    ·rw[← Kw];simp[gk,jy,eS,fy,aW,ax,ints,ba]
   have h3:¬ k.1=7:=by simpa using h
   rw[if_neg h3] at Kw
      /- an assignment? -/
   refine T.cut (fun s=>s=⟨[(119,.bool (decide (k.1=8∧0<vars.length))),(14,I k.1),(12,.int .i64 ((n1:Int)+1)),(11,.bw 6 0 out.length),(2,.bw 5 0 vars.length),(13,.ai 7 0),(6,.ai 4 0),(0,.ai 1 0),(3,I deep)],
    [(0,ax L k.2),(1,ba gs ms fs.length lf ar),(2,cu fs),(3,aW Kf),(4,⟨109,0,fy nm ps bc bn⟩),(5,aW vars),(6,ib out),(7,⟨170,0,zx⟩)],8⟩) ?_ ?_
   ·by_cases h8:k.1=8
    ·apply a8;simp[hC,h8];refine aa.trim [119,14,12,11,2,13,6,0,3] [0,1,2,3,4,5,6,7] 8 Sl yA ?_;simp[zx]
    ·apply a8;simp[hC,h8];refine aa.trim [119,14,12,11,2,13,6,0,3] [0,1,2,3,4,5,6,7] 8 Sl yA ?_;simp[zx]
   rintro s rfl;refine T.aX rfl (fun h=>?_) (fun h=>?_)
   ·have h4:k.1=8∧0<vars.length:=by simpa using h
    rw[if_pos h4] at Kw;have yN:=cI L k.2 h4.2;have Tg:=bX L k.2 vars.length Kp hL h4.2 yA;have KK:=aV L vars.length Kp;obtain⟨j,hj⟩:∃ j,bO L k.2 vars.length=j:=⟨_,rfl⟩;rw[hj] at yN Tg KK;simp only[hj] at Kw;have oy:(aW vars).cells.drop j.1=.str (vars.getD j.1 eS)::(vars.map CV.str).drop (j.1+1):=gS yN;have Pe:(aW vars).sz=1:=rfl;refine T.rx af follows [0,1,2,3,4,5,6,10,11,13,7,8,9,12,14,15,16,17,18] [(9,12),(9,14)] lz ?_;simp[hC,ba];rw[ew];refine RX.cd [0] [0] 1 (Tg) rfl j5 rfl rfl rfl rfl j5 Ku Kt rfl rfl rfl j5 ?_;simp[yN,oy];refine RX.hZ 3 5 [0,1,5] [0] 4 (lg L hL vars Nq gs ms fs.length lf ar j.2 KK) rfl j5 rfl rfl rfl j5 yA j5 j5 rfl j5 Of rfl j5 j5 j5 rfl j5 ?_;simp[bA,zx];refine aa.le (Le.nz [] [7]) ?_;simp;refine aa.trim [12,11,2,13,6,0,3] [0,1,2,3,4,5,6,7] 8 (by simp[fy,-List.all_eq_true,-List.all_flatMap,gL]) yA ⟨[],.gz (vars.getD j.1 eS) (cL L ar vars j.2).1,?_,?_⟩
    ·rw[← Kw];rfl
    ·rw[← Kw];simp[gk,jy,eS,fy,yN]
   have h4:¬ (k.1=8∧0<vars.length):=by simpa using h
   rw[if_neg h4] at Kw
      /- a call? -/
   refine T.cut (fun s=>s=⟨[(143,.bool (decide (k.1=9∨k.1=10))),(14,I k.1),(12,.int .i64 ((n1:Int)+1)),(11,.bw 6 0 out.length),(2,.bw 5 0 vars.length),(13,.ai 7 0),(6,.ai 4 0),(0,.ai 1 0),(3,I deep)],
    [(0,ax L k.2),(1,ba gs ms fs.length lf ar),(2,cu fs),(3,aW Kf),(4,⟨109,0,fy nm ps bc bn⟩),(5,aW vars),(6,ib out),(7,⟨170,0,zx⟩)],8⟩) ?_ ?_
   ·by_cases h9:k.1=9
    ·apply a8;simp[hC,h9];refine aa.trim [143,14,12,11,2,13,6,0,3] [0,1,2,3,4,5,6,7] 8 Qx yA ?_;simp
    ·apply a8;simp[hC,h9];refine aa.trim [143,14,12,11,2,13,6,0,3] [0,1,2,3,4,5,6,7] 8 Qx yA ?_;simp
   rintro s rfl;refine T.aX rfl (fun h=>?_) (fun h=>?_)
   ·have h5:k.1=9∨k.1=10:=by simpa using h
    have PQ:fH ⟨L,ar,ms,fs.map fun f=>(f.name,f.params)⟩ ps vars (decide (k.1=10)) k.2 lf=B:=by
     by_cases h9:k.1=9
     ·rw[if_pos h9] at Kw;rw[← Kw];simp[h9]
     ·have Sh:k.1=10:=by omega
      rw[if_neg h9,if_pos Sh] at Kw;rw[← Kw];simp[Sh]
    simp only[fH,List.length_map] at PQ;apply ah;simp[hC,zx];refine T.cut (fun s=>s=⟨[(12,.int .i64 ((n1:Int)+1)),(11,.bw 6 0 out.length),(2,.bw 5 0 vars.length),(13,.ai 7 0),(6,.ai 4 0),(0,.ai 1 0),(3,I deep)],
     [(0,ax L k.2),(1,ba gs ms fs.length lf ar),(2,cu fs),(3,aW Kf),(4,⟨109,0,fy nm ps bc bn⟩),(5,aW vars),(6,ib out),(7,⟨170,0,stK (if k.1=10 then 4 else 3)⟩)],8⟩) ?_ ?_
    ·apply ah;simp[hC];refine T.aX rfl (fun h=>?_) (fun h=>?_)
     ·have Sh:k.1=10:=by simpa using h
      apply a8;simp[hC];refine aa.trim [12,11,2,13,6,0,3] [0,1,2,3,4,5,6,7] 8 Sl yA ?_;simp[Sh,stK]
     ·have Sh:¬ k.1=10:=by simpa using h
      apply T.skip;simp;refine aa.trim [12,11,2,13,6,0,3] [0,1,2,3,4,5,6,7] 8 Sl yA ?_;simp[Sh,stK]
    rintro s rfl;have yN:=cI L k.2 LL;have Tg:=bX L k.2 fs.length Kp hL LL yA;have KK:=aV L fs.length Kp;obtain⟨j,hj⟩:∃ j,bO L k.2 fs.length=j:=⟨_,rfl⟩;rw[hj] at yN Tg KK;simp only[hj] at PQ;obtain⟨g,hg⟩:∃ g,fs[j.1]? = some g:=⟨fs[j.1],List.getElem?_eq_getElem yN⟩;have L6:(fs.map fun f=>(f.name,f.params)).getD j.1 (eS,[])=(g.name,g.params):=by simp[List.getD,hg]
    simp only[L6] at PQ;have ZR:=Ng g (List.mem_of_getElem? hg);have oy:(cu fs).cells.drop (j.1*3)=ed g++(fs.drop (j.1+1)).flatMap ed:=az (f:=ed) (n:=3) (fun _=>rfl) hg;have Pe:(cu fs).sz=3:=rfl;have De:(cu fs).cells.length=fs.length*3:=aQ (f:=ed) (n:=3) (fun _=>rfl) fs;apply T.seq;refine T.rx af follows [0,1,2,3,4,5,6,7,8,9,10,11,12,13,14,18,15,16,17,19] [(4,18),(4,15),(8,18),(13,18),(18,15),(18,17)] lz ?_;simp[hC,ba];rw[ew];refine RX.cd [0] [0] 1 (Tg) rfl j5 rfl rfl rfl rfl j5 Ku Kt rfl rfl rfl j5 ?_;simp[yN,oy,ed];refine T.rx af follows [0,1,2,3,4,5,7,6,8,9,10] [(1,6)] lz ?_;simp[hC,fy];refine RX.hZ 3 5 [0,1,5] [0] 4 (Cd L hL vars Nq gs ms hm PY CX fs.length lf ar j.2 KK nm ps hp bc bn g.name g.params ZR (bh g.body) g.body.length) rfl j5 rfl rfl rfl j5 yA j5 j5 rfl j5 Of rfl j5 j5 j5 rfl j5 ?_;simp[stK];refine aa.le (Le.nz [] [7]) ?_;simp;refine aa.trim [12,11,2,13,6,0,3] [0,1,2,3,4,5,6,7] 8 LR yA ⟨[],.dm (decide (k.1=10)) g.name (cE L ar ms ps vars g.params j.2).1,?_,?_⟩
    ·rw[← PQ];rfl
    ·rw[← PQ];simp[gk,jy,bC,eS,fy,pC]
   have h5:¬ k.1=9∧¬ k.1=10:=by simpa using h
   rw[if_neg h5.1,if_neg h5.2] at Kw
      /- a condition? -/
   refine T.cut (fun s=>s=⟨[(181,.bool (decide (k.1=11∧0<deep))),(14,I k.1),(12,.int .i64 ((n1:Int)+1)),(11,.bw 6 0 out.length),(2,.bw 5 0 vars.length),(13,.ai 7 0),(6,.ai 4 0),(0,.ai 1 0),(3,I deep)],
    [(0,ax L k.2),(1,ba gs ms fs.length lf ar),(2,cu fs),(3,aW Kf),(4,⟨109,0,fy nm ps bc bn⟩),(5,aW vars),(6,ib out),(7,⟨170,0,zx⟩)],8⟩) ?_ ?_
   ·by_cases h9:k.1=11
    ·apply a8;simp[hC,h9];refine aa.trim [181,14,12,11,2,13,6,0,3] [0,1,2,3,4,5,6,7] 8 Qx yA ?_;simp
    ·apply a8;simp[hC,h9];refine aa.trim [181,14,12,11,2,13,6,0,3] [0,1,2,3,4,5,6,7] 8 Qx yA ?_;simp
   rintro s rfl;refine T.aX rfl (fun h=>?_) (fun h=>?_)
   ·have h6:k.1=11∧0<deep:=by simpa using h
    rw[if_pos h6] at Kw;obtain⟨d,rfl⟩:∃ d,deep=d+1:=⟨deep-1,by omega⟩;have Mr:((d+1:Nat):Int)-1=(d:Int):=by omega
    have wd:=cm (d:Int) yA yA;have KK:=iW L ar vars Kp;simp only[Jz,Nat.add_sub_cancel] at Kw;have Ns:=SC lf yA vars d 3 (cL L ar vars k.2).2 yA yA yA yA yA KK;obtain⟨Mq,Pv⟩:=Qf vars d 3 (cL L ar vars k.2).2 lf KK;obtain⟨th,Nr⟩:∃ th,rec vars d 3 (cL L ar vars k.2).2 lf=th:=⟨_,rfl⟩;rw[Nr] at Ns Mq Pv;simp only[Nr] at Kw;apply T.seq;refine T.rx af follows [0,1,3,4,5,6,7,9,2,8,10,11,12,13,14] [(4,2)] lz ?_;simp[hC,wd,fy];refine RX.hZ 3 5 [0,1,5] [0] 4 (lg L hL vars Nq gs ms fs.length lf ar k.2 Kp) rfl j5 rfl rfl rfl j5 yA j5 j5 rfl j5 Of rfl j5 j5 j5 rfl j5 ?_;simp;refine RX.hZ 3 5 [0,1,2,5] [0,1] 4 (Ns) rfl j5 rfl rfl rfl j5 yA j5 j5 rfl j5 Of rfl j5 j5 j5 rfl j5 ?_;simp[zx,bA];have Tk:=bX L th.2.1 2 Mq hL yA yA;have P0:=aV L 2 Mq;obtain⟨c,hc⟩:∃ c,bO L th.2.1 2=c:=⟨_,rfl⟩;rw[hc] at Tk P0;simp only[hc] at Kw;refine T.le (Le.trim [12,11,2,13,6,0,3] [0,1,2,3,4,5,6,7] 8 Sn yA) ?_;simp;apply ah;simp[hC,ba];refine TL.cd af [0] 1 (Tk) yI rfl rfl rfl rfl j5 Ku Kt rfl (TL.go' af ?_);simp[hC];have ew2:(⟨102,0,[CV.ai 0 0,CV.au (gs.flatMap mL) gs.length,CV.au (ms.flatMap eQ) ms.length,CV.bw 2 0 fs.length,I th.2.2,CV.bool ar]⟩:Ob)=ba gs ms fs.length th.2.2 ar:=rfl;rw[ew2];refine T.aX rfl (fun h=>?_) (fun h=>?_)
    ·have Oc:c.1=1:=by simpa using h
     rw[if_pos Oc] at Kw;have Ki:=SC th.2.2 yA vars d 3 c.2 yA yA yA yA yA P0;obtain⟨el,TJ⟩:∃ el,rec vars d 3 c.2 th.2.2=el:=⟨_,rfl⟩;rw[TJ] at Ki;simp only[TJ] at Kw;apply a8;simp[hC,wd];refine TL.hZ af 3 5 [0,1,2,5] 4 (Ki) yI rfl rfl rfl j5 yA j5 j5 rfl j5 Of rfl j5 j5 (TL.go' af ?_);simp[hC,bA];refine aa.le (Le.nz [] [7]) ?_;simp;refine aa.trim [12,11,2,13,6,0,3] [0,1,2,3,4,5,6,7] 8 Sn yA ⟨[],.jS (cL L ar vars k.2).1 th.1 el.1,?_,?_⟩
     ·rw[← Kw];rfl
     ·rw[← Kw];simp[gk,jy,eS,fy]
    ·have Oc:¬ c.1=1:=by simpa using h
     rw[if_neg Oc] at Kw;apply T.skip;simp;refine aa.le (Le.nz [] [7]) ?_;simp;refine aa.trim [12,11,2,13,6,0,3] [0,1,2,3,4,5,6,7] 8 Sn yA ⟨[],.jS (cL L ar vars k.2).1 th.1 [],?_,?_⟩
     ·rw[← Kw];rfl
     ·rw[← Kw];simp[gk,jy,eS,fy,bh]
   have h6:¬ (k.1=11∧0<deep):=by simpa using h
   rw[if_neg h6] at Kw
      /- a loop? -/
   refine T.cut (fun s=>s=⟨[(213,.bool (decide (k.1=12∧0<deep))),(14,I k.1),(12,.int .i64 ((n1:Int)+1)),(11,.bw 6 0 out.length),(2,.bw 5 0 vars.length),(13,.ai 7 0),(6,.ai 4 0),(0,.ai 1 0),(3,I deep)],
    [(0,ax L k.2),(1,ba gs ms fs.length lf ar),(2,cu fs),(3,aW Kf),(4,⟨109,0,fy nm ps bc bn⟩),(5,aW vars),(6,ib out),(7,⟨170,0,zx⟩)],8⟩) ?_ ?_
   ·by_cases h9:k.1=12
    ·apply a8;simp[hC,h9];refine aa.trim [213,14,12,11,2,13,6,0,3] [0,1,2,3,4,5,6,7] 8 Qx yA ?_;simp
    ·apply a8;simp[hC,h9];refine aa.trim [213,14,12,11,2,13,6,0,3] [0,1,2,3,4,5,6,7] 8 Qx yA ?_;simp
   rintro s rfl;refine T.aX rfl (fun h=>?_) (fun h=>?_)
   ·have h7:k.1=12∧0<deep:=by simpa using h
    rw[if_pos h7] at Kw;obtain⟨d,rfl⟩:∃ d,deep=d+1:=⟨deep-1,by omega⟩;have Mr:((d+1:Nat):Int)-1=(d:Int):=by omega
    have wd:=cm (d:Int) yA yA;have KK:=iW L ar vars Kp;simp only[IS,Nat.add_sub_cancel] at Kw;have Ns:=SC lf yA vars d 3 (cL L ar vars k.2).2 yA yA yA yA yA KK;obtain⟨th,Nr⟩:∃ th,rec vars d 3 (cL L ar vars k.2).2 lf=th:=⟨_,rfl⟩;rw[Nr] at Ns;simp only[Nr] at Kw;refine T.rx af follows [0,1,3,4,5,6,7,9,2,8,10,11,12,13,14] [(4,2)] lz ?_;simp[hC,wd,fy];refine RX.hZ 3 5 [0,1,5] [0] 4 (lg L hL vars Nq gs ms fs.length lf ar k.2 Kp) rfl j5 rfl rfl rfl j5 yA j5 j5 rfl j5 Of rfl j5 j5 j5 rfl j5 ?_;simp;refine RX.hZ 3 5 [0,1,2,5] [0,1] 4 (Ns) rfl j5 rfl rfl rfl j5 yA j5 j5 rfl j5 Of rfl j5 j5 j5 rfl j5 ?_;simp[zx,bA];refine aa.le (Le.nz [] [7]) ?_;simp;refine aa.trim [12,11,2,13,6,0,3] [0,1,2,3,4,5,6,7] 8 Sn yA ⟨[],.cb (cL L ar vars k.2).1 th.1,?_,?_⟩
    ·rw[← Kw];rfl
    ·rw[← Kw];simp[gk,jy,eS,fy]
   have h7:¬ (k.1=12∧0<deep):=by simpa using h
   rw[if_neg h7] at Kw
      /- the end, or statements between a lock and its unlock -/
   obtain⟨i2,NC⟩:∃ i2,(if k.1=13 then (bO L k.2 3).2 else k.2)=i2:=⟨_,rfl⟩;have QG:i2≤L.length:=by
    rw[← NC];split
    ·exact aV _ _ Kp
    ·exact Kp
   refine T.cut (fun s=>s=⟨[(232,.bool (decide (k.1=13∧(bO L k.2 3).1=1))),(12,.int .i64 ((n1:Int)+1)),(11,.bw 6 0 out.length),(2,.bw 5 0 vars.length),(13,.ai 7 0),(6,.ai 4 0),(0,.ai 1 0),(3,I deep)],
    [(0,ax L i2),(1,ba gs ms fs.length lf ar),(2,cu fs),(3,aW Kf),(4,⟨109,0,fy nm ps bc bn⟩),(5,aW vars),(6,ib out),(7,⟨170,0,zx⟩)],8⟩) ?_ ?_
   ·by_cases h9:k.1=13
    ·rw[if_pos h9] at NC;apply a8;simp[hC,h9,ba];refine TL.cd af [0] 1 (bX L k.2 3 Kp hL yA yA) yI rfl rfl rfl rfl j5 Ku Kt rfl (TL.go' af ?_);simp[hC];refine aa.trim [232,12,11,2,13,6,0,3] [0,1,2,3,4,5,6,7] 8 Qx yA ?_;simp[NC]
    ·rw[if_neg h9] at NC;apply a8;simp[hC,h9];refine aa.trim [232,12,11,2,13,6,0,3] [0,1,2,3,4,5,6,7] 8 Qx yA ?_;simp[NC]
   rintro s rfl;refine T.aX rfl (fun h=>?_) (fun h=>?_)
   ·have h8:k.1=13∧(bO L k.2 3).1=1:=by simpa using h
    rw[if_pos h8] at Kw;rw[if_pos h8.1] at NC;apply a8;simp[hC,zx];refine aa.le (Le.nz [] [7]) ?_;simp;refine aa.trim [12,11,2,13,6,0,3] [0,1,2,3,4,5,6,7] 8 Sl yA ⟨[],.ia,?_,?_⟩
    ·rw[← Kw];rfl
    ·rw[← Kw,← NC];simp[gk,jy,bC,eS,fy]
   have h8:¬ (k.1=13∧(bO L k.2 3).1=1):=by simpa using h
   rw[if_neg h8] at Kw;have PQ:xE ⟨L,ar,ms,fs.map fun f=>(f.name,f.params)⟩ rec ps vars i2 lf=B:=by
    rw[← Kw,← NC];by_cases h9:k.1=13
    ·rw[if_pos h9,if_pos h9]
    ·rw[if_neg h9,if_neg h9]
   simp only[xE] at PQ;have PZ:=nW L ar ms ps vars QG;obtain⟨rf,S8⟩:∃ rf,g7 L ar ms ps vars i2=rf:=⟨_,rfl⟩;have LQ:=qf L hL vars Nq gs ms hm PY CX fs.length lf ar i2 QG nm ps hp bc bn;rw[S8] at LQ PZ;simp only[S8] at PQ;have Kz:=SC lf yA vars 0 2 rf.2 yA yA yA yA yA PZ;obtain⟨_,Pv⟩:=Qf vars 0 2 rf.2 lf PZ;obtain⟨th,Nr⟩:∃ th,rec vars 0 2 rf.2 lf=th:=⟨_,rfl⟩;rw[Nr] at Kz Pv;simp only[Nr] at PQ;apply ah;simp[hC,fy];refine TL.hZ af 3 5 [0,1,5] 4 (LQ) yI rfl rfl rfl j5 yA j5 j5 rfl j5 Of rfl j5 j5 (TL.go' af ?_);simp[hC,jw,zx];apply ah;simp[hC];have R4:=ll out;have K1:(out.length+1)*192≤140737488355328:=by omega
   have K0:(out.length+1+th.1.length)*192≤140737488355328:=by omega
   have VF:=ll th.1;have Tp:(out.length+1)*11=out.length*11+11:=by omega
   apply ah;simp[hC,ib,R4,K1,aS];apply ah;simp[hC];refine TL.hZ af 3 5 [0,1,2,5] 4 (Kz) yI rfl rfl rfl j5 yA j5 j5 rfl j5 Of rfl j5 j5 (TL.go' af ?_);simp[hC,R4,VF,K0,Tp];apply a8;simp[hC];refine aa.le (Le.trim [12,11,2,13,6,0,3] [0,1,2,3,4,5,7,11] 12 Xr yA) ?_;simp;refine aa.le (Le.nz [] [7,11]) ?_;simp;refine aa.le (Le.mq 11 6 rfl rfl yA j5 j5 (by simp[ax,ints,ba,-List.all_eq_true,-List.all_flatMap,aY (bk out),aY (bk th.1)])) ?_;simp[ax,ints,ba,aM (bk out),aM (bk th.1)];refine aa.trim [12,11,2,13,6,0,3] [0,1,2,3,4,5,6,7] 8 Xr yA ⟨.cR false rf.1::th.1,.cR true rf.1,?_,?_⟩
   ·rw[← PQ]
   ·rw[← PQ];have e1:out.length+1+th.1.length=out.length+(th.1.length+1):=by omega
    simp[gk,jw,bC,eS,fy,ib,qM,bh,ax,ints,ba,e1]
  ·rintro s ⟨front,last,Nx,rfl⟩;have Ld:(out++front).length≤2000:=by
    have:=Km.n;rw[Nx] at this;simp at this ⊢;omega
   have QD:=ll (out++front);generalize hO:out++front=O at Ld QD;have hb:(O.length+1)*192≤140737488355328:=by omega
   have wn:=cm (n1:Int) yA yA;apply a8;simp[hC,ib,jh,aS,QD,hb,Co];apply a8;simp[hC,wn];refine⟨n1,by omega,aa.le (Le.trim [12,11,2,6,0,3] [0,1,2,3,4,5,9] 10 (by simp[ax,ba,fy,-List.all_eq_true,-List.all_flatMap,aj (bk O),aj (gv last)]) yA) ?_⟩;simp;refine aa.le (Le.mq 9 6 rfl rfl yA j5 j5 (by simp[ax,ints,ba,fy,-List.all_eq_true,-List.all_flatMap,aY (bk O),aY (gv last)])) ?_;simp[ax,ints,ba,fy,aM (bk O),aM (gv last)];refine aa.trim [12,11,2,6,0,3] [0,1,2,3,4,5,6] 7 (by simp[-List.all_eq_true,-List.all_flatMap,aj (bk O),aj (gv last)]) yA ⟨B.vars,B.i,B.left,out++B.out,?_,Km.i,?_,?_,?_,by omega,?_⟩
   ·rw[hR,List.append_assoc]
   ·have:=Km.l;omega
   ·have:=Km.v;omega
   ·have:=Km.n;simp;omega
   ·have e1:out++B.out=O++[last]:=by rw[Nx,← List.append_assoc,hO]
    rw[e1];simp[ib,qM,bh,ax,ints,ba,fy]
end Go.Proofs.YtlkmbdfhdknlgaaGreatDoor
