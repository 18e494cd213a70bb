/- writer.block. -/
import Derived.Test.YtkkdkhbhamhfgaaGreatDoorZ23
namespace Go.Proofs.YtkkdkhbhamhfgaaGreatDoor
open Go.Can Go.aT
def cu (fs:List Fu):Ob:=⟨109,3,fs.flatMap ed⟩
def ib (l:List Sm):Ob:=⟨170,11,bh l⟩
def nE (L:List Int)(ar:Bool)(ms:List Mx)(fs:List Fu):Wr:=⟨L,ar,ms,fs.map fun f=>(f.name,f.params)⟩
theorem gv (x:Sm):trees (gk x)=true:=by
 cases x with
 | cR u r=>rcases r with ⟨_,_ | _⟩<;>rfl
 | fN s e=>cases e<;>rfl
 | gz s e=>cases e<;>rfl
 | jS e _ _=>cases e<;>rfl
 | cb e _=>cases e<;>rfl
 | _=>rfl
theorem bk (l:List Sm):trees (bh l)=true:=by
 induction l with
 | nil=>rfl
 | cons a r ih=>rw[bh,bu,ih,gv];rfl
theorem ll (l:List Sm):(bh l).length=l.length*11:=by rw[lS];exact aQ (f:=gk) jh l
theorem qM:∀ a b:List Sm,bh (a++b)=bh a++bh b
 | [],b=>rfl
 | x::r,b=>by rw[List.cons_append,bh,bh,qM r b,List.append_assoc]
theorem Co (x:Sm):List.take 11 (gk x)=gk x:=List.take_of_length_le (by simp[jh])
theorem cf (fs:List Fu):trees (fs.flatMap ed)=true:=by
 induction fs with
 | nil=>rfl
 | cons a r ih=>rw[List.flatMap_cons,bu,ih];rfl
theorem FV (fs:List Fu)(o:Nat)(cs:List CV)(n:Nat):(fs.flatMap ed).map (bZ o cs n)=fs.flatMap ed:=by
 induction fs with
 | nil=>rfl
 | cons a r ih=>rw[List.flatMap_cons,List.map_append,ih];rfl
@[simp] theorem fsOb_frz (l:List Fu)(o:Nat)(cs:List CV)(n:Nat):(⟨(cu l).elem,(cu l).sz,(cu l).cells.map (bZ o cs n)⟩:Ob)=cu l:=by
 simp only[cu,FV]
@[simp] theorem I1 (ρ:Nat→Nat)(l:List Fu):cr ρ (cu l)=cu l:=by
 simp only[cr,cu,aF ρ _ (cf l)]
@[simp] theorem FT (l:List Fu)(n:Nat):(cu l).cells.all (aZ n)=true:=aj (cf l) n
@[simp] theorem fsOb_lts (l:List Fu)(n:Nat):aO n (cu l).cells=true:=by rw[bU];exact aj (cf l) n
@[simp] theorem fsOb_ok1 (l:List Fu)(o q:Nat):(cu l).cells.all (kX o q)=true:=aY (cf l) o q
@[simp] theorem Bt (l:List Fu)(o q:Nat):(cu l).cells.map (cH o q)=(cu l).cells:=aM (cf l) o q
@[simp] theorem fsOb_eta (l:List Fu):(⟨(cu l).elem,(cu l).sz,(cu l).cells⟩:Ob)=cu l:=rfl
@[simp] theorem JC (l:List Fu)(n o q:Nat):(cu l).cells.all (aZ n∘cH o q)=true:=by rw[← List.all_map,Bt];exact FT l n
@[simp] theorem E2 (l:List Sm)(n:Nat):(ib l).cells.all (aZ n)=true:=aj (bk l) n
@[simp] theorem smOb_ok1 (l:List Sm)(o q:Nat):(ib l).cells.all (kX o q)=true:=aY (bk l) o q
@[simp] theorem AO (l:List Sm)(o q:Nat):(ib l).cells.map (cH o q)=(ib l).cells:=aM (bk l) o q
@[simp] theorem smOb_eta (l:List Sm):(⟨(ib l).elem,(ib l).sz,(ib l).cells⟩:Ob)=ib l:=rfl
@[simp] theorem IY (l:List Sm)(n o q:Nat):(ib l).cells.all (aZ n∘cH o q)=true:=by rw[← List.all_map,AO];exact E2 l n
section
variable (L:List Int)(gs:List Gl)(ms:List Mx)(ar:Bool)(fs:List Fu)(nm:ByteArray)(ps:List Pm)(bc:List CV)(bn:Nat)(J6:List ByteArray)(rec:Rec)(deep f:Nat)(RE:List Sm×Nat×Nat)
def J56 (m:Nat)(s:St):Prop:=∃ (vars:List ByteArray) (i left:Nat) (out:List Sm),RE=(out++(pT (nE L ar ms fs) rec ps deep m vars i left).1,(pT (nE L ar ms fs) rec ps deep m vars i left).2)∧
 i≤L.length∧left≤f∧vars.length+left≤500∧out.length+2*left≤1000∧m≤10∧
 s=⟨[(12,I m),(11,.bw 6 0 out.length),(2,.bw 5 0 vars.length),(6,.ai 4 0),(0,.ai 1 0),(3,I deep)],
  [(0,ax L i),(1,ba gs ms fs.length left ar),(2,cu fs),(3,aW J6),(4,⟨109,0,fy nm ps bc bn⟩),(5,aW vars),(6,ib out)],7⟩
def K56 (m:Nat)(out:List Sm)(b:G5)(s:St):Prop:=∃ (front:List Sm) (last:Sm),b.out=front++[last]∧
 s=⟨[(12,I m),(11,.bw 6 0 (out++front).length),(2,.bw 5 0 b.vars.length),(13,.ai 7 0),(6,.ai 4 0),(0,.ai 1 0),(3,I deep)],
  [(0,ax L b.i),(1,ba gs ms fs.length b.left ar),(2,cu fs),(3,aW J6),(4,⟨109,0,fy nm ps bc bn⟩),(5,aW b.vars),(6,ib (out++front)),(7,⟨170,0,gk last⟩)],8⟩
end
@[simp] theorem JE (e:Ex)(a b c d f:CV):List.take 7 (bC e++[a,b,c,d,f])=bC e++[a,b,c]:=by cases e<;>rfl
@[simp] theorem JG (e:Ex)(a b c d f:CV):List.drop 8 (bC e++[a,b,c,d,f])=[f]:=by cases e<;>rfl
@[simp] theorem JD (e:Ex)(a b c d f:CV):List.take 8 (bC e++[a,b,c,d,f])=bC e++[a,b,c,d]:=by cases e<;>rfl
@[simp] theorem JF (e:Ex)(a b c d f:CV):List.drop 9 (bC e++[a,b,c,d,f])=[]:=by cases e<;>rfl
@[simp] theorem nz_smsC (l:List Sm):(bh l).map nz=bh l:=by
 induction l with
 | nil=>rfl
 | cons a r ih=>
  rw[bh,List.map_append,ih];congr 1
  cases a with
  | cR u r=>rcases r with ⟨_,_ | _⟩<;>rfl
  | fN s e=>cases e<;>rfl
  | gz s e=>cases e<;>rfl
  | jS e _ _=>cases e<;>rfl
  | cb e _=>cases e<;>rfl
  | _=>rfl
def stK (c:Int):List CV:=[I c,.str ⟨#[]⟩,.int .i64 0,.int .i64 0,.str ⟨#[]⟩,.ag,.str ⟨#[]⟩,.ag,.ag,.ag,.ag]
def zx:List CV:=[I 5,.str ⟨#[]⟩,.int .i64 0,.int .i64 0,.str ⟨#[]⟩,.ag,.str ⟨#[]⟩,.ag,.ag,.ag,.ag]
set_option maxHeartbeats 8000000 in
theorem AE (L:List Int)(hL:L.length≤1000)(gs:List Gl)(ms:List Mx)(hm:0<ms.length)(Ok:ms.length≤100)(JX:∀ m∈ms,m.size≤1000)(ar:Bool)(fs:List Fu)(K9:0<fs.length)(Zc:fs.length≤100)(MK:∀ f∈fs,f.params.length≤100)
  (nm:ByteArray) (ps:List Pm) (hp:ps.length≤100) (bc:List CV) (bn:Nat):∀ (left f:Nat) (vars:List ByteArray) (deep most i:Nat),left≤f→left≤100→vars.length+left≤500→deep≤10→most≤9→i≤L.length →
  Body Tryz.prog ak 45 [.ai 1 0,.agg (fy nm ps bc bn),.bw 3 0 vars.length,I deep,I most] [(0,ax L i),(1,ba gs ms fs.length left ar),(2,cu fs),(3,aW vars)] 4
   (jQ (.au (bh (k9 (nE L ar ms fs) ps f vars deep most i left).1) (k9 (nE L ar ms fs) ps f vars deep most i left).1.length) [(0,ax L (k9 (nE L ar ms fs) ps f vars deep most i left).2.1),(1,ba gs ms fs.length (k9 (nE L ar ms fs) ps f vars deep most i left).2.2 ar),(2,cu fs),(3,aW vars)] 4):=by
 intro Lv
 induction Lv using Nat.strongRecOn with
 | _ Lv ih=>
 intro f J6 deep most i0 hl hf Yo T2 hmo Qa;generalize Q3:k9 (nE L ar ms fs) ps f J6 deep most i0 Lv=RE;have O7:RE=pT (nE L ar ms fs) (k9 (nE L ar ms fs) ps (f-1)) ps deep (bO L i0 (most+1)).1 J6 (bO L i0 (most+1)).2 Lv:=by
  cases f with
  | zero=>
   have:Lv=0:=by omega
   subst this;rw[← Q3]
   cases h:(bO L i0 (most+1)).1 with
   | zero=>simp[k9,pT,nE]
   | succ n=>simp[k9,pT,nE]
  | succ f=>rw[← Q3];rfl
 clear Q3;have PF:sj L (k9 (nE L ar ms fs) ps (f-1)):=qB (nE L ar ms fs) ps (f-1);have RW:=fun (left:Nat) (JS:left<Lv)=>ih left JS (f-1);clear ih;generalize YB:k9 (nE L ar ms fs) ps (f-1)=rec at RW O7 PF;have Qs:(bO L i0 (most+1)).1≤most:=Nat.le_of_lt_succ (cI L i0 yA);have Ki:=aV L (most+1) Qa;have wm:=cm ((most:Int)+1) yA yA;refine Body.je Tryz.func45 rfl JN (by simp[Tryz.ntmps45]) fun C hC JR=>?_;rw[Tryz.ntmps45] at hC;apply ah;simp[hC,fy];apply ah;simp[hC];have Ua:J6.length*16≤140737488355328:=by omega
 apply ah;simp[hC,aW,Ua];apply aL;simp[hC,wm,ba];refine TL.cd af [0] 1 (bX L i0 (most+1) Qa hL yA yA) JT rfl rfl rfl rfl JM KD KC rfl (TL.go' af ?_);simp[hC];generalize bO L i0 (most+1)=k at Qs Ki O7;have Kd:List.take J6.length (J6.map CV.str)=J6.map CV.str:=List.take_of_length_le JM;simp only[Kd];apply T.block;refine T.aI (J56 L gs ms ar fs nm ps bc bn J6 rec deep Lv RE) (n:=k.1) ?_ ?_
 ·refine aa.le (Le.own 11 170 11 rfl) ?_;simp;refine aa.le (Le.trim [12,11,2,6,0,3] [0,1,2,3,4,6,7] 8 (by simp[ax,cu,-List.all_eq_true,-List.all_flatMap,aj (cf fs)]) yA) ?_;simp;refine aa.le (Le.mq 6 5 rfl rfl yA JM JM (by simp[ax,ints,cu,-List.all_eq_true,-List.all_flatMap,aY (cf fs),aY (dE J6)])) ?_;simp[aM (cf fs),aM (dE J6),ax,cu,ints];refine aa.le (Le.mq 7 6 rfl rfl yA JM JM (by simp[-List.all_eq_true,-List.all_flatMap,aY (cf fs),aY (dE J6)])) ?_;simp[aM (cf fs),aM (dE J6)];refine aa.trim [12,11,2,6,0,3] [0,1,2,3,4,5,6] 7 (by simp[-List.all_eq_true,-List.all_flatMap,aj (cf fs),aj (dE J6)]) yA ⟨J6,k.2,Lv,[],?_,Ki,Nat.le_refl _,Yo,?_,by omega,?_⟩
  ·rw[O7];rfl
  ·simp;omega
  ·simp[aW,ax,ba,cu,ib,ints,bh,fy]
 ·rintro n s ⟨vars,i,left,out,hR,hi,hle,Yn,Nh,YW,rfl⟩;by_cases MH:n=0
  ·subst MH;have Mw:RE=(out,i,left):=by rw[hR];simp[pT]
   clear hR;apply aL;simp[hC];refine aU ?_;simp;apply T.exit;simp;apply ah;simp[hC];apply T.ret;have R1:(bh out).take (out.length*11)=bh out:=List.take_of_length_le (by rw[ll];exact Nat.le_refl _);refine aa.le (Le.trim [10] [0,1,2,3,6] 7 (by simp[ax,ba,-List.all_eq_true,-List.all_flatMap]) yA) ?_;simp;refine aa.le (Le.dC (o:=6) rfl (bk out)) ?_;simp[ib,R1];refine aa.trim [10] [0,1,2,3] 4 (by simp[ax,ba,-List.all_eq_true,-List.all_flatMap]) yA ⟨_,?_,rfl,?_,rfl⟩
   ·simp[Mw]
   ·simp[ba,aW,Mw]
  obtain⟨n1,rfl⟩:∃ n1,n=n1+1:=⟨n-1,by omega⟩;by_cases Ph:left=0
  ·subst Ph;have Mw:RE=(out,i,0):=by rw[hR];simp[pT]
   clear hR;apply aL;simp[hC,ba];refine aU ?_;simp;apply T.exit;simp;apply ah;simp[hC];apply T.ret;have R1:(bh out).take (out.length*11)=bh out:=List.take_of_length_le (by rw[ll];exact Nat.le_refl _);refine aa.le (Le.trim [10] [0,1,2,3,6] 7 (by simp[ax,-List.all_eq_true,-List.all_flatMap]) yA) ?_;simp;refine aa.le (Le.dC (o:=6) rfl (bk out)) ?_;simp[ib,R1];refine aa.trim [10] [0,1,2,3] 4 (by simp[ax,-List.all_eq_true,-List.all_flatMap]) yA ⟨_,?_,rfl,?_,rfl⟩
   ·simp[Mw]
   ·simp[aW,Mw]
  obtain⟨lf,rfl⟩:∃ lf,left=lf+1:=⟨left-1,by omega⟩;have Vt:pT (nE L ar ms fs) rec ps deep (n1+1) vars i (lf+1)=((vC (nE L ar ms fs) rec ps vars deep i lf).out++(pT (nE L ar ms fs) rec ps deep n1 (vC (nE L ar ms fs) rec ps vars deep i lf).vars (vC (nE L ar ms fs) rec ps vars deep i lf).i (vC (nE L ar ms fs) rec ps vars deep i lf).left).1,(pT (nE L ar ms fs) rec ps deep n1 (vC (nE L ar ms fs) rec ps vars deep i lf).vars (vC (nE L ar ms fs) rec ps vars deep i lf).i (vC (nE L ar ms fs) rec ps vars deep i lf).left).2):=by
   rw[pT,if_neg yA];rfl
  rw[Vt] at hR;have wl:((lf+1:Nat):Int)-1=(lf:Int):=by omega
  have XT:=cm (lf:Int) yA yA;apply aL;simp[hC,ba];refine gF ?_;simp;have Ke:=Cv (w:=nE L ar ms fs) PF ps vars deep lf hi;generalize hB:vC (nE L ar ms fs) rec ps vars deep i lf=B at Ke hR Vt;clear Vt;apply fw;apply ah;simp[hC,XT];apply ah;simp[hC];refine T.cut (K56 L gs ms ar fs nm ps bc bn J6 deep (n1+1) out B) ?_ ?_
  ·have Ki:=aV L 14 hi;have Kl:=hB;have Kz:=bX L i 14 hi hL yA yA;obtain⟨k,hk⟩:∃ k,bO L i 14=k:=⟨_,rfl⟩;simp only[vC,nE,hk] at Kl;rw[hk] at Ki Kz;apply ah;simp[hC];refine TL.cd af [0] 1 (Kz) JT rfl rfl rfl rfl JM KD KC rfl (TL.go' af ?_);simp[hC];have MQ:vars.length≤1000:=by omega
   refine T.le (Le.trim [14,12,11,2,13,6,0,3] [0,1,2,3,4,5,6,7] 8 (by simp[ax,fy,-List.all_eq_true,-List.all_flatMap]) yA) ?_;simp;have ew:(⟨102,0,[CV.ai 0 0,CV.au (gs.flatMap mL) gs.length,CV.au (ms.flatMap eQ) ms.length,CV.bw 2 0 fs.length,.int .i64 lf,CV.bool ar]⟩:Ob)=ba gs ms fs.length lf ar:=rfl;rw[ew];apply T.block;apply ah;simp[hC];refine T.aX rfl (fun h=>?_) (fun h=>?_)
   ·have h1:k.1<4:=by simpa using h
    rw[if_pos h1] at Kl;apply a8;simp[hC,fy];refine TL.hZ af 3 5 [0,1,5] 4 (qf L hL vars MQ gs ms hm Ok JX fs.length lf ar k.2 Ki nm ps hp bc bn) JT rfl rfl rfl JM yA JM JM rfl JM NB rfl JM JM (TL.go' af ?_);simp[hC,jw];refine aa.le (Le.nz [] [7]) ?_;simp;refine aa.trim [12,11,2,13,6,0,3] [0,1,2,3,4,5,6,7] 8 L7 yA ⟨[],.cR false (g7 L ar ms ps vars k.2).1,?_,?_⟩
    ·rw[← Kl];rfl
    ·rw[← Kl];simp[gk,jw,bC,eS,fy]
   have h1:¬ k.1<4:=by simpa using h
   rw[if_neg h1] at Kl;apply ah;simp[hC];refine T.aX rfl (fun h=>?_) (fun h=>?_)
   ·have h2:k.1<7:=by simpa using h
    rw[if_pos h2] at Kl;apply a8;simp[hC,fy];refine TL.hZ af 3 5 [0,1,5] 4 (qf L hL vars MQ gs ms hm Ok JX fs.length lf ar k.2 Ki nm ps hp bc bn) JT rfl rfl rfl JM yA JM JM rfl JM NB rfl JM JM (TL.go' af ?_);simp[hC,jw];refine aa.le (Le.nz [] [7]) ?_;simp;refine aa.trim [12,11,2,13,6,0,3] [0,1,2,3,4,5,6,7] 8 L7 yA ⟨[],.cR true (g7 L ar ms ps vars k.2).1,?_,?_⟩
    ·rw[← Kl];rfl
    ·rw[← Kl];simp[gk,jw,bC,eS,fy]
   have h2:¬ k.1<7:=by simpa using h
   rw[if_neg h2] at Kl;apply ah;simp[hC];refine T.aX rfl (fun h=>?_) (fun h=>?_)
   ·have h3:k.1=7:=by simpa using h
    rw[if_pos h3] at Kl;apply T.seq;obtain⟨a,ha⟩:∃ a,lf % 26=a:=⟨_,rfl⟩;obtain⟨q,hq⟩:∃ q,lf / 26=q:=⟨_,rfl⟩;obtain⟨b,hb⟩:∃ b,q % 26=b:=⟨_,rfl⟩;have Pc:eA lf=⟨#[118]⟩++⟨#[97+UInt8.ofNat a,97+UInt8.ofNat b]⟩:=by simp[eA,ha,hq,hb]
    have so:jY BinOp.add ⟨#[118]⟩ ⟨#[97+UInt8.ofNat a,97+UInt8.ofNat b]⟩=some (.str (eA lf)):=by rw[Pc];rfl
    have a1:(lf:Int).tmod 26=(a:Int):=by rw[Int.tmod_eq_emod_of_nonneg yA];omega
    have a2:=cm (97+(a:Int)) yA yA;have a3:IntKind.u8.wrap (97+(a:Int))=97+(a:Int):=IntWalk.u8_in _ yA;have a4:(0:Int)≤97+(a:Int)∧97+(a:Int)<256:=by omega
    have a5:(97+(a:Int)).toNat=97+a:=by omega
    have q1:IntKind.i64.wrap ((lf:Int) / 26)=(q:Int):=by rw[cm _ yA yA];omega
    have b1:(q:Int).tmod 26=(b:Int):=by rw[Int.tmod_eq_emod_of_nonneg yA];omega
    have b2:=cm (97+(b:Int)) yA yA;have b3:IntKind.u8.wrap (97+(b:Int))=97+(b:Int):=IntWalk.u8_in _ yA;have b4:(0:Int)≤97+(b:Int)∧97+(b:Int)<256:=by omega
    have b5:(97+(b:Int)).toNat=97+b:=by omega
    refine T.rx af follows [0,1,3,4,5,6,7,8,9,10,11,12,13,14,15,16,17,18,19,20,21,2,22,23,24,25,26] [(6,2),(6,22),(6,24),(9,2),(9,22),(9,24),(13,2),(13,22),(13,24),(17,2),(17,22),(17,24),(18,2),(18,22),(18,24),(19,2),(19,22),(19,24)] JN ?_;simp[hC,ba,a1,a2,a3,a4,a5,q1,b1,b2,b3,b4,b5,so];rw[ew];refine RX.hZ 3 5 [0,1,5] [0] 4 (lg L hL vars MQ gs ms fs.length lf ar k.2 Ki) rfl JM rfl rfl rfl JM yA JM JM rfl JM NB rfl JM JM JM rfl JM ?_;simp[bA];have Zp:(vars.length+1)*16≤140737488355328:=by omega
    apply a8;simp[hC,aW,Zp];refine aa.le (Le.trim [12,11,2,13,6,0,3] [0,1,2,3,4,6,7,36] 37 (by simp[fy,-List.all_eq_true,-List.all_flatMap,gL]) yA) ?_;simp;refine aa.le (Le.mq 36 5 rfl rfl yA JM JM (by simp[ax,ints,ba,fy,-List.all_eq_true,-List.all_flatMap,uW])) ?_;simp[ax,ints,ba,fy];refine aa.le (Le.nz [] [7]) ?_;simp;refine aa.trim [12,11,2,13,6,0,3] [0,1,2,3,4,5,6,7] 8 RI yA ⟨[],.fN (eA lf) (cL L ar vars k.2).1,?_,?_⟩
    ·rw[← Kl];rfl
    ·rw[← Kl];simp[gk,jy,eS,fy,aW,ax,ints,ba]
   have h3:¬ k.1=7:=by simpa using h
   rw[if_neg h3] at Kl
      /- an assignment? -/
   refine T.cut (fun s=>s=⟨[(119,.bool (decide (k.1=8∧0<vars.length))),(14,I k.1),(12,.int .i64 ((n1:Int)+1)),(11,.bw 6 0 out.length),(2,.bw 5 0 vars.length),(13,.ai 7 0),(6,.ai 4 0),(0,.ai 1 0),(3,I deep)],
    [(0,ax L k.2),(1,ba gs ms fs.length lf ar),(2,cu fs),(3,aW J6),(4,⟨109,0,fy nm ps bc bn⟩),(5,aW vars),(6,ib out),(7,⟨170,0,zx⟩)],8⟩) ?_ ?_
   ·by_cases h8:k.1=8
    ·apply a8;simp[hC,h8];refine aa.trim [119,14,12,11,2,13,6,0,3] [0,1,2,3,4,5,6,7] 8 RH yA ?_;simp[zx]
    ·apply a8;simp[hC,h8];refine aa.trim [119,14,12,11,2,13,6,0,3] [0,1,2,3,4,5,6,7] 8 RH yA ?_;simp[zx]
   rintro s rfl;refine T.aX rfl (fun h=>?_) (fun h=>?_)
   ·have h4:k.1=8∧0<vars.length:=by simpa using h
    rw[if_pos h4] at Kl;have JS:=cI L k.2 h4.2;have Sr:=bX L k.2 vars.length Ki hL h4.2 yA;have KA:=aV L vars.length Ki;obtain⟨j,hj⟩:∃ j,bO L k.2 vars.length=j:=⟨_,rfl⟩;rw[hj] at JS Sr KA;simp only[hj] at Kl;have JQ:(aW vars).cells.drop j.1=.str (vars.getD j.1 eS)::(vars.map CV.str).drop (j.1+1):=gS JS;have OJ:(aW vars).sz=1:=rfl;refine T.rx af follows [0,1,2,3,4,5,6,10,11,13,7,8,9,12,14,15,16,17,18] [(9,12),(9,14)] JN ?_;simp[hC,ba];rw[ew];refine RX.cd [0] [0] 1 (Sr) rfl JM rfl rfl rfl rfl JM KD KC rfl rfl rfl JM ?_;simp[JS,JQ];refine RX.hZ 3 5 [0,1,5] [0] 4 (lg L hL vars MQ gs ms fs.length lf ar j.2 KA) rfl JM rfl rfl rfl JM yA JM JM rfl JM NB rfl JM JM JM rfl JM ?_;simp[bA,zx];refine aa.le (Le.nz [] [7]) ?_;simp;refine aa.trim [12,11,2,13,6,0,3] [0,1,2,3,4,5,6,7] 8 (by simp[fy,-List.all_eq_true,-List.all_flatMap,gL]) yA ⟨[],.gz (vars.getD j.1 eS) (cL L ar vars j.2).1,?_,?_⟩
    ·rw[← Kl];rfl
    ·rw[← Kl];simp[gk,jy,eS,fy,JS]
   have h4:¬ (k.1=8∧0<vars.length):=by simpa using h
   rw[if_neg h4] at Kl
      /- a call? -/
   refine T.cut (fun s=>s=⟨[(143,.bool (decide (k.1=9∨k.1=10))),(14,I k.1),(12,.int .i64 ((n1:Int)+1)),(11,.bw 6 0 out.length),(2,.bw 5 0 vars.length),(13,.ai 7 0),(6,.ai 4 0),(0,.ai 1 0),(3,I deep)],
    [(0,ax L k.2),(1,ba gs ms fs.length lf ar),(2,cu fs),(3,aW J6),(4,⟨109,0,fy nm ps bc bn⟩),(5,aW vars),(6,ib out),(7,⟨170,0,zx⟩)],8⟩) ?_ ?_
   ·by_cases h9:k.1=9
    ·apply a8;simp[hC,h9];refine aa.trim [143,14,12,11,2,13,6,0,3] [0,1,2,3,4,5,6,7] 8 PW yA ?_;simp
    ·apply a8;simp[hC,h9];refine aa.trim [143,14,12,11,2,13,6,0,3] [0,1,2,3,4,5,6,7] 8 PW yA ?_;simp
   rintro s rfl;refine T.aX rfl (fun h=>?_) (fun h=>?_)
   ·have h5:k.1=9∨k.1=10:=by simpa using h
    have O9:fH ⟨L,ar,ms,fs.map fun f=>(f.name,f.params)⟩ ps vars (decide (k.1=10)) k.2 lf=B:=by
     by_cases h9:k.1=9
     ·rw[if_pos h9] at Kl;rw[← Kl];simp[h9]
     ·have RC:k.1=10:=by omega
      rw[if_neg h9,if_pos RC] at Kl;rw[← Kl];simp[RC]
    simp only[fH,List.length_map] at O9;apply ah;simp[hC,zx];refine T.cut (fun s=>s=⟨[(12,.int .i64 ((n1:Int)+1)),(11,.bw 6 0 out.length),(2,.bw 5 0 vars.length),(13,.ai 7 0),(6,.ai 4 0),(0,.ai 1 0),(3,I deep)],
     [(0,ax L k.2),(1,ba gs ms fs.length lf ar),(2,cu fs),(3,aW J6),(4,⟨109,0,fy nm ps bc bn⟩),(5,aW vars),(6,ib out),(7,⟨170,0,stK (if k.1=10 then 4 else 3)⟩)],8⟩) ?_ ?_
    ·apply ah;simp[hC];refine T.aX rfl (fun h=>?_) (fun h=>?_)
     ·have RC:k.1=10:=by simpa using h
      apply a8;simp[hC];refine aa.trim [12,11,2,13,6,0,3] [0,1,2,3,4,5,6,7] 8 RH yA ?_;simp[RC,stK]
     ·have RC:¬ k.1=10:=by simpa using h
      apply T.skip;simp;refine aa.trim [12,11,2,13,6,0,3] [0,1,2,3,4,5,6,7] 8 RH yA ?_;simp[RC,stK]
    rintro s rfl;have JS:=cI L k.2 K9;have Sr:=bX L k.2 fs.length Ki hL K9 yA;have KA:=aV L fs.length Ki;obtain⟨j,hj⟩:∃ j,bO L k.2 fs.length=j:=⟨_,rfl⟩;rw[hj] at JS Sr KA;simp only[hj] at O9;obtain⟨g,hg⟩:∃ g,fs[j.1]? = some g:=⟨fs[j.1],List.getElem?_eq_getElem JS⟩;have LX:(fs.map fun f=>(f.name,f.params)).getD j.1 (eS,[])=(g.name,g.params):=by simp[List.getD,hg]
    simp only[LX] at O9;have Y9:=MK g (List.mem_of_getElem? hg);have JQ:(cu fs).cells.drop (j.1*3)=ed g++(fs.drop (j.1+1)).flatMap ed:=az (f:=ed) (n:=3) (fun _=>rfl) hg;have OJ:(cu fs).sz=3:=rfl;have JY:(cu fs).cells.length=fs.length*3:=aQ (f:=ed) (n:=3) (fun _=>rfl) fs;apply T.seq;refine T.rx af follows [0,1,2,3,4,5,6,7,8,9,10,11,12,13,14,18,15,16,17,19] [(4,18),(4,15),(8,18),(13,18),(18,15),(18,17)] JN ?_;simp[hC,ba];rw[ew];refine RX.cd [0] [0] 1 (Sr) rfl JM rfl rfl rfl rfl JM KD KC rfl rfl rfl JM ?_;simp[JS,JQ,ed];refine T.rx af follows [0,1,2,3,4,5,7,6,8,9,10] [(1,6)] JN ?_;simp[hC,fy];refine RX.hZ 3 5 [0,1,5] [0] 4 (Cd L hL vars MQ gs ms hm Ok JX fs.length lf ar j.2 KA nm ps hp bc bn g.name g.params Y9 (bh g.body) g.body.length) rfl JM rfl rfl rfl JM yA JM JM rfl JM NB rfl JM JM JM rfl JM ?_;simp[stK];refine aa.le (Le.nz [] [7]) ?_;simp;refine aa.trim [12,11,2,13,6,0,3] [0,1,2,3,4,5,6,7] 8 L7 yA ⟨[],.dm (decide (k.1=10)) g.name (cE L ar ms ps vars g.params j.2).1,?_,?_⟩
    ·rw[← O9];rfl
    ·rw[← O9];simp[gk,jy,bC,eS,fy,pC]
   have h5:¬ k.1=9∧¬ k.1=10:=by simpa using h
   rw[if_neg h5.1,if_neg h5.2] at Kl
      /- a condition? -/
   refine T.cut (fun s=>s=⟨[(181,.bool (decide (k.1=11∧0<deep))),(14,I k.1),(12,.int .i64 ((n1:Int)+1)),(11,.bw 6 0 out.length),(2,.bw 5 0 vars.length),(13,.ai 7 0),(6,.ai 4 0),(0,.ai 1 0),(3,I deep)],
    [(0,ax L k.2),(1,ba gs ms fs.length lf ar),(2,cu fs),(3,aW J6),(4,⟨109,0,fy nm ps bc bn⟩),(5,aW vars),(6,ib out),(7,⟨170,0,zx⟩)],8⟩) ?_ ?_
   ·by_cases h9:k.1=11
    ·apply a8;simp[hC,h9];refine aa.trim [181,14,12,11,2,13,6,0,3] [0,1,2,3,4,5,6,7] 8 PW yA ?_;simp
    ·apply a8;simp[hC,h9];refine aa.trim [181,14,12,11,2,13,6,0,3] [0,1,2,3,4,5,6,7] 8 PW yA ?_;simp
   rintro s rfl;refine T.aX rfl (fun h=>?_) (fun h=>?_)
   ·have h6:k.1=11∧0<deep:=by simpa using h
    rw[if_pos h6] at Kl;obtain⟨d,rfl⟩:∃ d,deep=d+1:=⟨deep-1,by omega⟩;have Mo:((d+1:Nat):Int)-1=(d:Int):=by omega
    have wd:=cm (d:Int) yA yA;have KA:=iW L ar vars Ki;simp only[Jz,Nat.add_sub_cancel] at Kl;have MT:=RW lf yA vars d 3 (cL L ar vars k.2).2 yA yA yA yA yA KA;obtain⟨Nv,OT⟩:=PF vars d 3 (cL L ar vars k.2).2 lf KA;obtain⟨th,MR⟩:∃ th,rec vars d 3 (cL L ar vars k.2).2 lf=th:=⟨_,rfl⟩;rw[MR] at MT Nv OT;simp only[MR] at Kl;apply T.seq;refine T.rx af follows [0,1,3,4,5,6,7,9,2,8,10,11,12,13,14] [(4,2)] JN ?_;simp[hC,wd,fy];refine RX.hZ 3 5 [0,1,5] [0] 4 (lg L hL vars MQ gs ms fs.length lf ar k.2 Ki) rfl JM rfl rfl rfl JM yA JM JM rfl JM NB rfl JM JM JM rfl JM ?_;simp;refine RX.hZ 3 5 [0,1,2,5] [0,1] 4 (MT) rfl JM rfl rfl rfl JM yA JM JM rfl JM NB rfl JM JM JM rfl JM ?_;simp[zx,bA];have Sw:=bX L th.2.1 2 Nv hL yA yA;have Pk:=aV L 2 Nv;obtain⟨c,hc⟩:∃ c,bO L th.2.1 2=c:=⟨_,rfl⟩;rw[hc] at Sw Pk;simp only[hc] at Kl;refine T.le (Le.trim [12,11,2,13,6,0,3] [0,1,2,3,4,5,6,7] 8 RI yA) ?_;simp;apply ah;simp[hC,ba];refine TL.cd af [0] 1 (Sw) JT rfl rfl rfl rfl JM KD KC rfl (TL.go' af ?_);simp[hC];have ZK:(⟨102,0,[CV.ai 0 0,CV.au (gs.flatMap mL) gs.length,CV.au (ms.flatMap eQ) ms.length,CV.bw 2 0 fs.length,I th.2.2,CV.bool ar]⟩:Ob)=ba gs ms fs.length th.2.2 ar:=rfl;rw[ZK];refine T.aX rfl (fun h=>?_) (fun h=>?_)
    ·have Na:c.1=1:=by simpa using h
     rw[if_pos Na] at Kl;have Kb:=RW th.2.2 yA vars d 3 c.2 yA yA yA yA yA Pk;obtain⟨el,SU⟩:∃ el,rec vars d 3 c.2 th.2.2=el:=⟨_,rfl⟩;rw[SU] at Kb;simp only[SU] at Kl;apply a8;simp[hC,wd];refine TL.hZ af 3 5 [0,1,2,5] 4 (Kb) JT rfl rfl rfl JM yA JM JM rfl JM NB rfl JM JM (TL.go' af ?_);simp[hC,bA];refine aa.le (Le.nz [] [7]) ?_;simp;refine aa.trim [12,11,2,13,6,0,3] [0,1,2,3,4,5,6,7] 8 RI yA ⟨[],.jS (cL L ar vars k.2).1 th.1 el.1,?_,?_⟩
     ·rw[← Kl];rfl
     ·rw[← Kl];simp[gk,jy,eS,fy]
    ·have Na:¬ c.1=1:=by simpa using h
     rw[if_neg Na] at Kl;apply T.skip;simp;refine aa.le (Le.nz [] [7]) ?_;simp;refine aa.trim [12,11,2,13,6,0,3] [0,1,2,3,4,5,6,7] 8 RI yA ⟨[],.jS (cL L ar vars k.2).1 th.1 [],?_,?_⟩
     ·rw[← Kl];rfl
     ·rw[← Kl];simp[gk,jy,eS,fy,bh]
   have h6:¬ (k.1=11∧0<deep):=by simpa using h
   rw[if_neg h6] at Kl
      /- a loop? -/
   refine T.cut (fun s=>s=⟨[(213,.bool (decide (k.1=12∧0<deep))),(14,I k.1),(12,.int .i64 ((n1:Int)+1)),(11,.bw 6 0 out.length),(2,.bw 5 0 vars.length),(13,.ai 7 0),(6,.ai 4 0),(0,.ai 1 0),(3,I deep)],
    [(0,ax L k.2),(1,ba gs ms fs.length lf ar),(2,cu fs),(3,aW J6),(4,⟨109,0,fy nm ps bc bn⟩),(5,aW vars),(6,ib out),(7,⟨170,0,zx⟩)],8⟩) ?_ ?_
   ·by_cases h9:k.1=12
    ·apply a8;simp[hC,h9];refine aa.trim [213,14,12,11,2,13,6,0,3] [0,1,2,3,4,5,6,7] 8 PW yA ?_;simp
    ·apply a8;simp[hC,h9];refine aa.trim [213,14,12,11,2,13,6,0,3] [0,1,2,3,4,5,6,7] 8 PW yA ?_;simp
   rintro s rfl;refine T.aX rfl (fun h=>?_) (fun h=>?_)
   ·have h7:k.1=12∧0<deep:=by simpa using h
    rw[if_pos h7] at Kl;obtain⟨d,rfl⟩:∃ d,deep=d+1:=⟨deep-1,by omega⟩;have Mo:((d+1:Nat):Int)-1=(d:Int):=by omega
    have wd:=cm (d:Int) yA yA;have KA:=iW L ar vars Ki;simp only[IS,Nat.add_sub_cancel] at Kl;have MT:=RW lf yA vars d 3 (cL L ar vars k.2).2 yA yA yA yA yA KA;obtain⟨th,MR⟩:∃ th,rec vars d 3 (cL L ar vars k.2).2 lf=th:=⟨_,rfl⟩;rw[MR] at MT;simp only[MR] at Kl;refine T.rx af follows [0,1,3,4,5,6,7,9,2,8,10,11,12,13,14] [(4,2)] JN ?_;simp[hC,wd,fy];refine RX.hZ 3 5 [0,1,5] [0] 4 (lg L hL vars MQ gs ms fs.length lf ar k.2 Ki) rfl JM rfl rfl rfl JM yA JM JM rfl JM NB rfl JM JM JM rfl JM ?_;simp;refine RX.hZ 3 5 [0,1,2,5] [0,1] 4 (MT) rfl JM rfl rfl rfl JM yA JM JM rfl JM NB rfl JM JM JM rfl JM ?_;simp[zx,bA];refine aa.le (Le.nz [] [7]) ?_;simp;refine aa.trim [12,11,2,13,6,0,3] [0,1,2,3,4,5,6,7] 8 RI yA ⟨[],.cb (cL L ar vars k.2).1 th.1,?_,?_⟩
    ·rw[← Kl];rfl
    ·rw[← Kl];simp[gk,jy,eS,fy]
   have h7:¬ (k.1=12∧0<deep):=by simpa using h
   rw[if_neg h7] at Kl
      /- the end, or statements between a lock and its unlock -/
   obtain⟨i2,M7⟩:∃ i2,(if k.1=13 then (bO L k.2 3).2 else k.2)=i2:=⟨_,rfl⟩;have P9:i2≤L.length:=by
    rw[← M7];split
    ·exact aV _ _ Ki
    ·exact Ki
   refine T.cut (fun s=>s=⟨[(232,.bool (decide (k.1=13∧(bO L k.2 3).1=1))),(12,.int .i64 ((n1:Int)+1)),(11,.bw 6 0 out.length),(2,.bw 5 0 vars.length),(13,.ai 7 0),(6,.ai 4 0),(0,.ai 1 0),(3,I deep)],
    [(0,ax L i2),(1,ba gs ms fs.length lf ar),(2,cu fs),(3,aW J6),(4,⟨109,0,fy nm ps bc bn⟩),(5,aW vars),(6,ib out),(7,⟨170,0,zx⟩)],8⟩) ?_ ?_
   ·by_cases h9:k.1=13
    ·rw[if_pos h9] at M7;apply a8;simp[hC,h9,ba];refine TL.cd af [0] 1 (bX L k.2 3 Ki hL yA yA) JT rfl rfl rfl rfl JM KD KC rfl (TL.go' af ?_);simp[hC];refine aa.trim [232,12,11,2,13,6,0,3] [0,1,2,3,4,5,6,7] 8 PW yA ?_;simp[M7]
    ·rw[if_neg h9] at M7;apply a8;simp[hC,h9];refine aa.trim [232,12,11,2,13,6,0,3] [0,1,2,3,4,5,6,7] 8 PW yA ?_;simp[M7]
   rintro s rfl;refine T.aX rfl (fun h=>?_) (fun h=>?_)
   ·have h8:k.1=13∧(bO L k.2 3).1=1:=by simpa using h
    rw[if_pos h8] at Kl;rw[if_pos h8.1] at M7;apply a8;simp[hC,zx];refine aa.le (Le.nz [] [7]) ?_;simp;refine aa.trim [12,11,2,13,6,0,3] [0,1,2,3,4,5,6,7] 8 RH yA ⟨[],.ia,?_,?_⟩
    ·rw[← Kl];rfl
    ·rw[← Kl,← M7];simp[gk,jy,bC,eS,fy]
   have h8:¬ (k.1=13∧(bO L k.2 3).1=1):=by simpa using h
   rw[if_neg h8] at Kl;have O9:xE ⟨L,ar,ms,fs.map fun f=>(f.name,f.params)⟩ rec ps vars i2 lf=B:=by
    rw[← Kl,← M7];by_cases h9:k.1=13
    ·rw[if_pos h9,if_pos h9]
    ·rw[if_neg h9,if_neg h9]
   simp only[xE] at O9;have Pj:=nW L ar ms ps vars P9;obtain⟨rf,Sg⟩:∃ rf,g7 L ar ms ps vars i2=rf:=⟨_,rfl⟩;have Lt:=qf L hL vars MQ gs ms hm Ok JX fs.length lf ar i2 P9 nm ps hp bc bn;rw[Sg] at Lt Pj;simp only[Sg] at O9;have Ko:=RW lf yA vars 0 2 rf.2 yA yA yA yA yA Pj;obtain⟨_,OT⟩:=PF vars 0 2 rf.2 lf Pj;obtain⟨th,MR⟩:∃ th,rec vars 0 2 rf.2 lf=th:=⟨_,rfl⟩;rw[MR] at Ko OT;simp only[MR] at O9;apply ah;simp[hC,fy];refine TL.hZ af 3 5 [0,1,5] 4 (Lt) JT rfl rfl rfl JM yA JM JM rfl JM NB rfl JM JM (TL.go' af ?_);simp[hC,jw,zx];apply ah;simp[hC];have Rn:=ll out;have LM:(out.length+1)*192≤140737488355328:=by omega
   have Lp:(out.length+1+th.1.length)*192≤140737488355328:=by omega
   have UZ:=ll th.1;have SB:(out.length+1)*11=out.length*11+11:=by omega
   apply ah;simp[hC,ib,Rn,LM,aS];apply ah;simp[hC];refine TL.hZ af 3 5 [0,1,2,5] 4 (Ko) JT rfl rfl rfl JM yA JM JM rfl JM NB rfl JM JM (TL.go' af ?_);simp[hC,Rn,UZ,Lp,SB];apply a8;simp[hC];refine aa.le (Le.trim [12,11,2,13,6,0,3] [0,1,2,3,4,5,7,11] 12 WJ yA) ?_;simp;refine aa.le (Le.nz [] [7,11]) ?_;simp;refine aa.le (Le.mq 11 6 rfl rfl yA JM JM (by simp[ax,ints,ba,-List.all_eq_true,-List.all_flatMap,aY (bk out),aY (bk th.1)])) ?_;simp[ax,ints,ba,aM (bk out),aM (bk th.1)];refine aa.trim [12,11,2,13,6,0,3] [0,1,2,3,4,5,6,7] 8 WJ yA ⟨.cR false rf.1::th.1,.cR true rf.1,?_,?_⟩
   ·rw[← O9]
   ·rw[← O9];have e1:out.length+1+th.1.length=out.length+(th.1.length+1):=by omega
    simp[gk,jw,bC,eS,fy,ib,qM,bh,ax,ints,ba,e1]
  ·rintro s ⟨front,last,M0,rfl⟩;have Lz:(out++front).length≤2000:=by
    have:=Ke.n;rw[M0] at this;simp at this ⊢;omega
   have P4:=ll (out++front);generalize hO:out++front=O at Lz P4;have hb:(O.length+1)*192≤140737488355328:=by omega
   have wn:=cm (n1:Int) yA yA;apply a8;simp[hC,ib,jh,aS,P4,hb,Co];apply a8;simp[hC,wn];refine⟨n1,by omega,aa.le (Le.trim [12,11,2,6,0,3] [0,1,2,3,4,5,9] 10 (by simp[ax,ba,fy,-List.all_eq_true,-List.all_flatMap,aj (bk O),aj (gv last)]) yA) ?_⟩;simp;refine aa.le (Le.mq 9 6 rfl rfl yA JM JM (by simp[ax,ints,ba,fy,-List.all_eq_true,-List.all_flatMap,aY (bk O),aY (gv last)])) ?_;simp[ax,ints,ba,fy,aM (bk O),aM (gv last)];refine aa.trim [12,11,2,6,0,3] [0,1,2,3,4,5,6] 7 (by simp[-List.all_eq_true,-List.all_flatMap,aj (bk O),aj (gv last)]) yA ⟨B.vars,B.i,B.left,out++B.out,?_,Ke.i,?_,?_,?_,by omega,?_⟩
   ·rw[hR,List.append_assoc]
   ·have:=Ke.l;omega
   ·have:=Ke.v;omega
   ·have:=Ke.n;simp;omega
   ·have e1:out++B.out=O++[last]:=by rw[M0,← List.append_assoc,hO]
    rw[e1];simp[ib,qM,bh,ax,ints,ba,fy]
end Go.Proofs.YtkkdkhbhamhfgaaGreatDoor
