/- writer.block. -/
import Derived.Test.YtlkmbdfhdknlgaaGreatDoorZ20
namespace Go.Proofs.YtlkmbdfhdknlgaaGreatDoor
open Go.Can Go.aN
def cR (fs:List Fu):Ob:=⟨109,3,fs.flatMap eZ⟩
def jn (l:List Sm):Ob:=⟨170,11,bx l⟩
def pW (L:List Int)(ar:Bool)(ms:List Mx)(fs:List Fu):Wr:=⟨L,ar,ms,fs.map fun f=>(f.name,f.params)⟩
theorem ir (x:Sm):trees (ib x)=true:=by
 cases x with
 | dx u r=>rcases r with ⟨_,_ | _⟩<;>rfl
 | gP s e=>cases e<;>rfl
 | iy s e=>cases e<;>rfl
 | lu e _ _=>cases e<;>rfl
 | cE e _=>cases e<;>rfl
 | _=>rfl
theorem bA (l:List Sm):trees (bx l)=true:=by
 induction l with
 | nil=>rfl
 | cons a r ih=>rw[bx,aZ,ih,ir];rfl
theorem mZ (l:List Sm):(bx l).length=l.length*11:=by rw[nY];exact aM (f:=ib) kp l
theorem uy:∀ a b:List Sm,bx (a++b)=bx a++bx b
 | [],b=>rfl
 | x::r,b=>by rw[List.cons_append,bx,bx,uy r b,List.append_assoc]
theorem Gg (x:Sm):List.take 11 (ib x)=ib x:=List.take_of_length_le (by simp[kp])
theorem cG (fs:List Fu):trees (fs.flatMap eZ)=true:=by
 induction fs with
 | nil=>rfl
 | cons a r ih=>rw[List.flatMap_cons,aZ,ih];rfl
theorem J1 (fs:List Fu)(o:Nat)(cs:List CV)(n:Nat):(fs.flatMap eZ).map (bQ o cs n)=fs.flatMap eZ:=by
 induction fs with
 | nil=>rfl
 | cons a r ih=>rw[List.flatMap_cons,List.map_append,ih];rfl
@[simp] theorem fsOb_frz (l:List Fu)(o:Nat)(cs:List CV)(n:Nat):(⟨(cR l).elem,(cR l).sz,(cR l).cells.map (bQ o cs n)⟩:Ob)=cR l:=by
 simp only[cR,J1]
@[simp] theorem Nc (ρ:Nat→Nat)(l:List Fu):cc ρ (cR l)=cR l:=by
 simp only[cc,cR,ay ρ _ (cG l)]
@[simp] theorem JZ (l:List Fu)(n:Nat):(cR l).cells.all (ba n)=true:=ah (cG l) n
@[simp] theorem fsOb_lts (l:List Fu)(n:Nat):a6 n (cR l).cells=true:=by rw[ch];exact ah (cG l) n
@[simp] theorem fsOb_ok1 (l:List Fu)(o q:Nat):(cR l).cells.all (kU o q)=true:=bh (cG l) o q
@[simp] theorem Fh (l:List Fu)(o q:Nat):(cR l).cells.map (dg o q)=(cR l).cells:=a7 (cG l) o q
@[simp] theorem fsOb_eta (l:List Fu):(⟨(cR l).elem,(cR l).sz,(cR l).cells⟩:Ob)=cR l:=rfl
@[simp] theorem NR (l:List Fu)(n o q:Nat):(cR l).cells.all (ba n∘dg o q)=true:=by rw[← List.all_map,Fh];exact JZ l n
@[simp] theorem I9 (l:List Sm)(n:Nat):(jn l).cells.all (ba n)=true:=ah (bA l) n
@[simp] theorem smOb_ok1 (l:List Sm)(o q:Nat):(jn l).cells.all (kU o q)=true:=bh (bA l) o q
@[simp] theorem EB (l:List Sm)(o q:Nat):(jn l).cells.map (dg o q)=(jn l).cells:=a7 (bA l) o q
@[simp] theorem smOb_eta (l:List Sm):(⟨(jn l).elem,(jn l).sz,(jn l).cells⟩:Ob)=jn l:=rfl
@[simp] theorem M9 (l:List Sm)(n o q:Nat):(jn l).cells.all (ba n∘dg o q)=true:=by rw[← List.all_map,EB];exact I9 l n
section
variable (L:List Int)(gs:List Gl)(ms:List Mx)(ar:Bool)(fs:List Fu)(nm:ByteArray)(ps:List Pm)(bc:List CV)(bn:Nat)(OA:List ByteArray)(rec:Rec)(deep f:Nat)(XT:List Sm×Nat×Nat)
def J56 (m:Nat)(s:St):Prop:=∃ (vars:List ByteArray) (i left:Nat) (out:List Sm),XT=(out++(sJ (pW L ar ms fs) rec ps deep m vars i left).1,(sJ (pW L ar ms fs) rec ps deep m vars i left).2)∧
 i≤L.length∧left≤f∧vars.length+left≤500∧out.length+2*left≤1000∧m≤10∧
 s=⟨[(12,I m),(11,.bp 6 0 out.length),(2,.bp 5 0 vars.length),(6,.aq 4 0),(0,.aq 1 0),(3,I deep)],
  [(0,aA L i),(1,bu gs ms fs.length left ar),(2,cR fs),(3,bf OA),(4,⟨109,0,gz nm ps bc bn⟩),(5,bf vars),(6,jn out)],7⟩
def K56 (m:Nat)(out:List Sm)(b:Ld)(s:St):Prop:=∃ (front:List Sm) (last:Sm),b.out=front++[last]∧
 s=⟨[(12,I m),(11,.bp 6 0 (out++front).length),(2,.bp 5 0 b.vars.length),(13,.aq 7 0),(6,.aq 4 0),(0,.aq 1 0),(3,I deep)],
  [(0,aA L b.i),(1,bu gs ms fs.length b.left ar),(2,cR fs),(3,bf OA),(4,⟨109,0,gz nm ps bc bn⟩),(5,bf b.vars),(6,jn (out++front)),(7,⟨170,0,ib last⟩)],8⟩
end
@[simp] theorem NU (e:Ex)(a b c d f:CV):List.take 7 (bM e++[a,b,c,d,f])=bM e++[a,b,c]:=by cases e<;>rfl
@[simp] theorem NW (e:Ex)(a b c d f:CV):List.drop 8 (bM e++[a,b,c,d,f])=[f]:=by cases e<;>rfl
@[simp] theorem NT (e:Ex)(a b c d f:CV):List.take 8 (bM e++[a,b,c,d,f])=bM e++[a,b,c,d]:=by cases e<;>rfl
@[simp] theorem NV (e:Ex)(a b c d f:CV):List.drop 9 (bM e++[a,b,c,d,f])=[]:=by cases e<;>rfl
@[simp] theorem nz_smsC (l:List Sm):(bx l).map nz=bx l:=by
 induction l with
 | nil=>rfl
 | cons a r ih=>
  rw[bx,List.map_append,ih];congr 1
  cases a with
  | dx u r=>rcases r with ⟨_,_ | _⟩<;>rfl
  | gP s e=>cases e<;>rfl
  | iy s e=>cases e<;>rfl
  | lu e _ _=>cases e<;>rfl
  | cE e _=>cases e<;>rfl
  | _=>rfl
def stK (c:Int):List CV:=[I c,.str ⟨#[]⟩,.int .i64 0,.int .i64 0,.str ⟨#[]⟩,.aj,.str ⟨#[]⟩,.aj,.aj,.aj,.aj]
def C2:List CV:=[I 5,.str ⟨#[]⟩,.int .i64 0,.int .i64 0,.str ⟨#[]⟩,.aj,.str ⟨#[]⟩,.aj,.aj,.aj,.aj]
set_option maxHeartbeats 8000000 in
theorem El (L:List Int)(hL:L.length≤1000)(gs:List Gl)(ms:List Mx)(hm:0<ms.length)(UQ:ms.length≤100)(Oh:∀ m∈ms,m.size≤1000)(ar:Bool)(fs:List Fu)(Qf:0<fs.length)(hfs2:fs.length≤100)(RM:∀ f∈fs,f.params.length≤100)
  (nm:ByteArray) (ps:List Pm) (hp:ps.length≤100) (bc:List CV) (bn:Nat):∀ (left f:Nat) (vars:List ByteArray) (deep most i:Nat),left≤f→left≤100→vars.length+left≤500→deep≤10→most≤9→i≤L.length →
  Body Tryz.prog av 45 [.aq 1 0,.agg (gz nm ps bc bn),.bp 3 0 vars.length,I deep,I most] [(0,aA L i),(1,bu gs ms fs.length left ar),(2,cR fs),(3,bf vars)] 4
   (jA (.az (bx (mQ (pW L ar ms fs) ps f vars deep most i left).1) (mQ (pW L ar ms fs) ps f vars deep most i left).1.length) [(0,aA L (mQ (pW L ar ms fs) ps f vars deep most i left).2.1),(1,bu gs ms fs.length (mQ (pW L ar ms fs) ps f vars deep most i left).2.2 ar),(2,cR fs),(3,bf vars)] 4):=by
 intro Qm
 induction Qm using Nat.strongRecOn with
 | _ Qm ih=>
 intro f OA deep most i0 hl hf hvl Uz hmo RL;generalize Xa:mQ (pW L ar ms fs) ps f OA deep most i0 Qm=XT;have UH:XT=sJ (pW L ar ms fs) (mQ (pW L ar ms fs) ps (f-1)) ps deep (bN L i0 (most+1)).1 OA (bN L i0 (most+1)).2 Qm:=by
  cases f with
  | zero=>
   have:Qm=0:=by omega
   subst this;rw[← Xa]
   cases h:(bN L i0 (most+1)).1 with
   | zero=>simp[mQ,sJ,pW]
   | succ n=>simp[mQ,sJ,pW]
  | succ f=>rw[← Xa];rfl
 clear Xa;have Vg:vJ L (mQ (pW L ar ms fs) ps (f-1)):=uh (pW L ar ms fs) ps (f-1);have Yh:=fun (left:Nat) (Oa:left<Qm)=>ih left Oa (f-1);clear ih;generalize Wu:mQ (pW L ar ms fs) ps (f-1)=rec at Yh UH Vg;have Wo:(bN L i0 (most+1)).1≤most:=Nat.le_of_lt_succ (cH L i0 yA);have OL:=aV L (most+1) RL;have wm:=cf ((most:Int)+1) yA yA;refine Body.iV Tryz.func45 rfl N4 (by simp[Tryz.ntmps45]) fun C hC N8=>?_;rw[Tryz.ntmps45] at hC;apply ai;simp[hC,gz];apply ai;simp[hC];have hb0:OA.length*16≤140737488355328:=by omega
 apply ai;simp[hC,bf,hb0];apply aL;simp[hC,wm,bu];refine TL.bS af [0] 1 (bF L i0 (most+1) RL hL yA yA) Oc rfl rfl rfl rfl N3 OP OO rfl (TL.go' af ?_);simp[hC];generalize bN L i0 (most+1)=k at Wo OL UH;have On:List.take OA.length (OA.map CV.str)=OA.map CV.str:=List.take_of_length_le N3;simp only[On];apply T.block;refine T.aI (J56 L gs ms ar fs nm ps bc bn OA rec deep Qm XT) (n:=k.1) ?_ ?_
 ·refine aa.le (Le.own 11 170 11 rfl) ?_;simp;refine aa.le (Le.trim [12,11,2,6,0,3] [0,1,2,3,4,6,7] 8 (by simp[aA,cR,-List.all_eq_true,-List.all_flatMap,ah (cG fs)]) yA) ?_;simp;refine aa.le (Le.oJ 6 5 rfl rfl yA N3 N3 (by simp[aA,ints,cR,-List.all_eq_true,-List.all_flatMap,bh (cG fs),bh (ep OA)])) ?_;simp[a7 (cG fs),a7 (ep OA),aA,cR,ints];refine aa.le (Le.oJ 7 6 rfl rfl yA N3 N3 (by simp[-List.all_eq_true,-List.all_flatMap,bh (cG fs),bh (ep OA)])) ?_;simp[a7 (cG fs),a7 (ep OA)];refine aa.trim [12,11,2,6,0,3] [0,1,2,3,4,5,6] 7 (by simp[-List.all_eq_true,-List.all_flatMap,ah (cG fs),ah (ep OA)]) yA ⟨OA,k.2,Qm,[],?_,OL,Nat.le_refl _,hvl,?_,by omega,?_⟩
  ·rw[UH];rfl
  ·simp;omega
  ·simp[bf,aA,bu,cR,jn,ints,bx,gz]
 ·rintro n s ⟨vars,i,left,out,hR,hi,hle,hvl',Si,hm10,rfl⟩;by_cases Rl:n=0
  ·subst Rl;have Ph:XT=(out,i,left):=by rw[hR];simp[sJ]
   clear hR;apply aL;simp[hC];refine aX ?_;simp;apply T.exit;simp;apply ai;simp[hC];apply T.ret;have Yo:(bx out).take (out.length*11)=bx out:=List.take_of_length_le (by rw[mZ];exact Nat.le_refl _);refine aa.le (Le.trim [10] [0,1,2,3,6] 7 (by simp[aA,bu,-List.all_eq_true,-List.all_flatMap]) yA) ?_;simp;refine aa.le (Le.cV (o:=6) rfl (bA out)) ?_;simp[jn,Yo];refine aa.trim [10] [0,1,2,3] 4 (by simp[aA,bu,-List.all_eq_true,-List.all_flatMap]) yA ⟨_,?_,rfl,?_,rfl⟩
   ·simp[Ph]
   ·simp[bu,bf,Ph]
  obtain⟨n1,rfl⟩:∃ n1,n=n1+1:=⟨n-1,by omega⟩;by_cases SH:left=0
  ·subst SH;have Ph:XT=(out,i,0):=by rw[hR];simp[sJ]
   clear hR;apply aL;simp[hC,bu];refine aX ?_;simp;apply T.exit;simp;apply ai;simp[hC];apply T.ret;have Yo:(bx out).take (out.length*11)=bx out:=List.take_of_length_le (by rw[mZ];exact Nat.le_refl _);refine aa.le (Le.trim [10] [0,1,2,3,6] 7 (by simp[aA,-List.all_eq_true,-List.all_flatMap]) yA) ?_;simp;refine aa.le (Le.cV (o:=6) rfl (bA out)) ?_;simp[jn,Yo];refine aa.trim [10] [0,1,2,3] 4 (by simp[aA,-List.all_eq_true,-List.all_flatMap]) yA ⟨_,?_,rfl,?_,rfl⟩
   ·simp[Ph]
   ·simp[bf,Ph]
  obtain⟨lf,rfl⟩:∃ lf,left=lf+1:=⟨left-1,by omega⟩;have hlp:sJ (pW L ar ms fs) rec ps deep (n1+1) vars i (lf+1)=((zh (pW L ar ms fs) rec ps vars deep i lf).out++(sJ (pW L ar ms fs) rec ps deep n1 (zh (pW L ar ms fs) rec ps vars deep i lf).vars (zh (pW L ar ms fs) rec ps vars deep i lf).i (zh (pW L ar ms fs) rec ps vars deep i lf).left).1,(sJ (pW L ar ms fs) rec ps deep n1 (zh (pW L ar ms fs) rec ps vars deep i lf).vars (zh (pW L ar ms fs) rec ps vars deep i lf).i (zh (pW L ar ms fs) rec ps vars deep i lf).left).2):=by
   rw[sJ,if_neg yA];rfl
  rw[hlp] at hR;have wl:((lf+1:Nat):Int)-1=(lf:Int):=by omega
  have wlf:=cf (lf:Int) yA yA;apply aL;simp[hC,bu];refine fh ?_;simp;have OH:=Gq (w:=pW L ar ms fs) Vg ps vars deep lf hi;generalize hB:zh (pW L ar ms fs) rec ps vars deep i lf=B at OH hR hlp;clear hlp;apply eG;apply ai;simp[hC,wlf];apply ai;simp[hC];refine T.cut (K56 L gs ms ar fs nm ps bc bn OA deep (n1+1) out B) ?_ ?_
  ·have OL:=aV L 14 hi;have OR:=hB;have OV:=bF L i 14 hi hL yA yA;obtain⟨k,hk⟩:∃ k,bN L i 14=k:=⟨_,rfl⟩;simp only[zh,pW,hk] at OR;rw[hk] at OL OV;apply ai;simp[hC];refine TL.bS af [0] 1 (OV) Oc rfl rfl rfl rfl N3 OP OO rfl (TL.go' af ?_);simp[hC];have RU:vars.length≤1000:=by omega
   refine T.le (Le.trim [14,12,11,2,13,6,0,3] [0,1,2,3,4,5,6,7] 8 (by simp[aA,gz,-List.all_eq_true,-List.all_flatMap]) yA) ?_;simp;have ew:(⟨102,0,[CV.aq 0 0,CV.az (gs.flatMap o0) gs.length,CV.az (ms.flatMap eM) ms.length,CV.bp 2 0 fs.length,.int .i64 lf,CV.bool ar]⟩:Ob)=bu gs ms fs.length lf ar:=rfl;rw[ew];apply T.block;apply ai;simp[hC];refine T.bg rfl (fun h=>?_) (fun h=>?_)
   ·have h1:k.1<4:=by simpa using h
    rw[if_pos h1] at OR;apply aY;simp[hC,gz];refine TL.jj af 3 5 [0,1,5] 4 (tj L hL vars RU gs ms hm UQ Oh fs.length lf ar k.2 OL nm ps hp bc bn) Oc rfl rfl rfl N3 yA N3 N3 rfl N3 SP rfl N3 N3 (TL.go' af ?_);simp[hC,kO];refine aa.le (Le.nz [] [7]) ?_;simp;refine aa.trim [12,11,2,13,6,0,3] [0,1,2,3,4,5,6,7] 8 Qt yA ⟨[],.dx false (jd L ar ms ps vars k.2).1,?_,?_⟩
    ·rw[← OR];rfl
    ·rw[← OR];simp[ib,kO,bM,eS,gz]
   have h1:¬ k.1<4:=by simpa using h
   rw[if_neg h1] at OR;apply ai;simp[hC];refine T.bg rfl (fun h=>?_) (fun h=>?_)
   ·have h2:k.1<7:=by simpa using h
    rw[if_pos h2] at OR;apply aY;simp[hC,gz];refine TL.jj af 3 5 [0,1,5] 4 (tj L hL vars RU gs ms hm UQ Oh fs.length lf ar k.2 OL nm ps hp bc bn) Oc rfl rfl rfl N3 yA N3 N3 rfl N3 SP rfl N3 N3 (TL.go' af ?_);simp[hC,kO];refine aa.le (Le.nz [] [7]) ?_;simp;refine aa.trim [12,11,2,13,6,0,3] [0,1,2,3,4,5,6,7] 8 Qt yA ⟨[],.dx true (jd L ar ms ps vars k.2).1,?_,?_⟩
    ·rw[← OR];rfl
    ·rw[← OR];simp[ib,kO,bM,eS,gz]
   have h2:¬ k.1<7:=by simpa using h
   rw[if_neg h2] at OR;apply ai;simp[hC];refine T.bg rfl (fun h=>?_) (fun h=>?_)
   ·have h3:k.1=7:=by simpa using h
    rw[if_pos h3] at OR;apply T.seq;obtain⟨a,ha⟩:∃ a,lf % 26=a:=⟨_,rfl⟩;obtain⟨q,hq⟩:∃ q,lf / 26=q:=⟨_,rfl⟩;obtain⟨b,hb⟩:∃ b,q % 26=b:=⟨_,rfl⟩;have UO:fq lf=⟨#[118]⟩++⟨#[97+UInt8.ofNat a,97+UInt8.ofNat b]⟩:=by simp[fq,ha,hq,hb]
    have so:lE BinOp.add ⟨#[118]⟩ ⟨#[97+UInt8.ofNat a,97+UInt8.ofNat b]⟩=some (.str (fq lf)):=by rw[UO];rfl
    have a1:(lf:Int).tmod 26=(a:Int):=by rw[Int.tmod_eq_emod_of_nonneg yA];omega
    have a2:=cf (97+(a:Int)) yA yA;have a3:IntKind.u8.wrap (97+(a:Int))=97+(a:Int):=IntWalk.u8_in _ yA;have a4:(0:Int)≤97+(a:Int)∧97+(a:Int)<256:=by omega
    have a5:(97+(a:Int)).toNat=97+a:=by omega
    have q1:IntKind.i64.wrap ((lf:Int) / 26)=(q:Int):=by rw[cf _ yA yA];omega
    have b1:(q:Int).tmod 26=(b:Int):=by rw[Int.tmod_eq_emod_of_nonneg yA];omega
    have b2:=cf (97+(b:Int)) yA yA;have b3:IntKind.u8.wrap (97+(b:Int))=97+(b:Int):=IntWalk.u8_in _ yA;have b4:(0:Int)≤97+(b:Int)∧97+(b:Int)<256:=by omega
    have b5:(97+(b:Int)).toNat=97+b:=by omega
    refine T.rx af follows [0,1,3,4,5,6,7,8,9,10,11,12,13,14,15,16,17,18,19,20,21,2,22,23,24,25,26] [(6,2),(6,22),(6,24),(9,2),(9,22),(9,24),(13,2),(13,22),(13,24),(17,2),(17,22),(17,24),(18,2),(18,22),(18,24),(19,2),(19,22),(19,24)] N4 ?_;simp[hC,bu,a1,a2,a3,a4,a5,q1,b1,b2,b3,b4,b5,so];rw[ew];refine RX.jj 3 5 [0,1,5] [0] 4 (mV L hL vars RU gs ms fs.length lf ar k.2 OL) rfl N3 rfl rfl rfl N3 yA N3 N3 rfl N3 SP rfl N3 N3 N3 rfl N3 ?_;simp[bK];have hbv:(vars.length+1)*16≤140737488355328:=by omega
    apply aY;simp[hC,bf,hbv];refine aa.le (Le.trim [12,11,2,13,6,0,3] [0,1,2,3,4,6,7,36] 37 (by simp[gz,-List.all_eq_true,-List.all_flatMap,iM]) yA) ?_;simp;refine aa.le (Le.oJ 36 5 rfl rfl yA N3 N3 (by simp[aA,ints,bu,gz,-List.all_eq_true,-List.all_flatMap,yu])) ?_;simp[aA,ints,bu,gz];refine aa.le (Le.nz [] [7]) ?_;simp;refine aa.trim [12,11,2,13,6,0,3] [0,1,2,3,4,5,6,7] 8 XY yA ⟨[],.gP (fq lf) (dj L ar vars k.2).1,?_,?_⟩
    ·rw[← OR];rfl
    ·rw[← OR];simp[ib,kQ,eS,gz,bf,aA,ints,bu]
   have h3:¬ k.1=7:=by simpa using h
   rw[if_neg h3] at OR
      /- an assignment? -/
   refine T.cut (fun s=>s=⟨[(119,.bool (decide (k.1=8∧0<vars.length))),(14,I k.1),(12,.int .i64 ((n1:Int)+1)),(11,.bp 6 0 out.length),(2,.bp 5 0 vars.length),(13,.aq 7 0),(6,.aq 4 0),(0,.aq 1 0),(3,I deep)],
    [(0,aA L k.2),(1,bu gs ms fs.length lf ar),(2,cR fs),(3,bf OA),(4,⟨109,0,gz nm ps bc bn⟩),(5,bf vars),(6,jn out),(7,⟨170,0,C2⟩)],8⟩) ?_ ?_
   ·by_cases h8:k.1=8
    ·apply aY;simp[hC,h8];refine aa.trim [119,14,12,11,2,13,6,0,3] [0,1,2,3,4,5,6,7] 8 yC yA ?_;simp[C2]
    ·apply aY;simp[hC,h8];refine aa.trim [119,14,12,11,2,13,6,0,3] [0,1,2,3,4,5,6,7] 8 yC yA ?_;simp[C2]
   rintro s rfl;refine T.bg rfl (fun h=>?_) (fun h=>?_)
   ·have h4:k.1=8∧0<vars.length:=by simpa using h
    rw[if_pos h4] at OR;have Oa:=cH L k.2 h4.2;have YZ:=bF L k.2 vars.length OL hL h4.2 yA;have Pe:=aV L vars.length OL;obtain⟨j,hj⟩:∃ j,bN L k.2 vars.length=j:=⟨_,rfl⟩;rw[hj] at Oa YZ Pe;simp only[hj] at OR;have N7:(bf vars).cells.drop j.1=.str (vars.getD j.1 eS)::(vars.map CV.str).drop (j.1+1):=iT Oa;have Ub:(bf vars).sz=1:=rfl;refine T.rx af follows [0,1,2,3,4,5,6,10,11,13,7,8,9,12,14,15,16,17,18] [(9,12),(9,14)] N4 ?_;simp[hC,bu];rw[ew];refine RX.bS [0] [0] 1 (YZ) rfl N3 rfl rfl rfl rfl N3 OP OO rfl rfl rfl N3 ?_;simp[Oa,N7];refine RX.jj 3 5 [0,1,5] [0] 4 (mV L hL vars RU gs ms fs.length lf ar j.2 Pe) rfl N3 rfl rfl rfl N3 yA N3 N3 rfl N3 SP rfl N3 N3 N3 rfl N3 ?_;simp[bK,C2];refine aa.le (Le.nz [] [7]) ?_;simp;refine aa.trim [12,11,2,13,6,0,3] [0,1,2,3,4,5,6,7] 8 (by simp[gz,-List.all_eq_true,-List.all_flatMap,iM]) yA ⟨[],.iy (vars.getD j.1 eS) (dj L ar vars j.2).1,?_,?_⟩
    ·rw[← OR];rfl
    ·rw[← OR];simp[ib,kQ,eS,gz,Oa]
   have h4:¬ (k.1=8∧0<vars.length):=by simpa using h
   rw[if_neg h4] at OR
      /- a call? -/
   refine T.cut (fun s=>s=⟨[(143,.bool (decide (k.1=9∨k.1=10))),(14,I k.1),(12,.int .i64 ((n1:Int)+1)),(11,.bp 6 0 out.length),(2,.bp 5 0 vars.length),(13,.aq 7 0),(6,.aq 4 0),(0,.aq 1 0),(3,I deep)],
    [(0,aA L k.2),(1,bu gs ms fs.length lf ar),(2,cR fs),(3,bf OA),(4,⟨109,0,gz nm ps bc bn⟩),(5,bf vars),(6,jn out),(7,⟨170,0,C2⟩)],8⟩) ?_ ?_
   ·by_cases h9:k.1=9
    ·apply aY;simp[hC,h9];refine aa.trim [143,14,12,11,2,13,6,0,3] [0,1,2,3,4,5,6,7] 8 VA yA ?_;simp
    ·apply aY;simp[hC,h9];refine aa.trim [143,14,12,11,2,13,6,0,3] [0,1,2,3,4,5,6,7] 8 VA yA ?_;simp
   rintro s rfl;refine T.bg rfl (fun h=>?_) (fun h=>?_)
   ·have h5:k.1=9∨k.1=10:=by simpa using h
    have UJ:gJ ⟨L,ar,ms,fs.map fun f=>(f.name,f.params)⟩ ps vars (decide (k.1=10)) k.2 lf=B:=by
     by_cases h9:k.1=9
     ·rw[if_pos h9] at OR;rw[← OR];simp[h9]
     ·have XQ:k.1=10:=by omega
      rw[if_neg h9,if_pos XQ] at OR;rw[← OR];simp[XQ]
    simp only[gJ,List.length_map] at UJ;apply ai;simp[hC,C2];refine T.cut (fun s=>s=⟨[(12,.int .i64 ((n1:Int)+1)),(11,.bp 6 0 out.length),(2,.bp 5 0 vars.length),(13,.aq 7 0),(6,.aq 4 0),(0,.aq 1 0),(3,I deep)],
     [(0,aA L k.2),(1,bu gs ms fs.length lf ar),(2,cR fs),(3,bf OA),(4,⟨109,0,gz nm ps bc bn⟩),(5,bf vars),(6,jn out),(7,⟨170,0,stK (if k.1=10 then 4 else 3)⟩)],8⟩) ?_ ?_
    ·apply ai;simp[hC];refine T.bg rfl (fun h=>?_) (fun h=>?_)
     ·have XQ:k.1=10:=by simpa using h
      apply aY;simp[hC];refine aa.trim [12,11,2,13,6,0,3] [0,1,2,3,4,5,6,7] 8 yC yA ?_;simp[XQ,stK]
     ·have XQ:¬ k.1=10:=by simpa using h
      apply T.skip;simp;refine aa.trim [12,11,2,13,6,0,3] [0,1,2,3,4,5,6,7] 8 yC yA ?_;simp[XQ,stK]
    rintro s rfl;have Oa:=cH L k.2 Qf;have YZ:=bF L k.2 fs.length OL hL Qf yA;have Pe:=aV L fs.length OL;obtain⟨j,hj⟩:∃ j,bN L k.2 fs.length=j:=⟨_,rfl⟩;rw[hj] at Oa YZ Pe;simp only[hj] at UJ;obtain⟨g,hg⟩:∃ g,fs[j.1]? = some g:=⟨fs[j.1],List.getElem?_eq_getElem Oa⟩;have Qy:(fs.map fun f=>(f.name,f.params)).getD j.1 (eS,[])=(g.name,g.params):=by simp[List.getD,hg]
    simp only[Qy] at UJ;have Zl:=RM g (List.mem_of_getElem? hg);have N7:(cR fs).cells.drop (j.1*3)=eZ g++(fs.drop (j.1+1)).flatMap eZ:=aD (f:=eZ) (n:=3) (fun _=>rfl) hg;have Ub:(cR fs).sz=3:=rfl;have Og:(cR fs).cells.length=fs.length*3:=aM (f:=eZ) (n:=3) (fun _=>rfl) fs;apply T.seq;refine T.rx af follows [0,1,2,3,4,5,6,7,8,9,10,11,12,13,14,18,15,16,17,19] [(4,18),(4,15),(8,18),(13,18),(18,15),(18,17)] N4 ?_;simp[hC,bu];rw[ew];refine RX.bS [0] [0] 1 (YZ) rfl N3 rfl rfl rfl rfl N3 OP OO rfl rfl rfl N3 ?_;simp[Oa,N7,eZ];refine T.rx af follows [0,1,2,3,4,5,7,6,8,9,10] [(1,6)] N4 ?_;simp[hC,gz];refine RX.jj 3 5 [0,1,5] [0] 4 (F7 L hL vars RU gs ms hm UQ Oh fs.length lf ar j.2 Pe nm ps hp bc bn g.name g.params Zl (bx g.body) g.body.length) rfl N3 rfl rfl rfl N3 yA N3 N3 rfl N3 SP rfl N3 N3 N3 rfl N3 ?_;simp[stK];refine aa.le (Le.nz [] [7]) ?_;simp;refine aa.trim [12,11,2,13,6,0,3] [0,1,2,3,4,5,6,7] 8 Qt yA ⟨[],.dU (decide (k.1=10)) g.name (db L ar ms ps vars g.params j.2).1,?_,?_⟩
    ·rw[← UJ];rfl
    ·rw[← UJ];simp[ib,kQ,bM,eS,gz,sq]
   have h5:¬ k.1=9∧¬ k.1=10:=by simpa using h
   rw[if_neg h5.1,if_neg h5.2] at OR
      /- a condition? -/
   refine T.cut (fun s=>s=⟨[(181,.bool (decide (k.1=11∧0<deep))),(14,I k.1),(12,.int .i64 ((n1:Int)+1)),(11,.bp 6 0 out.length),(2,.bp 5 0 vars.length),(13,.aq 7 0),(6,.aq 4 0),(0,.aq 1 0),(3,I deep)],
    [(0,aA L k.2),(1,bu gs ms fs.length lf ar),(2,cR fs),(3,bf OA),(4,⟨109,0,gz nm ps bc bn⟩),(5,bf vars),(6,jn out),(7,⟨170,0,C2⟩)],8⟩) ?_ ?_
   ·by_cases h9:k.1=11
    ·apply aY;simp[hC,h9];refine aa.trim [181,14,12,11,2,13,6,0,3] [0,1,2,3,4,5,6,7] 8 VA yA ?_;simp
    ·apply aY;simp[hC,h9];refine aa.trim [181,14,12,11,2,13,6,0,3] [0,1,2,3,4,5,6,7] 8 VA yA ?_;simp
   rintro s rfl;refine T.bg rfl (fun h=>?_) (fun h=>?_)
   ·have h6:k.1=11∧0<deep:=by simpa using h
    rw[if_pos h6] at OR;obtain⟨d,rfl⟩:∃ d,deep=d+1:=⟨deep-1,by omega⟩;have PZ:((d+1:Nat):Int)-1=(d:Int):=by omega
    have wd:=cf (d:Int) yA yA;have Pe:=jZ L ar vars OL;simp only[NO,Nat.add_sub_cancel] at OR;have RW:=Yh lf yA vars d 3 (dj L ar vars k.2).2 yA yA yA yA yA Pe;obtain⟨Rg,Ur⟩:=Vg vars d 3 (dj L ar vars k.2).2 lf Pe;obtain⟨th,RV⟩:∃ th,rec vars d 3 (dj L ar vars k.2).2 lf=th:=⟨_,rfl⟩;rw[RV] at RW Rg Ur;simp only[RV] at OR;apply T.seq;refine T.rx af follows [0,1,3,4,5,6,7,9,2,8,10,11,12,13,14] [(4,2)] N4 ?_;simp[hC,wd,gz];refine RX.jj 3 5 [0,1,5] [0] 4 (mV L hL vars RU gs ms fs.length lf ar k.2 OL) rfl N3 rfl rfl rfl N3 yA N3 N3 rfl N3 SP rfl N3 N3 N3 rfl N3 ?_;simp;refine RX.jj 3 5 [0,1,2,5] [0,1] 4 (RW) rfl N3 rfl rfl rfl N3 yA N3 N3 rfl N3 SP rfl N3 N3 N3 rfl N3 ?_;simp[C2,bK];have Y2:=bF L th.2.1 2 Rg hL yA yA;have US:=aV L 2 Rg;obtain⟨c,hc⟩:∃ c,bN L th.2.1 2=c:=⟨_,rfl⟩;rw[hc] at Y2 US;simp only[hc] at OR;refine T.le (Le.trim [12,11,2,13,6,0,3] [0,1,2,3,4,5,6,7] 8 XY yA) ?_;simp;apply ai;simp[hC,bu];refine TL.bS af [0] 1 (Y2) Oc rfl rfl rfl rfl N3 OP OO rfl (TL.go' af ?_);simp[hC];have ew2:(⟨102,0,[CV.aq 0 0,CV.az (gs.flatMap o0) gs.length,CV.az (ms.flatMap eM) ms.length,CV.bp 2 0 fs.length,I th.2.2,CV.bool ar]⟩:Ob)=bu gs ms fs.length th.2.2 ar:=rfl;rw[ew2];refine T.bg rfl (fun h=>?_) (fun h=>?_)
    ·have SN:c.1=1:=by simpa using h
     rw[if_pos SN] at OR;have Ou:=Yh th.2.2 yA vars d 3 c.2 yA yA yA yA yA US;obtain⟨el,Zs⟩:∃ el,rec vars d 3 c.2 th.2.2=el:=⟨_,rfl⟩;rw[Zs] at Ou;simp only[Zs] at OR;apply aY;simp[hC,wd];refine TL.jj af 3 5 [0,1,2,5] 4 (Ou) Oc rfl rfl rfl N3 yA N3 N3 rfl N3 SP rfl N3 N3 (TL.go' af ?_);simp[hC,bK];refine aa.le (Le.nz [] [7]) ?_;simp;refine aa.trim [12,11,2,13,6,0,3] [0,1,2,3,4,5,6,7] 8 XY yA ⟨[],.lu (dj L ar vars k.2).1 th.1 el.1,?_,?_⟩
     ·rw[← OR];rfl
     ·rw[← OR];simp[ib,kQ,eS,gz]
    ·have SN:¬ c.1=1:=by simpa using h
     rw[if_neg SN] at OR;apply T.skip;simp;refine aa.le (Le.nz [] [7]) ?_;simp;refine aa.trim [12,11,2,13,6,0,3] [0,1,2,3,4,5,6,7] 8 XY yA ⟨[],.lu (dj L ar vars k.2).1 th.1 [],?_,?_⟩
     ·rw[← OR];rfl
     ·rw[← OR];simp[ib,kQ,eS,gz,bx]
   have h6:¬ (k.1=11∧0<deep):=by simpa using h
   rw[if_neg h6] at OR
      /- a loop? -/
   refine T.cut (fun s=>s=⟨[(213,.bool (decide (k.1=12∧0<deep))),(14,I k.1),(12,.int .i64 ((n1:Int)+1)),(11,.bp 6 0 out.length),(2,.bp 5 0 vars.length),(13,.aq 7 0),(6,.aq 4 0),(0,.aq 1 0),(3,I deep)],
    [(0,aA L k.2),(1,bu gs ms fs.length lf ar),(2,cR fs),(3,bf OA),(4,⟨109,0,gz nm ps bc bn⟩),(5,bf vars),(6,jn out),(7,⟨170,0,C2⟩)],8⟩) ?_ ?_
   ·by_cases h9:k.1=12
    ·apply aY;simp[hC,h9];refine aa.trim [213,14,12,11,2,13,6,0,3] [0,1,2,3,4,5,6,7] 8 VA yA ?_;simp
    ·apply aY;simp[hC,h9];refine aa.trim [213,14,12,11,2,13,6,0,3] [0,1,2,3,4,5,6,7] 8 VA yA ?_;simp
   rintro s rfl;refine T.bg rfl (fun h=>?_) (fun h=>?_)
   ·have h7:k.1=12∧0<deep:=by simpa using h
    rw[if_pos h7] at OR;obtain⟨d,rfl⟩:∃ d,deep=d+1:=⟨deep-1,by omega⟩;have PZ:((d+1:Nat):Int)-1=(d:Int):=by omega
    have wd:=cf (d:Int) yA yA;have Pe:=jZ L ar vars OL;simp only[M3,Nat.add_sub_cancel] at OR;have RW:=Yh lf yA vars d 3 (dj L ar vars k.2).2 yA yA yA yA yA Pe;obtain⟨th,RV⟩:∃ th,rec vars d 3 (dj L ar vars k.2).2 lf=th:=⟨_,rfl⟩;rw[RV] at RW;simp only[RV] at OR;refine T.rx af follows [0,1,3,4,5,6,7,9,2,8,10,11,12,13,14] [(4,2)] N4 ?_;simp[hC,wd,gz];refine RX.jj 3 5 [0,1,5] [0] 4 (mV L hL vars RU gs ms fs.length lf ar k.2 OL) rfl N3 rfl rfl rfl N3 yA N3 N3 rfl N3 SP rfl N3 N3 N3 rfl N3 ?_;simp;refine RX.jj 3 5 [0,1,2,5] [0,1] 4 (RW) rfl N3 rfl rfl rfl N3 yA N3 N3 rfl N3 SP rfl N3 N3 N3 rfl N3 ?_;simp[C2,bK];refine aa.le (Le.nz [] [7]) ?_;simp;refine aa.trim [12,11,2,13,6,0,3] [0,1,2,3,4,5,6,7] 8 XY yA ⟨[],.cE (dj L ar vars k.2).1 th.1,?_,?_⟩
    ·rw[← OR];rfl
    ·rw[← OR];simp[ib,kQ,eS,gz]
   have h7:¬ (k.1=12∧0<deep):=by simpa using h
   rw[if_neg h7] at OR
      /- the end, or statements between a lock and its unlock -/
   obtain⟨i2,Sb⟩:∃ i2,(if k.1=13 then (bN L k.2 3).2 else k.2)=i2:=⟨_,rfl⟩;have VX:i2≤L.length:=by
    rw[← Sb];split
    ·exact aV _ _ OL
    ·exact OL
   refine T.cut (fun s=>s=⟨[(232,.bool (decide (k.1=13∧(bN L k.2 3).1=1))),(12,.int .i64 ((n1:Int)+1)),(11,.bp 6 0 out.length),(2,.bp 5 0 vars.length),(13,.aq 7 0),(6,.aq 4 0),(0,.aq 1 0),(3,I deep)],
    [(0,aA L i2),(1,bu gs ms fs.length lf ar),(2,cR fs),(3,bf OA),(4,⟨109,0,gz nm ps bc bn⟩),(5,bf vars),(6,jn out),(7,⟨170,0,C2⟩)],8⟩) ?_ ?_
   ·by_cases h9:k.1=13
    ·rw[if_pos h9] at Sb;apply aY;simp[hC,h9,bu];refine TL.bS af [0] 1 (bF L k.2 3 OL hL yA yA) Oc rfl rfl rfl rfl N3 OP OO rfl (TL.go' af ?_);simp[hC];refine aa.trim [232,12,11,2,13,6,0,3] [0,1,2,3,4,5,6,7] 8 VA yA ?_;simp[Sb]
    ·rw[if_neg h9] at Sb;apply aY;simp[hC,h9];refine aa.trim [232,12,11,2,13,6,0,3] [0,1,2,3,4,5,6,7] 8 VA yA ?_;simp[Sb]
   rintro s rfl;refine T.bg rfl (fun h=>?_) (fun h=>?_)
   ·have h8:k.1=13∧(bN L k.2 3).1=1:=by simpa using h
    rw[if_pos h8] at OR;rw[if_pos h8.1] at Sb;apply aY;simp[hC,C2];refine aa.le (Le.nz [] [7]) ?_;simp;refine aa.trim [12,11,2,13,6,0,3] [0,1,2,3,4,5,6,7] 8 yC yA ⟨[],.jm,?_,?_⟩
    ·rw[← OR];rfl
    ·rw[← OR,← Sb];simp[ib,kQ,bM,eS,gz]
   have h8:¬ (k.1=13∧(bN L k.2 3).1=1):=by simpa using h
   rw[if_neg h8] at OR;have UJ:AS ⟨L,ar,ms,fs.map fun f=>(f.name,f.params)⟩ rec ps vars i2 lf=B:=by
    rw[← OR,← Sb];by_cases h9:k.1=13
    ·rw[if_pos h9,if_pos h9]
    ·rw[if_neg h9,if_neg h9]
   simp only[AS] at UJ;have UR:=qn L ar ms ps vars VX;obtain⟨rf,YN⟩:∃ rf,jd L ar ms ps vars i2=rf:=⟨_,rfl⟩;have Qk:=tj L hL vars RU gs ms hm UQ Oh fs.length lf ar i2 VX nm ps hp bc bn;rw[YN] at Qk UR;simp only[YN] at UJ;have Oo:=Yh lf yA vars 0 2 rf.2 yA yA yA yA yA UR;obtain⟨_,Ur⟩:=Vg vars 0 2 rf.2 lf UR;obtain⟨th,RV⟩:∃ th,rec vars 0 2 rf.2 lf=th:=⟨_,rfl⟩;rw[RV] at Oo Ur;simp only[RV] at UJ;apply ai;simp[hC,gz];refine TL.jj af 3 5 [0,1,5] 4 (Qk) Oc rfl rfl rfl N3 yA N3 N3 rfl N3 SP rfl N3 N3 (TL.go' af ?_);simp[hC,kO,C2];apply ai;simp[hC];have VN:=mZ out;have Pq:(out.length+1)*192≤140737488355328:=by omega
   have O2:(out.length+1+th.1.length)*192≤140737488355328:=by omega
   have hst1:=mZ th.1;have Y8:(out.length+1)*11=out.length*11+11:=by omega
   apply ai;simp[hC,jn,VN,Pq,aS];apply ai;simp[hC];refine TL.jj af 3 5 [0,1,2,5] 4 (Oo) Oc rfl rfl rfl N3 yA N3 N3 rfl N3 SP rfl N3 N3 (TL.go' af ?_);simp[hC,VN,hst1,O2,Y8];apply aY;simp[hC];refine aa.le (Le.trim [12,11,2,13,6,0,3] [0,1,2,3,4,5,7,11] 12 yDa yA) ?_;simp;refine aa.le (Le.nz [] [7,11]) ?_;simp;refine aa.le (Le.oJ 11 6 rfl rfl yA N3 N3 (by simp[aA,ints,bu,-List.all_eq_true,-List.all_flatMap,bh (bA out),bh (bA th.1)])) ?_;simp[aA,ints,bu,a7 (bA out),a7 (bA th.1)];refine aa.trim [12,11,2,13,6,0,3] [0,1,2,3,4,5,6,7] 8 yDa yA ⟨.dx false rf.1::th.1,.dx true rf.1,?_,?_⟩
   ·rw[← UJ]
   ·rw[← UJ];have e1:out.length+1+th.1.length=out.length+(th.1.length+1):=by omega
    simp[ib,kO,bM,eS,gz,jn,uy,bx,aA,ints,bu,e1]
  ·rintro s ⟨front,last,R2,rfl⟩;have O8:(out++front).length≤2000:=by
    have:=OH.n;rw[R2] at this;simp at this ⊢;omega
   have RK:=mZ (out++front);generalize hO:out++front=O at O8 RK;have hb:(O.length+1)*192≤140737488355328:=by omega
   have wn:=cf (n1:Int) yA yA;apply aY;simp[hC,jn,kp,aS,RK,hb,Gg];apply aY;simp[hC,wn];refine⟨n1,by omega,aa.le (Le.trim [12,11,2,6,0,3] [0,1,2,3,4,5,9] 10 (by simp[aA,bu,gz,-List.all_eq_true,-List.all_flatMap,ah (bA O),ah (ir last)]) yA) ?_⟩;simp;refine aa.le (Le.oJ 9 6 rfl rfl yA N3 N3 (by simp[aA,ints,bu,gz,-List.all_eq_true,-List.all_flatMap,bh (bA O),bh (ir last)])) ?_;simp[aA,ints,bu,gz,a7 (bA O),a7 (ir last)];refine aa.trim [12,11,2,6,0,3] [0,1,2,3,4,5,6] 7 (by simp[-List.all_eq_true,-List.all_flatMap,ah (bA O),ah (ir last)]) yA ⟨B.vars,B.i,B.left,out++B.out,?_,OH.i,?_,?_,?_,by omega,?_⟩
   ·rw[hR,List.append_assoc]
   ·have:=OH.l;omega
   ·have:=OH.v;omega
   ·have:=OH.n;simp;omega
   ·have e1:out++B.out=O++[last]:=by rw[R2,← List.append_assoc,hO]
    rw[e1];simp[jn,uy,bx,aA,ints,bu,gz]
end Go.Proofs.YtlkmbdfhdknlgaaGreatDoor
