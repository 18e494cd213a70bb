/- writer.block. -/
import Derived.Test.YtmnglemlimfpbaaGreatZ26
namespace Go.Proofs.YtmnglemlimfpbaaGreat
open Go.Can Go.aX
def cX (fs:List Fu):Ob:=⟨137,3,fs.flatMap fk⟩
def jD (l:List Sm):Ob:=⟨188,11,bA l⟩
def pU (L:List Int)(ar:Bool)(ms:List Mx)(fs:List Fu):Wr:=⟨L,ar,ms,fs.map fun f=>(f.name,f.params)⟩
theorem iz (x:Sm):trees (ir x)=true:=by
 cases x with
 | dB u r=>rcases r with ⟨_,_ | _⟩<;>rfl
 | gZ s e=>cases e<;>rfl
 | iF s e=>cases e<;>rfl
 | lG e _ _=>cases e<;>rfl
 | cJ e _=>cases e<;>rfl
 | _=>rfl
theorem bC (l:List Sm):trees (bA l)=true:=by
 induction l with
 | nil=>rfl
 | cons a r ih=>rw[bA,aC,ih,iz];rfl
theorem nA (l:List Sm):(bA l).length=l.length*11:=by rw[ov];exact aD (f:=ir) kI l
theorem ug:∀ a b:List Sm,bA (a++b)=bA a++bA b
 | [],b=>rfl
 | x::r,b=>by rw[List.cons_append,bA,bA,ug r b,List.append_assoc]
theorem Fh (x:Sm):List.take 11 (ir x)=ir x:=List.take_of_length_le (by simp[kI])
theorem cP (fs:List Fu):trees (fs.flatMap fk)=true:=by
 induction fs with
 | nil=>rfl
 | cons a r ih=>rw[List.flatMap_cons,aC,ih];rfl
theorem I0 (fs:List Fu)(o:Nat)(cs:List CV)(n:Nat):(fs.flatMap fk).map (cL o cs n)=fs.flatMap fk:=by
 induction fs with
 | nil=>rfl
 | cons a r ih=>rw[List.flatMap_cons,List.map_append,ih];rfl
@[simp] theorem fsOb_frz (l:List Fu)(o:Nat)(cs:List CV)(n:Nat):(⟨(cX l).elem,(cX l).sz,(cX l).cells.map (cL o cs n)⟩:Ob)=cX l:=by
 simp only[cX,I0]
@[simp] theorem LM (ρ:Nat→Nat)(l:List Fu):ca ρ (cX l)=cX l:=by
 simp only[ca,cX,af ρ _ (cP l)]
@[simp] theorem IY (l:List Fu)(n:Nat):(cX l).cells.all (a8 n)=true:=aj (cP l) n
@[simp] theorem fsOb_lts (l:List Fu)(n:Nat):aQ n (cX l).cells=true:=by rw[a7];exact aj (cP l) n
@[simp] theorem fsOb_ok1 (l:List Fu)(o q:Nat):(cX l).cells.all (m8 o q)=true:=bh (cP l) o q
@[simp] theorem Ep (l:List Fu)(o q:Nat):(cX l).cells.map (dj o q)=(cX l).cells:=aY (cP l) o q
@[simp] theorem fsOb_eta (l:List Fu):(⟨(cX l).elem,(cX l).sz,(cX l).cells⟩:Ob)=cX l:=rfl
@[simp] theorem Mr (l:List Fu)(n o q:Nat):(cX l).cells.all (a8 n∘dj o q)=true:=by rw[← List.all_map,Ep];exact IY l n
@[simp] theorem H7 (l:List Sm)(n:Nat):(jD l).cells.all (a8 n)=true:=aj (bC l) n
@[simp] theorem smOb_ok1 (l:List Sm)(o q:Nat):(jD l).cells.all (m8 o q)=true:=bh (bC l) o q
@[simp] theorem DO (l:List Sm)(o q:Nat):(jD l).cells.map (dj o q)=(jD l).cells:=aY (bC l) o q
@[simp] theorem smOb_eta (l:List Sm):(⟨(jD l).elem,(jD l).sz,(jD l).cells⟩:Ob)=jD l:=rfl
@[simp] theorem LJ (l:List Sm)(n o q:Nat):(jD l).cells.all (a8 n∘dj o q)=true:=by rw[← List.all_map,DO];exact H7 l n
section
variable (L:List Int)(gs:List Gl)(ms:List Mx)(ar:Bool)(fs:List Fu)(nm:ByteArray)(ps:List Pm)(bc:List CV)(bn:Nat)(vars0:List ByteArray)(rec:Rec)(deep f:Nat)(RES:List Sm×Nat×Nat)
def J56 (m:Nat)(s:St):Prop:=∃ (vars:List ByteArray) (i left:Nat) (out:List Sm),RES=(out++(sd (pU L ar ms fs) rec ps deep m vars i left).1,(sd (pU L ar ms fs) rec ps deep m vars i left).2)∧
 i≤L.length∧left≤f∧vars.length+left≤500∧out.length+2*left≤1000∧m≤10∧
 s=⟨[(12,I m),(11,.bx 6 0 out.length),(2,.bx 5 0 vars.length),(6,.aw 4 0),(0,.aw 1 0),(3,I deep)],
  [(0,aA L i),(1,bt gs ms fs.length left ar),(2,cX fs),(3,bb vars0),(4,⟨137,0,gD nm ps bc bn⟩),(5,bb vars),(6,jD out)],7⟩
def K56 (m:Nat)(out:List Sm)(b:J4)(s:St):Prop:=∃ (front:List Sm) (last:Sm),b.out=front++[last]∧
 s=⟨[(12,I m),(11,.bx 6 0 (out++front).length),(2,.bx 5 0 b.vars.length),(13,.aw 7 0),(6,.aw 4 0),(0,.aw 1 0),(3,I deep)],
  [(0,aA L b.i),(1,bt gs ms fs.length b.left ar),(2,cX fs),(3,bb vars0),(4,⟨137,0,gD nm ps bc bn⟩),(5,bb b.vars),(6,jD (out++front)),(7,⟨188,0,ir last⟩)],8⟩
end
@[simp] theorem Mt (e:Ex)(a b c d f:CV):List.take 7 (aZ e++[a,b,c,d,f])=aZ e++[a,b,c]:=by cases e<;>rfl
@[simp] theorem Mv (e:Ex)(a b c d f:CV):List.drop 8 (aZ e++[a,b,c,d,f])=[f]:=by cases e<;>rfl
@[simp] theorem Ms (e:Ex)(a b c d f:CV):List.take 8 (aZ e++[a,b,c,d,f])=aZ e++[a,b,c,d]:=by cases e<;>rfl
@[simp] theorem Mu (e:Ex)(a b c d f:CV):List.drop 9 (aZ e++[a,b,c,d,f])=[]:=by cases e<;>rfl
@[simp] theorem nz_smsC (l:List Sm):(bA l).map nz=bA l:=by
 induction l with
 | nil=>rfl
 | cons a r ih=>
  rw[bA,List.map_append,ih]
  congr 1
  cases a with
  | dB u r=>rcases r with ⟨_,_ | _⟩<;>rfl
  | gZ s e=>cases e<;>rfl
  | iF s e=>cases e<;>rfl
  | lG e _ _=>cases e<;>rfl
  | cJ e _=>cases e<;>rfl
  | _=>rfl
def stK (c:Int):List CV:=[I c,.str ⟨#[]⟩,.int .i64 0,.int .i64 0,.str ⟨#[]⟩,.ah,.str ⟨#[]⟩,.ah,.ah,.ah,.ah]
def CA:List CV:=[I 5,.str ⟨#[]⟩,.int .i64 0,.int .i64 0,.str ⟨#[]⟩,.ah,.str ⟨#[]⟩,.ah,.ah,.ah,.ah]
set_option maxHeartbeats 8000000 in
theorem Dx (L:List Int)(hL:L.length≤1000)(gs:List Gl)(ms:List Mx)(hm:0<ms.length)(hm2:ms.length≤100)(hsz:∀ m∈ms,m.size≤1000)(ar:Bool)(fs:List Fu)(hfs:0<fs.length)(hfs2:fs.length≤100)(hfp:∀ f∈fs,f.params.length≤100)
  (nm:ByteArray) (ps:List Pm) (hp:ps.length≤100) (bc:List CV) (bn:Nat):∀ (left f:Nat) (vars:List ByteArray) (deep most i:Nat),left≤f→left≤100→vars.length+left≤500→deep≤10→most≤9→i≤L.length →
  Body Tryz.prog aq 56 [.aw 1 0,.agg (gD nm ps bc bn),.bx 3 0 vars.length,I deep,I most] [(0,aA L i),(1,bt gs ms fs.length left ar),(2,cX fs),(3,bb vars)] 4
   (kk (.av (bA (nh (pU L ar ms fs) ps f vars deep most i left).1) (nh (pU L ar ms fs) ps f vars deep most i left).1.length) [(0,aA L (nh (pU L ar ms fs) ps f vars deep most i left).2.1),(1,bt gs ms fs.length (nh (pU L ar ms fs) ps f vars deep most i left).2.2 ar),(2,cX fs),(3,bb vars)] 4):=by
 intro left0
 induction left0 using Nat.strongRecOn with
 | _ left0 ih=>
 intro f vars0 deep most i0 hl hf hvl hdp hmo hi0
 generalize hRES:nh (pU L ar ms fs) ps f vars0 deep most i0 left0=RES
 have hRES':RES=sd (pU L ar ms fs) (nh (pU L ar ms fs) ps (f-1)) ps deep (cb L i0 (most+1)).1 vars0 (cb L i0 (most+1)).2 left0:=by
  cases f with
  | zero=>
   have:left0=0:=by omega
   subst this
   rw[← hRES]
   cases h:(cb L i0 (most+1)).1 with
   | zero=>simp[nh,sd,pU]
   | succ n=>simp[nh,sd,pU]
  | succ f=>rw[← hRES];rfl
 clear hRES
 have hrok:vE L (nh (pU L ar ms fs) ps (f-1)):=tj (pU L ar ms fs) ps (f-1)
 have ih':=fun (left:Nat) (hlt:left<left0)=>ih left hlt (f-1)
 clear ih
 generalize hrec:nh (pU L ar ms fs) ps (f-1)=rec at ih' hRES' hrok
 have hsteps:(cb L i0 (most+1)).1≤most:=Nat.le_of_lt_succ (dk L i0 yA)
 have hi1:=ba L (most+1) hi0
 have wm:=ct ((most:Int)+1) yA yA
 refine Body.j5 Tryz.func56 rfl yAb (by simp[Tryz.ntmps56]) fun C hC hC0=>?_
 rw[Tryz.ntmps56] at hC
 apply au
 simp[hC,gD]
 apply au
 simp[hC]
 have hb0:vars0.length*16≤140737488355328:=by omega
 apply au
 simp[hC,bb,hb0]
 apply aJ
 simp[hC,wm,bt]
 refine TL.cO ag [0] 1 (cz L i0 (most+1) hi0 hL yA yA) yAc rfl rfl rfl rfl yAa yAi yAj rfl (TL.go' ag ?_)
 simp[hC]
 generalize cb L i0 (most+1)=k at hsteps hi1 hRES'
 have htk:List.take vars0.length (vars0.map CV.str)=vars0.map CV.str:=List.take_of_length_le yAa
 simp only[htk]
 apply T.block
 refine T.aL (J56 L gs ms ar fs nm ps bc bn vars0 rec deep left0 RES) (n:=k.1) ?_ ?_
 ·refine aa.le (Le.own 11 188 11 rfl) ?_
  simp
  refine aa.le (Le.trim [12,11,2,6,0,3] [0,1,2,3,4,6,7] 8 (by simp[aA,cX,-List.all_eq_true,-List.all_flatMap,aj (cP fs)]) yA) ?_
  simp
  refine aa.le (Le.oP 6 5 rfl rfl yA yAa yAa (by simp[aA,ints,cX,-List.all_eq_true,-List.all_flatMap,bh (cP fs),bh (eB vars0)])) ?_
  simp[aY (cP fs),aY (eB vars0),aA,cX,ints]
  refine aa.le (Le.oP 7 6 rfl rfl yA yAa yAa (by simp[-List.all_eq_true,-List.all_flatMap,bh (cP fs),bh (eB vars0)])) ?_
  simp[aY (cP fs),aY (eB vars0)]
  refine aa.trim [12,11,2,6,0,3] [0,1,2,3,4,5,6] 7 (by simp[-List.all_eq_true,-List.all_flatMap,aj (cP fs),aj (eB vars0)]) yA ⟨vars0,k.2,left0,[],?_,hi1,Nat.le_refl _,hvl,?_,by omega,?_⟩
  ·rw[hRES'];rfl
  ·simp;omega
  ·simp[bb,aA,bt,cX,jD,ints,bA,gD]
 ·rintro n s ⟨vars,i,left,out,hR,hi,hle,hvl',hol,hm10,rfl⟩
  by_cases hn0:n=0
  ·subst hn0
   have hfin:RES=(out,i,left):=by rw[hR];simp[sd]
   clear hR
   apply aJ
   simp[hC]
   refine bj ?_
   simp
   apply T.exit
   simp
   apply au
   simp[hC]
   apply T.ret
   have hxt:(bA out).take (out.length*11)=bA out:=List.take_of_length_le (by rw[nA];exact Nat.le_refl _)
   refine aa.le (Le.trim [10] [0,1,2,3,6] 7 (by simp[aA,bt,-List.all_eq_true,-List.all_flatMap]) yA) ?_
   simp
   refine aa.le (Le.cG (o:=6) rfl (bC out)) ?_
   simp[jD,hxt]
   refine aa.trim [10] [0,1,2,3] 4 (by simp[aA,bt,-List.all_eq_true,-List.all_flatMap]) yA ⟨_,?_,rfl,?_,rfl⟩
   ·simp[hfin]
   ·simp[bt,bb,hfin]
  obtain⟨n1,rfl⟩:∃ n1,n=n1+1:=⟨n-1,by omega⟩
  by_cases hl0:left=0
  ·subst hl0
   have hfin:RES=(out,i,0):=by rw[hR];simp[sd]
   clear hR
   apply aJ
   simp[hC,bt]
   refine bj ?_
   simp
   apply T.exit
   simp
   apply au
   simp[hC]
   apply T.ret
   have hxt:(bA out).take (out.length*11)=bA out:=List.take_of_length_le (by rw[nA];exact Nat.le_refl _)
   refine aa.le (Le.trim [10] [0,1,2,3,6] 7 (by simp[aA,-List.all_eq_true,-List.all_flatMap]) yA) ?_
   simp
   refine aa.le (Le.cG (o:=6) rfl (bC out)) ?_
   simp[jD,hxt]
   refine aa.trim [10] [0,1,2,3] 4 (by simp[aA,-List.all_eq_true,-List.all_flatMap]) yA ⟨_,?_,rfl,?_,rfl⟩
   ·simp[hfin]
   ·simp[bb,hfin]
  obtain⟨lf,rfl⟩:∃ lf,left=lf+1:=⟨left-1,by omega⟩
  have hlp:sd (pU L ar ms fs) rec ps deep (n1+1) vars i (lf+1)=((y8 (pU L ar ms fs) rec ps vars deep i lf).out++(sd (pU L ar ms fs) rec ps deep n1 (y8 (pU L ar ms fs) rec ps vars deep i lf).vars (y8 (pU L ar ms fs) rec ps vars deep i lf).i (y8 (pU L ar ms fs) rec ps vars deep i lf).left).1,(sd (pU L ar ms fs) rec ps deep n1 (y8 (pU L ar ms fs) rec ps vars deep i lf).vars (y8 (pU L ar ms fs) rec ps vars deep i lf).i (y8 (pU L ar ms fs) rec ps vars deep i lf).left).2):=by
   rw[sd,if_neg yA]
   rfl
  rw[hlp] at hR
  have wl:((lf+1:Nat):Int)-1=(lf:Int):=by omega
  have wlf:=ct (lf:Int) yA yA
  apply aJ
  simp[hC,bt]
  refine iv ?_
  simp
  have hst:=Fw (w:=pU L ar ms fs) hrok ps vars deep lf hi
  generalize hB:y8 (pU L ar ms fs) rec ps vars deep i lf=B at hst hR hlp
  clear hlp
  apply fq
  apply au
  simp[hC,wlf]
  apply au
  simp[hC]
  refine T.cut (K56 L gs ms ar fs nm ps bc bn vars0 deep (n1+1) out B) ?_ ?_
  ·have hi1:=ba L 14 hi
   have hB2:=hB
   have hnx:=cz L i 14 hi hL yA yA
   obtain⟨k,hk⟩:∃ k,cb L i 14=k:=⟨_,rfl⟩
   simp only[y8,pU,hk] at hB2
   rw[hk] at hi1 hnx
   apply au
   simp[hC]
   refine TL.cO ag [0] 1 (hnx) yAc rfl rfl rfl rfl yAa yAi yAj rfl (TL.go' ag ?_)
   simp[hC]
   have hvl2:vars.length≤1000:=by omega
   refine T.le (Le.trim [14,12,11,2,13,6,0,3] [0,1,2,3,4,5,6,7] 8 (by simp[aA,gD,-List.all_eq_true,-List.all_flatMap]) yA) ?_
   simp
   have ew:(⟨129,0,[CV.aw 0 0,CV.av (gs.flatMap pd) gs.length,CV.av (ms.flatMap cq) ms.length,CV.bx 2 0 fs.length,.int .i64 lf,CV.bool ar]⟩:Ob)=bt gs ms fs.length lf ar:=rfl
   rw[ew]
   apply T.block
   apply au
   simp[hC]
   refine T.bg rfl (fun h=>?_) (fun h=>?_)
   ·have h1:k.1<4:=by simpa using h
    rw[if_pos h1] at hB2
    apply aO
    simp[hC,gD]
    refine TL.jq ag 3 5 [0,1,5] 4 (sP L hL vars hvl2 gs ms hm hm2 hsz fs.length lf ar k.2 hi1 nm ps hp bc bn) yAc rfl rfl rfl yAa yA yAa yAa rfl yAa yBa rfl yAa yAa (TL.go' ag ?_)
    simp[hC,kZ]
    refine aa.le (Le.nz [] [7]) ?_
    simp
    refine aa.trim [12,11,2,13,6,0,3] [0,1,2,3,4,5,6,7] 8 yAu yA ⟨[],.dB false (ju L ar ms ps vars k.2).1,?_,?_⟩
    ·rw[← hB2];rfl
    ·rw[← hB2];simp[ir,kZ,aZ,eS,gD]
   have h1:¬ k.1<4:=by simpa using h
   rw[if_neg h1] at hB2
   apply au
   simp[hC]
   refine T.bg rfl (fun h=>?_) (fun h=>?_)
   ·have h2:k.1<7:=by simpa using h
    rw[if_pos h2] at hB2
    apply aO
    simp[hC,gD]
    refine TL.jq ag 3 5 [0,1,5] 4 (sP L hL vars hvl2 gs ms hm hm2 hsz fs.length lf ar k.2 hi1 nm ps hp bc bn) yAc rfl rfl rfl yAa yA yAa yAa rfl yAa yBa rfl yAa yAa (TL.go' ag ?_)
    simp[hC,kZ]
    refine aa.le (Le.nz [] [7]) ?_
    simp
    refine aa.trim [12,11,2,13,6,0,3] [0,1,2,3,4,5,6,7] 8 yAu yA ⟨[],.dB true (ju L ar ms ps vars k.2).1,?_,?_⟩
    ·rw[← hB2];rfl
    ·rw[← hB2];simp[ir,kZ,aZ,eS,gD]
   have h2:¬ k.1<7:=by simpa using h
   rw[if_neg h2] at hB2
   apply au
   simp[hC]
   refine T.bg rfl (fun h=>?_) (fun h=>?_)
   ·have h3:k.1=7:=by simpa using h
    rw[if_pos h3] at hB2
    apply T.seq
    obtain⟨a,ha⟩:∃ a,lf % 26=a:=⟨_,rfl⟩
    obtain⟨q,hq⟩:∃ q,lf / 26=q:=⟨_,rfl⟩
    obtain⟨b,hb⟩:∃ b,q % 26=b:=⟨_,rfl⟩
    have hvn:fz lf=⟨#[118]⟩++⟨#[97+UInt8.ofNat a,97+UInt8.ofNat b]⟩:=by simp[fz,ha,hq,hb]
    have so:lK BinOp.add ⟨#[118]⟩ ⟨#[97+UInt8.ofNat a,97+UInt8.ofNat b]⟩=some (.str (fz lf)):=by rw[hvn];rfl
    have a1:(lf:Int).tmod 26=(a:Int):=by rw[Int.tmod_eq_emod_of_nonneg yA];omega
    have a2:=ct (97+(a:Int)) yA yA
    have a3:IntKind.u8.wrap (97+(a:Int))=97+(a:Int):=IntWalk.u8_in _ yA
    have a4:(0:Int)≤97+(a:Int)∧97+(a:Int)<256:=by omega
    have a5:(97+(a:Int)).toNat=97+a:=by omega
    have q1:IntKind.i64.wrap ((lf:Int) / 26)=(q:Int):=by rw[ct _ yA yA];omega
    have b1:(q:Int).tmod 26=(b:Int):=by rw[Int.tmod_eq_emod_of_nonneg yA];omega
    have b2:=ct (97+(b:Int)) yA yA
    have b3:IntKind.u8.wrap (97+(b:Int))=97+(b:Int):=IntWalk.u8_in _ yA
    have b4:(0:Int)≤97+(b:Int)∧97+(b:Int)<256:=by omega
    have b5:(97+(b:Int)).toNat=97+b:=by omega
    refine T.rx ag follows [0,1,3,4,5,6,7,8,9,10,11,12,13,14,15,16,17,18,19,20,21,2,22,23,24,25,26] [(6,2),(6,22),(6,24),(9,2),(9,22),(9,24),(13,2),(13,22),(13,24),(17,2),(17,22),(17,24),(18,2),(18,22),(18,24),(19,2),(19,22),(19,24)] yAb ?_
    simp[hC,bt,a1,a2,a3,a4,a5,q1,b1,b2,b3,b4,b5,so]
    rw[ew]
    refine RX.jq 3 5 [0,1,5] [0] 4 (nr L hL vars hvl2 gs ms fs.length lf ar k.2 hi1) rfl yAa rfl rfl rfl yAa yA yAa yAa rfl yAa yBa rfl yAa yAa yAa rfl yAa ?_
    simp[bk]
    have hbv:(vars.length+1)*16≤140737488355328:=by omega
    apply aO
    simp[hC,bb,hbv]
    refine aa.le (Le.trim [12,11,2,13,6,0,3] [0,1,2,3,4,6,7,36] 37 (by simp[gD,-List.all_eq_true,-List.all_flatMap,gv]) yA) ?_
    simp
    refine aa.le (Le.oP 36 5 rfl rfl yA yAa yAa (by simp[aA,ints,bt,gD,-List.all_eq_true,-List.all_flatMap,yp])) ?_
    simp[aA,ints,bt,gD]
    refine aa.le (Le.nz [] [7]) ?_
    simp
    refine aa.trim [12,11,2,13,6,0,3] [0,1,2,3,4,5,6,7] 8 yBx yA ⟨[],.gZ (fz lf) (dq L ar vars k.2).1,?_,?_⟩
    ·rw[← hB2];rfl
    ·rw[← hB2];simp[ir,k8,eS,gD,bb,aA,ints,bt]
   have h3:¬ k.1=7:=by simpa using h
   rw[if_neg h3] at hB2
      /- an assignment? -/
   refine T.cut (fun s=>s=⟨[(119,.bool (decide (k.1=8∧0<vars.length))),(14,I k.1),(12,.int .i64 ((n1:Int)+1)),(11,.bx 6 0 out.length),(2,.bx 5 0 vars.length),(13,.aw 7 0),(6,.aw 4 0),(0,.aw 1 0),(3,I deep)],
    [(0,aA L k.2),(1,bt gs ms fs.length lf ar),(2,cX fs),(3,bb vars0),(4,⟨137,0,gD nm ps bc bn⟩),(5,bb vars),(6,jD out),(7,⟨188,0,CA⟩)],8⟩) ?_ ?_
   ·by_cases h8:k.1=8
    ·apply aO
     simp[hC,h8]
     refine aa.trim [119,14,12,11,2,13,6,0,3] [0,1,2,3,4,5,6,7] 8 yBy yA ?_
     simp[CA]
    ·apply aO
     simp[hC,h8]
     refine aa.trim [119,14,12,11,2,13,6,0,3] [0,1,2,3,4,5,6,7] 8 yBy yA ?_
     simp[CA]
   rintro s rfl
   refine T.bg rfl (fun h=>?_) (fun h=>?_)
   ·have h4:k.1=8∧0<vars.length:=by simpa using h
    rw[if_pos h4] at hB2
    have hlt:=dk L k.2 h4.2
    have hnv:=cz L k.2 vars.length hi1 hL h4.2 yA
    have hi2:=ba L vars.length hi1
    obtain⟨j,hj⟩:∃ j,cb L k.2 vars.length=j:=⟨_,rfl⟩
    rw[hj] at hlt hnv hi2
    simp only[hj] at hB2
    have hdr:(bb vars).cells.drop j.1=.str (vars.getD j.1 eS)::(vars.map CV.str).drop (j.1+1):=jg hlt
    have hsz1:(bb vars).sz=1:=rfl
    refine T.rx ag follows [0,1,2,3,4,5,6,10,11,13,7,8,9,12,14,15,16,17,18] [(9,12),(9,14)] yAb ?_
    simp[hC,bt]
    rw[ew]
    refine RX.cO [0] [0] 1 (hnv) rfl yAa rfl rfl rfl rfl yAa yAi yAj rfl rfl rfl yAa ?_
    simp[hlt,hdr]
    refine RX.jq 3 5 [0,1,5] [0] 4 (nr L hL vars hvl2 gs ms fs.length lf ar j.2 hi2) rfl yAa rfl rfl rfl yAa yA yAa yAa rfl yAa yBa rfl yAa yAa yAa rfl yAa ?_
    simp[bk,CA]
    refine aa.le (Le.nz [] [7]) ?_
    simp
    refine aa.trim [12,11,2,13,6,0,3] [0,1,2,3,4,5,6,7] 8 (by simp[gD,-List.all_eq_true,-List.all_flatMap,gv]) yA ⟨[],.iF (vars.getD j.1 eS) (dq L ar vars j.2).1,?_,?_⟩
    ·rw[← hB2];rfl
    ·rw[← hB2];simp[ir,k8,eS,gD,hlt]
   have h4:¬ (k.1=8∧0<vars.length):=by simpa using h
   rw[if_neg h4] at hB2
      /- a call? -/
   refine T.cut (fun s=>s=⟨[(143,.bool (decide (k.1=9∨k.1=10))),(14,I k.1),(12,.int .i64 ((n1:Int)+1)),(11,.bx 6 0 out.length),(2,.bx 5 0 vars.length),(13,.aw 7 0),(6,.aw 4 0),(0,.aw 1 0),(3,I deep)],
    [(0,aA L k.2),(1,bt gs ms fs.length lf ar),(2,cX fs),(3,bb vars0),(4,⟨137,0,gD nm ps bc bn⟩),(5,bb vars),(6,jD out),(7,⟨188,0,CA⟩)],8⟩) ?_ ?_
   ·by_cases h9:k.1=9
    ·apply aO
     simp[hC,h9]
     refine aa.trim [143,14,12,11,2,13,6,0,3] [0,1,2,3,4,5,6,7] 8 yBl yA ?_
     simp
    ·apply aO
     simp[hC,h9]
     refine aa.trim [143,14,12,11,2,13,6,0,3] [0,1,2,3,4,5,6,7] 8 yBl yA ?_
     simp
   rintro s rfl
   refine T.bg rfl (fun h=>?_) (fun h=>?_)
   ·have h5:k.1=9∨k.1=10:=by simpa using h
    have hB3:gW ⟨L,ar,ms,fs.map fun f=>(f.name,f.params)⟩ ps vars (decide (k.1=10)) k.2 lf=B:=by
     by_cases h9:k.1=9
     ·rw[if_pos h9] at hB2
      rw[← hB2]
      simp[h9]
     ·have h10:k.1=10:=by omega
      rw[if_neg h9,if_pos h10] at hB2
      rw[← hB2]
      simp[h10]
    simp only[gW,List.length_map] at hB3
    apply au
    simp[hC,CA]
    refine T.cut (fun s=>s=⟨[(12,.int .i64 ((n1:Int)+1)),(11,.bx 6 0 out.length),(2,.bx 5 0 vars.length),(13,.aw 7 0),(6,.aw 4 0),(0,.aw 1 0),(3,I deep)],
     [(0,aA L k.2),(1,bt gs ms fs.length lf ar),(2,cX fs),(3,bb vars0),(4,⟨137,0,gD nm ps bc bn⟩),(5,bb vars),(6,jD out),(7,⟨188,0,stK (if k.1=10 then 4 else 3)⟩)],8⟩) ?_ ?_
    ·apply au
     simp[hC]
     refine T.bg rfl (fun h=>?_) (fun h=>?_)
     ·have h10:k.1=10:=by simpa using h
      apply aO
      simp[hC]
      refine aa.trim [12,11,2,13,6,0,3] [0,1,2,3,4,5,6,7] 8 yBy yA ?_
      simp[h10,stK]
     ·have h10:¬ k.1=10:=by simpa using h
      apply T.skip
      simp
      refine aa.trim [12,11,2,13,6,0,3] [0,1,2,3,4,5,6,7] 8 yBy yA ?_
      simp[h10,stK]
    rintro s rfl
    have hlt:=dk L k.2 hfs
    have hnv:=cz L k.2 fs.length hi1 hL hfs yA
    have hi2:=ba L fs.length hi1
    obtain⟨j,hj⟩:∃ j,cb L k.2 fs.length=j:=⟨_,rfl⟩
    rw[hj] at hlt hnv hi2
    simp only[hj] at hB3
    obtain⟨g,hg⟩:∃ g,fs[j.1]? = some g:=⟨fs[j.1],List.getElem?_eq_getElem hlt⟩
    have hgd:(fs.map fun f=>(f.name,f.params)).getD j.1 (eS,[])=(g.name,g.params):=by simp[List.getD,hg]
    simp only[hgd] at hB3
    have hgp:=hfp g (List.mem_of_getElem? hg)
    have hdr:(cX fs).cells.drop (j.1*3)=fk g++(fs.drop (j.1+1)).flatMap fk:=aE (f:=fk) (n:=3) (fun _=>rfl) hg
    have hsz1:(cX fs).sz=3:=rfl
    have hcl:(cX fs).cells.length=fs.length*3:=aD (f:=fk) (n:=3) (fun _=>rfl) fs
    apply T.seq
    refine T.rx ag follows [0,1,2,3,4,5,6,7,8,9,10,11,12,13,14,18,15,16,17,19] [(4,18),(4,15),(8,18),(13,18),(18,15),(18,17)] yAb ?_
    simp[hC,bt]
    rw[ew]
    refine RX.cO [0] [0] 1 (hnv) rfl yAa rfl rfl rfl rfl yAa yAi yAj rfl rfl rfl yAa ?_
    simp[hlt,hdr,fk]
    refine T.rx ag follows [0,1,2,3,4,5,7,6,8,9,10] [(1,6)] yAb ?_
    simp[hC,gD]
    refine RX.jq 3 5 [0,1,5] [0] 4 (E3 L hL vars hvl2 gs ms hm hm2 hsz fs.length lf ar j.2 hi2 nm ps hp bc bn g.name g.params hgp (bA g.body) g.body.length) rfl yAa rfl rfl rfl yAa yA yAa yAa rfl yAa yBa rfl yAa yAa yAa rfl yAa ?_
    simp[stK]
    refine aa.le (Le.nz [] [7]) ?_
    simp
    refine aa.trim [12,11,2,13,6,0,3] [0,1,2,3,4,5,6,7] 8 yAu yA ⟨[],.dY (decide (k.1=10)) g.name (dg L ar ms ps vars g.params j.2).1,?_,?_⟩
    ·rw[← hB3];rfl
    ·rw[← hB3];simp[ir,k8,aZ,eS,gD,rM]
   have h5:¬ k.1=9∧¬ k.1=10:=by simpa using h
   rw[if_neg h5.1,if_neg h5.2] at hB2
      /- a condition? -/
   refine T.cut (fun s=>s=⟨[(181,.bool (decide (k.1=11∧0<deep))),(14,I k.1),(12,.int .i64 ((n1:Int)+1)),(11,.bx 6 0 out.length),(2,.bx 5 0 vars.length),(13,.aw 7 0),(6,.aw 4 0),(0,.aw 1 0),(3,I deep)],
    [(0,aA L k.2),(1,bt gs ms fs.length lf ar),(2,cX fs),(3,bb vars0),(4,⟨137,0,gD nm ps bc bn⟩),(5,bb vars),(6,jD out),(7,⟨188,0,CA⟩)],8⟩) ?_ ?_
   ·by_cases h9:k.1=11
    ·apply aO
     simp[hC,h9]
     refine aa.trim [181,14,12,11,2,13,6,0,3] [0,1,2,3,4,5,6,7] 8 yBl yA ?_
     simp
    ·apply aO
     simp[hC,h9]
     refine aa.trim [181,14,12,11,2,13,6,0,3] [0,1,2,3,4,5,6,7] 8 yBl yA ?_
     simp
   rintro s rfl
   refine T.bg rfl (fun h=>?_) (fun h=>?_)
   ·have h6:k.1=11∧0<deep:=by simpa using h
    rw[if_pos h6] at hB2
    obtain⟨d,rfl⟩:∃ d,deep=d+1:=⟨deep-1,by omega⟩
    have hd1:((d+1:Nat):Int)-1=(d:Int):=by omega
    have wd:=ct (d:Int) yA yA
    have hi2:=ke L ar vars hi1
    simp only[Mp,Nat.add_sub_cancel] at hB2
    have hth:=ih' lf yA vars d 3 (dq L ar vars k.2).2 yA yA yA yA yA hi2
    obtain⟨hi3,hlen3⟩:=hrok vars d 3 (dq L ar vars k.2).2 lf hi2
    obtain⟨th,hthe⟩:∃ th,rec vars d 3 (dq L ar vars k.2).2 lf=th:=⟨_,rfl⟩
    rw[hthe] at hth hi3 hlen3
    simp only[hthe] at hB2
    apply T.seq
    refine T.rx ag follows [0,1,3,4,5,6,7,9,2,8,10,11,12,13,14] [(4,2)] yAb ?_
    simp[hC,wd,gD]
    refine RX.jq 3 5 [0,1,5] [0] 4 (nr L hL vars hvl2 gs ms fs.length lf ar k.2 hi1) rfl yAa rfl rfl rfl yAa yA yAa yAa rfl yAa yBa rfl yAa yAa yAa rfl yAa ?_
    simp
    refine RX.jq 3 5 [0,1,2,5] [0,1] 4 (hth) rfl yAa rfl rfl rfl yAa yA yAa yAa rfl yAa yBa rfl yAa yAa yAa rfl yAa ?_
    simp[CA,bk]
    have hnc:=cz L th.2.1 2 hi3 hL yA yA
    have hi4:=ba L 2 hi3
    obtain⟨c,hc⟩:∃ c,cb L th.2.1 2=c:=⟨_,rfl⟩
    rw[hc] at hnc hi4
    simp only[hc] at hB2
    refine T.le (Le.trim [12,11,2,13,6,0,3] [0,1,2,3,4,5,6,7] 8 yBx yA) ?_
    simp
    apply au
    simp[hC,bt]
    refine TL.cO ag [0] 1 (hnc) yAc rfl rfl rfl rfl yAa yAi yAj rfl (TL.go' ag ?_)
    simp[hC]
    have ew2:(⟨129,0,[CV.aw 0 0,CV.av (gs.flatMap pd) gs.length,CV.av (ms.flatMap cq) ms.length,CV.bx 2 0 fs.length,I th.2.2,CV.bool ar]⟩:Ob)=bt gs ms fs.length th.2.2 ar:=rfl
    rw[ew2]
    refine T.bg rfl (fun h=>?_) (fun h=>?_)
    ·have hc1:c.1=1:=by simpa using h
     rw[if_pos hc1] at hB2
     have hel:=ih' th.2.2 yA vars d 3 c.2 yA yA yA yA yA hi4
     obtain⟨el,hele⟩:∃ el,rec vars d 3 c.2 th.2.2=el:=⟨_,rfl⟩
     rw[hele] at hel
     simp only[hele] at hB2
     apply aO
     simp[hC,wd]
     refine TL.jq ag 3 5 [0,1,2,5] 4 (hel) yAc rfl rfl rfl yAa yA yAa yAa rfl yAa yBa rfl yAa yAa (TL.go' ag ?_)
     simp[hC,bk]
     refine aa.le (Le.nz [] [7]) ?_
     simp
     refine aa.trim [12,11,2,13,6,0,3] [0,1,2,3,4,5,6,7] 8 yBx yA ⟨[],.lG (dq L ar vars k.2).1 th.1 el.1,?_,?_⟩
     ·rw[← hB2];rfl
     ·rw[← hB2];simp[ir,k8,eS,gD]
    ·have hc1:¬ c.1=1:=by simpa using h
     rw[if_neg hc1] at hB2
     apply T.skip
     simp
     refine aa.le (Le.nz [] [7]) ?_
     simp
     refine aa.trim [12,11,2,13,6,0,3] [0,1,2,3,4,5,6,7] 8 yBx yA ⟨[],.lG (dq L ar vars k.2).1 th.1 [],?_,?_⟩
     ·rw[← hB2];rfl
     ·rw[← hB2];simp[ir,k8,eS,gD,bA]
   have h6:¬ (k.1=11∧0<deep):=by simpa using h
   rw[if_neg h6] at hB2
      /- a loop? -/
   refine T.cut (fun s=>s=⟨[(213,.bool (decide (k.1=12∧0<deep))),(14,I k.1),(12,.int .i64 ((n1:Int)+1)),(11,.bx 6 0 out.length),(2,.bx 5 0 vars.length),(13,.aw 7 0),(6,.aw 4 0),(0,.aw 1 0),(3,I deep)],
    [(0,aA L k.2),(1,bt gs ms fs.length lf ar),(2,cX fs),(3,bb vars0),(4,⟨137,0,gD nm ps bc bn⟩),(5,bb vars),(6,jD out),(7,⟨188,0,CA⟩)],8⟩) ?_ ?_
   ·by_cases h9:k.1=12
    ·apply aO
     simp[hC,h9]
     refine aa.trim [213,14,12,11,2,13,6,0,3] [0,1,2,3,4,5,6,7] 8 yBl yA ?_
     simp
    ·apply aO
     simp[hC,h9]
     refine aa.trim [213,14,12,11,2,13,6,0,3] [0,1,2,3,4,5,6,7] 8 yBl yA ?_
     simp
   rintro s rfl
   refine T.bg rfl (fun h=>?_) (fun h=>?_)
   ·have h7:k.1=12∧0<deep:=by simpa using h
    rw[if_pos h7] at hB2
    obtain⟨d,rfl⟩:∃ d,deep=d+1:=⟨deep-1,by omega⟩
    have hd1:((d+1:Nat):Int)-1=(d:Int):=by omega
    have wd:=ct (d:Int) yA yA
    have hi2:=ke L ar vars hi1
    simp only[LA,Nat.add_sub_cancel] at hB2
    have hth:=ih' lf yA vars d 3 (dq L ar vars k.2).2 yA yA yA yA yA hi2
    obtain⟨th,hthe⟩:∃ th,rec vars d 3 (dq L ar vars k.2).2 lf=th:=⟨_,rfl⟩
    rw[hthe] at hth
    simp only[hthe] at hB2
    refine T.rx ag follows [0,1,3,4,5,6,7,9,2,8,10,11,12,13,14] [(4,2)] yAb ?_
    simp[hC,wd,gD]
    refine RX.jq 3 5 [0,1,5] [0] 4 (nr L hL vars hvl2 gs ms fs.length lf ar k.2 hi1) rfl yAa rfl rfl rfl yAa yA yAa yAa rfl yAa yBa rfl yAa yAa yAa rfl yAa ?_
    simp
    refine RX.jq 3 5 [0,1,2,5] [0,1] 4 (hth) rfl yAa rfl rfl rfl yAa yA yAa yAa rfl yAa yBa rfl yAa yAa yAa rfl yAa ?_
    simp[CA,bk]
    refine aa.le (Le.nz [] [7]) ?_
    simp
    refine aa.trim [12,11,2,13,6,0,3] [0,1,2,3,4,5,6,7] 8 yBx yA ⟨[],.cJ (dq L ar vars k.2).1 th.1,?_,?_⟩
    ·rw[← hB2];rfl
    ·rw[← hB2];simp[ir,k8,eS,gD]
   have h7:¬ (k.1=12∧0<deep):=by simpa using h
   rw[if_neg h7] at hB2
      /- the end, or statements between a lock and its unlock -/
   obtain⟨i2,hi2e⟩:∃ i2,(if k.1=13 then (cb L k.2 3).2 else k.2)=i2:=⟨_,rfl⟩
   have hi5:i2≤L.length:=by
    rw[← hi2e]
    split
    ·exact ba _ _ hi1
    ·exact hi1
   refine T.cut (fun s=>s=⟨[(232,.bool (decide (k.1=13∧(cb L k.2 3).1=1))),(12,.int .i64 ((n1:Int)+1)),(11,.bx 6 0 out.length),(2,.bx 5 0 vars.length),(13,.aw 7 0),(6,.aw 4 0),(0,.aw 1 0),(3,I deep)],
    [(0,aA L i2),(1,bt gs ms fs.length lf ar),(2,cX fs),(3,bb vars0),(4,⟨137,0,gD nm ps bc bn⟩),(5,bb vars),(6,jD out),(7,⟨188,0,CA⟩)],8⟩) ?_ ?_
   ·by_cases h9:k.1=13
    ·rw[if_pos h9] at hi2e
     apply aO
     simp[hC,h9,bt]
     refine TL.cO ag [0] 1 (cz L k.2 3 hi1 hL yA yA) yAc rfl rfl rfl rfl yAa yAi yAj rfl (TL.go' ag ?_)
     simp[hC]
     refine aa.trim [232,12,11,2,13,6,0,3] [0,1,2,3,4,5,6,7] 8 yBl yA ?_
     simp[hi2e]
    ·rw[if_neg h9] at hi2e
     apply aO
     simp[hC,h9]
     refine aa.trim [232,12,11,2,13,6,0,3] [0,1,2,3,4,5,6,7] 8 yBl yA ?_
     simp[hi2e]
   rintro s rfl
   refine T.bg rfl (fun h=>?_) (fun h=>?_)
   ·have h8:k.1=13∧(cb L k.2 3).1=1:=by simpa using h
    rw[if_pos h8] at hB2
    rw[if_pos h8.1] at hi2e
    apply aO
    simp[hC,CA]
    refine aa.le (Le.nz [] [7]) ?_
    simp
    refine aa.trim [12,11,2,13,6,0,3] [0,1,2,3,4,5,6,7] 8 yBy yA ⟨[],.jC,?_,?_⟩
    ·rw[← hB2];rfl
    ·rw[← hB2,← hi2e];simp[ir,k8,aZ,eS,gD]
   have h8:¬ (k.1=13∧(cb L k.2 3).1=1):=by simpa using h
   rw[if_neg h8] at hB2
   have hB3:AH ⟨L,ar,ms,fs.map fun f=>(f.name,f.params)⟩ rec ps vars i2 lf=B:=by
    rw[← hB2,← hi2e]
    by_cases h9:k.1=13
    ·rw[if_pos h9,if_pos h9]
    ·rw[if_neg h9,if_neg h9]
   simp only[AH] at hB3
   have hi6:=qe L ar ms ps vars hi5
   obtain⟨rf,hrf⟩:∃ rf,ju L ar ms ps vars i2=rf:=⟨_,rfl⟩
   have hcr:=sP L hL vars hvl2 gs ms hm hm2 hsz fs.length lf ar i2 hi5 nm ps hp bc bn
   rw[hrf] at hcr hi6
   simp only[hrf] at hB3
   have hin:=ih' lf yA vars 0 2 rf.2 yA yA yA yA yA hi6
   obtain⟨_,hlen3⟩:=hrok vars 0 2 rf.2 lf hi6
   obtain⟨th,hthe⟩:∃ th,rec vars 0 2 rf.2 lf=th:=⟨_,rfl⟩
   rw[hthe] at hin hlen3
   simp only[hthe] at hB3
   apply au
   simp[hC,gD]
   refine TL.jq ag 3 5 [0,1,5] 4 (hcr) yAc rfl rfl rfl yAa yA yAa yAa rfl yAa yBa rfl yAa yAa (TL.go' ag ?_)
   simp[hC,kZ,CA]
   apply au
   simp[hC]
   have hso:=nA out
   have hb1:(out.length+1)*192≤140737488355328:=by omega
   have hb2:(out.length+1+th.1.length)*192≤140737488355328:=by omega
   have hst1:=nA th.1
   have hln:(out.length+1)*11=out.length*11+11:=by omega
   apply au
   simp[hC,jD,hso,hb1,aI]
   apply au
   simp[hC]
   refine TL.jq ag 3 5 [0,1,2,5] 4 (hin) yAc rfl rfl rfl yAa yA yAa yAa rfl yAa yBa rfl yAa yAa (TL.go' ag ?_)
   simp[hC,hso,hst1,hb2,hln]
   apply aO
   simp[hC]
   refine aa.le (Le.trim [12,11,2,13,6,0,3] [0,1,2,3,4,5,7,11] 12 yCs yA) ?_
   simp
   refine aa.le (Le.nz [] [7,11]) ?_
   simp
   refine aa.le (Le.oP 11 6 rfl rfl yA yAa yAa (by simp[aA,ints,bt,-List.all_eq_true,-List.all_flatMap,bh (bC out),bh (bC th.1)])) ?_
   simp[aA,ints,bt,aY (bC out),aY (bC th.1)]
   refine aa.trim [12,11,2,13,6,0,3] [0,1,2,3,4,5,6,7] 8 yCs yA ⟨.dB false rf.1::th.1,.dB true rf.1,?_,?_⟩
   ·rw[← hB3]
   ·rw[← hB3]
    have e1:out.length+1+th.1.length=out.length+(th.1.length+1):=by omega
    simp[ir,kZ,aZ,eS,gD,jD,ug,bA,aA,ints,bt,e1]
  ·rintro s ⟨front,last,hout,rfl⟩
   have hfl:(out++front).length≤2000:=by
    have:=hst.n
    rw[hout] at this
    simp at this ⊢
    omega
   have hsl:=nA (out++front)
   generalize hO:out++front=O at hfl hsl
   have hb:(O.length+1)*192≤140737488355328:=by omega
   have wn:=ct (n1:Int) yA yA
   apply aO
   simp[hC,jD,kI,aI,hsl,hb,Fh]
   apply aO
   simp[hC,wn]
   refine⟨n1,by omega,aa.le (Le.trim [12,11,2,6,0,3] [0,1,2,3,4,5,9] 10 (by simp[aA,bt,gD,-List.all_eq_true,-List.all_flatMap,aj (bC O),aj (iz last)]) yA) ?_⟩
   simp
   refine aa.le (Le.oP 9 6 rfl rfl yA yAa yAa (by simp[aA,ints,bt,gD,-List.all_eq_true,-List.all_flatMap,bh (bC O),bh (iz last)])) ?_
   simp[aA,ints,bt,gD,aY (bC O),aY (iz last)]
   refine aa.trim [12,11,2,6,0,3] [0,1,2,3,4,5,6] 7 (by simp[-List.all_eq_true,-List.all_flatMap,aj (bC O),aj (iz last)]) yA ⟨B.vars,B.i,B.left,out++B.out,?_,hst.i,?_,?_,?_,by omega,?_⟩
   ·rw[hR,List.append_assoc]
   ·have:=hst.l;omega
   ·have:=hst.v;omega
   ·have:=hst.n;simp;omega
   ·have e1:out++B.out=O++[last]:=by rw[hout,← List.append_assoc,hO]
    rw[e1]
    simp[jD,ug,bA,aA,ints,bt,gD]
end Go.Proofs.YtmnglemlimfpbaaGreat
