/- writer.block. -/
import Derived.Test.YtmnglemlimfpbaaGreatZ27
import Derived.Test.YtmnglemlimfpbaaGreatZ20
namespace Go.Proofs.YtmnglemlimfpbaaGreat
open Go.Can Go.bg
def cI (fs:List Fu):Ob:=⟨137,3,fs.flatMap eP⟩
def iV (l:List Sm):Ob:=⟨188,11,bt l⟩
def oq (L:List Int)(ar:Bool)(ms:List Mx)(fs:List Fu):Wr:=⟨L,ar,ms,fs.map fun f=>(f.name,f.params)⟩
theorem gS (x:Sm):trees (gI x)=true:=by
 cases x with
 | dg u r=>rcases r with ⟨_,_ | _⟩<;>rfl
 | gr s e=>cases e<;>rfl
 | gV s e=>cases e<;>rfl
 | ku e _ _=>cases e<;>rfl
 | cj e _=>cases e<;>rfl
 | _=>rfl
theorem bk (l:List Sm):trees (bt l)=true:=by
 induction l with
 | nil=>rfl
 | cons a r ih=>rw[bt,bh,ih,gS];rfl
theorem l6 (l:List Sm):(bt l).length=l.length*11:=by rw[mO];exact bu (f:=gI) jK l
theorem rM:∀ a b:List Sm,bt (a++b)=bt a++bt b
 | [],b=>rfl
 | x::r,b=>by rw[List.cons_append,bt,bt,rM r b,List.append_assoc]
theorem C7 (x:Sm):List.take 11 (gI x)=gI x:=List.take_of_length_le (by simp[jK])
theorem cu (fs:List Fu):trees (fs.flatMap eP)=true:=by
 induction fs with
 | nil=>rfl
 | cons a r ih=>rw[List.flatMap_cons,bh,ih];rfl
theorem GA (fs:List Fu)(o:Nat)(cs:List CV)(n:Nat):(fs.flatMap eP).map (cm o cs n)=fs.flatMap eP:=by
 induction fs with
 | nil=>rfl
 | cons a r ih=>rw[List.flatMap_cons,List.map_append,ih];rfl
@[simp] theorem fsOb_frz (l:List Fu)(o:Nat)(cs:List CV)(n:Nat):(⟨(cI l).elem,(cI l).sz,(cI l).cells.map (cm o cs n)⟩:Ob)=cI l:=by
 simp only[cI,GA]
@[simp] theorem Jl (ρ:Nat→Nat)(l:List Fu):bD ρ (cI l)=cI l:=by
 simp only[bD,cI,az ρ _ (cu l)]
@[simp] theorem Gy (l:List Fu)(n:Nat):(cI l).cells.all (aG n)=true:=af (cu l) n
@[simp] theorem fsOb_lts (l:List Fu)(n:Nat):aC n (cI l).cells=true:=by rw[aD];exact af (cu l) n
@[simp] theorem fsOb_ok1 (l:List Fu)(o q:Nat):(cI l).cells.all (lL o q)=true:=a6 (cu l) o q
@[simp] theorem Cf (l:List Fu)(o q:Nat):(cI l).cells.map (cH o q)=(cI l).cells:=aY (cu l) o q
@[simp] theorem fsOb_eta (l:List Fu):(⟨(cI l).elem,(cI l).sz,(cI l).cells⟩:Ob)=cI l:=rfl
@[simp] theorem JW (l:List Fu)(n o q:Nat):(cI l).cells.all (aG n∘cH o q)=true:=by rw[← List.all_map,Cf];exact Gy l n
@[simp] theorem FP (l:List Sm)(n:Nat):(iV l).cells.all (aG n)=true:=af (bk l) n
@[simp] theorem smOb_ok1 (l:List Sm)(o q:Nat):(iV l).cells.all (lL o q)=true:=a6 (bk l) o q
@[simp] theorem BE (l:List Sm)(o q:Nat):(iV l).cells.map (cH o q)=(iV l).cells:=aY (bk l) o q
@[simp] theorem smOb_eta (l:List Sm):(⟨(iV l).elem,(iV l).sz,(iV l).cells⟩:Ob)=iV l:=rfl
@[simp] theorem Ji (l:List Sm)(n o q:Nat):(iV l).cells.all (aG n∘cH o q)=true:=by rw[← List.all_map,BE];exact FP l n
section
variable (L:List Int)(gs:List Gl)(ms:List Mx)(ar:Bool)(fs:List Fu)(nm:ByteArray)(ps:List Pm)(bc:List CV)(bn:Nat)(vars0:List ByteArray)(rec:Rec)(deep f:Nat)(RES:List Sm×Nat×Nat)
def J56 (m:Nat)(s:St):Prop:=∃ (vars:List ByteArray) (i left:Nat) (out:List Sm),RES=(out++(qt (oq L ar ms fs) rec ps deep m vars i left).1,(qt (oq L ar ms fs) rec ps deep m vars i left).2)∧
 i≤L.length∧left≤f∧vars.length+left≤500∧out.length+2*left≤1000∧m≤10∧
 s=⟨[(12,I m),(11,.bw 6 0 out.length),(2,.bw 5 0 vars.length),(6,.aq 4 0),(0,.aq 1 0),(3,I deep)],
  [(0,au L i),(1,bp gs ms fs.length left ar),(2,cI fs),(3,ba vars0),(4,⟨137,0,eV nm ps bc bn⟩),(5,ba vars),(6,iV out)],7⟩
def K56 (m:Nat)(out:List Sm)(b:HD)(s:St):Prop:=∃ (front:List Sm) (last:Sm),b.out=front++[last]∧
 s=⟨[(12,I m),(11,.bw 6 0 (out++front).length),(2,.bw 5 0 b.vars.length),(13,.aq 7 0),(6,.aq 4 0),(0,.aq 1 0),(3,I deep)],
  [(0,au L b.i),(1,bp gs ms fs.length b.left ar),(2,cI fs),(3,ba vars0),(4,⟨137,0,eV nm ps bc bn⟩),(5,ba b.vars),(6,iV (out++front)),(7,⟨188,0,gI last⟩)],8⟩
end
@[simp] theorem JZ (e:Ex)(a b c d f:CV):List.take 7 (bB e++[a,b,c,d,f])=bB e++[a,b,c]:=by cases e<;>rfl
@[simp] theorem J1 (e:Ex)(a b c d f:CV):List.drop 8 (bB e++[a,b,c,d,f])=[f]:=by cases e<;>rfl
@[simp] theorem JY (e:Ex)(a b c d f:CV):List.take 8 (bB e++[a,b,c,d,f])=bB e++[a,b,c,d]:=by cases e<;>rfl
@[simp] theorem J0 (e:Ex)(a b c d f:CV):List.drop 9 (bB e++[a,b,c,d,f])=[]:=by cases e<;>rfl
@[simp] theorem nz_smsC (l:List Sm):(bt l).map nz=bt l:=by
 induction l with
 | nil=>rfl
 | cons a r ih=>
  rw[bt,List.map_append,ih]
  congr 1
  cases a with
  | dg u r=>rcases r with ⟨_,_ | _⟩<;>rfl
  | gr s e=>cases e<;>rfl
  | gV s e=>cases e<;>rfl
  | ku e _ _=>cases e<;>rfl
  | cj e _=>cases e<;>rfl
  | _=>rfl
def stK (c:Int):List CV:=[I c,.str ⟨#[]⟩,.int .i64 0,.int .i64 0,.str ⟨#[]⟩,.ai,.str ⟨#[]⟩,.ai,.ai,.ai,.ai]
def tO:List CV:=[I 5,.str ⟨#[]⟩,.int .i64 0,.int .i64 0,.str ⟨#[]⟩,.ai,.str ⟨#[]⟩,.ai,.ai,.ai,.ai]
set_option maxHeartbeats 8000000 in
theorem Bu (L:List Int)(hL:L.length≤1000)(gs:List Gl)(ms:List Mx)(hm:0<ms.length)(hm2:ms.length≤100)(hsz:∀ m∈ms,m.size≤1000)(ar:Bool)(fs:List Fu)(hfs:0<fs.length)(hfs2:fs.length≤100)(hfp:∀ f∈fs,f.params.length≤100)
  (nm:ByteArray) (ps:List Pm) (hp:ps.length≤100) (bc:List CV) (bn:Nat):∀ (left f:Nat) (vars:List ByteArray) (deep most i:Nat),left≤f→left≤100→vars.length+left≤500→deep≤10→most≤9→i≤L.length →
  Body Tryz.prog aj 56 [.aq 1 0,.agg (eV nm ps bc bn),.bw 3 0 vars.length,I deep,I most] [(0,au L i),(1,bp gs ms fs.length left ar),(2,cI fs),(3,ba vars)] 4
   (iR (.ax (bt (lQ (oq L ar ms fs) ps f vars deep most i left).1) (lQ (oq L ar ms fs) ps f vars deep most i left).1.length) [(0,au L (lQ (oq L ar ms fs) ps f vars deep most i left).2.1),(1,bp gs ms fs.length (lQ (oq L ar ms fs) ps f vars deep most i left).2.2 ar),(2,cI fs),(3,ba vars)] 4):=by
 intro left0
 induction left0 using Nat.strongRecOn with
 | _ left0 ih=>
 intro f vars0 deep most i0 hl hf hvl hdp hmo hi0
 generalize hRES:lQ (oq L ar ms fs) ps f vars0 deep most i0 left0=RES
 have hRES':RES=qt (oq L ar ms fs) (lQ (oq L ar ms fs) ps (f-1)) ps deep (bS L i0 (most+1)).1 vars0 (bS L i0 (most+1)).2 left0:=by
  cases f with
  | zero=>
   have:left0=0:=by omega
   subst this
   rw[← hRES]
   cases h:(bS L i0 (most+1)).1 with
   | zero=>simp[lQ,qt,oq]
   | succ n=>simp[lQ,qt,oq]
  | succ f=>rw[← hRES];rfl
 clear hRES
 have hrok:tB L (lQ (oq L ar ms fs) ps (f-1)):=ry (oq L ar ms fs) ps (f-1)
 have ih':=fun (left:Nat) (hlt:left<left0)=>ih left hlt (f-1)
 clear ih
 generalize hrec:lQ (oq L ar ms fs) ps (f-1)=rec at ih' hRES' hrok
 have hsteps:(bS L i0 (most+1)).1≤most:=Nat.le_of_lt_succ (cX L i0 (by omega))
 have hi1:=a8 L (most+1) hi0
 have wm:=db ((most:Int)+1) (by omega) (by omega)
 refine Body.iN Tryz.func56 rfl (by kernel_rfl) (by simp[Tryz.ntmps56]) fun C hC hC0=>?_
 rw[Tryz.ntmps56] at hC
 refine T.seq (T.go' aa ?_)
 simp[hC,eV]
 refine T.seq (T.go' aa ?_)
 simp[hC]
 have hb0:vars0.length*16≤140737488355328:=by omega
 refine T.seq (T.go' aa ?_)
 simp[hC,ba,hb0]
 refine T.seq (T.seq (T.go' aa ?_))
 simp[hC,wm,bp]
 refine TL.cr aa [0] 1 (cc L i0 (most+1) hi0 hL (by omega) (by omega)) (by simp[hC]) rfl rfl rfl rfl (by simp) (by first | rfl | simp[aC,aG,aD,aT,-List.all_eq_true]) (by first | rfl | simp[au,ints]) rfl (TL.go' aa ?_)
 simp[hC]
 generalize bS L i0 (most+1)=k at hsteps hi1 hRES'
 have htk:List.take vars0.length (vars0.map CV.str)=vars0.map CV.str:=List.take_of_length_le (by simp)
 simp only[htk]
 refine T.block ?_
 refine T.aS (J56 L gs ms ar fs nm ps bc bn vars0 rec deep left0 RES) (n:=k.1) ?_ ?_
 ·refine ae.le (Le.own 11 188 11 rfl) ?_
  simp
  refine ae.le (Le.trim [12,11,2,6,0,3] [0,1,2,3,4,6,7] 8 (by simp[au,cI,-List.all_eq_true,-List.all_flatMap,af (cu fs)]) (by omega)) ?_
  simp
  refine ae.le (Le.na 6 5 rfl rfl (by omega) (by simp) (by simp) (by simp[au,ints,cI,-List.all_eq_true,-List.all_flatMap,a6 (cu fs),a6 (dU vars0)])) ?_
  simp[aY (cu fs),aY (dU vars0),au,cI,ints]
  refine ae.le (Le.na 7 6 rfl rfl (by omega) (by simp) (by simp) (by simp[-List.all_eq_true,-List.all_flatMap,a6 (cu fs),a6 (dU vars0)])) ?_
  simp[aY (cu fs),aY (dU vars0)]
  refine ae.trim [12,11,2,6,0,3] [0,1,2,3,4,5,6] 7 (by simp[-List.all_eq_true,-List.all_flatMap,af (cu fs),af (dU vars0)]) (by omega) ⟨vars0,k.2,left0,[],?_,hi1,Nat.le_refl _,hvl,?_,by omega,?_⟩
  ·rw[hRES'];rfl
  ·simp;omega
  ·simp[ba,au,bp,cI,iV,ints,bt,eV]
 ·rintro n s ⟨vars,i,left,out,hR,hi,hle,hvl',hol,hm10,rfl⟩
  by_cases hn0:n=0
  ·subst hn0
   have hfin:RES=(out,i,left):=by rw[hR];simp[qt]
   clear hR
   refine T.seq (T.seq (T.go' aa ?_))
   simp[hC]
   refine T.cond (b:=false) rfl ?_
   simp
   refine T.exit ?_
   simp
   refine T.seq (T.go' aa ?_)
   simp[hC]
   refine T.ret ?_
   have hxt:(bt out).take (out.length*11)=bt out:=List.take_of_length_le (by rw[l6];exact Nat.le_refl _)
   refine ae.le (Le.trim [10] [0,1,2,3,6] 7 (by simp[au,bp,-List.all_eq_true,-List.all_flatMap]) (by omega)) ?_
   simp
   refine ae.le (Le.eM (o:=6) rfl (bk out)) ?_
   simp[iV,hxt]
   refine ae.trim [10] [0,1,2,3] 4 (by simp[au,bp,-List.all_eq_true,-List.all_flatMap]) (by omega) ⟨_,?_,rfl,?_,rfl⟩
   ·simp[hfin]
   ·simp[bp,ba,hfin]
  obtain⟨n1,rfl⟩:∃ n1,n=n1+1:=⟨n-1,by omega⟩
  by_cases hl0:left=0
  ·subst hl0
   have hfin:RES=(out,i,0):=by rw[hR];simp[qt]
   clear hR
   refine T.seq (T.seq (T.go' aa ?_))
   simp[hC,bp]
   refine T.cond (b:=false) rfl ?_
   simp
   refine T.exit ?_
   simp
   refine T.seq (T.go' aa ?_)
   simp[hC]
   refine T.ret ?_
   have hxt:(bt out).take (out.length*11)=bt out:=List.take_of_length_le (by rw[l6];exact Nat.le_refl _)
   refine ae.le (Le.trim [10] [0,1,2,3,6] 7 (by simp[au,-List.all_eq_true,-List.all_flatMap]) (by omega)) ?_
   simp
   refine ae.le (Le.eM (o:=6) rfl (bk out)) ?_
   simp[iV,hxt]
   refine ae.trim [10] [0,1,2,3] 4 (by simp[au,-List.all_eq_true,-List.all_flatMap]) (by omega) ⟨_,?_,rfl,?_,rfl⟩
   ·simp[hfin]
   ·simp[ba,hfin]
  obtain⟨lf,rfl⟩:∃ lf,left=lf+1:=⟨left-1,by omega⟩
  have hlp:qt (oq L ar ms fs) rec ps deep (n1+1) vars i (lf+1)=((wY (oq L ar ms fs) rec ps vars deep i lf).out++(qt (oq L ar ms fs) rec ps deep n1 (wY (oq L ar ms fs) rec ps vars deep i lf).vars (wY (oq L ar ms fs) rec ps vars deep i lf).i (wY (oq L ar ms fs) rec ps vars deep i lf).left).1,(qt (oq L ar ms fs) rec ps deep n1 (wY (oq L ar ms fs) rec ps vars deep i lf).vars (wY (oq L ar ms fs) rec ps vars deep i lf).i (wY (oq L ar ms fs) rec ps vars deep i lf).left).2):=by
   rw[qt,if_neg (by omega)]
   rfl
  rw[hlp] at hR
  have wl:((lf+1:Nat):Int)-1=(lf:Int):=by omega
  have wlf:=db (lf:Int) (by omega) (by omega)
  refine T.seq (T.seq (T.go' aa ?_))
  simp[hC,bp]
  refine T.cond (b:=true) rfl (T.skip ?_)
  simp
  have hst:=Dg (w:=oq L ar ms fs) hrok ps vars deep lf hi
  generalize hB:wY (oq L ar ms fs) rec ps vars deep i lf=B at hst hR hlp
  clear hlp
  refine T.seq (T.block ?_)
  refine T.seq (T.go' aa ?_)
  simp[hC,wlf]
  refine T.seq (T.go' aa ?_)
  simp[hC]
  refine T.cut (K56 L gs ms ar fs nm ps bc bn vars0 deep (n1+1) out B) ?_ ?_
  ·have hi1:=a8 L 14 hi
   have hB2:=hB
   have hnx:=cc L i 14 hi hL (by omega) (by omega)
   obtain⟨k,hk⟩:∃ k,bS L i 14=k:=⟨_,rfl⟩
   simp only[wY,oq,hk] at hB2
   rw[hk] at hi1 hnx
   refine T.seq (T.go' aa ?_)
   simp[hC]
   refine TL.cr aa [0] 1 (hnx) (by simp[hC]) rfl rfl rfl rfl (by simp) (by first | rfl | simp[aC,aG,aD,aT,-List.all_eq_true]) (by first | rfl | simp[au,ints]) rfl (TL.go' aa ?_)
   simp[hC]
   have hvl2:vars.length≤1000:=by omega
   refine T.le (Le.trim [14,12,11,2,13,6,0,3] [0,1,2,3,4,5,6,7] 8 (by simp[au,eV,-List.all_eq_true,-List.all_flatMap]) (by omega)) ?_
   simp
   have ew:(⟨129,0,[CV.aq 0 0,CV.ax (gs.flatMap ny) gs.length,CV.ax (ms.flatMap js) ms.length,CV.bw 2 0 fs.length,.int .i64 lf,CV.bool ar]⟩:Ob)=bp gs ms fs.length lf ar:=rfl
   rw[ew]
   refine T.block ?_
   refine T.seq (T.go' aa ?_)
   simp[hC]
   refine T.bf rfl (fun h=>?_) (fun h=>?_)
   ·have h1:k.1<4:=by simpa using h
    rw[if_pos h1] at hB2
    refine T.go' aa ?_
    simp[hC,eV]
    refine TL.iF aa 3 5 [0,1,5] 4 (qQ L hL vars hvl2 gs ms hm hm2 hsz fs.length lf ar k.2 hi1 nm ps hp bc bn) (by simp[hC]) rfl rfl rfl (by simp) (by omega) (by simp) (by simp) rfl (by simp) (by first | rfl | exact ag _ | exact ak _) rfl (by simp) (by simp) (TL.go' aa ?_)
    simp[hC,j3]
    refine ae.le (Le.nz [] [7]) ?_
    simp
    refine ae.trim [12,11,2,13,6,0,3] [0,1,2,3,4,5,6,7] 8 (by simp[-List.all_eq_true,-List.all_flatMap]) (by omega) ⟨[],.dg false (iM L ar ms ps vars k.2).1,?_,?_⟩
    ·rw[← hB2];rfl
    ·rw[← hB2];simp[gI,j3,bB,eS,eV]
   have h1:¬ k.1<4:=by simpa using h
   rw[if_neg h1] at hB2
   refine T.seq (T.go' aa ?_)
   simp[hC]
   refine T.bf rfl (fun h=>?_) (fun h=>?_)
   ·have h2:k.1<7:=by simpa using h
    rw[if_pos h2] at hB2
    refine T.go' aa ?_
    simp[hC,eV]
    refine TL.iF aa 3 5 [0,1,5] 4 (qQ L hL vars hvl2 gs ms hm hm2 hsz fs.length lf ar k.2 hi1 nm ps hp bc bn) (by simp[hC]) rfl rfl rfl (by simp) (by omega) (by simp) (by simp) rfl (by simp) (by first | rfl | exact ag _ | exact ak _) rfl (by simp) (by simp) (TL.go' aa ?_)
    simp[hC,j3]
    refine ae.le (Le.nz [] [7]) ?_
    simp
    refine ae.trim [12,11,2,13,6,0,3] [0,1,2,3,4,5,6,7] 8 (by simp[-List.all_eq_true,-List.all_flatMap]) (by omega) ⟨[],.dg true (iM L ar ms ps vars k.2).1,?_,?_⟩
    ·rw[← hB2];rfl
    ·rw[← hB2];simp[gI,j3,bB,eS,eV]
   have h2:¬ k.1<7:=by simpa using h
   rw[if_neg h2] at hB2
   refine T.seq (T.go' aa ?_)
   simp[hC]
   refine T.bf rfl (fun h=>?_) (fun h=>?_)
   ·have h3:k.1=7:=by simpa using h
    rw[if_pos h3] at hB2
    refine T.seq ?_
    obtain⟨a,ha⟩:∃ a,lf % 26=a:=⟨_,rfl⟩
    obtain⟨q,hq⟩:∃ q,lf / 26=q:=⟨_,rfl⟩
    obtain⟨b,hb⟩:∃ b,q % 26=b:=⟨_,rfl⟩
    have hvn:eY lf=⟨#[118]⟩++⟨#[97+UInt8.ofNat a,97+UInt8.ofNat b]⟩:=by simp[eY,ha,hq,hb]
    have so:kC BinOp.add ⟨#[118]⟩ ⟨#[97+UInt8.ofNat a,97+UInt8.ofNat b]⟩=some (.str (eY lf)):=by rw[hvn];rfl
    have a1:(lf:Int).tmod 26=(a:Int):=by rw[Int.tmod_eq_emod_of_nonneg (by omega)];omega
    have a2:=db (97+(a:Int)) (by omega) (by omega)
    have a3:IntKind.u8.wrap (97+(a:Int))=97+(a:Int):=IntWalk.u8_in _ (by omega)
    have a4:(0:Int)≤97+(a:Int)∧97+(a:Int)<256:=by omega
    have a5:(97+(a:Int)).toNat=97+a:=by omega
    have q1:IntKind.i64.wrap ((lf:Int) / 26)=(q:Int):=by rw[db _ (by omega) (by omega)];omega
    have b1:(q:Int).tmod 26=(b:Int):=by rw[Int.tmod_eq_emod_of_nonneg (by omega)];omega
    have b2:=db (97+(b:Int)) (by omega) (by omega)
    have b3:IntKind.u8.wrap (97+(b:Int))=97+(b:Int):=IntWalk.u8_in _ (by omega)
    have b4:(0:Int)≤97+(b:Int)∧97+(b:Int)<256:=by omega
    have b5:(97+(b:Int)).toNat=97+b:=by omega
    refine T.rx aa follows [0,1,3,4,5,6,7,8,9,10,11,12,13,14,15,16,17,18,19,20,21,2,22,23,24,25,26] [(6,2),(6,22),(6,24),(9,2),(9,22),(9,24),(13,2),(13,22),(13,24),(17,2),(17,22),(17,24),(18,2),(18,22),(18,24),(19,2),(19,22),(19,24)] (by kernel_rfl) ?_
    simp[hC,bp,a1,a2,a3,a4,a5,q1,b1,b2,b3,b4,b5,so]
    rw[ew]
    refine RX.iF 3 5 [0,1,5] [0] 4 (lV L hL vars hvl2 gs ms fs.length lf ar k.2 hi1) rfl (by simp) rfl rfl rfl (by simp) (by omega) (by simp) (by simp) rfl (by simp) (by first | rfl | exact ag _ | exact ak _) rfl (by simp) (by simp) (by simp) rfl (by simp) ?_
    simp[bA]
    have hbv:(vars.length+1)*16≤140737488355328:=by omega
    refine T.go' aa ?_
    simp[hC,ba,hbv]
    refine ae.le (Le.trim [12,11,2,13,6,0,3] [0,1,2,3,4,6,7,36] 37 (by simp[eV,-List.all_eq_true,-List.all_flatMap,aT]) (by omega)) ?_
    simp
    refine ae.le (Le.na 36 5 rfl rfl (by omega) (by simp) (by simp) (by simp[au,ints,bp,eV,-List.all_eq_true,-List.all_flatMap,qY])) ?_
    simp[au,ints,bp,eV]
    refine ae.le (Le.nz [] [7]) ?_
    simp
    refine ae.trim [12,11,2,13,6,0,3] [0,1,2,3,4,5,6,7] 8 (by simp[-List.all_eq_true,-List.all_flatMap,aT]) (by omega) ⟨[],.gr (eY lf) (da L ar vars k.2).1,?_,?_⟩
    ·rw[← hB2];rfl
    ·rw[← hB2];simp[gI,j5,eS,eV,ba,au,ints,bp]
   have h3:¬ k.1=7:=by simpa using h
   rw[if_neg h3] at hB2
      /- an assignment? -/
   refine T.cut (fun s=>s=⟨[(119,.bool (decide (k.1=8∧0<vars.length))),(14,I k.1),(12,.int .i64 ((n1:Int)+1)),(11,.bw 6 0 out.length),(2,.bw 5 0 vars.length),(13,.aq 7 0),(6,.aq 4 0),(0,.aq 1 0),(3,I deep)],
    [(0,au L k.2),(1,bp gs ms fs.length lf ar),(2,cI fs),(3,ba vars0),(4,⟨137,0,eV nm ps bc bn⟩),(5,ba vars),(6,iV out),(7,⟨188,0,tO⟩)],8⟩) ?_ ?_
   ·by_cases h8:k.1=8
    ·refine T.go' aa ?_
     simp[hC,h8]
     refine ae.trim [119,14,12,11,2,13,6,0,3] [0,1,2,3,4,5,6,7] 8 (by simp[eV,-List.all_eq_true,-List.all_flatMap]) (by omega) ?_
     simp[tO]
    ·refine T.go' aa ?_
     simp[hC,h8]
     refine ae.trim [119,14,12,11,2,13,6,0,3] [0,1,2,3,4,5,6,7] 8 (by simp[eV,-List.all_eq_true,-List.all_flatMap]) (by omega) ?_
     simp[tO]
   rintro s rfl
   refine T.bf rfl (fun h=>?_) (fun h=>?_)
   ·have h4:k.1=8∧0<vars.length:=by simpa using h
    rw[if_pos h4] at hB2
    have hlt:=cX L k.2 h4.2
    have hnv:=cc L k.2 vars.length hi1 hL h4.2 (by omega)
    have hi2:=a8 L vars.length hi1
    obtain⟨j,hj⟩:∃ j,bS L k.2 vars.length=j:=⟨_,rfl⟩
    rw[hj] at hlt hnv hi2
    simp only[hj] at hB2
    have hdr:(ba vars).cells.drop j.1=.str (vars.getD j.1 eS)::(vars.map CV.str).drop (j.1+1):=iw hlt
    have hsz1:(ba vars).sz=1:=rfl
    refine T.rx aa follows [0,1,2,3,4,5,6,10,11,13,7,8,9,12,14,15,16,17,18] [(9,12),(9,14)] (by kernel_rfl) ?_
    simp[hC,bp]
    rw[ew]
    refine RX.cr [0] [0] 1 (hnv) rfl (by simp) rfl rfl rfl rfl (by simp) (by first | rfl | simp[aC,aG,aD,aT,-List.all_eq_true]) (by first | rfl | simp[au,ints]) rfl rfl rfl (by simp) ?_
    simp[hlt,hdr]
    refine RX.iF 3 5 [0,1,5] [0] 4 (lV L hL vars hvl2 gs ms fs.length lf ar j.2 hi2) rfl (by simp) rfl rfl rfl (by simp) (by omega) (by simp) (by simp) rfl (by simp) (by first | rfl | exact ag _ | exact ak _) rfl (by simp) (by simp) (by simp) rfl (by simp) ?_
    simp[bA,tO]
    refine ae.le (Le.nz [] [7]) ?_
    simp
    refine ae.trim [12,11,2,13,6,0,3] [0,1,2,3,4,5,6,7] 8 (by simp[eV,-List.all_eq_true,-List.all_flatMap,aT]) (by omega) ⟨[],.gV (vars.getD j.1 eS) (da L ar vars j.2).1,?_,?_⟩
    ·rw[← hB2];rfl
    ·rw[← hB2];simp[gI,j5,eS,eV,hlt]
   have h4:¬ (k.1=8∧0<vars.length):=by simpa using h
   rw[if_neg h4] at hB2
      /- a call? -/
   refine T.cut (fun s=>s=⟨[(143,.bool (decide (k.1=9∨k.1=10))),(14,I k.1),(12,.int .i64 ((n1:Int)+1)),(11,.bw 6 0 out.length),(2,.bw 5 0 vars.length),(13,.aq 7 0),(6,.aq 4 0),(0,.aq 1 0),(3,I deep)],
    [(0,au L k.2),(1,bp gs ms fs.length lf ar),(2,cI fs),(3,ba vars0),(4,⟨137,0,eV nm ps bc bn⟩),(5,ba vars),(6,iV out),(7,⟨188,0,tO⟩)],8⟩) ?_ ?_
   ·by_cases h9:k.1=9
    ·refine T.go' aa ?_
     simp[hC,h9]
     refine ae.trim [143,14,12,11,2,13,6,0,3] [0,1,2,3,4,5,6,7] 8 (by simp[eV,tO,-List.all_eq_true,-List.all_flatMap]) (by omega) ?_
     simp
    ·refine T.go' aa ?_
     simp[hC,h9]
     refine ae.trim [143,14,12,11,2,13,6,0,3] [0,1,2,3,4,5,6,7] 8 (by simp[eV,tO,-List.all_eq_true,-List.all_flatMap]) (by omega) ?_
     simp
   rintro s rfl
   refine T.bf rfl (fun h=>?_) (fun h=>?_)
   ·have h5:k.1=9∨k.1=10:=by simpa using h
    have hB3:gk ⟨L,ar,ms,fs.map fun f=>(f.name,f.params)⟩ ps vars (decide (k.1=10)) k.2 lf=B:=by
     by_cases h9:k.1=9
     ·rw[if_pos h9] at hB2
      rw[← hB2]
      simp[h9]
     ·have h10:k.1=10:=by omega
      rw[if_neg h9,if_pos h10] at hB2
      rw[← hB2]
      simp[h10]
    simp only[gk,List.length_map] at hB3
    refine T.seq (T.go' aa ?_)
    simp[hC,tO]
    refine T.cut (fun s=>s=⟨[(12,.int .i64 ((n1:Int)+1)),(11,.bw 6 0 out.length),(2,.bw 5 0 vars.length),(13,.aq 7 0),(6,.aq 4 0),(0,.aq 1 0),(3,I deep)],
     [(0,au L k.2),(1,bp gs ms fs.length lf ar),(2,cI fs),(3,ba vars0),(4,⟨137,0,eV nm ps bc bn⟩),(5,ba vars),(6,iV out),(7,⟨188,0,stK (if k.1=10 then 4 else 3)⟩)],8⟩) ?_ ?_
    ·refine T.seq (T.go' aa ?_)
     simp[hC]
     refine T.bf rfl (fun h=>?_) (fun h=>?_)
     ·have h10:k.1=10:=by simpa using h
      refine T.go' aa ?_
      simp[hC]
      refine ae.trim [12,11,2,13,6,0,3] [0,1,2,3,4,5,6,7] 8 (by simp[eV,-List.all_eq_true,-List.all_flatMap]) (by omega) ?_
      simp[h10,stK]
     ·have h10:¬ k.1=10:=by simpa using h
      refine T.skip ?_
      simp
      refine ae.trim [12,11,2,13,6,0,3] [0,1,2,3,4,5,6,7] 8 (by simp[eV,-List.all_eq_true,-List.all_flatMap]) (by omega) ?_
      simp[h10,stK]
    rintro s rfl
    have hlt:=cX L k.2 hfs
    have hnv:=cc L k.2 fs.length hi1 hL hfs (by omega)
    have hi2:=a8 L fs.length hi1
    obtain⟨j,hj⟩:∃ j,bS L k.2 fs.length=j:=⟨_,rfl⟩
    rw[hj] at hlt hnv hi2
    simp only[hj] at hB3
    obtain⟨g,hg⟩:∃ g,fs[j.1]? = some g:=⟨fs[j.1],List.getElem?_eq_getElem hlt⟩
    have hgd:(fs.map fun f=>(f.name,f.params)).getD j.1 (eS,[])=(g.name,g.params):=by simp[List.getD,hg]
    simp only[hgd] at hB3
    have hgp:=hfp g (List.mem_of_getElem? hg)
    have hdr:(cI fs).cells.drop (j.1*3)=eP g++(fs.drop (j.1+1)).flatMap eP:=aV (f:=eP) (n:=3) (fun _=>rfl) hg
    have hsz1:(cI fs).sz=3:=rfl
    have hcl:(cI fs).cells.length=fs.length*3:=bu (f:=eP) (n:=3) (fun _=>rfl) fs
    refine T.seq ?_
    refine T.rx aa follows [0,1,2,3,4,5,6,7,8,9,10,11,12,13,14,18,15,16,17,19] [(4,18),(4,15),(8,18),(13,18),(18,15),(18,17)] (by kernel_rfl) ?_
    simp[hC,bp]
    rw[ew]
    refine RX.cr [0] [0] 1 (hnv) rfl (by simp) rfl rfl rfl rfl (by simp) (by first | rfl | simp[aC,aG,aD,aT,-List.all_eq_true]) (by first | rfl | simp[au,ints]) rfl rfl rfl (by simp) ?_
    simp[hlt,hdr,eP]
    refine T.rx aa follows [0,1,2,3,4,5,7,6,8,9,10] [(1,6)] (by kernel_rfl) ?_
    simp[hC,eV]
    refine RX.iF 3 5 [0,1,5] [0] 4 (CZ L hL vars hvl2 gs ms hm hm2 hsz fs.length lf ar j.2 hi2 nm ps hp bc bn g.name g.params hgp (bt g.body) g.body.length) rfl (by simp) rfl rfl rfl (by simp) (by omega) (by simp) (by simp) rfl (by simp) (by first | rfl | exact ag _ | exact ak _) rfl (by simp) (by simp) (by simp) rfl (by simp) ?_
    simp[stK]
    refine ae.le (Le.nz [] [7]) ?_
    simp
    refine ae.trim [12,11,2,13,6,0,3] [0,1,2,3,4,5,6,7] 8 (by simp[-List.all_eq_true,-List.all_flatMap]) (by omega) ⟨[],.dI (decide (k.1=10)) g.name (cU L ar ms ps vars g.params j.2).1,?_,?_⟩
    ·rw[← hB3];rfl
    ·rw[← hB3];simp[gI,j5,bB,eS,eV,qg]
   have h5:¬ k.1=9∧¬ k.1=10:=by simpa using h
   rw[if_neg h5.1,if_neg h5.2] at hB2
      /- a condition? -/
   refine T.cut (fun s=>s=⟨[(181,.bool (decide (k.1=11∧0<deep))),(14,I k.1),(12,.int .i64 ((n1:Int)+1)),(11,.bw 6 0 out.length),(2,.bw 5 0 vars.length),(13,.aq 7 0),(6,.aq 4 0),(0,.aq 1 0),(3,I deep)],
    [(0,au L k.2),(1,bp gs ms fs.length lf ar),(2,cI fs),(3,ba vars0),(4,⟨137,0,eV nm ps bc bn⟩),(5,ba vars),(6,iV out),(7,⟨188,0,tO⟩)],8⟩) ?_ ?_
   ·by_cases h9:k.1=11
    ·refine T.go' aa ?_
     simp[hC,h9]
     refine ae.trim [181,14,12,11,2,13,6,0,3] [0,1,2,3,4,5,6,7] 8 (by simp[eV,tO,-List.all_eq_true,-List.all_flatMap]) (by omega) ?_
     simp
    ·refine T.go' aa ?_
     simp[hC,h9]
     refine ae.trim [181,14,12,11,2,13,6,0,3] [0,1,2,3,4,5,6,7] 8 (by simp[eV,tO,-List.all_eq_true,-List.all_flatMap]) (by omega) ?_
     simp
   rintro s rfl
   refine T.bf rfl (fun h=>?_) (fun h=>?_)
   ·have h6:k.1=11∧0<deep:=by simpa using h
    rw[if_pos h6] at hB2
    obtain⟨d,rfl⟩:∃ d,deep=d+1:=⟨deep-1,by omega⟩
    have hd1:((d+1:Nat):Int)-1=(d:Int):=by omega
    have wd:=db (d:Int) (by omega) (by omega)
    have hi2:=jw L ar vars hi1
    simp only[JU,Nat.add_sub_cancel] at hB2
    have hth:=ih' lf (by omega) vars d 3 (da L ar vars k.2).2 (by omega) (by omega) (by omega) (by omega) (by omega) hi2
    obtain⟨hi3,hlen3⟩:=hrok vars d 3 (da L ar vars k.2).2 lf hi2
    obtain⟨th,hthe⟩:∃ th,rec vars d 3 (da L ar vars k.2).2 lf=th:=⟨_,rfl⟩
    rw[hthe] at hth hi3 hlen3
    simp only[hthe] at hB2
    refine T.seq ?_
    refine T.rx aa follows [0,1,3,4,5,6,7,9,2,8,10,11,12,13,14] [(4,2)] (by kernel_rfl) ?_
    simp[hC,wd,eV]
    refine RX.iF 3 5 [0,1,5] [0] 4 (lV L hL vars hvl2 gs ms fs.length lf ar k.2 hi1) rfl (by simp) rfl rfl rfl (by simp) (by omega) (by simp) (by simp) rfl (by simp) (by first | rfl | exact ag _ | exact ak _) rfl (by simp) (by simp) (by simp) rfl (by simp) ?_
    simp
    refine RX.iF 3 5 [0,1,2,5] [0,1] 4 (hth) rfl (by simp) rfl rfl rfl (by simp) (by omega) (by simp) (by simp) rfl (by simp) (by first | rfl | exact ag _ | exact ak _) rfl (by simp) (by simp) (by simp) rfl (by simp) ?_
    simp[tO,bA]
    have hnc:=cc L th.2.1 2 hi3 hL (by omega) (by omega)
    have hi4:=a8 L 2 hi3
    obtain⟨c,hc⟩:∃ c,bS L th.2.1 2=c:=⟨_,rfl⟩
    rw[hc] at hnc hi4
    simp only[hc] at hB2
    refine T.le (Le.trim [12,11,2,13,6,0,3] [0,1,2,3,4,5,6,7] 8 (by simp[-List.all_eq_true,-List.all_flatMap,aT]) (by omega)) ?_
    simp
    refine T.seq (T.go' aa ?_)
    simp[hC,bp]
    refine TL.cr aa [0] 1 (hnc) (by simp[hC]) rfl rfl rfl rfl (by simp) (by first | rfl | simp[aC,aG,aD,aT,-List.all_eq_true]) (by first | rfl | simp[au,ints]) rfl (TL.go' aa ?_)
    simp[hC]
    have ew2:(⟨129,0,[CV.aq 0 0,CV.ax (gs.flatMap ny) gs.length,CV.ax (ms.flatMap js) ms.length,CV.bw 2 0 fs.length,I th.2.2,CV.bool ar]⟩:Ob)=bp gs ms fs.length th.2.2 ar:=rfl
    rw[ew2]
    refine T.bf rfl (fun h=>?_) (fun h=>?_)
    ·have hc1:c.1=1:=by simpa using h
     rw[if_pos hc1] at hB2
     have hel:=ih' th.2.2 (by omega) vars d 3 c.2 (by omega) (by omega) (by omega) (by omega) (by omega) hi4
     obtain⟨el,hele⟩:∃ el,rec vars d 3 c.2 th.2.2=el:=⟨_,rfl⟩
     rw[hele] at hel
     simp only[hele] at hB2
     refine T.go' aa ?_
     simp[hC,wd]
     refine TL.iF aa 3 5 [0,1,2,5] 4 (hel) (by simp[hC]) rfl rfl rfl (by simp) (by omega) (by simp) (by simp) rfl (by simp) (by first | rfl | exact ag _ | exact ak _) rfl (by simp) (by simp) (TL.go' aa ?_)
     simp[hC,bA]
     refine ae.le (Le.nz [] [7]) ?_
     simp
     refine ae.trim [12,11,2,13,6,0,3] [0,1,2,3,4,5,6,7] 8 (by simp[-List.all_eq_true,-List.all_flatMap,aT]) (by omega) ⟨[],.ku (da L ar vars k.2).1 th.1 el.1,?_,?_⟩
     ·rw[← hB2];rfl
     ·rw[← hB2];simp[gI,j5,eS,eV]
    ·have hc1:¬ c.1=1:=by simpa using h
     rw[if_neg hc1] at hB2
     refine T.skip ?_
     simp
     refine ae.le (Le.nz [] [7]) ?_
     simp
     refine ae.trim [12,11,2,13,6,0,3] [0,1,2,3,4,5,6,7] 8 (by simp[-List.all_eq_true,-List.all_flatMap,aT]) (by omega) ⟨[],.ku (da L ar vars k.2).1 th.1 [],?_,?_⟩
     ·rw[← hB2];rfl
     ·rw[← hB2];simp[gI,j5,eS,eV,bt]
   have h6:¬ (k.1=11∧0<deep):=by simpa using h
   rw[if_neg h6] at hB2
      /- a loop? -/
   refine T.cut (fun s=>s=⟨[(213,.bool (decide (k.1=12∧0<deep))),(14,I k.1),(12,.int .i64 ((n1:Int)+1)),(11,.bw 6 0 out.length),(2,.bw 5 0 vars.length),(13,.aq 7 0),(6,.aq 4 0),(0,.aq 1 0),(3,I deep)],
    [(0,au L k.2),(1,bp gs ms fs.length lf ar),(2,cI fs),(3,ba vars0),(4,⟨137,0,eV nm ps bc bn⟩),(5,ba vars),(6,iV out),(7,⟨188,0,tO⟩)],8⟩) ?_ ?_
   ·by_cases h9:k.1=12
    ·refine T.go' aa ?_
     simp[hC,h9]
     refine ae.trim [213,14,12,11,2,13,6,0,3] [0,1,2,3,4,5,6,7] 8 (by simp[eV,tO,-List.all_eq_true,-List.all_flatMap]) (by omega) ?_
     simp
    ·refine T.go' aa ?_
     simp[hC,h9]
     refine ae.trim [213,14,12,11,2,13,6,0,3] [0,1,2,3,4,5,6,7] 8 (by simp[eV,tO,-List.all_eq_true,-List.all_flatMap]) (by omega) ?_
     simp
   rintro s rfl
   refine T.bf rfl (fun h=>?_) (fun h=>?_)
   ·have h7:k.1=12∧0<deep:=by simpa using h
    rw[if_pos h7] at hB2
    obtain⟨d,rfl⟩:∃ d,deep=d+1:=⟨deep-1,by omega⟩
    have hd1:((d+1:Nat):Int)-1=(d:Int):=by omega
    have wd:=db (d:Int) (by omega) (by omega)
    have hi2:=jw L ar vars hi1
    simp only[Ja,Nat.add_sub_cancel] at hB2
    have hth:=ih' lf (by omega) vars d 3 (da L ar vars k.2).2 (by omega) (by omega) (by omega) (by omega) (by omega) hi2
    obtain⟨th,hthe⟩:∃ th,rec vars d 3 (da L ar vars k.2).2 lf=th:=⟨_,rfl⟩
    rw[hthe] at hth
    simp only[hthe] at hB2
    refine T.rx aa follows [0,1,3,4,5,6,7,9,2,8,10,11,12,13,14] [(4,2)] (by kernel_rfl) ?_
    simp[hC,wd,eV]
    refine RX.iF 3 5 [0,1,5] [0] 4 (lV L hL vars hvl2 gs ms fs.length lf ar k.2 hi1) rfl (by simp) rfl rfl rfl (by simp) (by omega) (by simp) (by simp) rfl (by simp) (by first | rfl | exact ag _ | exact ak _) rfl (by simp) (by simp) (by simp) rfl (by simp) ?_
    simp
    refine RX.iF 3 5 [0,1,2,5] [0,1] 4 (hth) rfl (by simp) rfl rfl rfl (by simp) (by omega) (by simp) (by simp) rfl (by simp) (by first | rfl | exact ag _ | exact ak _) rfl (by simp) (by simp) (by simp) rfl (by simp) ?_
    simp[tO,bA]
    refine ae.le (Le.nz [] [7]) ?_
    simp
    refine ae.trim [12,11,2,13,6,0,3] [0,1,2,3,4,5,6,7] 8 (by simp[-List.all_eq_true,-List.all_flatMap,aT]) (by omega) ⟨[],.cj (da L ar vars k.2).1 th.1,?_,?_⟩
    ·rw[← hB2];rfl
    ·rw[← hB2];simp[gI,j5,eS,eV]
   have h7:¬ (k.1=12∧0<deep):=by simpa using h
   rw[if_neg h7] at hB2
      /- the end, or statements between a lock and its unlock -/
   obtain⟨i2,hi2e⟩:∃ i2,(if k.1=13 then (bS L k.2 3).2 else k.2)=i2:=⟨_,rfl⟩
   have hi5:i2≤L.length:=by
    rw[← hi2e]
    split
    ·exact a8 _ _ hi1
    ·exact hi1
   refine T.cut (fun s=>s=⟨[(232,.bool (decide (k.1=13∧(bS L k.2 3).1=1))),(12,.int .i64 ((n1:Int)+1)),(11,.bw 6 0 out.length),(2,.bw 5 0 vars.length),(13,.aq 7 0),(6,.aq 4 0),(0,.aq 1 0),(3,I deep)],
    [(0,au L i2),(1,bp gs ms fs.length lf ar),(2,cI fs),(3,ba vars0),(4,⟨137,0,eV nm ps bc bn⟩),(5,ba vars),(6,iV out),(7,⟨188,0,tO⟩)],8⟩) ?_ ?_
   ·by_cases h9:k.1=13
    ·rw[if_pos h9] at hi2e
     refine T.go' aa ?_
     simp[hC,h9,bp]
     refine TL.cr aa [0] 1 (cc L k.2 3 hi1 hL (by omega) (by omega)) (by simp[hC]) rfl rfl rfl rfl (by simp) (by first | rfl | simp[aC,aG,aD,aT,-List.all_eq_true]) (by first | rfl | simp[au,ints]) rfl (TL.go' aa ?_)
     simp[hC]
     refine ae.trim [232,12,11,2,13,6,0,3] [0,1,2,3,4,5,6,7] 8 (by simp[eV,tO,-List.all_eq_true,-List.all_flatMap]) (by omega) ?_
     simp[hi2e]
    ·rw[if_neg h9] at hi2e
     refine T.go' aa ?_
     simp[hC,h9]
     refine ae.trim [232,12,11,2,13,6,0,3] [0,1,2,3,4,5,6,7] 8 (by simp[eV,tO,-List.all_eq_true,-List.all_flatMap]) (by omega) ?_
     simp[hi2e]
   rintro s rfl
   refine T.bf rfl (fun h=>?_) (fun h=>?_)
   ·have h8:k.1=13∧(bS L k.2 3).1=1:=by simpa using h
    rw[if_pos h8] at hB2
    rw[if_pos h8.1] at hi2e
    refine T.go' aa ?_
    simp[hC,tO]
    refine ae.le (Le.nz [] [7]) ?_
    simp
    refine ae.trim [12,11,2,13,6,0,3] [0,1,2,3,4,5,6,7] 8 (by simp[eV,-List.all_eq_true,-List.all_flatMap]) (by omega) ⟨[],.iU,?_,?_⟩
    ·rw[← hB2];rfl
    ·rw[← hB2,← hi2e];simp[gI,j5,bB,eS,eV]
   have h8:¬ (k.1=13∧(bS L k.2 3).1=1):=by simpa using h
   rw[if_neg h8] at hB2
   have hB3:yu ⟨L,ar,ms,fs.map fun f=>(f.name,f.params)⟩ rec ps vars i2 lf=B:=by
    rw[← hB2,← hi2e]
    by_cases h9:k.1=13
    ·rw[if_pos h9,if_pos h9]
    ·rw[if_neg h9,if_neg h9]
   simp only[yu] at hB3
   have hi6:=oL L ar ms ps vars hi5
   obtain⟨rf,hrf⟩:∃ rf,iM L ar ms ps vars i2=rf:=⟨_,rfl⟩
   have hcr:=qQ L hL vars hvl2 gs ms hm hm2 hsz fs.length lf ar i2 hi5 nm ps hp bc bn
   rw[hrf] at hcr hi6
   simp only[hrf] at hB3
   have hin:=ih' lf (by omega) vars 0 2 rf.2 (by omega) (by omega) (by omega) (by omega) (by omega) hi6
   obtain⟨_,hlen3⟩:=hrok vars 0 2 rf.2 lf hi6
   obtain⟨th,hthe⟩:∃ th,rec vars 0 2 rf.2 lf=th:=⟨_,rfl⟩
   rw[hthe] at hin hlen3
   simp only[hthe] at hB3
   refine T.seq (T.go' aa ?_)
   simp[hC,eV]
   refine TL.iF aa 3 5 [0,1,5] 4 (hcr) (by simp[hC]) rfl rfl rfl (by simp) (by omega) (by simp) (by simp) rfl (by simp) (by first | rfl | exact ag _ | exact ak _) rfl (by simp) (by simp) (TL.go' aa ?_)
   simp[hC,j3,tO]
   refine T.seq (T.go' aa ?_)
   simp[hC]
   have hso:=l6 out
   have hb1:(out.length+1)*192≤140737488355328:=by omega
   have hb2:(out.length+1+th.1.length)*192≤140737488355328:=by omega
   have hst1:=l6 th.1
   have hln:(out.length+1)*11=out.length*11+11:=by omega
   refine T.seq (T.go' aa ?_)
   simp[hC,iV,hso,hb1,aX]
   refine T.seq (T.go' aa ?_)
   simp[hC]
   refine TL.iF aa 3 5 [0,1,2,5] 4 (hin) (by simp[hC]) rfl rfl rfl (by simp) (by omega) (by simp) (by simp) rfl (by simp) (by first | rfl | exact ag _ | exact ak _) rfl (by simp) (by simp) (TL.go' aa ?_)
   simp[hC,hso,hst1,hb2,hln]
   refine T.go' aa ?_
   simp[hC]
   refine ae.le (Le.trim [12,11,2,13,6,0,3] [0,1,2,3,4,5,7,11] 12 (by simp[-List.all_eq_true,-List.all_flatMap,af (bk out),af (bk th.1)]) (by omega)) ?_
   simp
   refine ae.le (Le.nz [] [7,11]) ?_
   simp
   refine ae.le (Le.na 11 6 rfl rfl (by omega) (by simp) (by simp) (by simp[au,ints,bp,-List.all_eq_true,-List.all_flatMap,a6 (bk out),a6 (bk th.1)])) ?_
   simp[au,ints,bp,aY (bk out),aY (bk th.1)]
   refine ae.trim [12,11,2,13,6,0,3] [0,1,2,3,4,5,6,7] 8 (by simp[-List.all_eq_true,-List.all_flatMap,af (bk out),af (bk th.1)]) (by omega) ⟨.dg false rf.1::th.1,.dg true rf.1,?_,?_⟩
   ·rw[← hB3]
   ·rw[← hB3]
    have e1:out.length+1+th.1.length=out.length+(th.1.length+1):=by omega
    simp[gI,j3,bB,eS,eV,iV,rM,bt,au,ints,bp,e1]
  ·rintro s ⟨front,last,hout,rfl⟩
   have hfl:(out++front).length≤2000:=by
    have:=hst.n
    rw[hout] at this
    simp at this ⊢
    omega
   have hsl:=l6 (out++front)
   generalize hO:out++front=O at hfl hsl
   have hb:(O.length+1)*192≤140737488355328:=by omega
   have wn:=db (n1:Int) (by omega) (by omega)
   refine T.go' aa ?_
   simp[hC,iV,jK,aX,hsl,hb,C7]
   refine T.go' aa ?_
   simp[hC,wn]
   refine⟨n1,by omega,ae.le (Le.trim [12,11,2,6,0,3] [0,1,2,3,4,5,9] 10 (by simp[au,bp,eV,-List.all_eq_true,-List.all_flatMap,af (bk O),af (gS last)]) (by omega)) ?_⟩
   simp
   refine ae.le (Le.na 9 6 rfl rfl (by omega) (by simp) (by simp) (by simp[au,ints,bp,eV,-List.all_eq_true,-List.all_flatMap,a6 (bk O),a6 (gS last)])) ?_
   simp[au,ints,bp,eV,aY (bk O),aY (gS last)]
   refine ae.trim [12,11,2,6,0,3] [0,1,2,3,4,5,6] 7 (by simp[-List.all_eq_true,-List.all_flatMap,af (bk O),af (gS last)]) (by omega) ⟨B.vars,B.i,B.left,out++B.out,?_,hst.i,?_,?_,?_,by omega,?_⟩
   ·rw[hR,List.append_assoc]
   ·have:=hst.l;omega
   ·have:=hst.v;omega
   ·have:=hst.n;simp;omega
   ·have e1:out++B.out=O++[last]:=by rw[hout,← List.append_assoc,hO]
    rw[e1]
    simp[iV,rM,bt,au,ints,bp,eV]
end Go.Proofs.YtmnglemlimfpbaaGreat
