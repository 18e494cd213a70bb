/- writer.block. -/
import Derived.Test.YtnecpnjdonibmaaGreatZ27
namespace Go.Proofs.YtnecpnjdonibmaaGreat
open Go.Can Go.aP
def cV (fs:List Fu):Ob:=⟨192,3,fs.flatMap fq⟩
def jG (l:List Sm):Ob:=⟨265,11,bx l⟩
def qa (L:List Int)(ar:Bool)(ms:List Mx)(fs:List Fu):Wr:=⟨L,ar,ms,fs.map fun f=>(f.name,f.params)⟩
theorem iz (x:Sm):trees (ik x)=true:=by
 cases x with
 | dA u r=>rcases r with ⟨_,_ | _⟩<;>rfl
 | g6 s e=>cases e<;>rfl
 | iD s e=>cases e<;>rfl
 | lE e _ _=>cases e<;>rfl
 | cJ e _=>cases e<;>rfl
 | _=>rfl
theorem bF (l:List Sm):trees (bx l)=true:=by
 induction l with
 | nil=>rfl
 | cons a r ih=>rw[bx,bC,ih,iz];rfl
theorem nD (l:List Sm):(bx l).length=l.length*11:=by rw[oE];exact bM (f:=ik) kE l
theorem uT:∀ a b:List Sm,bx (a++b)=bx a++bx b
 | [],b=>rfl
 | x::r,b=>by rw[List.cons_append,bx,bx,uT r b,List.append_assoc]
theorem G6 (x:Sm):List.take 11 (ik x)=ik x:=List.take_of_length_le (by simp[kE])
theorem cM (fs:List Fu):trees (fs.flatMap fq)=true:=by
 induction fs with
 | nil=>rfl
 | cons a r ih=>rw[List.flatMap_cons,bC,ih];rfl
theorem KT (fs:List Fu)(o:Nat)(cs:List CV)(n:Nat):(fs.flatMap fq).map (cH o cs n)=fs.flatMap fq:=by
 induction fs with
 | nil=>rfl
 | cons a r ih=>rw[List.flatMap_cons,List.map_append,ih];rfl
@[simp] theorem fsOb_frz (l:List Fu)(o:Nat)(cs:List CV)(n:Nat):(⟨(cV l).elem,(cV l).sz,(cV l).cells.map (cH o cs n)⟩:Ob)=cV l:=by
 simp only[cV,KT]
@[simp] theorem N7 (ρ:Nat→Nat)(l:List Fu):cc ρ (cV l)=cV l:=by
 simp only[cc,cV,av ρ _ (cM l)]
@[simp] theorem KQ (l:List Fu)(n:Nat):(cV l).cells.all (a9 n)=true:=ah (cM l) n
@[simp] theorem fsOb_lts (l:List Fu)(n:Nat):aX n (cV l).cells=true:=by rw[cB];exact ah (cM l) n
@[simp] theorem fsOb_ok1 (l:List Fu)(o q:Nat):(cV l).cells.all (nc o q)=true:=bj (cM l) o q
@[simp] theorem FV (l:List Fu)(o q:Nat):(cV l).cells.map (dk o q)=(cV l).cells:=aZ (cM l) o q
@[simp] theorem fsOb_eta (l:List Fu):(⟨(cV l).elem,(cV l).sz,(cV l).cells⟩:Ob)=cV l:=rfl
@[simp] theorem OM (l:List Fu)(n o q:Nat):(cV l).cells.all (a9 n∘dk o q)=true:=by rw[← List.all_map,FV];exact KQ l n
@[simp] theorem J1 (l:List Sm)(n:Nat):(jG l).cells.all (a9 n)=true:=ah (bF l) n
@[simp] theorem smOb_ok1 (l:List Sm)(o q:Nat):(jG l).cells.all (nc o q)=true:=bj (bF l) o q
@[simp] theorem Fe (l:List Sm)(o q:Nat):(jG l).cells.map (dk o q)=(jG l).cells:=aZ (bF l) o q
@[simp] theorem smOb_eta (l:List Sm):(⟨(jG l).elem,(jG l).sz,(jG l).cells⟩:Ob)=jG l:=rfl
@[simp] theorem N4 (l:List Sm)(n o q:Nat):(jG l).cells.all (a9 n∘dk o q)=true:=by rw[← List.all_map,Fe];exact J1 l n
section
variable (L:List Int)(gs:List Gl)(ms:List Mx)(ar:Bool)(fs:List Fu)(nm:ByteArray)(ps:List Pm)(bc:List CV)(bn:Nat)(Pu:List ByteArray)(rec:Rec)(deep f:Nat)(Yb:List Sm×Nat×Nat)
def J56 (m:Nat)(s:St):Prop:=∃ (vars:List ByteArray) (i left:Nat) (out:List Sm),Yb=(out++(sT (qa L ar ms fs) rec ps deep m vars i left).1,(sT (qa L ar ms fs) rec ps deep m vars i left).2)∧
 i≤L.length∧left≤f∧vars.length+left≤500∧out.length+2*left≤1000∧m≤10∧
 s=⟨[(12,I m),(11,.bl 6 0 out.length),(2,.bl 5 0 vars.length),(6,.ax 4 0),(0,.ax 1 0),(3,I deep)],
  [(0,aI L i),(1,bp gs ms fs.length left ar),(2,cV fs),(3,bg Pu),(4,⟨192,0,gK nm ps bc bn⟩),(5,bg vars),(6,jG out)],7⟩
def K56 (m:Nat)(out:List Sm)(b:L6)(s:St):Prop:=∃ (front:List Sm) (last:Sm),b.out=front++[last]∧
 s=⟨[(12,I m),(11,.bl 6 0 (out++front).length),(2,.bl 5 0 b.vars.length),(13,.ax 7 0),(6,.ax 4 0),(0,.ax 1 0),(3,I deep)],
  [(0,aI L b.i),(1,bp gs ms fs.length b.left ar),(2,cV fs),(3,bg Pu),(4,⟨192,0,gK nm ps bc bn⟩),(5,bg b.vars),(6,jG (out++front)),(7,⟨265,0,ik last⟩)],8⟩
end
@[simp] theorem OO (e:Ex)(a b c d f:CV):List.take 7 (bR e++[a,b,c,d,f])=bR e++[a,b,c]:=by cases e<;>rfl
@[simp] theorem OQ (e:Ex)(a b c d f:CV):List.drop 8 (bR e++[a,b,c,d,f])=[f]:=by cases e<;>rfl
@[simp] theorem ON (e:Ex)(a b c d f:CV):List.take 8 (bR e++[a,b,c,d,f])=bR e++[a,b,c,d]:=by cases e<;>rfl
@[simp] theorem OP (e:Ex)(a b c d f:CV):List.drop 9 (bR e++[a,b,c,d,f])=[]:=by cases e<;>rfl
@[simp] theorem nz_smsC (l:List Sm):(bx l).map nz=bx l:=by
 induction l with
 | nil=>rfl
 | cons a r ih=>
  rw[bx,List.map_append,ih];congr 1
  cases a with
  | dA u r=>rcases r with ⟨_,_ | _⟩<;>rfl
  | g6 s e=>cases e<;>rfl
  | iD s e=>cases e<;>rfl
  | lE e _ _=>cases e<;>rfl
  | cJ e _=>cases e<;>rfl
  | _=>rfl
def stK (c:Int):List CV:=[I c,.str ⟨#[]⟩,.int .i64 0,.int .i64 0,.str ⟨#[]⟩,.aa,.str ⟨#[]⟩,.aa,.aa,.aa,.aa]
def DF:List CV:=[I 5,.str ⟨#[]⟩,.int .i64 0,.int .i64 0,.str ⟨#[]⟩,.aa,.str ⟨#[]⟩,.aa,.aa,.aa,.aa]
set_option maxHeartbeats 8000000 in
theorem EY (L:List Int)(hL:L.length≤1000)(gs:List Gl)(ms:List Mx)(hm:0<ms.length)(Ue:ms.length≤100)(O9:∀ m∈ms,m.size≤1000)(ar:Bool)(fs:List Fu)(Q4:0<fs.length)(hfs2:fs.length≤100)(Sn:∀ f∈fs,f.params.length≤100)
  (nm:ByteArray) (ps:List Pm) (hp:ps.length≤100) (bc:List CV) (bn:Nat):∀ (left f:Nat) (vars:List ByteArray) (deep most i:Nat),left≤f→left≤100→vars.length+left≤500→deep≤10→most≤9→i≤L.length →
  Body Tryz.prog ak 132 [.ax 1 0,.agg (gK nm ps bc bn),.bl 3 0 vars.length,I deep,I most] [(0,aI L i),(1,bp gs ms fs.length left ar),(2,cV fs),(3,bg vars)] 4
   (jb (.aA (bx (nu (qa L ar ms fs) ps f vars deep most i left).1) (nu (qa L ar ms fs) ps f vars deep most i left).1.length) [(0,aI L (nu (qa L ar ms fs) ps f vars deep most i left).2.1),(1,bp gs ms fs.length (nu (qa L ar ms fs) ps f vars deep most i left).2.2 ar),(2,cV fs),(3,bg vars)] 4):=by
 intro Rc
 induction Rc using Nat.strongRecOn with
 | _ Rc ih=>
 intro f Pu deep most i0 hl hf hvl Uk hmo Ui;generalize XB:nu (qa L ar ms fs) ps f Pu deep most i0 Rc=Yb;have Vc:Yb=sT (qa L ar ms fs) (nu (qa L ar ms fs) ps (f-1)) ps deep (cd L i0 (most+1)).1 Pu (cd L i0 (most+1)).2 Rc:=by
  cases f with
  | zero=>
   have:Rc=0:=by omega
   subst this;rw[← XB]
   cases h:(cd L i0 (most+1)).1 with
   | zero=>simp[nu,sT,qa]
   | succ n=>simp[nu,sT,qa]
  | succ f=>rw[← XB];rfl
 clear XB;have VK:wC L (nu (qa L ar ms fs) ps (f-1)):=uD (qa L ar ms fs) ps (f-1);have Yq:=fun (left:Nat) (O1:left<Rc)=>ih left O1 (f-1);clear ih;generalize hrec:nu (qa L ar ms fs) ps (f-1)=rec at Yq Vc VK;have WR:(cd L i0 (most+1)).1≤most:=Nat.le_of_lt_succ (dm L i0 yA);have PI:=ba L (most+1) Ui;have wm:=cC ((most:Int)+1) yA yA;refine Body.jA Tryz.func132 rfl OV (by simp[Tryz.ntmps132]) fun C hC O0=>?_;rw[Tryz.ntmps132] at hC;apply aq;simp[hC,gK];apply aq;simp[hC];have hb0:Pu.length*16≤140737488355328:=by omega
 apply aq;simp[hC,bg,hb0];apply aO;simp[hC,wm,bp];refine TL.cK ai [0] 1 (cE L i0 (most+1) Ui hL yA yA) O5 rfl rfl rfl rfl OU Qc Qb rfl (TL.go' ai ?_);simp[hC];generalize cd L i0 (most+1)=k at WR PI Vc;have Pd:List.take Pu.length (Pu.map CV.str)=Pu.map CV.str:=List.take_of_length_le OU;simp only[Pd];apply T.block;refine T.aH (J56 L gs ms ar fs nm ps bc bn Pu rec deep Rc Yb) (n:=k.1) ?_ ?_
 ·refine ae.le (Le.own 11 265 11 rfl) ?_;simp;refine ae.le (Le.trim [12,11,2,6,0,3] [0,1,2,3,4,6,7] 8 (by simp[aI,cV,-List.all_eq_true,-List.all_flatMap,ah (cM fs)]) yA) ?_;simp;refine ae.le (Le.oX 6 5 rfl rfl yA OU OU (by simp[aI,ints,cV,-List.all_eq_true,-List.all_flatMap,bj (cM fs),bj (eC Pu)])) ?_;simp[aZ (cM fs),aZ (eC Pu),aI,cV,ints];refine ae.le (Le.oX 7 6 rfl rfl yA OU OU (by simp[-List.all_eq_true,-List.all_flatMap,bj (cM fs),bj (eC Pu)])) ?_;simp[aZ (cM fs),aZ (eC Pu)];refine ae.trim [12,11,2,6,0,3] [0,1,2,3,4,5,6] 7 (by simp[-List.all_eq_true,-List.all_flatMap,ah (cM fs),ah (eC Pu)]) yA ⟨Pu,k.2,Rc,[],?_,PI,Nat.le_refl _,hvl,?_,by omega,?_⟩
  ·rw[Vc];rfl
  ·simp;omega
  ·simp[bg,aI,bp,cV,jG,ints,bx,gK]
 ·rintro n s ⟨vars,i,left,out,hR,hi,hle,hvl',hol,hm10,rfl⟩;by_cases Sl:n=0
  ·subst Sl;have Pq:Yb=(out,i,left):=by rw[hR];simp[sT]
   clear hR;apply aO;simp[hC];refine a7 ?_;simp;apply T.exit;simp;apply aq;simp[hC];apply T.ret;have Yu:(bx out).take (out.length*11)=bx out:=List.take_of_length_le (by rw[nD];exact Nat.le_refl _);refine ae.le (Le.trim [10] [0,1,2,3,6] 7 (by simp[aI,bp,-List.all_eq_true,-List.all_flatMap]) yA) ?_;simp;refine ae.le (Le.dp (o:=6) rfl (bF out)) ?_;simp[jG,Yu];refine ae.trim [10] [0,1,2,3] 4 (by simp[aI,bp,-List.all_eq_true,-List.all_flatMap]) yA ⟨_,?_,rfl,?_,rfl⟩
   ·simp[Pq]
   ·simp[bp,bg,Pq]
  obtain⟨n1,rfl⟩:∃ n1,n=n1+1:=⟨n-1,by omega⟩;by_cases Uf:left=0
  ·subst Uf;have Pq:Yb=(out,i,0):=by rw[hR];simp[sT]
   clear hR;apply aO;simp[hC,bp];refine a7 ?_;simp;apply T.exit;simp;apply aq;simp[hC];apply T.ret;have Yu:(bx out).take (out.length*11)=bx out:=List.take_of_length_le (by rw[nD];exact Nat.le_refl _);refine ae.le (Le.trim [10] [0,1,2,3,6] 7 (by simp[aI,-List.all_eq_true,-List.all_flatMap]) yA) ?_;simp;refine ae.le (Le.dp (o:=6) rfl (bF out)) ?_;simp[jG,Yu];refine ae.trim [10] [0,1,2,3] 4 (by simp[aI,-List.all_eq_true,-List.all_flatMap]) yA ⟨_,?_,rfl,?_,rfl⟩
   ·simp[Pq]
   ·simp[bg,Pq]
  obtain⟨lf,rfl⟩:∃ lf,left=lf+1:=⟨left-1,by omega⟩;have hlp:sT (qa L ar ms fs) rec ps deep (n1+1) vars i (lf+1)=((z5 (qa L ar ms fs) rec ps vars deep i lf).out++(sT (qa L ar ms fs) rec ps deep n1 (z5 (qa L ar ms fs) rec ps vars deep i lf).vars (z5 (qa L ar ms fs) rec ps vars deep i lf).i (z5 (qa L ar ms fs) rec ps vars deep i lf).left).1,(sT (qa L ar ms fs) rec ps deep n1 (z5 (qa L ar ms fs) rec ps vars deep i lf).vars (z5 (qa L ar ms fs) rec ps vars deep i lf).i (z5 (qa L ar ms fs) rec ps vars deep i lf).left).2):=by
   rw[sT,if_neg yA];rfl
  rw[hlp] at hR;have wl:((lf+1:Nat):Int)-1=(lf:Int):=by omega
  have wlf:=cC (lf:Int) yA yA;apply aO;simp[hC,bp];refine fB ?_;simp;have Pw:=Hh (w:=qa L ar ms fs) VK ps vars deep lf hi;generalize hB:z5 (qa L ar ms fs) rec ps vars deep i lf=B at Pw hR hlp;clear hlp;apply ed;apply aq;simp[hC,wlf];apply aq;simp[hC];refine T.cut (K56 L gs ms ar fs nm ps bc bn Pu deep (n1+1) out B) ?_ ?_
  ·have PI:=ba L 14 hi;have PL:=hB;have Qa:=cE L i 14 hi hL yA yA;obtain⟨k,hk⟩:∃ k,cd L i 14=k:=⟨_,rfl⟩;simp only[z5,qa,hk] at PL;rw[hk] at PI Qa;apply aq;simp[hC];refine TL.cK ai [0] 1 (Qa) O5 rfl rfl rfl rfl OU Qc Qb rfl (TL.go' ai ?_);simp[hC];have Sv:vars.length≤1000:=by omega
   refine T.le (Le.trim [14,12,11,2,13,6,0,3] [0,1,2,3,4,5,6,7] 8 (by simp[aI,gK,-List.all_eq_true,-List.all_flatMap]) yA) ?_;simp;have ew:(⟨185,0,[CV.ax 0 0,CV.aA (gs.flatMap px) gs.length,CV.aA (ms.flatMap eJ) ms.length,CV.bl 2 0 fs.length,.int .i64 lf,CV.bool ar]⟩:Ob)=bp gs ms fs.length lf ar:=rfl;rw[ew];apply T.block;apply aq;simp[hC];refine T.bh rfl (fun h=>?_) (fun h=>?_)
   ·have h1:k.1<4:=by simpa using h
    rw[if_pos h1] at PL;apply aV;simp[hC,gK];refine TL.ju ai 3 5 [0,1,5] 4 (tU L hL vars Sv gs ms hm Ue O9 fs.length lf ar k.2 PI nm ps hp bc bn) O5 rfl rfl rfl OU yA OU OU rfl OU yB rfl OU OU (TL.go' ai ?_);simp[hC,kY];refine ae.le (Le.nz [] [7]) ?_;simp;refine ae.trim [12,11,2,13,6,0,3] [0,1,2,3,4,5,6,7] 8 Sp yA ⟨[],.dA false (jz L ar ms ps vars k.2).1,?_,?_⟩
    ·rw[← PL];rfl
    ·rw[← PL];simp[ik,kY,bR,eS,gK]
   have h1:¬ k.1<4:=by simpa using h
   rw[if_neg h1] at PL;apply aq;simp[hC];refine T.bh rfl (fun h=>?_) (fun h=>?_)
   ·have h2:k.1<7:=by simpa using h
    rw[if_pos h2] at PL;apply aV;simp[hC,gK];refine TL.ju ai 3 5 [0,1,5] 4 (tU L hL vars Sv gs ms hm Ue O9 fs.length lf ar k.2 PI nm ps hp bc bn) O5 rfl rfl rfl OU yA OU OU rfl OU yB rfl OU OU (TL.go' ai ?_);simp[hC,kY];refine ae.le (Le.nz [] [7]) ?_;simp;refine ae.trim [12,11,2,13,6,0,3] [0,1,2,3,4,5,6,7] 8 Sp yA ⟨[],.dA true (jz L ar ms ps vars k.2).1,?_,?_⟩
    ·rw[← PL];rfl
    ·rw[← PL];simp[ik,kY,bR,eS,gK]
   have h2:¬ k.1<7:=by simpa using h
   rw[if_neg h2] at PL;apply aq;simp[hC];refine T.bh rfl (fun h=>?_) (fun h=>?_)
   ·have h3:k.1=7:=by simpa using h
    rw[if_pos h3] at PL;apply T.seq;obtain⟨a,ha⟩:∃ a,lf % 26=a:=⟨_,rfl⟩;obtain⟨q,hq⟩:∃ q,lf / 26=q:=⟨_,rfl⟩;obtain⟨b,hb⟩:∃ b,q % 26=b:=⟨_,rfl⟩;have Vj:fG lf=⟨#[118]⟩++⟨#[97+UInt8.ofNat a,97+UInt8.ofNat b]⟩:=by simp[fG,ha,hq,hb]
    have so:lK BinOp.add ⟨#[118]⟩ ⟨#[97+UInt8.ofNat a,97+UInt8.ofNat b]⟩=some (.str (fG lf)):=by rw[Vj];rfl
    have a1:(lf:Int).tmod 26=(a:Int):=by rw[Int.tmod_eq_emod_of_nonneg yA];omega
    have a2:=cC (97+(a:Int)) yA yA;have a3:IntKind.u8.wrap (97+(a:Int))=97+(a:Int):=IntWalk.u8_in _ yA;have a4:(0:Int)≤97+(a:Int)∧97+(a:Int)<256:=by omega
    have a5:(97+(a:Int)).toNat=97+a:=by omega
    have q1:IntKind.i64.wrap ((lf:Int) / 26)=(q:Int):=by rw[cC _ yA yA];omega
    have b1:(q:Int).tmod 26=(b:Int):=by rw[Int.tmod_eq_emod_of_nonneg yA];omega
    have b2:=cC (97+(b:Int)) yA yA;have b3:IntKind.u8.wrap (97+(b:Int))=97+(b:Int):=IntWalk.u8_in _ yA;have b4:(0:Int)≤97+(b:Int)∧97+(b:Int)<256:=by omega
    have b5:(97+(b:Int)).toNat=97+b:=by omega
    refine T.rx ai follows [0,1,3,4,5,6,7,8,9,10,11,12,13,14,15,16,17,18,19,20,21,2,22,23,24,25,26] [(6,2),(6,22),(6,24),(9,2),(9,22),(9,24),(13,2),(13,22),(13,24),(17,2),(17,22),(17,24),(18,2),(18,22),(18,24),(19,2),(19,22),(19,24)] OV ?_;simp[hC,bp,a1,a2,a3,a4,a5,q1,b1,b2,b3,b4,b5,so];rw[ew];refine RX.ju 3 5 [0,1,5] [0] 4 (ny L hL vars Sv gs ms fs.length lf ar k.2 PI) rfl OU rfl rfl rfl OU yA OU OU rfl OU yB rfl OU OU OU rfl OU ?_;simp[bP];have Xv:(vars.length+1)*16≤140737488355328:=by omega
    apply aV;simp[hC,bg,Xv];refine ae.le (Le.trim [12,11,2,13,6,0,3] [0,1,2,3,4,6,7,36] 37 (by simp[gK,-List.all_eq_true,-List.all_flatMap,gG]) yA) ?_;simp;refine ae.le (Le.oX 36 5 rfl rfl yA OU OU (by simp[aI,ints,bp,gK,-List.all_eq_true,-List.all_flatMap,zj])) ?_;simp[aI,ints,bp,gK];refine ae.le (Le.nz [] [7]) ?_;simp;refine ae.trim [12,11,2,13,6,0,3] [0,1,2,3,4,5,6,7] 8 Ye yA ⟨[],.g6 (fG lf) (dq L ar vars k.2).1,?_,?_⟩
    ·rw[← PL];rfl
    ·rw[← PL];simp[ik,k8,eS,gK,bg,aI,ints,bp]
   have h3:¬ k.1=7:=by simpa using h
   rw[if_neg h3] at PL
      /- an assignment? -/
   refine T.cut (fun s=>s=⟨[(119,.bool (decide (k.1=8∧0<vars.length))),(14,I k.1),(12,.int .i64 ((n1:Int)+1)),(11,.bl 6 0 out.length),(2,.bl 5 0 vars.length),(13,.ax 7 0),(6,.ax 4 0),(0,.ax 1 0),(3,I deep)],
    [(0,aI L k.2),(1,bp gs ms fs.length lf ar),(2,cV fs),(3,bg Pu),(4,⟨192,0,gK nm ps bc bn⟩),(5,bg vars),(6,jG out),(7,⟨265,0,DF⟩)],8⟩) ?_ ?_
   ·by_cases h8:k.1=8
    ·apply aV;simp[hC,h8];refine ae.trim [119,14,12,11,2,13,6,0,3] [0,1,2,3,4,5,6,7] 8 Yd yA ?_;simp[DF]
    ·apply aV;simp[hC,h8];refine ae.trim [119,14,12,11,2,13,6,0,3] [0,1,2,3,4,5,6,7] 8 Yd yA ?_;simp[DF]
   rintro s rfl;refine T.bh rfl (fun h=>?_) (fun h=>?_)
   ·have h4:k.1=8∧0<vars.length:=by simpa using h
    rw[if_pos h4] at PL;have O1:=dm L k.2 h4.2;have Y1:=cE L k.2 vars.length PI hL h4.2 yA;have Qs:=ba L vars.length PI;obtain⟨j,hj⟩:∃ j,cd L k.2 vars.length=j:=⟨_,rfl⟩;rw[hj] at O1 Y1 Qs;simp only[hj] at PL;have OZ:(bg vars).cells.drop j.1=.str (vars.getD j.1 eS)::(vars.map CV.str).drop (j.1+1):=ji O1;have TN:(bg vars).sz=1:=rfl;refine T.rx ai follows [0,1,2,3,4,5,6,10,11,13,7,8,9,12,14,15,16,17,18] [(9,12),(9,14)] OV ?_;simp[hC,bp];rw[ew];refine RX.cK [0] [0] 1 (Y1) rfl OU rfl rfl rfl rfl OU Qc Qb rfl rfl rfl OU ?_;simp[O1,OZ];refine RX.ju 3 5 [0,1,5] [0] 4 (ny L hL vars Sv gs ms fs.length lf ar j.2 Qs) rfl OU rfl rfl rfl OU yA OU OU rfl OU yB rfl OU OU OU rfl OU ?_;simp[bP,DF];refine ae.le (Le.nz [] [7]) ?_;simp;refine ae.trim [12,11,2,13,6,0,3] [0,1,2,3,4,5,6,7] 8 (by simp[gK,-List.all_eq_true,-List.all_flatMap,gG]) yA ⟨[],.iD (vars.getD j.1 eS) (dq L ar vars j.2).1,?_,?_⟩
    ·rw[← PL];rfl
    ·rw[← PL];simp[ik,k8,eS,gK,O1]
   have h4:¬ (k.1=8∧0<vars.length):=by simpa using h
   rw[if_neg h4] at PL
      /- a call? -/
   refine T.cut (fun s=>s=⟨[(143,.bool (decide (k.1=9∨k.1=10))),(14,I k.1),(12,.int .i64 ((n1:Int)+1)),(11,.bl 6 0 out.length),(2,.bl 5 0 vars.length),(13,.ax 7 0),(6,.ax 4 0),(0,.ax 1 0),(3,I deep)],
    [(0,aI L k.2),(1,bp gs ms fs.length lf ar),(2,cV fs),(3,bg Pu),(4,⟨192,0,gK nm ps bc bn⟩),(5,bg vars),(6,jG out),(7,⟨265,0,DF⟩)],8⟩) ?_ ?_
   ·by_cases h9:k.1=9
    ·apply aV;simp[hC,h9];refine ae.trim [143,14,12,11,2,13,6,0,3] [0,1,2,3,4,5,6,7] 8 Wa yA ?_;simp
    ·apply aV;simp[hC,h9];refine ae.trim [143,14,12,11,2,13,6,0,3] [0,1,2,3,4,5,6,7] 8 Wa yA ?_;simp
   rintro s rfl;refine T.bh rfl (fun h=>?_) (fun h=>?_)
   ·have h5:k.1=9∨k.1=10:=by simpa using h
    have Vd:gX ⟨L,ar,ms,fs.map fun f=>(f.name,f.params)⟩ ps vars (decide (k.1=10)) k.2 lf=B:=by
     by_cases h9:k.1=9
     ·rw[if_pos h9] at PL;rw[← PL];simp[h9]
     ·have X9:k.1=10:=by omega
      rw[if_neg h9,if_pos X9] at PL;rw[← PL];simp[X9]
    simp only[gX,List.length_map] at Vd;apply aq;simp[hC,DF];refine T.cut (fun s=>s=⟨[(12,.int .i64 ((n1:Int)+1)),(11,.bl 6 0 out.length),(2,.bl 5 0 vars.length),(13,.ax 7 0),(6,.ax 4 0),(0,.ax 1 0),(3,I deep)],
     [(0,aI L k.2),(1,bp gs ms fs.length lf ar),(2,cV fs),(3,bg Pu),(4,⟨192,0,gK nm ps bc bn⟩),(5,bg vars),(6,jG out),(7,⟨265,0,stK (if k.1=10 then 4 else 3)⟩)],8⟩) ?_ ?_
    ·apply aq;simp[hC];refine T.bh rfl (fun h=>?_) (fun h=>?_)
     ·have X9:k.1=10:=by simpa using h
      apply aV;simp[hC];refine ae.trim [12,11,2,13,6,0,3] [0,1,2,3,4,5,6,7] 8 Yd yA ?_;simp[X9,stK]
     ·have X9:¬ k.1=10:=by simpa using h
      apply T.skip;simp;refine ae.trim [12,11,2,13,6,0,3] [0,1,2,3,4,5,6,7] 8 Yd yA ?_;simp[X9,stK]
    rintro s rfl;have O1:=dm L k.2 Q4;have Y1:=cE L k.2 fs.length PI hL Q4 yA;have Qs:=ba L fs.length PI;obtain⟨j,hj⟩:∃ j,cd L k.2 fs.length=j:=⟨_,rfl⟩;rw[hj] at O1 Y1 Qs;simp only[hj] at Vd;obtain⟨g,hg⟩:∃ g,fs[j.1]? = some g:=⟨fs[j.1],List.getElem?_eq_getElem O1⟩;have SV:(fs.map fun f=>(f.name,f.params)).getD j.1 (eS,[])=(g.name,g.params):=by simp[List.getD,hg]
    simp only[SV] at Vd;have VS:=Sn g (List.mem_of_getElem? hg);have OZ:(cV fs).cells.drop (j.1*3)=fq g++(fs.drop (j.1+1)).flatMap fq:=aN (f:=fq) (n:=3) (fun _=>rfl) hg;have TN:(cV fs).sz=3:=rfl;have O7:(cV fs).cells.length=fs.length*3:=bM (f:=fq) (n:=3) (fun _=>rfl) fs;apply T.seq;refine T.rx ai follows [0,1,2,3,4,5,6,7,8,9,10,11,12,13,14,18,15,16,17,19] [(4,18),(4,15),(8,18),(13,18),(18,15),(18,17)] OV ?_;simp[hC,bp];rw[ew];refine RX.cK [0] [0] 1 (Y1) rfl OU rfl rfl rfl rfl OU Qc Qb rfl rfl rfl OU ?_;simp[O1,OZ,fq];refine T.rx ai follows [0,1,2,3,4,5,7,6,8,9,10] [(1,6)] OV ?_;simp[hC,gK];refine RX.ju 3 5 [0,1,5] [0] 4 (GV L hL vars Sv gs ms hm Ue O9 fs.length lf ar j.2 Qs nm ps hp bc bn g.name g.params VS (bx g.body) g.body.length) rfl OU rfl rfl rfl OU yA OU OU rfl OU yB rfl OU OU OU rfl OU ?_;simp[stK];refine ae.le (Le.nz [] [7]) ?_;simp;refine ae.trim [12,11,2,13,6,0,3] [0,1,2,3,4,5,6,7] 8 Sp yA ⟨[],.ef (decide (k.1=10)) g.name (de L ar ms ps vars g.params j.2).1,?_,?_⟩
    ·rw[← Vd];rfl
    ·rw[← Vd];simp[ik,k8,bR,eS,gK,sG]
   have h5:¬ k.1=9∧¬ k.1=10:=by simpa using h
   rw[if_neg h5.1,if_neg h5.2] at PL
      /- a condition? -/
   refine T.cut (fun s=>s=⟨[(181,.bool (decide (k.1=11∧0<deep))),(14,I k.1),(12,.int .i64 ((n1:Int)+1)),(11,.bl 6 0 out.length),(2,.bl 5 0 vars.length),(13,.ax 7 0),(6,.ax 4 0),(0,.ax 1 0),(3,I deep)],
    [(0,aI L k.2),(1,bp gs ms fs.length lf ar),(2,cV fs),(3,bg Pu),(4,⟨192,0,gK nm ps bc bn⟩),(5,bg vars),(6,jG out),(7,⟨265,0,DF⟩)],8⟩) ?_ ?_
   ·by_cases h9:k.1=11
    ·apply aV;simp[hC,h9];refine ae.trim [181,14,12,11,2,13,6,0,3] [0,1,2,3,4,5,6,7] 8 Wa yA ?_;simp
    ·apply aV;simp[hC,h9];refine ae.trim [181,14,12,11,2,13,6,0,3] [0,1,2,3,4,5,6,7] 8 Wa yA ?_;simp
   rintro s rfl;refine T.bh rfl (fun h=>?_) (fun h=>?_)
   ·have h6:k.1=11∧0<deep:=by simpa using h
    rw[if_pos h6] at PL;obtain⟨d,rfl⟩:∃ d,deep=d+1:=⟨deep-1,by omega⟩;have RZ:((d+1:Nat):Int)-1=(d:Int):=by omega
    have wd:=cC (d:Int) yA yA;have Qs:=kf L ar vars PI;simp only[OK,Nat.add_sub_cancel] at PL;have YA:=Yq lf yA vars d 3 (dq L ar vars k.2).2 yA yA yA yA yA Qs;obtain⟨SH,US⟩:=VK vars d 3 (dq L ar vars k.2).2 lf Qs;obtain⟨th,Sy⟩:∃ th,rec vars d 3 (dq L ar vars k.2).2 lf=th:=⟨_,rfl⟩;rw[Sy] at YA SH US;simp only[Sy] at PL;apply T.seq;refine T.rx ai follows [0,1,3,4,5,6,7,9,2,8,10,11,12,13,14] [(4,2)] OV ?_;simp[hC,wd,gK];refine RX.ju 3 5 [0,1,5] [0] 4 (ny L hL vars Sv gs ms fs.length lf ar k.2 PI) rfl OU rfl rfl rfl OU yA OU OU rfl OU yB rfl OU OU OU rfl OU ?_;simp;refine RX.ju 3 5 [0,1,2,5] [0,1] 4 (YA) rfl OU rfl rfl rfl OU yA OU OU rfl OU yB rfl OU OU OU rfl OU ?_;simp[DF,bP];have W6:=cE L th.2.1 2 SH hL yA yA;have Vt:=ba L 2 SH;obtain⟨c,hc⟩:∃ c,cd L th.2.1 2=c:=⟨_,rfl⟩;rw[hc] at W6 Vt;simp only[hc] at PL;refine T.le (Le.trim [12,11,2,13,6,0,3] [0,1,2,3,4,5,6,7] 8 Ye yA) ?_;simp;apply aq;simp[hC,bp];refine TL.cK ai [0] 1 (W6) O5 rfl rfl rfl rfl OU Qc Qb rfl (TL.go' ai ?_);simp[hC];have ew2:(⟨185,0,[CV.ax 0 0,CV.aA (gs.flatMap px) gs.length,CV.aA (ms.flatMap eJ) ms.length,CV.bl 2 0 fs.length,I th.2.2,CV.bool ar]⟩:Ob)=bp gs ms fs.length th.2.2 ar:=rfl;rw[ew2];refine T.bh rfl (fun h=>?_) (fun h=>?_)
    ·have T0:c.1=1:=by simpa using h
     rw[if_pos T0] at PL;have PH:=Yq th.2.2 yA vars d 3 c.2 yA yA yA yA yA Vt;obtain⟨el,Zv⟩:∃ el,rec vars d 3 c.2 th.2.2=el:=⟨_,rfl⟩;rw[Zv] at PH;simp only[Zv] at PL;apply aV;simp[hC,wd];refine TL.ju ai 3 5 [0,1,2,5] 4 (PH) O5 rfl rfl rfl OU yA OU OU rfl OU yB rfl OU OU (TL.go' ai ?_);simp[hC,bP];refine ae.le (Le.nz [] [7]) ?_;simp;refine ae.trim [12,11,2,13,6,0,3] [0,1,2,3,4,5,6,7] 8 Ye yA ⟨[],.lE (dq L ar vars k.2).1 th.1 el.1,?_,?_⟩
     ·rw[← PL];rfl
     ·rw[← PL];simp[ik,k8,eS,gK]
    ·have T0:¬ c.1=1:=by simpa using h
     rw[if_neg T0] at PL;apply T.skip;simp;refine ae.le (Le.nz [] [7]) ?_;simp;refine ae.trim [12,11,2,13,6,0,3] [0,1,2,3,4,5,6,7] 8 Ye yA ⟨[],.lE (dq L ar vars k.2).1 th.1 [],?_,?_⟩
     ·rw[← PL];rfl
     ·rw[← PL];simp[ik,k8,eS,gK,bx]
   have h6:¬ (k.1=11∧0<deep):=by simpa using h
   rw[if_neg h6] at PL
      /- a loop? -/
   refine T.cut (fun s=>s=⟨[(213,.bool (decide (k.1=12∧0<deep))),(14,I k.1),(12,.int .i64 ((n1:Int)+1)),(11,.bl 6 0 out.length),(2,.bl 5 0 vars.length),(13,.ax 7 0),(6,.ax 4 0),(0,.ax 1 0),(3,I deep)],
    [(0,aI L k.2),(1,bp gs ms fs.length lf ar),(2,cV fs),(3,bg Pu),(4,⟨192,0,gK nm ps bc bn⟩),(5,bg vars),(6,jG out),(7,⟨265,0,DF⟩)],8⟩) ?_ ?_
   ·by_cases h9:k.1=12
    ·apply aV;simp[hC,h9];refine ae.trim [213,14,12,11,2,13,6,0,3] [0,1,2,3,4,5,6,7] 8 Wa yA ?_;simp
    ·apply aV;simp[hC,h9];refine ae.trim [213,14,12,11,2,13,6,0,3] [0,1,2,3,4,5,6,7] 8 Wa yA ?_;simp
   rintro s rfl;refine T.bh rfl (fun h=>?_) (fun h=>?_)
   ·have h7:k.1=12∧0<deep:=by simpa using h
    rw[if_pos h7] at PL;obtain⟨d,rfl⟩:∃ d,deep=d+1:=⟨deep-1,by omega⟩;have RZ:((d+1:Nat):Int)-1=(d:Int):=by omega
    have wd:=cC (d:Int) yA yA;have Qs:=kf L ar vars PI;simp only[NV,Nat.add_sub_cancel] at PL;have YA:=Yq lf yA vars d 3 (dq L ar vars k.2).2 yA yA yA yA yA Qs;obtain⟨th,Sy⟩:∃ th,rec vars d 3 (dq L ar vars k.2).2 lf=th:=⟨_,rfl⟩;rw[Sy] at YA;simp only[Sy] at PL;refine T.rx ai follows [0,1,3,4,5,6,7,9,2,8,10,11,12,13,14] [(4,2)] OV ?_;simp[hC,wd,gK];refine RX.ju 3 5 [0,1,5] [0] 4 (ny L hL vars Sv gs ms fs.length lf ar k.2 PI) rfl OU rfl rfl rfl OU yA OU OU rfl OU yB rfl OU OU OU rfl OU ?_;simp;refine RX.ju 3 5 [0,1,2,5] [0,1] 4 (YA) rfl OU rfl rfl rfl OU yA OU OU rfl OU yB rfl OU OU OU rfl OU ?_;simp[DF,bP];refine ae.le (Le.nz [] [7]) ?_;simp;refine ae.trim [12,11,2,13,6,0,3] [0,1,2,3,4,5,6,7] 8 Ye yA ⟨[],.cJ (dq L ar vars k.2).1 th.1,?_,?_⟩
    ·rw[← PL];rfl
    ·rw[← PL];simp[ik,k8,eS,gK]
   have h7:¬ (k.1=12∧0<deep):=by simpa using h
   rw[if_neg h7] at PL
      /- the end, or statements between a lock and its unlock -/
   obtain⟨i2,SJ⟩:∃ i2,(if k.1=13 then (cd L k.2 3).2 else k.2)=i2:=⟨_,rfl⟩;have Wo:i2≤L.length:=by
    rw[← SJ];split
    ·exact ba _ _ PI
    ·exact PI
   refine T.cut (fun s=>s=⟨[(232,.bool (decide (k.1=13∧(cd L k.2 3).1=1))),(12,.int .i64 ((n1:Int)+1)),(11,.bl 6 0 out.length),(2,.bl 5 0 vars.length),(13,.ax 7 0),(6,.ax 4 0),(0,.ax 1 0),(3,I deep)],
    [(0,aI L i2),(1,bp gs ms fs.length lf ar),(2,cV fs),(3,bg Pu),(4,⟨192,0,gK nm ps bc bn⟩),(5,bg vars),(6,jG out),(7,⟨265,0,DF⟩)],8⟩) ?_ ?_
   ·by_cases h9:k.1=13
    ·rw[if_pos h9] at SJ;apply aV;simp[hC,h9,bp];refine TL.cK ai [0] 1 (cE L k.2 3 PI hL yA yA) O5 rfl rfl rfl rfl OU Qc Qb rfl (TL.go' ai ?_);simp[hC];refine ae.trim [232,12,11,2,13,6,0,3] [0,1,2,3,4,5,6,7] 8 Wa yA ?_;simp[SJ]
    ·rw[if_neg h9] at SJ;apply aV;simp[hC,h9];refine ae.trim [232,12,11,2,13,6,0,3] [0,1,2,3,4,5,6,7] 8 Wa yA ?_;simp[SJ]
   rintro s rfl;refine T.bh rfl (fun h=>?_) (fun h=>?_)
   ·have h8:k.1=13∧(cd L k.2 3).1=1:=by simpa using h
    rw[if_pos h8] at PL;rw[if_pos h8.1] at SJ;apply aV;simp[hC,DF];refine ae.le (Le.nz [] [7]) ?_;simp;refine ae.trim [12,11,2,13,6,0,3] [0,1,2,3,4,5,6,7] 8 Yd yA ⟨[],.jF,?_,?_⟩
    ·rw[← PL];rfl
    ·rw[← PL,← SJ];simp[ik,k8,bR,eS,gK]
   have h8:¬ (k.1=13∧(cd L k.2 3).1=1):=by simpa using h
   rw[if_neg h8] at PL;have Vd:Bv ⟨L,ar,ms,fs.map fun f=>(f.name,f.params)⟩ rec ps vars i2 lf=B:=by
    rw[← PL,← SJ];by_cases h9:k.1=13
    ·rw[if_pos h9,if_pos h9]
    ·rw[if_neg h9,if_neg h9]
   simp only[Bv] at Vd;have Vs:=qt L ar ms ps vars Wo;obtain⟨rf,YP⟩:∃ rf,jz L ar ms ps vars i2=rf:=⟨_,rfl⟩;have Ra:=tU L hL vars Sv gs ms hm Ue O9 fs.length lf ar i2 Wo nm ps hp bc bn;rw[YP] at Ra Vs;simp only[YP] at Vd;have Pj:=Yq lf yA vars 0 2 rf.2 yA yA yA yA yA Vs;obtain⟨_,US⟩:=VK vars 0 2 rf.2 lf Vs;obtain⟨th,Sy⟩:∃ th,rec vars 0 2 rf.2 lf=th:=⟨_,rfl⟩;rw[Sy] at Pj US;simp only[Sy] at Vd;apply aq;simp[hC,gK];refine TL.ju ai 3 5 [0,1,5] 4 (Ra) O5 rfl rfl rfl OU yA OU OU rfl OU yB rfl OU OU (TL.go' ai ?_);simp[hC,kY,DF];apply aq;simp[hC];have Ub:=nD out;have Si:(out.length+1)*192≤140737488355328:=by omega
   have Qz:(out.length+1+th.1.length)*192≤140737488355328:=by omega
   have TO:=nD th.1;have hln:(out.length+1)*11=out.length*11+11:=by omega
   apply aq;simp[hC,jG,Ub,Si,bb];apply aq;simp[hC];refine TL.ju ai 3 5 [0,1,2,5] 4 (Pj) O5 rfl rfl rfl OU yA OU OU rfl OU yB rfl OU OU (TL.go' ai ?_);simp[hC,Ub,TO,Qz,hln];apply aV;simp[hC];refine ae.le (Le.trim [12,11,2,13,6,0,3] [0,1,2,3,4,5,7,11] 12 yCy yA) ?_;simp;refine ae.le (Le.nz [] [7,11]) ?_;simp;refine ae.le (Le.oX 11 6 rfl rfl yA OU OU (by simp[aI,ints,bp,-List.all_eq_true,-List.all_flatMap,bj (bF out),bj (bF th.1)])) ?_;simp[aI,ints,bp,aZ (bF out),aZ (bF th.1)];refine ae.trim [12,11,2,13,6,0,3] [0,1,2,3,4,5,6,7] 8 yCy yA ⟨.dA false rf.1::th.1,.dA true rf.1,?_,?_⟩
   ·rw[← Vd]
   ·rw[← Vd];have e1:out.length+1+th.1.length=out.length+(th.1.length+1):=by omega
    simp[ik,kY,bR,eS,gK,jG,uT,bx,aI,ints,bp,e1]
  ·rintro s ⟨front,last,SC,rfl⟩;have PO:(out++front).length≤2000:=by
    have:=Pw.n;rw[SC] at this;simp at this ⊢;omega
   have Ts:=nD (out++front);generalize hO:out++front=O at PO Ts;have hb:(O.length+1)*192≤140737488355328:=by omega
   have wn:=cC (n1:Int) yA yA;apply aV;simp[hC,jG,kE,bb,Ts,hb,G6];apply aV;simp[hC,wn];refine⟨n1,by omega,ae.le (Le.trim [12,11,2,6,0,3] [0,1,2,3,4,5,9] 10 (by simp[aI,bp,gK,-List.all_eq_true,-List.all_flatMap,ah (bF O),ah (iz last)]) yA) ?_⟩;simp;refine ae.le (Le.oX 9 6 rfl rfl yA OU OU (by simp[aI,ints,bp,gK,-List.all_eq_true,-List.all_flatMap,bj (bF O),bj (iz last)])) ?_;simp[aI,ints,bp,gK,aZ (bF O),aZ (iz last)];refine ae.trim [12,11,2,6,0,3] [0,1,2,3,4,5,6] 7 (by simp[-List.all_eq_true,-List.all_flatMap,ah (bF O),ah (iz last)]) yA ⟨B.vars,B.i,B.left,out++B.out,?_,Pw.i,?_,?_,?_,by omega,?_⟩
   ·rw[hR,List.append_assoc]
   ·have:=Pw.l;omega
   ·have:=Pw.v;omega
   ·have:=Pw.n;simp;omega
   ·have e1:out++B.out=O++[last]:=by rw[SC,← List.append_assoc,hO]
    rw[e1];simp[jG,uT,bx,aI,ints,bp,gK]
end Go.Proofs.YtnecpnjdonibmaaGreat
