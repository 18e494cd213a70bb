/- writer.block. -/
import Derived.Test.YtnecpnjdonibmaaGreatZ25
namespace Go.Proofs.YtnecpnjdonibmaaGreat
open Go.Can Go.aP
def cM (fs:List Fu):Ob:=⟨192,3,fs.flatMap eF⟩
def jc (l:List Sm):Ob:=⟨265,11,bz l⟩
def oK (L:List Int)(ar:Bool)(ms:List Mx)(fs:List Fu):Wr:=⟨L,ar,ms,fs.map fun f=>(f.name,f.params)⟩
theorem gV (x:Sm):trees (gM x)=true:=by
 cases x with
 | di u r=>rcases r with ⟨_,_ | _⟩<;>rfl
 | gA s e=>cases e<;>rfl
 | hD s e=>cases e<;>rfl
 | kG e _ _=>cases e<;>rfl
 | cC e _=>cases e<;>rfl
 | _=>rfl
theorem bC (l:List Sm):trees (bz l)=true:=by
 induction l with
 | nil=>rfl
 | cons a r ih=>rw[bz,bF,ih,gV];rfl
theorem mg (l:List Sm):(bz l).length=l.length*11:=by rw[mT];exact bk (f:=gM) jR l
theorem sW:∀ a b:List Sm,bz (a++b)=bz a++bz b
 | [],b=>rfl
 | x::r,b=>by rw[List.cons_append,bz,bz,sW r b,List.append_assoc]
theorem F8 (x:Sm):List.take 11 (gM x)=gM x:=List.take_of_length_le (by simp[jR])
theorem cF (fs:List Fu):trees (fs.flatMap eF)=true:=by
 induction fs with
 | nil=>rfl
 | cons a r ih=>rw[List.flatMap_cons,bF,ih];rfl
theorem J9 (fs:List Fu)(o:Nat)(cs:List CV)(n:Nat):(fs.flatMap eF).map (cB o cs n)=fs.flatMap eF:=by
 induction fs with
 | nil=>rfl
 | cons a r ih=>rw[List.flatMap_cons,List.map_append,ih];rfl
@[simp] theorem fsOb_frz (l:List Fu)(o:Nat)(cs:List CV)(n:Nat):(⟨(cM l).elem,(cM l).sz,(cM l).cells.map (cB o cs n)⟩:Ob)=cM l:=by
 simp only[cM,J9]
@[simp] theorem NF (ρ:Nat→Nat)(l:List Fu):ct ρ (cM l)=cM l:=by
 simp only[ct,cM,ay ρ _ (cF l)]
@[simp] theorem J7 (l:List Fu)(n:Nat):(cM l).cells.all (a7 n)=true:=af (cF l) n
@[simp] theorem fsOb_lts (l:List Fu)(n:Nat):aS n (cM l).cells=true:=by rw[cr];exact af (cF l) n
@[simp] theorem fsOb_ok1 (l:List Fu)(o q:Nat):(cM l).cells.all (lY o q)=true:=bf (cF l) o q
@[simp] theorem EK (l:List Fu)(o q:Nat):(cM l).cells.map (cZ o q)=(cM l).cells:=aV (cF l) o q
@[simp] theorem fsOb_eta (l:List Fu):(⟨(cM l).elem,(cM l).sz,(cM l).cells⟩:Ob)=cM l:=rfl
@[simp] theorem Om (l:List Fu)(n o q:Nat):(cM l).cells.all (a7 n∘cZ o q)=true:=by rw[← List.all_map,EK];exact J7 l n
@[simp] theorem Jg (l:List Sm)(n:Nat):(jc l).cells.all (a7 n)=true:=af (bC l) n
@[simp] theorem smOb_ok1 (l:List Sm)(o q:Nat):(jc l).cells.all (lY o q)=true:=bf (bC l) o q
@[simp] theorem DY (l:List Sm)(o q:Nat):(jc l).cells.map (cZ o q)=(jc l).cells:=aV (bC l) o q
@[simp] theorem smOb_eta (l:List Sm):(⟨(jc l).elem,(jc l).sz,(jc l).cells⟩:Ob)=jc l:=rfl
@[simp] theorem NA (l:List Sm)(n o q:Nat):(jc l).cells.all (a7 n∘cZ o q)=true:=by rw[← List.all_map,DY];exact Jg l n
section
variable (L:List Int)(gs:List Gl)(ms:List Mx)(ar:Bool)(fs:List Fu)(nm:ByteArray)(ps:List Pm)(bc:List CV)(bn:Nat)(Qc:List ByteArray)(rec:Rec)(deep f:Nat)(YR:List Sm×Nat×Nat)
def J56 (m:Nat)(s:St):Prop:=∃ (vars:List ByteArray) (i left:Nat) (out:List Sm),YR=(out++(qP (oK L ar ms fs) rec ps deep m vars i left).1,(qP (oK L ar ms fs) rec ps deep m vars i left).2)∧
 i≤L.length∧left≤f∧vars.length+left≤500∧out.length+2*left≤1000∧m≤10∧
 s=⟨[(12,I m),(11,.bj 6 0 out.length),(2,.bj 5 0 vars.length),(6,.av 4 0),(0,.av 1 0),(3,I deep)],
  [(0,aG L i),(1,bq gs ms fs.length left ar),(2,cM fs),(3,ba Qc),(4,⟨192,0,fW nm ps bc bn⟩),(5,ba vars),(6,jc out)],7⟩
def K56 (m:Nat)(out:List Sm)(b:Lt)(s:St):Prop:=∃ (front:List Sm) (last:Sm),b.out=front++[last]∧
 s=⟨[(12,I m),(11,.bj 6 0 (out++front).length),(2,.bj 5 0 b.vars.length),(13,.av 7 0),(6,.av 4 0),(0,.av 1 0),(3,I deep)],
  [(0,aG L b.i),(1,bq gs ms fs.length b.left ar),(2,cM fs),(3,ba Qc),(4,⟨192,0,fW nm ps bc bn⟩),(5,ba b.vars),(6,jc (out++front)),(7,⟨265,0,gM last⟩)],8⟩
end
@[simp] theorem Oo (e:Ex)(a b c d f:CV):List.take 7 (bK e++[a,b,c,d,f])=bK e++[a,b,c]:=by cases e<;>rfl
@[simp] theorem Ot (e:Ex)(a b c d f:CV):List.drop 8 (bK e++[a,b,c,d,f])=[f]:=by cases e<;>rfl
@[simp] theorem On (e:Ex)(a b c d f:CV):List.take 8 (bK e++[a,b,c,d,f])=bK e++[a,b,c,d]:=by cases e<;>rfl
@[simp] theorem Oq (e:Ex)(a b c d f:CV):List.drop 9 (bK e++[a,b,c,d,f])=[]:=by cases e<;>rfl
@[simp] theorem nz_smsC (l:List Sm):(bz l).map nz=bz l:=by
 induction l with
 | nil=>rfl
 | cons a r ih=>
  rw[bz,List.map_append,ih];congr 1
  cases a with
  | di u r=>rcases r with ⟨_,_ | _⟩<;>rfl
  | gA s e=>cases e<;>rfl
  | hD s e=>cases e<;>rfl
  | kG e _ _=>cases e<;>rfl
  | cC e _=>cases e<;>rfl
  | _=>rfl
def stK (c:Int):List CV:=[I c,.str ⟨#[]⟩,.int .i64 0,.int .i64 0,.str ⟨#[]⟩,.ai,.str ⟨#[]⟩,.ai,.ai,.ai,.ai]
def Cz:List CV:=[I 5,.str ⟨#[]⟩,.int .i64 0,.int .i64 0,.str ⟨#[]⟩,.ai,.str ⟨#[]⟩,.ai,.ai,.ai,.ai]
set_option maxHeartbeats 8000000 in
theorem DM (L:List Int)(hL:L.length≤1000)(gs:List Gl)(ms:List Mx)(hm:0<ms.length)(V8:ms.length≤100)(PZ:∀ m∈ms,m.size≤1000)(ar:Bool)(fs:List Fu)(RP:0<fs.length)(hfs2:fs.length≤100)(Td:∀ f∈fs,f.params.length≤100)
  (nm:ByteArray) (ps:List Pm) (hp:ps.length≤100) (bc:List CV) (bn:Nat):∀ (left f:Nat) (vars:List ByteArray) (deep most i:Nat),left≤f→left≤100→vars.length+left≤500→deep≤10→most≤9→i≤L.length →
  Body Tryz.prog au 132 [.av 1 0,.agg (fW nm ps bc bn),.bj 3 0 vars.length,I deep,I most] [(0,aG L i),(1,bq gs ms fs.length left ar),(2,cM fs),(3,ba vars)] 4
   (iy (.az (bz (l7 (oK L ar ms fs) ps f vars deep most i left).1) (l7 (oK L ar ms fs) ps f vars deep most i left).1.length) [(0,aG L (l7 (oK L ar ms fs) ps f vars deep most i left).2.1),(1,bq gs ms fs.length (l7 (oK L ar ms fs) ps f vars deep most i left).2.2 ar),(2,cM fs),(3,ba vars)] 4):=by
 intro RV
 induction RV using Nat.strongRecOn with
 | _ RV ih=>
 intro f Qc deep most i0 hl hf hvl Ur hmo Wd;generalize Ym:l7 (oK L ar ms fs) ps f Qc deep most i0 RV=YR;have VV:YR=qP (oK L ar ms fs) (l7 (oK L ar ms fs) ps (f-1)) ps deep (bZ L i0 (most+1)).1 Qc (bZ L i0 (most+1)).2 RV:=by
  cases f with
  | zero=>
   have:RV=0:=by omega
   subst this;rw[← Ym]
   cases h:(bZ L i0 (most+1)).1 with
   | zero=>simp[l7,qP,oK]
   | succ n=>simp[l7,qP,oK]
  | succ f=>rw[← Ym];rfl
 clear Ym;have Wv:uT L (l7 (oK L ar ms fs) ps (f-1)):=sE (oK L ar ms fs) ps (f-1);have Y4:=fun (left:Nat) (PQ:left<RV)=>ih left PQ (f-1);clear ih;generalize hrec:l7 (oK L ar ms fs) ps (f-1)=rec at Y4 VV Wv;have XC:(bZ L i0 (most+1)).1≤most:=Nat.le_of_lt_succ (da L i0 yA);have Qm:=a8 L (most+1) Wd;have wm:=cE ((most:Int)+1) yA yA;refine Body.iV Tryz.func132 rfl PH (by simp[Tryz.ntmps132]) fun C hC PN=>?_;rw[Tryz.ntmps132] at hC;apply aj;simp[hC,fW];apply aj;simp[hC];have hb0:Qc.length*16≤140737488355328:=by omega
 apply aj;simp[hC,ba,hb0];apply aU;simp[hC,wm,bq];refine TL.cD ah [0] 1 (cu L i0 (most+1) Wd hL yA yA) PV rfl rfl rfl rfl zX QS QR rfl (TL.go' ah ?_);simp[hC];generalize bZ L i0 (most+1)=k at XC Qm VV;have PY:List.take Qc.length (Qc.map CV.str)=Qc.map CV.str:=List.take_of_length_le zX;simp only[PY];apply T.block;refine T.aJ (J56 L gs ms ar fs nm ps bc bn Qc rec deep RV YR) (n:=k.1) ?_ ?_
 ·refine aa.le (Le.own 11 265 11 rfl) ?_;simp;refine aa.le (Le.trim [12,11,2,6,0,3] [0,1,2,3,4,6,7] 8 (by simp[aG,cM,-List.all_eq_true,-List.all_flatMap,af (cF fs)]) yA) ?_;simp;refine aa.le (Le.nB 6 5 rfl rfl yA zX zX (by simp[aG,ints,cM,-List.all_eq_true,-List.all_flatMap,bf (cF fs),bf (dP Qc)])) ?_;simp[aV (cF fs),aV (dP Qc),aG,cM,ints];refine aa.le (Le.nB 7 6 rfl rfl yA zX zX (by simp[-List.all_eq_true,-List.all_flatMap,bf (cF fs),bf (dP Qc)])) ?_;simp[aV (cF fs),aV (dP Qc)];refine aa.trim [12,11,2,6,0,3] [0,1,2,3,4,5,6] 7 (by simp[-List.all_eq_true,-List.all_flatMap,af (cF fs),af (dP Qc)]) yA ⟨Qc,k.2,RV,[],?_,Qm,Nat.le_refl _,hvl,?_,by omega,?_⟩
  ·rw[VV];rfl
  ·simp;omega
  ·simp[ba,aG,bq,cM,jc,ints,bz,fW]
 ·rintro n s ⟨vars,i,left,out,hR,hi,hle,hvl',hol,hm10,rfl⟩;by_cases Ta:n=0
  ·subst Ta;have P8:YR=(out,i,left):=by rw[hR];simp[qP]
   clear hR;apply aU;simp[hC];refine bh ?_;simp;apply T.exit;simp;apply aj;simp[hC];apply T.ret;have Y8:(bz out).take (out.length*11)=bz out:=List.take_of_length_le (by rw[mg];exact Nat.le_refl _);refine aa.le (Le.trim [10] [0,1,2,3,6] 7 (by simp[aG,bq,-List.all_eq_true,-List.all_flatMap]) yA) ?_;simp;refine aa.le (Le.dz (o:=6) rfl (bC out)) ?_;simp[jc,Y8];refine aa.trim [10] [0,1,2,3] 4 (by simp[aG,bq,-List.all_eq_true,-List.all_flatMap]) yA ⟨_,?_,rfl,?_,rfl⟩
   ·simp[P8]
   ·simp[bq,ba,P8]
  obtain⟨n1,rfl⟩:∃ n1,n=n1+1:=⟨n-1,by omega⟩;by_cases V9:left=0
  ·subst V9;have P8:YR=(out,i,0):=by rw[hR];simp[qP]
   clear hR;apply aU;simp[hC,bq];refine bh ?_;simp;apply T.exit;simp;apply aj;simp[hC];apply T.ret;have Y8:(bz out).take (out.length*11)=bz out:=List.take_of_length_le (by rw[mg];exact Nat.le_refl _);refine aa.le (Le.trim [10] [0,1,2,3,6] 7 (by simp[aG,-List.all_eq_true,-List.all_flatMap]) yA) ?_;simp;refine aa.le (Le.dz (o:=6) rfl (bC out)) ?_;simp[jc,Y8];refine aa.trim [10] [0,1,2,3] 4 (by simp[aG,-List.all_eq_true,-List.all_flatMap]) yA ⟨_,?_,rfl,?_,rfl⟩
   ·simp[P8]
   ·simp[ba,P8]
  obtain⟨lf,rfl⟩:∃ lf,left=lf+1:=⟨left-1,by omega⟩;have hlp:qP (oK L ar ms fs) rec ps deep (n1+1) vars i (lf+1)=((yI (oK L ar ms fs) rec ps vars deep i lf).out++(qP (oK L ar ms fs) rec ps deep n1 (yI (oK L ar ms fs) rec ps vars deep i lf).vars (yI (oK L ar ms fs) rec ps vars deep i lf).i (yI (oK L ar ms fs) rec ps vars deep i lf).left).1,(qP (oK L ar ms fs) rec ps deep n1 (yI (oK L ar ms fs) rec ps vars deep i lf).vars (yI (oK L ar ms fs) rec ps vars deep i lf).i (yI (oK L ar ms fs) rec ps vars deep i lf).left).2):=by
   rw[qP,if_neg yA];rfl
  rw[hlp] at hR;have wl:((lf+1:Nat):Int)-1=(lf:Int):=by omega
  have wlf:=cE (lf:Int) yA yA;apply aU;simp[hC,bq];refine gQ ?_;simp;have Qa:=Gf (w:=oK L ar ms fs) Wv ps vars deep lf hi;generalize hB:yI (oK L ar ms fs) rec ps vars deep i lf=B at Qa hR hlp;clear hlp;apply dZ;apply aj;simp[hC,wlf];apply aj;simp[hC];refine T.cut (K56 L gs ms ar fs nm ps bc bn Qc deep (n1+1) out B) ?_ ?_
  ·have Qm:=a8 L 14 hi;have Qw:=hB;have Q2:=cu L i 14 hi hL yA yA;obtain⟨k,hk⟩:∃ k,bZ L i 14=k:=⟨_,rfl⟩;simp only[yI,oK,hk] at Qw;rw[hk] at Qm Q2;apply aj;simp[hC];refine TL.cD ah [0] 1 (Q2) PV rfl rfl rfl rfl zX QS QR rfl (TL.go' ah ?_);simp[hC];have Tk:vars.length≤1000:=by omega
   refine T.le (Le.trim [14,12,11,2,13,6,0,3] [0,1,2,3,4,5,6,7] 8 (by simp[aG,fW,-List.all_eq_true,-List.all_flatMap]) yA) ?_;simp;have ew:(⟨185,0,[CV.av 0 0,CV.az (gs.flatMap nW) gs.length,CV.az (ms.flatMap eL) ms.length,CV.bj 2 0 fs.length,.int .i64 lf,CV.bool ar]⟩:Ob)=bq gs ms fs.length lf ar:=rfl;rw[ew];apply T.block;apply aj;simp[hC];refine T.bb rfl (fun h=>?_) (fun h=>?_)
   ·have h1:k.1<4:=by simpa using h
    rw[if_pos h1] at Qw;apply aW;simp[hC,fW];refine TL.ja ah 3 5 [0,1,5] 4 (rP L hL vars Tk gs ms hm V8 PZ fs.length lf ar k.2 Qm nm ps hp bc bn) PV rfl rfl rfl zX yA zX zX rfl zX Ug rfl zX zX (TL.go' ah ?_);simp[hC,j9];refine aa.le (Le.nz [] [7]) ?_;simp;refine aa.trim [12,11,2,13,6,0,3] [0,1,2,3,4,5,6,7] 8 SK yA ⟨[],.di false (iU L ar ms ps vars k.2).1,?_,?_⟩
    ·rw[← Qw];rfl
    ·rw[← Qw];simp[gM,j9,bK,eS,fW]
   have h1:¬ k.1<4:=by simpa using h
   rw[if_neg h1] at Qw;apply aj;simp[hC];refine T.bb rfl (fun h=>?_) (fun h=>?_)
   ·have h2:k.1<7:=by simpa using h
    rw[if_pos h2] at Qw;apply aW;simp[hC,fW];refine TL.ja ah 3 5 [0,1,5] 4 (rP L hL vars Tk gs ms hm V8 PZ fs.length lf ar k.2 Qm nm ps hp bc bn) PV rfl rfl rfl zX yA zX zX rfl zX Ug rfl zX zX (TL.go' ah ?_);simp[hC,j9];refine aa.le (Le.nz [] [7]) ?_;simp;refine aa.trim [12,11,2,13,6,0,3] [0,1,2,3,4,5,6,7] 8 SK yA ⟨[],.di true (iU L ar ms ps vars k.2).1,?_,?_⟩
    ·rw[← Qw];rfl
    ·rw[← Qw];simp[gM,j9,bK,eS,fW]
   have h2:¬ k.1<7:=by simpa using h
   rw[if_neg h2] at Qw;apply aj;simp[hC];refine T.bb rfl (fun h=>?_) (fun h=>?_)
   ·have h3:k.1=7:=by simpa using h
    rw[if_pos h3] at Qw;apply T.seq;obtain⟨a,ha⟩:∃ a,lf % 26=a:=⟨_,rfl⟩;obtain⟨q,hq⟩:∃ q,lf / 26=q:=⟨_,rfl⟩;obtain⟨b,hb⟩:∃ b,q % 26=b:=⟨_,rfl⟩;have V2:eR lf=⟨#[118]⟩++⟨#[97+UInt8.ofNat a,97+UInt8.ofNat b]⟩:=by simp[eR,ha,hq,hb]
    have so:kM BinOp.add ⟨#[118]⟩ ⟨#[97+UInt8.ofNat a,97+UInt8.ofNat b]⟩=some (.str (eR lf)):=by rw[V2];rfl
    have a1:(lf:Int).tmod 26=(a:Int):=by rw[Int.tmod_eq_emod_of_nonneg yA];omega
    have a2:=cE (97+(a:Int)) yA yA;have a3:IntKind.u8.wrap (97+(a:Int))=97+(a:Int):=IntWalk.u8_in _ yA;have a4:(0:Int)≤97+(a:Int)∧97+(a:Int)<256:=by omega
    have a5:(97+(a:Int)).toNat=97+a:=by omega
    have q1:IntKind.i64.wrap ((lf:Int) / 26)=(q:Int):=by rw[cE _ yA yA];omega
    have b1:(q:Int).tmod 26=(b:Int):=by rw[Int.tmod_eq_emod_of_nonneg yA];omega
    have b2:=cE (97+(b:Int)) yA yA;have b3:IntKind.u8.wrap (97+(b:Int))=97+(b:Int):=IntWalk.u8_in _ yA;have b4:(0:Int)≤97+(b:Int)∧97+(b:Int)<256:=by omega
    have b5:(97+(b:Int)).toNat=97+b:=by omega
    refine T.rx ah follows [0,1,3,4,5,6,7,8,9,10,11,12,13,14,15,16,17,18,19,20,21,2,22,23,24,25,26] [(6,2),(6,22),(6,24),(9,2),(9,22),(9,24),(13,2),(13,22),(13,24),(17,2),(17,22),(17,24),(18,2),(18,22),(18,24),(19,2),(19,22),(19,24)] PH ?_;simp[hC,bq,a1,a2,a3,a4,a5,q1,b1,b2,b3,b4,b5,so];rw[ew];refine RX.ja 3 5 [0,1,5] [0] 4 (mb L hL vars Tk gs ms fs.length lf ar k.2 Qm) rfl zX rfl rfl rfl zX yA zX zX rfl zX Ug rfl zX zX zX rfl zX ?_;simp[bJ];have Yi:(vars.length+1)*16≤140737488355328:=by omega
    apply aW;simp[hC,ba,Yi];refine aa.le (Le.trim [12,11,2,13,6,0,3] [0,1,2,3,4,6,7,36] 37 (by simp[fW,-List.all_eq_true,-List.all_flatMap,fT]) yA) ?_;simp;refine aa.le (Le.nB 36 5 rfl rfl yA zX zX (by simp[aG,ints,bq,fW,-List.all_eq_true,-List.all_flatMap,xR])) ?_;simp[aG,ints,bq,fW];refine aa.le (Le.nz [] [7]) ?_;simp;refine aa.trim [12,11,2,13,6,0,3] [0,1,2,3,4,5,6,7] 8 YU yA ⟨[],.gA (eR lf) (dc L ar vars k.2).1,?_,?_⟩
    ·rw[← Qw];rfl
    ·rw[← Qw];simp[gM,ke,eS,fW,ba,aG,ints,bq]
   have h3:¬ k.1=7:=by simpa using h
   rw[if_neg h3] at Qw
      /- an assignment? -/
   refine T.cut (fun s=>s=⟨[(119,.bool (decide (k.1=8∧0<vars.length))),(14,I k.1),(12,.int .i64 ((n1:Int)+1)),(11,.bj 6 0 out.length),(2,.bj 5 0 vars.length),(13,.av 7 0),(6,.av 4 0),(0,.av 1 0),(3,I deep)],
    [(0,aG L k.2),(1,bq gs ms fs.length lf ar),(2,cM fs),(3,ba Qc),(4,⟨192,0,fW nm ps bc bn⟩),(5,ba vars),(6,jc out),(7,⟨265,0,Cz⟩)],8⟩) ?_ ?_
   ·by_cases h8:k.1=8
    ·apply aW;simp[hC,h8];refine aa.trim [119,14,12,11,2,13,6,0,3] [0,1,2,3,4,5,6,7] 8 YT yA ?_;simp[Cz]
    ·apply aW;simp[hC,h8];refine aa.trim [119,14,12,11,2,13,6,0,3] [0,1,2,3,4,5,6,7] 8 YT yA ?_;simp[Cz]
   rintro s rfl;refine T.bb rfl (fun h=>?_) (fun h=>?_)
   ·have h4:k.1=8∧0<vars.length:=by simpa using h
    rw[if_pos h4] at Qw;have PQ:=da L k.2 h4.2;have ZI:=cu L k.2 vars.length Qm hL h4.2 yA;have Q6:=a8 L vars.length Qm;obtain⟨j,hj⟩:∃ j,bZ L k.2 vars.length=j:=⟨_,rfl⟩;rw[hj] at PQ ZI Q6;simp only[hj] at Qw;have PL:(ba vars).cells.drop j.1=.str (vars.getD j.1 eS)::(vars.map CV.str).drop (j.1+1):=iG PQ;have Vo:(ba vars).sz=1:=rfl;refine T.rx ah follows [0,1,2,3,4,5,6,10,11,13,7,8,9,12,14,15,16,17,18] [(9,12),(9,14)] PH ?_;simp[hC,bq];rw[ew];refine RX.cD [0] [0] 1 (ZI) rfl zX rfl rfl rfl rfl zX QS QR rfl rfl rfl zX ?_;simp[PQ,PL];refine RX.ja 3 5 [0,1,5] [0] 4 (mb L hL vars Tk gs ms fs.length lf ar j.2 Q6) rfl zX rfl rfl rfl zX yA zX zX rfl zX Ug rfl zX zX zX rfl zX ?_;simp[bJ,Cz];refine aa.le (Le.nz [] [7]) ?_;simp;refine aa.trim [12,11,2,13,6,0,3] [0,1,2,3,4,5,6,7] 8 (by simp[fW,-List.all_eq_true,-List.all_flatMap,fT]) yA ⟨[],.hD (vars.getD j.1 eS) (dc L ar vars j.2).1,?_,?_⟩
    ·rw[← Qw];rfl
    ·rw[← Qw];simp[gM,ke,eS,fW,PQ]
   have h4:¬ (k.1=8∧0<vars.length):=by simpa using h
   rw[if_neg h4] at Qw
      /- a call? -/
   refine T.cut (fun s=>s=⟨[(143,.bool (decide (k.1=9∨k.1=10))),(14,I k.1),(12,.int .i64 ((n1:Int)+1)),(11,.bj 6 0 out.length),(2,.bj 5 0 vars.length),(13,.av 7 0),(6,.av 4 0),(0,.av 1 0),(3,I deep)],
    [(0,aG L k.2),(1,bq gs ms fs.length lf ar),(2,cM fs),(3,ba Qc),(4,⟨192,0,fW nm ps bc bn⟩),(5,ba vars),(6,jc out),(7,⟨265,0,Cz⟩)],8⟩) ?_ ?_
   ·by_cases h9:k.1=9
    ·apply aW;simp[hC,h9];refine aa.trim [143,14,12,11,2,13,6,0,3] [0,1,2,3,4,5,6,7] 8 WW yA ?_;simp
    ·apply aW;simp[hC,h9];refine aa.trim [143,14,12,11,2,13,6,0,3] [0,1,2,3,4,5,6,7] 8 WW yA ?_;simp
   rintro s rfl;refine T.bb rfl (fun h=>?_) (fun h=>?_)
   ·have h5:k.1=9∨k.1=10:=by simpa using h
    have VW:gu ⟨L,ar,ms,fs.map fun f=>(f.name,f.params)⟩ ps vars (decide (k.1=10)) k.2 lf=B:=by
     by_cases h9:k.1=9
     ·rw[if_pos h9] at Qw;rw[← Qw];simp[h9]
     ·have YP:k.1=10:=by omega
      rw[if_neg h9,if_pos YP] at Qw;rw[← Qw];simp[YP]
    simp only[gu,List.length_map] at VW;apply aj;simp[hC,Cz];refine T.cut (fun s=>s=⟨[(12,.int .i64 ((n1:Int)+1)),(11,.bj 6 0 out.length),(2,.bj 5 0 vars.length),(13,.av 7 0),(6,.av 4 0),(0,.av 1 0),(3,I deep)],
     [(0,aG L k.2),(1,bq gs ms fs.length lf ar),(2,cM fs),(3,ba Qc),(4,⟨192,0,fW nm ps bc bn⟩),(5,ba vars),(6,jc out),(7,⟨265,0,stK (if k.1=10 then 4 else 3)⟩)],8⟩) ?_ ?_
    ·apply aj;simp[hC];refine T.bb rfl (fun h=>?_) (fun h=>?_)
     ·have YP:k.1=10:=by simpa using h
      apply aW;simp[hC];refine aa.trim [12,11,2,13,6,0,3] [0,1,2,3,4,5,6,7] 8 YT yA ?_;simp[YP,stK]
     ·have YP:¬ k.1=10:=by simpa using h
      apply T.skip;simp;refine aa.trim [12,11,2,13,6,0,3] [0,1,2,3,4,5,6,7] 8 YT yA ?_;simp[YP,stK]
    rintro s rfl;have PQ:=da L k.2 RP;have ZI:=cu L k.2 fs.length Qm hL RP yA;have Q6:=a8 L fs.length Qm;obtain⟨j,hj⟩:∃ j,bZ L k.2 fs.length=j:=⟨_,rfl⟩;rw[hj] at PQ ZI Q6;simp only[hj] at VW;obtain⟨g,hg⟩:∃ g,fs[j.1]? = some g:=⟨fs[j.1],List.getElem?_eq_getElem PQ⟩;have SS:(fs.map fun f=>(f.name,f.params)).getD j.1 (eS,[])=(g.name,g.params):=by simp[List.getD,hg]
    simp only[SS] at VW;have WE:=Td g (List.mem_of_getElem? hg);have PL:(cM fs).cells.drop (j.1*3)=eF g++(fs.drop (j.1+1)).flatMap eF:=aO (f:=eF) (n:=3) (fun _=>rfl) hg;have Vo:(cM fs).sz=3:=rfl;have PX:(cM fs).cells.length=fs.length*3:=bk (f:=eF) (n:=3) (fun _=>rfl) fs;apply T.seq;refine T.rx ah follows [0,1,2,3,4,5,6,7,8,9,10,11,12,13,14,18,15,16,17,19] [(4,18),(4,15),(8,18),(13,18),(18,15),(18,17)] PH ?_;simp[hC,bq];rw[ew];refine RX.cD [0] [0] 1 (ZI) rfl zX rfl rfl rfl rfl zX QS QR rfl rfl rfl zX ?_;simp[PQ,PL,eF];refine T.rx ah follows [0,1,2,3,4,5,7,6,8,9,10] [(1,6)] PH ?_;simp[hC,fW];refine RX.ja 3 5 [0,1,5] [0] 4 (FX L hL vars Tk gs ms hm V8 PZ fs.length lf ar j.2 Q6 nm ps hp bc bn g.name g.params WE (bz g.body) g.body.length) rfl zX rfl rfl rfl zX yA zX zX rfl zX Ug rfl zX zX zX rfl zX ?_;simp[stK];refine aa.le (Le.nz [] [7]) ?_;simp;refine aa.trim [12,11,2,13,6,0,3] [0,1,2,3,4,5,6,7] 8 SK yA ⟨[],.dI (decide (k.1=10)) g.name (cV L ar ms ps vars g.params j.2).1,?_,?_⟩
    ·rw[← VW];rfl
    ·rw[← VW];simp[gM,ke,bK,eS,fW,qC]
   have h5:¬ k.1=9∧¬ k.1=10:=by simpa using h
   rw[if_neg h5.1,if_neg h5.2] at Qw
      /- a condition? -/
   refine T.cut (fun s=>s=⟨[(181,.bool (decide (k.1=11∧0<deep))),(14,I k.1),(12,.int .i64 ((n1:Int)+1)),(11,.bj 6 0 out.length),(2,.bj 5 0 vars.length),(13,.av 7 0),(6,.av 4 0),(0,.av 1 0),(3,I deep)],
    [(0,aG L k.2),(1,bq gs ms fs.length lf ar),(2,cM fs),(3,ba Qc),(4,⟨192,0,fW nm ps bc bn⟩),(5,ba vars),(6,jc out),(7,⟨265,0,Cz⟩)],8⟩) ?_ ?_
   ·by_cases h9:k.1=11
    ·apply aW;simp[hC,h9];refine aa.trim [181,14,12,11,2,13,6,0,3] [0,1,2,3,4,5,6,7] 8 WW yA ?_;simp
    ·apply aW;simp[hC,h9];refine aa.trim [181,14,12,11,2,13,6,0,3] [0,1,2,3,4,5,6,7] 8 WW yA ?_;simp
   rintro s rfl;refine T.bb rfl (fun h=>?_) (fun h=>?_)
   ·have h6:k.1=11∧0<deep:=by simpa using h
    rw[if_pos h6] at Qw;obtain⟨d,rfl⟩:∃ d,deep=d+1:=⟨deep-1,by omega⟩;have SH:((d+1:Nat):Int)-1=(d:Int):=by omega
    have wd:=cE (d:Int) yA yA;have Q6:=jF L ar vars Qm;simp only[Oj,Nat.add_sub_cancel] at Qw;have Zg:=Y4 lf yA vars d 3 (dc L ar vars k.2).2 yA yA yA yA yA Q6;obtain⟨TA,VB⟩:=Wv vars d 3 (dc L ar vars k.2).2 lf Q6;obtain⟨th,To⟩:∃ th,rec vars d 3 (dc L ar vars k.2).2 lf=th:=⟨_,rfl⟩;rw[To] at Zg TA VB;simp only[To] at Qw;apply T.seq;refine T.rx ah follows [0,1,3,4,5,6,7,9,2,8,10,11,12,13,14] [(4,2)] PH ?_;simp[hC,wd,fW];refine RX.ja 3 5 [0,1,5] [0] 4 (mb L hL vars Tk gs ms fs.length lf ar k.2 Qm) rfl zX rfl rfl rfl zX yA zX zX rfl zX Ug rfl zX zX zX rfl zX ?_;simp;refine RX.ja 3 5 [0,1,2,5] [0,1] 4 (Zg) rfl zX rfl rfl rfl zX yA zX zX rfl zX Ug rfl zX zX zX rfl zX ?_;simp[Cz,bJ];have ZM:=cu L th.2.1 2 TA hL yA yA;have Wc:=a8 L 2 TA;obtain⟨c,hc⟩:∃ c,bZ L th.2.1 2=c:=⟨_,rfl⟩;rw[hc] at ZM Wc;simp only[hc] at Qw;refine T.le (Le.trim [12,11,2,13,6,0,3] [0,1,2,3,4,5,6,7] 8 YU yA) ?_;simp;apply aj;simp[hC,bq];refine TL.cD ah [0] 1 (ZM) PV rfl rfl rfl rfl zX QS QR rfl (TL.go' ah ?_);simp[hC];have ew2:(⟨185,0,[CV.av 0 0,CV.az (gs.flatMap nW) gs.length,CV.az (ms.flatMap eL) ms.length,CV.bj 2 0 fs.length,I th.2.2,CV.bool ar]⟩:Ob)=bq gs ms fs.length th.2.2 ar:=rfl;rw[ew2];refine T.bb rfl (fun h=>?_) (fun h=>?_)
    ·have UL:c.1=1:=by simpa using h
     rw[if_pos UL] at Qw;have Qq:=Y4 th.2.2 yA vars d 3 c.2 yA yA yA yA yA Wc;obtain⟨el,hele⟩:∃ el,rec vars d 3 c.2 th.2.2=el:=⟨_,rfl⟩;rw[hele] at Qq;simp only[hele] at Qw;apply aW;simp[hC,wd];refine TL.ja ah 3 5 [0,1,2,5] 4 (Qq) PV rfl rfl rfl zX yA zX zX rfl zX Ug rfl zX zX (TL.go' ah ?_);simp[hC,bJ];refine aa.le (Le.nz [] [7]) ?_;simp;refine aa.trim [12,11,2,13,6,0,3] [0,1,2,3,4,5,6,7] 8 YU yA ⟨[],.kG (dc L ar vars k.2).1 th.1 el.1,?_,?_⟩
     ·rw[← Qw];rfl
     ·rw[← Qw];simp[gM,ke,eS,fW]
    ·have UL:¬ c.1=1:=by simpa using h
     rw[if_neg UL] at Qw;apply T.skip;simp;refine aa.le (Le.nz [] [7]) ?_;simp;refine aa.trim [12,11,2,13,6,0,3] [0,1,2,3,4,5,6,7] 8 YU yA ⟨[],.kG (dc L ar vars k.2).1 th.1 [],?_,?_⟩
     ·rw[← Qw];rfl
     ·rw[← Qw];simp[gM,ke,eS,fW,bz]
   have h6:¬ (k.1=11∧0<deep):=by simpa using h
   rw[if_neg h6] at Qw
      /- a loop? -/
   refine T.cut (fun s=>s=⟨[(213,.bool (decide (k.1=12∧0<deep))),(14,I k.1),(12,.int .i64 ((n1:Int)+1)),(11,.bj 6 0 out.length),(2,.bj 5 0 vars.length),(13,.av 7 0),(6,.av 4 0),(0,.av 1 0),(3,I deep)],
    [(0,aG L k.2),(1,bq gs ms fs.length lf ar),(2,cM fs),(3,ba Qc),(4,⟨192,0,fW nm ps bc bn⟩),(5,ba vars),(6,jc out),(7,⟨265,0,Cz⟩)],8⟩) ?_ ?_
   ·by_cases h9:k.1=12
    ·apply aW;simp[hC,h9];refine aa.trim [213,14,12,11,2,13,6,0,3] [0,1,2,3,4,5,6,7] 8 WW yA ?_;simp
    ·apply aW;simp[hC,h9];refine aa.trim [213,14,12,11,2,13,6,0,3] [0,1,2,3,4,5,6,7] 8 WW yA ?_;simp
   rintro s rfl;refine T.bb rfl (fun h=>?_) (fun h=>?_)
   ·have h7:k.1=12∧0<deep:=by simpa using h
    rw[if_pos h7] at Qw;obtain⟨d,rfl⟩:∃ d,deep=d+1:=⟨deep-1,by omega⟩;have SH:((d+1:Nat):Int)-1=(d:Int):=by omega
    have wd:=cE (d:Int) yA yA;have Q6:=jF L ar vars Qm;simp only[Nt,Nat.add_sub_cancel] at Qw;have Zg:=Y4 lf yA vars d 3 (dc L ar vars k.2).2 yA yA yA yA yA Q6;obtain⟨th,To⟩:∃ th,rec vars d 3 (dc L ar vars k.2).2 lf=th:=⟨_,rfl⟩;rw[To] at Zg;simp only[To] at Qw;refine T.rx ah follows [0,1,3,4,5,6,7,9,2,8,10,11,12,13,14] [(4,2)] PH ?_;simp[hC,wd,fW];refine RX.ja 3 5 [0,1,5] [0] 4 (mb L hL vars Tk gs ms fs.length lf ar k.2 Qm) rfl zX rfl rfl rfl zX yA zX zX rfl zX Ug rfl zX zX zX rfl zX ?_;simp;refine RX.ja 3 5 [0,1,2,5] [0,1] 4 (Zg) rfl zX rfl rfl rfl zX yA zX zX rfl zX Ug rfl zX zX zX rfl zX ?_;simp[Cz,bJ];refine aa.le (Le.nz [] [7]) ?_;simp;refine aa.trim [12,11,2,13,6,0,3] [0,1,2,3,4,5,6,7] 8 YU yA ⟨[],.cC (dc L ar vars k.2).1 th.1,?_,?_⟩
    ·rw[← Qw];rfl
    ·rw[← Qw];simp[gM,ke,eS,fW]
   have h7:¬ (k.1=12∧0<deep):=by simpa using h
   rw[if_neg h7] at Qw
      /- the end, or statements between a lock and its unlock -/
   obtain⟨i2,TB⟩:∃ i2,(if k.1=13 then (bZ L k.2 3).2 else k.2)=i2:=⟨_,rfl⟩;have Xb:i2≤L.length:=by
    rw[← TB];split
    ·exact a8 _ _ Qm
    ·exact Qm
   refine T.cut (fun s=>s=⟨[(232,.bool (decide (k.1=13∧(bZ L k.2 3).1=1))),(12,.int .i64 ((n1:Int)+1)),(11,.bj 6 0 out.length),(2,.bj 5 0 vars.length),(13,.av 7 0),(6,.av 4 0),(0,.av 1 0),(3,I deep)],
    [(0,aG L i2),(1,bq gs ms fs.length lf ar),(2,cM fs),(3,ba Qc),(4,⟨192,0,fW nm ps bc bn⟩),(5,ba vars),(6,jc out),(7,⟨265,0,Cz⟩)],8⟩) ?_ ?_
   ·by_cases h9:k.1=13
    ·rw[if_pos h9] at TB;apply aW;simp[hC,h9,bq];refine TL.cD ah [0] 1 (cu L k.2 3 Qm hL yA yA) PV rfl rfl rfl rfl zX QS QR rfl (TL.go' ah ?_);simp[hC];refine aa.trim [232,12,11,2,13,6,0,3] [0,1,2,3,4,5,6,7] 8 WW yA ?_;simp[TB]
    ·rw[if_neg h9] at TB;apply aW;simp[hC,h9];refine aa.trim [232,12,11,2,13,6,0,3] [0,1,2,3,4,5,6,7] 8 WW yA ?_;simp[TB]
   rintro s rfl;refine T.bb rfl (fun h=>?_) (fun h=>?_)
   ·have h8:k.1=13∧(bZ L k.2 3).1=1:=by simpa using h
    rw[if_pos h8] at Qw;rw[if_pos h8.1] at TB;apply aW;simp[hC,Cz];refine aa.le (Le.nz [] [7]) ?_;simp;refine aa.trim [12,11,2,13,6,0,3] [0,1,2,3,4,5,6,7] 8 YT yA ⟨[],.jb,?_,?_⟩
    ·rw[← Qw];rfl
    ·rw[← Qw,← TB];simp[gM,ke,bK,eS,fW]
   have h8:¬ (k.1=13∧(bZ L k.2 3).1=1):=by simpa using h
   rw[if_neg h8] at Qw;have VW:Af ⟨L,ar,ms,fs.map fun f=>(f.name,f.params)⟩ rec ps vars i2 lf=B:=by
    rw[← Qw,← TB];by_cases h9:k.1=13
    ·rw[if_pos h9,if_pos h9]
    ·rw[if_neg h9,if_neg h9]
   simp only[Af] at VW;have Wb:=oY L ar ms ps vars Xb;obtain⟨rf,Zw⟩:∃ rf,iU L ar ms ps vars i2=rf:=⟨_,rfl⟩;have RT:=rP L hL vars Tk gs ms hm V8 PZ fs.length lf ar i2 Xb nm ps hp bc bn;rw[Zw] at RT Wb;simp only[Zw] at VW;have P4:=Y4 lf yA vars 0 2 rf.2 yA yA yA yA yA Wb;obtain⟨_,VB⟩:=Wv vars 0 2 rf.2 lf Wb;obtain⟨th,To⟩:∃ th,rec vars 0 2 rf.2 lf=th:=⟨_,rfl⟩;rw[To] at P4 VB;simp only[To] at VW;apply aj;simp[hC,fW];refine TL.ja ah 3 5 [0,1,5] 4 (RT) PV rfl rfl rfl zX yA zX zX rfl zX Ug rfl zX zX (TL.go' ah ?_);simp[hC,j9,Cz];apply aj;simp[hC];have Rb:=mg out;have S8:(out.length+1)*192≤140737488355328:=by omega
   have Re:(out.length+1+th.1.length)*192≤140737488355328:=by omega
   have Tp:=mg th.1;have hln:(out.length+1)*11=out.length*11+11:=by omega
   apply aj;simp[hC,jc,Rb,S8,aX];apply aj;simp[hC];refine TL.ja ah 3 5 [0,1,2,5] 4 (P4) PV rfl rfl rfl zX yA zX zX rfl zX Ug rfl zX zX (TL.go' ah ?_);simp[hC,Rb,Tp,Re,hln];apply aW;simp[hC];refine aa.le (Le.trim [12,11,2,13,6,0,3] [0,1,2,3,4,5,7,11] 12 yCn yA) ?_;simp;refine aa.le (Le.nz [] [7,11]) ?_;simp;refine aa.le (Le.nB 11 6 rfl rfl yA zX zX (by simp[aG,ints,bq,-List.all_eq_true,-List.all_flatMap,bf (bC out),bf (bC th.1)])) ?_;simp[aG,ints,bq,aV (bC out),aV (bC th.1)];refine aa.trim [12,11,2,13,6,0,3] [0,1,2,3,4,5,6,7] 8 yCn yA ⟨.di false rf.1::th.1,.di true rf.1,?_,?_⟩
   ·rw[← VW]
   ·rw[← VW];have e1:out.length+1+th.1.length=out.length+(th.1.length+1):=by omega
    simp[gM,j9,bK,eS,fW,jc,sW,bz,aG,ints,bq,e1]
  ·rintro s ⟨front,last,Tu,rfl⟩;have Qv:(out++front).length≤2000:=by
    have:=Qa.n;rw[Tu] at this;simp at this ⊢;omega
   have Tq:=mg (out++front);generalize hO:out++front=O at Qv Tq;have hb:(O.length+1)*192≤140737488355328:=by omega
   have wn:=cE (n1:Int) yA yA;apply aW;simp[hC,jc,jR,aX,Tq,hb,F8];apply aW;simp[hC,wn];refine⟨n1,by omega,aa.le (Le.trim [12,11,2,6,0,3] [0,1,2,3,4,5,9] 10 (by simp[aG,bq,fW,-List.all_eq_true,-List.all_flatMap,af (bC O),af (gV last)]) yA) ?_⟩;simp;refine aa.le (Le.nB 9 6 rfl rfl yA zX zX (by simp[aG,ints,bq,fW,-List.all_eq_true,-List.all_flatMap,bf (bC O),bf (gV last)])) ?_;simp[aG,ints,bq,fW,aV (bC O),aV (gV last)];refine aa.trim [12,11,2,6,0,3] [0,1,2,3,4,5,6] 7 (by simp[-List.all_eq_true,-List.all_flatMap,af (bC O),af (gV last)]) yA ⟨B.vars,B.i,B.left,out++B.out,?_,Qa.i,?_,?_,?_,by omega,?_⟩
   ·rw[hR,List.append_assoc]
   ·have:=Qa.l;omega
   ·have:=Qa.v;omega
   ·have:=Qa.n;simp;omega
   ·have e1:out++B.out=O++[last]:=by rw[Tu,← List.append_assoc,hO]
    rw[e1];simp[jc,sW,bz,aG,ints,bq,fW]
end Go.Proofs.YtnecpnjdonibmaaGreat
