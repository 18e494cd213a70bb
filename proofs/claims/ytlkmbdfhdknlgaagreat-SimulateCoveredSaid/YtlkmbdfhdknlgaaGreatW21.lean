/- Lemmas. -/
import Derived.Test.YtlkmbdfhdknlgaaGreatW20
set_option maxHeartbeats 4000000
namespace Go.Proofs.YtlkmbdfhdknlgaaGreat
open Go.Can Go.aK List Tryz
theorem uL (E:List En):∀ a b:List Ar,dz E (a++b)=dz E a++dz E b
 | [],b=>rfl
 | .exp e::a,b=>by simp[dz,uL E a b]
 | .xF r::a,b=>by simp[dz,uL E a b]
theorem xu (E:List En):∀ a b:List Ar,fE E (a++b)=fE E a++fE E b
 | [],b=>rfl
 | .exp e::a,b=>by simp[fE,xu E a b]
 | .xF r::a,b=>by simp[fE,xu E a b]
theorem uK (E:List En):∀ a:List Ar,(dz E a).length<=a.length
 | []=>Nat.le_refl _
 | .exp e::a=>by have:=uK E a;simp[dz];omega
 | .xF r::a=>by have:=uK E a;simp[dz];omega
theorem xq (E:List En):∀ a:List Ar,(fE E a).length<=a.length
 | []=>Nat.le_refl _
 | .exp e::a=>by have:=xq E a;simp[fE];omega
 | .xF r::a=>by have:=xq E a;simp[fE];omega
theorem L2 {ms:List Mx}{ps:List Pm}{V:List ByteArray}:∀ {gp:List Pm} {al:List Ar} {i:Nat} {a:Ar},j0 ms ps V gp al->al[i]? = some a->∃ q,gp[i]? = some q/\ArW ms ps V q a
 | [],[],_,_,_,h=>by simp at h
 | q::gp,b::al,0,a,hw,h=>by
  simp only[j0] at hw;simp only[getElem?_cons_zero,Option.some.injEq] at h;subst h;exact⟨q,rfl,hw.1⟩
 | q::gp,b::al,i+1,a,hw,h=>by
  simp only[j0] at hw;simp only[getElem?_cons_succ] at h;obtain⟨q',h1,h2⟩:=L2 hw.2 h;exact⟨q',by simpa using h1,h2⟩
 | [],_::_,_,_,hw,_=>hw.elim
 | _::_,[],_,_,hw,_=>hw.elim
theorem lR (x:Pl):(iq x).length=3:=rfl
theorem db (x:Pl):trees (iq x)=true:=by
 rcases x with ⟨_,_,_ | e⟩
 .rfl
 .simp only[iq,oL,trees,tree,Bool.and_self]
def yP (l:List Pl):Ob:=⟨87,3,l.flatMap iq⟩
def D1:List CV:=[I 0,I 0,.bool false,I 0,I 0,.str ⟨#[]⟩,.aj,.bool false,I 0,.aj,.aj,.aj]
def qO (kd:Int)(nm:ByteArray)(al:List Ar):List CV:=[I kd,.str nm,I 0,I 0,.str ⟨#[]⟩,.az [] 0,.str ⟨#[]⟩,.az [] 0,.az (al.flatMap qA) al.length,.az [] 0,.az [] 0]
def J133 (p:Pg)(E:List En)(k st cl sl:Nat)(n:Int)(kd op:Int)(nm:ByteArray)(j:Nat)(gp:List Pm)(al:List Ar)(m:Nat)(s:St):Prop:=∃ i:Nat,m=al.length-i/\i<=al.length/\
 s=⟨[(11,I i),(10,.az (gp.flatMap mr) gp.length),(7,.ax 5 0),(6,.ax 4 0),(4,.ax 3 0),(0,.ax 0 0),(2,I n)],[(0,dF p E k st cl sl),(3,⟨207,0,qO kd nm al⟩),(4,⟨90,0,D1⟩),
  (5,⟨90,0,[I op,I j,.bool false,I 0,I 0,.str ⟨#[]⟩,.aj,.bool false,I 0,.aj,.a7 6 0 (dz E (al.take i)).length,.a7 7 0 (fE E (al.take i)).length]⟩),(6,mD (dz E (al.take i))),(7,yP (fE E (al.take i)))],8⟩
theorem KN (p:Pg){g:Nat}{ps:List Pm}{V:List ByteArray}(E:List En)(k st cl sl:Nat)(hE:EW g p.ms (p.fs.map λ f=>(f.name,f.params)) ps V E k)(hl:E.length<=100000)(hm:p.ms.length<=1000)(_hfl:p.fs.length<=1000)(n:Int)(go:Bool)(nm:ByteArray)(gp:List Pm)(al:List Ar)
  (hg:(nm,gp)∈p.fs.map λ f=>(f.name,f.params)) (hw:j0 p.ms ps V gp al) (XI:gp.length<=1000) :
  Body prog av 169 [.ax 0 0,.agg (ji (.eM go nm al)),I n] [(0,dF p E k st cl sl)] 3 (iO (.agg (cY (.call go (nc E nm).n (dz E al) (fE E al)))) [(0,dF p E k st cl sl)] 3):=by
 obtain⟨j,hf,TZ⟩:=hE.f _ hg;have hgl2:=hw.len;have VW:=sQ E nm hl;rw[hf] at VW;rw[jb hf];have hs:ji (.eM go nm al)=qO (if go=true then 4 else 3) nm al:=rfl;rw[hs];obtain⟨f,Z4,W7⟩:∃ f,p.fs[j]? = some f/\f.params=gp:=by
  rw[getElem?_map,Option.map_eq_some_iff] at TZ;obtain⟨f,h1,h2⟩:=TZ;exact⟨f,h1,by injection h2⟩
 have hfd1:=cb (f:=fT) (n:=3) (λ _=>rfl) Z4 1 yA;have Tl:=(List.getElem?_eq_some_iff.1 Z4).1;refine Body.iZ Tryz.func169 rfl Bw (by simp[Tryz.ntmps169]) λ C hC M0=>?_;rw[Tryz.ntmps169] at hC;apply aq;simp[hC];apply aq;simp[hC];simp only[dF,qp,qO];refine T.cut (λ s=>s=⟨[(7,.ax 5 0),(6,.ax 4 0),(4,.ax 3 0),(0,.ax 0 0),(2,I n)],[(0,dF p E k st cl sl),(3,⟨207,0,qO (if go=true then 4 else 3) nm al⟩),(4,⟨90,0,D1⟩),(5,⟨90,0,[I (if go=true then 3 else 2),I 0,.bool false,I 0,I 0,.str ⟨#[]⟩,.aj,.bool false,I 0,.aj,.aj,.aj]⟩)],6⟩) ?_ ?_
 .cases go with
  | true=>
   apply aq;simp[hC];refine du ?_;simp;apply aM;simp[hC];refine aa.trim [7,6,4,0,2] [0,3,4,5] 6 xr yA ?_;simp[dF,qp,qO,D1]
  | false=>
   apply aq;simp[hC];refine gk ?_;simp;refine aa.trim [7,6,4,0,2] [0,3,4,5] 6 xr yA ?_;simp[dF,qp,qO,D1]
 rintro s rfl;apply T.seq;refine T.rx af follows [0,1,2,3,4,5,10,6,7,8,9,11,12] [(3,10),(5,10),(10,6)] Bw ?_;simp[hC,dF,qp,qO,D1];refine RX.call rfl xr rfl rfl rfl SD (VW) ?_;simp[sP,jj];apply eE;apply aq;simp[hC];refine bg ?_;simp;apply aq;simp[hC];refine gk ?_;simp;apply aq;simp[hC];apply T.seq;refine T.rx af follows [0,1,2,3,4,5,6,7,8,9,10] [] Bw ?_;simp[hC,Tl,hfd1,fT,W7];apply aW;simp[hC,hgl2];refine gk ?_;simp;refine T.le (Le.trim [10,7,6,4,0,2] [0,3,4,5] 6 xr yA) ?_;simp;generalize (if go=true then (4:Int) else 3)=kd;have SG:(if go=true then (3:Int) else 2)=(if go then 3 else 2:Int):=rfl;generalize hopg:(if go=true then (3:Int) else 2)=op;apply aW;simp[hC];apply T.block;refine T.aI (J133 p E k st cl sl n kd op nm j gp al) (n:=al.length) ?_ ?_
 .refine aa.le (Le.mU 5 10 85 4 rfl rfl) ?_;simp;refine aa.le (Le.mU 5 11 87 3 rfl rfl) ?_;simp;refine aa.trim [11,10,7,6,4,0,2] [0,3,4,5,6,7] 8 xr yA ⟨0,by omega,by omega,?_⟩;simp[mD,yP,dz,fE,dF,qp,qO,D1,hgl2]
 .rintro m s ⟨i,rfl,hi,rfl⟩;by_cases Jz:i<al.length
  .obtain⟨a,Tn⟩:∃ a,al[i]? = some a:=⟨al[i],getElem?_eq_getElem Jz⟩;obtain⟨q,hiq,haw⟩:=L2 hw Tn;have OZ:=aL (f:=qA) (n:=7) wJ Tn;have Zz:=cb (f:=mr) (n:=2) (λ _=>rfl) hiq 1 yA;have UJ:i<gp.length:=by omega
   have wi:=cr ((i:Int)+1) yA yA;have SE:al.take (i+1)=al.take i++[a]:=by rw[take_add_one,Tn];rfl
   have Wx:=uK E (al.take i);have U5:=xq E (al.take i);rw[length_take] at Wx U5;have hI:dz E (al.take (i+1))=dz E (al.take i)++dz E [a]:=by rw[SE,uL]
   have hP:fE E (al.take (i+1))=fE E (al.take i)++fE E [a]:=by rw[SE,xu]
   generalize dz E (al.take i)=NI at Wx hI;generalize fE E (al.take i)=NP at U5 hP;have f1:=aG (f:=bf) (n:=4) bC NI;have f2:=aG (f:=iq) (n:=3) lR NP;have b1:(NI.length+1)*56<=140737488355328:=by omega
   have b2:(NP.length+1)*48<=140737488355328:=by omega
   have b3:(NP.length+1)*40<=140737488355328:=by omega
   have Wk:∀ x:Pl,take 3 (iq x)=iq x:=λ _=>rfl;have UB:∀ x:Ex,take 4 (bf x)=bf x:=λ x=>take_of_length_le (by rw[bC];exact Nat.le_refl _);have tE:=ak aO NI;have tP:=ak db NP;apply aW;simp[hC,UJ];refine jk ?_;simp;apply eE
   cases a with
   | xF r=>
    have hb:=GC p E k st cl sl hE hl hm n r haw.2;have hqm:q.mutex=true:=haw.1;obtain⟨rn,ri⟩:=r;obtain⟨q1,q2,hq⟩:∃ cs n,oL ri=.az cs n:=by cases ri<;>exact⟨_,_,rfl⟩
    simp only[mh,hq] at hb;simp only[qA,mh,bf,hq,cons_append,nil_append] at OZ;apply aq;simp[hC,Jz,OZ,qO];refine T.seq (T.seq ?_);refine T.rx af follows [0,1,2,3,4,5,6,7] [] Bw ?_;simp[hC,UJ,Zz,mr,hqm];refine gk ?_;simp;apply aq;simp[hC];refine du ?_;simp;refine T.rx af follows [0,1,2,3,4,5,6,7,8,9,10] [(1,6),(1,7)] Bw ?_;simp[hC];refine RX.cZ [0] [] 3 (hb) rfl xr rfl rfl rfl rfl xr TJ TG rfl rfl rfl xr ?_;simp[yP,lR,f2,b3,Wk,aY,-length_flatMap];apply aM;simp[hC,wi];refine⟨al.length-(i+1),by omega,?_⟩;have tQ:=db (Az E ⟨rn,ri⟩);refine aa.le (Le.trim [11,10,7,6,4,0,2] [0,3,4,5,6,28] 29 (by simp only[dF,qp,D1,mD];simp[-all_eq_true,-all_flatMap,ai tE,ai tP,ai tQ]) yA) ?_;simp;refine aa.le (Le.qt 28 7 rfl rfl yA xr xr (by simp only[dF,qp,D1,mD];simp[-all_eq_true,-all_flatMap,bx tE,bx tP,bx tQ])) ?_;simp only[dF,qp,D1,mD];simp[bl tE,bl tP,bl tQ];refine aa.trim [11,10,7,6,4,0,2] [0,3,4,5,6,7] 8 (by simp[-all_eq_true,-all_flatMap,ai tE,ai tP,ai tQ]) yA ⟨i+1,rfl,by omega,?_⟩;rw[hI,hP];simp[mD,yP,dz,fE,dF,qp,qO,D1]
   | exp e=>
    have hb:=ll p E k st cl sl hE hl n 2 e haw.2;have hqm:q.mutex=false:=haw.1;simp only[qA,bZ e,ml,cons_append,nil_append] at OZ;rw[bZ e] at hb;apply aq;simp[hC,Jz,OZ,qO];refine T.seq (T.seq ?_);refine T.rx af follows [0,1,2,3,4,5,6,7] [] Bw ?_;simp[hC,UJ,Zz,mr,hqm];refine gk ?_;simp;apply aq;simp[hC];refine bg ?_;simp;refine T.rx af follows [0,1,2,3,4,5,6,7,8,9,10] [(1,6),(1,7)] Bw ?_;simp[hC];refine RX.cZ [0] [] 3 (hb) rfl xr rfl rfl rfl rfl xr TJ TG rfl rfl rfl xr ?_;simp[mD,bC,f1,b1,UB,aY,-length_flatMap];apply aM;simp[hC,wi];refine⟨al.length-(i+1),by omega,?_⟩;have tQ:=aO (eF E e);refine aa.le (Le.trim [11,10,7,6,4,0,2] [0,3,4,5,28,7] 29 (by simp only[dF,qp,D1,yP];simp[-all_eq_true,-all_flatMap,ai tE,ai tP,ai tQ]) yA) ?_;simp;refine aa.le (Le.qt 28 6 rfl rfl yA xr xr (by simp only[dF,qp,D1,yP];simp[-all_eq_true,-all_flatMap,bx tE,bx tP,bx tQ])) ?_;simp only[dF,qp,D1,yP];simp[bl tE,bl tP,bl tQ];refine aa.trim [11,10,7,6,4,0,2] [0,3,4,5,6,7] 8 (by simp[-all_eq_true,-all_flatMap,ai tE,ai tP,ai tQ]) yA ⟨i+1,rfl,by omega,?_⟩;rw[hI,hP];simp[mD,yP,dz,fE,dF,qp,qO,D1]
  .have Rz:i=al.length:=by omega
   have UJ:¬ i<gp.length:=by omega
   apply aW;simp[hC,UJ];refine bg ?_;simp;apply T.exit;simp;apply aq;simp[hC];apply T.ret;rw[Rz,take_length];have tE:=ak aO (dz E al);have tP:=ak db (fE E al);have x1:((dz E al).flatMap bf).take ((dz E al).length*4)=(dz E al).flatMap bf:=take_of_length_le (by rw[aG (f:=bf) (n:=4) bC];exact Nat.le_refl _);have x2:((fE E al).flatMap iq).take ((fE E al).length*3)=(fE E al).flatMap iq:=take_of_length_le (by rw[aG (f:=iq) (n:=3) lR];exact Nat.le_refl _);generalize dz E al=NI at tE x1;generalize fE E al=NP at tP x2;refine aa.le (Le.trim [6] [0,4,6,7] 8 (by simp only[dF,qp,mD,yP];simp[-all_eq_true,-all_flatMap,ai tE,ai tP,D1]) yA) ?_;simp;refine aa.le (Le.di (o:=6) rfl tE) ?_;simp[mD,yP,x1,aN tP];refine aa.le (Le.di (o:=7) rfl tP) ?_;simp[x2];refine aa.le (Le.nz [] [4]) ?_;simp[D1];refine aa.le (Le.di (o:=4) rfl (by simp[trees,tree])) ?_;simp[dF,qp];refine aa.trim [6] [0] 3 xr yA ⟨_,?_,rfl,?_,rfl⟩
   .simp[cY,bf,eS,oE,hopg]
   .simp
def gG (p:Pg)(E:List En)(k st a cl b sl:Nat):Ob:=⟨215,0,[.az (p.gs.flatMap qH) p.gs.length,.az (p.ms.flatMap cP) p.ms.length,.az (p.fs.flatMap fT) p.fs.length,.az (E.flatMap jj) E.length,I k,I st,I 0,I 0,.a7 a 0 cl,.a7 b 0 sl]⟩
theorem Aw (p:Pg)(E:List En)(k st cl sl:Nat):dF p E k st cl sl=gG p E k st 1 cl 2 sl:=rfl
theorem Qf (p:Pg)(E:List En)(k st:Nat)(X:List CV)(N:Nat)(hX:X.length=N*12)(tX:trees X=true)(S:List CV)(M:Nat)(hS:S.length=M)(tS:trees S=true)(hN:N<=10000)(hM:M<=10000)
  (cs:List CV) (S8:cs.length=12) (T8:trees cs=true) (n:Int) :
  Body prog av 130 [.ax 0 0,.agg cs,I n] [(0,gG p E k st 1 N 2 M),(1,⟨90,12,X⟩),(2,⟨3,1,S⟩)] 3 (iO (I N) [(0,gG p E k st 3 (N+1) 4 (M+1)),(3,⟨90,12,X++cs⟩),(4,⟨3,1,S++[I n]⟩)] (3+2)):=by
 refine Body.iZ Tryz.func130 rfl Bw (by simp[Tryz.ntmps130]) λ C hC M0=>?_;rw[Tryz.ntmps130] at hC;apply aq;simp[hC];have WW:(N+1)*168<=140737488355328:=by omega
 have T0:(M+1)*8<=140737488355328:=by omega
 have htc:take 12 cs=cs:=take_of_length_le yA;apply T.seq;refine T.rx af follows [0,1,2,3,4,5,6,7,8,9,10,11,12,13,14,15,16,17,18,19,20,21] [(5,7),(5,14),(6,14),(7,12),(7,14),(8,12),(8,14),(12,14)] Bw ?_;simp[hC,gG,hX,hS,S8,htc,WW,T0,aY];have w1:=cr (N:Int) yA yA;apply aq;simp[hC,w1];apply T.ret;have tXc:trees (X++cs)=true:=by rw[a9,tX,T8];rfl
 have tSn:trees (S++[I n])=true:=by rw[a9,tS];rfl
 refine aa.le (Le.trim [6] [0,26,27] 28 (by simp[-all_eq_true,-all_flatMap,ai tX,ai T8,ai tS]) yA) ?_;simp;refine aa.le (Le.qt 26 3 rfl rfl yA xr xr (by simp[-all_eq_true,-all_flatMap,bx tX,bx T8,bx tS])) ?_;simp[bl tX,bl T8,bl tS];refine aa.le (Le.qt 27 4 rfl rfl yA xr xr (by simp[-all_eq_true,-all_flatMap,bx tX,bx T8,bx tS])) ?_;simp[bl tX,bl T8,bl tS];refine aa.trim [6] [0,3,4] 5 (by simp[-all_eq_true,-all_flatMap,ai tX,ai T8,ai tS]) yA ⟨_,?_,rfl,?_,rfl⟩
 .simp
 .simp
def Pa (id:Nat):Code->Option Code
 | .block j x=>if j=id then some (.block j x) else Pa id x
 | .seq a b=>match Pa id a with
  | some c=>some c
  | none=>Pa id b
 | .cond _ a b=>match Pa id a with
  | some c=>some c
  | none=>Pa id b
 | .loop x=>Pa id x
 | .scope x=>Pa id x
 | _=>none
def kW (f:Func)(id:Nat):Code:=((f.body).bind (Pa id)).getD .skip
theorem eB (x:In):trees (cY x)=true:=by
 cases x with
 | set t g e=>simp only[cY,a9,aO,Bool.and_true];rfl
 | call g t l ps=>simp only[cY,a9,aO,trees,tree,Bool.and_true];rfl
 | lock u q=>simp only[cY,a9,aO,db,Bool.and_true];rfl
 | branch t e=>simp only[cY,a9,aO,Bool.and_true];rfl
 | jump t=>rfl
 | ret=>rfl
theorem gf (e:Ex):∃ o n s cs m,bf e=[I o,I n,.str s,.az cs m]/\trees cs=true:=⟨_,_,_,_,_,bZ e,ak aO _⟩
theorem pb (q:Pl):∃ b n cs m,iq q=[.bool b,I n,.az cs m]/\trees cs=true:=⟨_,_,_,_,by rw[iq,ph],ak aO _⟩
theorem P3 (r:Rf):∃ s cs m,mh r=[.str s,.az cs m]/\trees cs=true:=⟨_,_,_,by rw[mh,ph],ak aO _⟩
def fO (l:List In):Ob:=⟨90,12,l.flatMap cY⟩
def gK (l:List Nat):Ob:=⟨3,1,l.map λ n:Nat=>I n⟩
theorem cA (l:List In):trees (l.flatMap cY)=true:=ak eB l
theorem a8 (l:List Nat):trees (l.map λ n:Nat=>I n)=true:=by
 induction l with
 | nil=>rfl
 | cons a r ih=>rw[map_cons,trees,ih];rfl
theorem Bm (l:List In):(l.flatMap cY).length=l.length*12:=aG (f:=cY) hU l
theorem Km (x:In):(cY x).map nz=cY x:=by
 cases x with
 | set t g e=>simp[cY,bZ,oE]
 | call g t l ps=>simp[cY,bZ,oE]
 | lock u q=>simp[cY,bZ,iq,ph]
 | branch t e=>simp[cY,bZ,oE]
 | jump t=>simp[cY,bZ,oE]
 | ret=>simp[cY,bZ,oE]
theorem sH (l:List In):(l.flatMap cY).map nz=l.flatMap cY:=by
 induction l with
 | nil=>rfl
 | cons a r ih=>rw[flatMap_cons,map_append,ih,Km]
def ET (c:CV):Bool:=match c with
 | .ax p 0=>p == 0 || p == 5
 | c=>tree c
section
variable (p:Pg)(E0:List En)(l:List Sm)(i:Nat)
def bE:List (Nat×CV):=[(5,I i),(4,.az (E0.flatMap jj) E0.length),(0,.ax 0 0),(1,.az (bP l) l.length)]
def NS (E:List En)(k st:Nat)(c:List In)(s:List Nat):St:=⟨bE E0 l i,[(0,gG p E k st 3 c.length 4 s.length),(3,fO c),(4,gK s)],5⟩
def KO:Sm->Int
 | .iU _ _=>1
 | .jx _ _=>2
 | .eM g _ _=>if g=true then 4 else 3
 | .dS u _=>if u=true then 6 else 5
 | .mL _ _ _=>7
 | .cX _ _=>8
 | .kj=>9
def mE (n:Nat):List (Nat×CV):=[(6,.ax 5 0),(7,I n),(5,I i),(4,.az (E0.flatMap jj) E0.length),(0,.ax 0 0),(1,.az (bP l) l.length)]
def mH (E:List En)(k st:Nat)(c:List In)(s:List Nat)(x:Sm):List (Nat×Ob):=[(0,gG p E k st 3 c.length 4 s.length),(3,fO c),(4,gK s),(5,⟨207,0,ji x⟩)]
def MS (E:List En)(k st:Nat)(c:List In)(s:List Nat)(x:Sm)(n:Nat):St:=
 ⟨(41,I (KO x))::mE E0 l i n,mH p E k st c s x,6⟩
end
theorem Kj {c:CV}(h:ET c=true){m:List (Nat×Nat)}(h0:(assoc m 0).isSome=true)(h5:c≠.ax 5 0\/(assoc m 5).isSome=true):mZ m c=true:=by
 cases c with
 | ax q f=>
  cases f with
  | zero=>
   simp only[ET,Bool.or_eq_true,beq_iff_eq] at h;rcases h with rfl | rfl
   .exact h0
   .rcases h5 with h5 | h5
    .exact (h5 rfl).elim
    .exact h5
  | succ f=>simp[ET,tree] at h
 | agg cs=>simp only[ET,tree] at h;exact au h m
 | cF cs=>simp only[ET,tree] at h;exact au h m
 | _=>first | exact h | simp[ET,tree] at h
theorem Qs {c:CV}(h:ET c=true)(m:List (Nat×Nat))(n:Nat)(h0:ec m n 0=0)(h5:c≠.ax 5 0\/ec m n 5=5):cO (ec m n) c=c:=by
 cases c with
 | ax q f=>
  cases f with
  | zero=>
   simp only[ET,Bool.or_eq_true,beq_iff_eq] at h;rcases h with rfl | rfl
   .rw[cO,h0]
   .rcases h5 with h5 | h5
    .exact (h5 rfl).elim
    .rw[cO,h5]
  | succ f=>simp[ET,tree] at h
 | _=>exact iW _ _ h
theorem AK {m:List (Nat×Nat)}{n:Nat}(h0:ec m n 0=0):∀ {e:List (Nat×CV)},(e.all λ x=>ET x.2)=true->((∀ x∈e,x.2≠CV.ax 5 0)\/ec m n 5=5)->cq (ec m n) e=e
 | [],_,_=>rfl
 | (t,c)::e,h,h5=>by
  simp only[all_cons,Bool.and_eq_true] at h;rw[cq,Qs h.1 m n h0 (h5.imp (λ h5=>h5 (t,c) mem_cons_self) id),AK h0 h.2 (h5.imp (λ h5 x hx=>h5 x (mem_cons_of_mem _ hx)) id)]
theorem dm (ρ:Nat->Nat)(t:TypeId)(n:Nat){cs:List CV}(h:trees cs=true):bb ρ ⟨t,n,cs⟩=⟨t,n,cs⟩:=by simp only[bb,ah ρ _ h]
theorem iS (p:Pg):tree (.az (p.gs.flatMap qH) p.gs.length)=true/\tree (.az (p.ms.flatMap cP) p.ms.length)=true/\tree (.az (p.fs.flatMap fT) p.fs.length)=true:=
 ⟨by simp only[tree],by simp only[tree],by simp only[tree]⟩
theorem cK (E:List En):trees (E.flatMap jj)=true:=ak (λ _=>rfl) E
section
variable {C:Cx}{s:St}{p:Pg}
theorem Ey (E:List En)(k st a cl b sl:Nat)(m:List (Nat×Nat))(ha:(assoc m a).isSome=true)(hb:(assoc m b).isSome=true):(gG p E k st a cl b sl).cells.all (lF m)=true:=by
 obtain⟨t1,t2,t3⟩:=iS p;have t4:=cK E;simp only[gG,all_cons,all_nil,lF,ha,hb,Bool.and_true,Bool.and_eq_true];simp only[tree] at t1 t2 t3 |-;refine⟨t1,t2,t3,?_⟩;simp
theorem uw (E:List En)(k st a cl b sl:Nat)(ρ:Nat->Nat):bb ρ (gG p E k st a cl b sl)=gG p E k st (ρ a) cl (ρ b) sl:=by
 obtain⟨t1,t2,t3⟩:=iS p;have t4:tree (.az (E.flatMap jj) E.length)=true:=by simp only[tree]
 simp only[bb,gG,aX,iW ρ _ t1,iW ρ _ t2,iW ρ _ t3,iW ρ _ t4];rfl
theorem mo (M0:C.n0=3)(ks:List Nat)(a b:Nat){e:List (Nat×CV)}{E:List En}{k st N M:Nat}{X S:List CV}{c':List In}{s':List Nat}(he:pick s.env ks=e)(SU:(e.all λ x=>ET x.2)=true)(h5:∀ x∈e,x.2≠CV.ax 5 0)(ZH:(a != b && (a != 0 && b != 0))=true)
  (h0:assoc s.heap 0=some (gG p E k st a N b M)) (ha:assoc s.heap a=some ⟨90,12,X⟩) (hb:assoc s.heap b=some ⟨3,1,S⟩) (hX:X.map nz=c'.flatMap cY) (hS:S=s'.map λ n:Nat=>I n) (hN:N=c'.length) (hM:M=s'.length) :
  Le C s ⟨e,[(0,gG p E k st 3 c'.length 4 s'.length),(3,fO c'),(4,gK s')],5⟩:=by
 subst hN hM hS;simp only[Bool.and_eq_true,bne_iff_ne,ne_eq] at ZH;obtain⟨n1,n2,n3⟩:=ZH;have n1':¬ b=a:=λ h=>n1 h.symm;refine Le.trans (Le.nz [] [a]) ?_;have e1:IV [] s.env=s.env:=by
  have:∀ e:List (Nat×CV),IV [] e=e:=by
   intro e
   induction e with
   | nil=>rfl
   | cons x r ih=>obtain⟨k,c⟩:=x;rw[IV,ih];rfl
  exact this _
 rw[e1];have g0:assoc (CD [a] s.heap) 0=some (gG p E k st a c'.length b s'.length):=by
  rw[eU,h0];simp[Ne.symm n2]
 have ga:assoc (CD [a] s.heap) a=some (fO c'):=by
  rw[eU,ha];simp[hX,fO]
 have gb:assoc (CD [a] s.heap) b=some (gK s'):=by
  rw[eU,hb];simp[n1',gK]
 have r0:ec [(0,0),(a,3),(b,4)] 5 0=0:=rfl;have ra:ec [(0,0),(a,3),(b,4)] 5 a=3:=by simp[ec,assoc,Ne.symm n2]
 have rb:ec [(0,0),(a,3),(b,4)] 5 b=4:=by simp[ec,assoc,Ne.symm n3,n1]
 have TA:=Le.norm (C:=C) (s:=⟨s.env,CD [a] s.heap,s.nx⟩) ks [(0,0),(a,3),(b,4)] 3 5 (by simp[xJ,n1,Ne.symm n2,Ne.symm n3]) (by simp only[all_cons,all_nil,g0,ga,gb];rfl) ?_ yA
 .simp only[he,map_cons,map_nil,pick,g0,ga,gb,bz] at TA;rw[AK r0 SU (.inl h5),r0,ra,rb,uw,ra,rb,fO,gK,dm _ _ _ (cA c'),dm _ _ _ (a8 s')] at TA;exact TA
 .simp only[cB,he,map_cons,map_nil,pick,g0,ga,gb,all_cons,all_nil,Bool.and_true,Bool.and_eq_true,all_eq_true (l:=e)];refine⟨λ x hx=>Kj ((all_eq_true.1 SU) x hx) rfl (.inl (h5 x hx)),Ey E k st a _ b _ _ (by simp[assoc,Ne.symm n2]) (by simp[assoc,Ne.symm n3];split<;>rfl),au (cA c') _,au (a8 s') _⟩
theorem kq (M0:C.n0=3)(ks:List Nat)(a b:Nat){e:List (Nat×CV)}{E:List En}{k st N M:Nat}{X S cs:List CV}{c':List In}{s':List Nat}(he:pick s.env ks=e)(SU:(e.all λ x=>ET x.2)=true)(ZH:((a != b && (a != 0 && b != 0)) && (a != 5 && b != 5))=true)
  (h0:assoc s.heap 0=some (gG p E k st a N b M)) (ha:assoc s.heap a=some ⟨90,12,X⟩) (hb:assoc s.heap b=some ⟨3,1,S⟩) (h5:assoc s.heap 5=some ⟨207,0,cs⟩) (S8:trees cs=true) (hX:X.map nz=c'.flatMap cY) (hS:S=s'.map λ n:Nat=>I n) (hN:N=c'.length) (hM:M=s'.length) :
  Le C s ⟨e,[(0,gG p E k st 3 c'.length 4 s'.length),(3,fO c'),(4,gK s'),(5,⟨207,0,cs⟩)],6⟩:=by
 subst hN hM hS;simp only[Bool.and_eq_true,bne_iff_ne,ne_eq] at ZH;obtain⟨⟨n1,n2,n3⟩,n4,n5⟩:=ZH;have n1':¬ b=a:=λ h=>n1 h.symm;refine Le.trans (Le.nz [] [a]) ?_;have e1:IV [] s.env=s.env:=by
  have:∀ e:List (Nat×CV),IV [] e=e:=by
   intro e
   induction e with
   | nil=>rfl
   | cons x r ih=>obtain⟨k,c⟩:=x;rw[IV,ih];rfl
  exact this _
 rw[e1];have g0:assoc (CD [a] s.heap) 0=some (gG p E k st a c'.length b s'.length):=by
  rw[eU,h0];simp[Ne.symm n2]
 have ga:assoc (CD [a] s.heap) a=some (fO c'):=by
  rw[eU,ha];simp[hX,fO]
 have gb:assoc (CD [a] s.heap) b=some (gK s'):=by
  rw[eU,hb];simp[n1',gK]
 have g5:assoc (CD [a] s.heap) 5=some ⟨207,0,cs⟩:=by
  rw[eU,h5];simp;intro h;exact (n4 h.symm).elim
 have r0:ec [(0,0),(a,3),(b,4),(5,5)] 6 0=0:=rfl;have ra:ec [(0,0),(a,3),(b,4),(5,5)] 6 a=3:=by simp[ec,assoc,Ne.symm n2]
 have rb:ec [(0,0),(a,3),(b,4),(5,5)] 6 b=4:=by simp[ec,assoc,Ne.symm n3,n1]
 have r5:ec [(0,0),(a,3),(b,4),(5,5)] 6 5=5:=by simp[ec,assoc,n4,n5]
 have TA:=Le.norm (C:=C) (s:=⟨s.env,CD [a] s.heap,s.nx⟩) ks [(0,0),(a,3),(b,4),(5,5)] 3 6 (by simp[xJ,n1,Ne.symm n2,Ne.symm n3,n4,n5]) (by simp only[all_cons,all_nil,g0,ga,gb,g5];rfl) ?_ yA
 .simp only[he,map_cons,map_nil,pick,g0,ga,gb,g5,bz] at TA;rw[AK r0 SU (.inr r5),r0,ra,rb,r5,uw,ra,rb,fO,gK,dm _ _ _ (cA c'),dm _ _ _ (a8 s'),dm _ _ _ S8] at TA;exact TA
 .simp only[cB,he,map_cons,map_nil,pick,g0,ga,gb,g5,all_cons,all_nil,Bool.and_true,Bool.and_eq_true,all_eq_true (l:=e)];refine⟨λ x hx=>Kj ((all_eq_true.1 SU) x hx) rfl (.inr (by simp[assoc,n4,n5])),Ey E k st a _ b _ _ (by simp[assoc,Ne.symm n2]) (by simp[assoc,Ne.symm n3];split<;>rfl),au (cA c') _,au (a8 s') _,au S8 _⟩
end
theorem Ax (p:Pg)(E:List En)(k st a cl b sl n:Nat)(ha:a<n)(hb:b<n):ba n (gG p E k st a cl b sl).cells=true:=by
 obtain⟨t1,t2,t3⟩:=iS p;have t4:tree (.az (E.flatMap jj) E.length)=true:=by simp only[tree]
 simp only[gG,ba,bG n _ t1,bG n _ t2,bG n _ t3,bG n _ t4,Bool.true_and];simp[aU,ha,hb]
def okW (c:CV):Bool:=match c with
 | .ax p 0=>p == 0
 | c=>tree c
theorem Ki {c:CV}(h:okW c=true)(ρ:Nat->Nat)(h0:ρ 0=0):cO ρ c=c:=by
 cases c with
 | ax q f=>
  cases f with
  | zero=>
   simp only[okW,beq_iff_eq] at h;subst h;rw[cO,h0]
  | succ f=>simp[okW,tree] at h
 | _=>exact iW _ _ h
theorem Gk {ρ:Nat->Nat}(h0:ρ 0=0):∀ {cs:List CV},cs.all okW=true->aX ρ cs=cs
 | [],_=>rfl
 | c::cs,h=>by
  simp only[all_cons,Bool.and_eq_true] at h;rw[aX,Ki h.1 ρ h0,Gk h0 h.2]
theorem xC {n:Nat}(hn:0<n):∀ {cs:List CV},cs.all okW=true->ba n cs=true
 | [],_=>rfl
 | c::cs,h=>by
  simp only[all_cons,Bool.and_eq_true] at h;rw[ba,xC hn h.2,Bool.and_true];have h1:=h.1
  cases c with
  | ax q f=>
   cases f with
   | zero=>
    simp only[okW,beq_iff_eq] at h1;subst h1
    simpa [aU] using hn
   | succ f=>simp[okW,tree] at h1
  | _=>exact bG _ _ h1
theorem Nt (m:Nat)(h:4<m):IU [0,3,4] m=true:=by
 simp only[IU,all_cons,all_nil,Bool.and_true,Bool.and_eq_true,decide_eq_true_eq];refine⟨⟨by omega,by omega,by omega⟩,by decide⟩
theorem KJ (m:Nat):bU [0,3,4] m 0=0:=rfl
theorem mapN1 (m:Nat):bU [0,3,4] m 1=3:=rfl
theorem mapN2 (m:Nat):bU [0,3,4] m 2=4:=rfl
theorem mapN3 (m:Nat):bU [0,3,4] m 3=m:=by simp[bU]
theorem mapN4 (m:Nat):bU [0,3,4] m 4=m+1:=by simp[bU];omega
def hO (H:List (Nat×Ob))(ks:List Nat)(nx:Nat):Bool:=H.all λ x=>!ks.contains x.1 && decide (x.1<nx)
theorem sU:∀ (ks:List Nat) (H:List (Nat×Ob)) (nx:Nat),hO H ks nx=true->eA H ks=H
 | [],_,_,_=>rfl
 | k::ks,H,nx,h=>by
  have h1:kC H k=H:=by
   have:∀ H:List (Nat×Ob),hO H (k::ks) nx=true->kC H k=H:=by
    intro H
    induction H with
    | nil=>intro _;rfl
    | cons x r ih=>
     intro h;obtain⟨q,ob⟩:=x;have h':=h;simp only[hO,all_cons,Bool.and_eq_true] at h';have h2:=h'.1.1;simp only[Bool.not_eq_true',contains_eq_mem,decide_eq_false_iff_not,mem_cons,not_or] at h2;rw[kC,if_neg h2.1,ih h'.2]
   exact this H h
  rw[eA,h1];refine sU ks H nx ?_;simp only[hO,all_eq_true,Bool.and_eq_true,Bool.not_eq_true',contains_eq_mem,decide_eq_false_iff_not,mem_cons,not_or] at h |-;exact λ x hx=>⟨(h x hx).1.2,(h x hx).2⟩
theorem O7 {H:List (Nat×Ob)}{ks:List Nat}{nx:Nat}(h:hO H ks nx=true):(H.all λ x=>decide (x.1<nx))=true:=by
 simp only[hO,all_eq_true,Bool.and_eq_true] at h |-;exact λ x hx=>(h x hx).2
section
variable {C:Cx}{p:Pg}{ops:Array Oper}{e:List (Nat×CV)}{H:List (Nat×Ob)}{nx:Nat}
theorem HJ (E:List En)(k st cl sl nx:Nat):bz (bU [0,3,4] nx) [(0,dF p E k st cl sl)]=[(0,gG p E k st 3 cl 4 sl)]:=by
 rw[bz,bz,Aw,uw];rfl
theorem TL.iJ {o:Oper}{l:List Oper}{c:Call}{g:FuncId}{args:List CV}{K:St->Prop}{r0:CV}{E:List En}{k st cl sl:Nat}(hb:Body prog av g args [(0,dF p E k st cl sl)] 3 (iO r0 [(0,dF p E k st cl sl)] 3))(T6:4<nx)(hH:hO H [0] nx=true)
  (hd:bj C.nt o.dst=true) (hg:ca ops ⟨e,(0,gG p E k st 3 cl 4 sl)::H,nx⟩ o=Option.some true) (ho:o.op=.call c) (SP:bK ⟨e,(0,gG p E k st 3 cl 4 sl)::H,nx⟩ c=Option.some (g,args)) (Sx:args.all okW=true) (ht:tree r0=true)
  (hK:TL prog C ops l (St.put ⟨e,(0,gG p E k st 3 cl 4 sl)::H,nx⟩ o.dst r0) K):TL prog C ops (o::l) ⟨e,(0,gG p E k st 3 cl 4 sl)::H,nx⟩ K:=by
 have OZ:eA ((0,gG p E k st 3 cl 4 sl)::H) [0]=H:=sU [0] H nx hH;refine TL.yk af [0,3,4] [0] 3 0 hb rfl (Nt nx T6) hd hg ho yCx (by simp only[HJ];rfl) (xC yA Sx) (by simp only[dn,Aw,Ax p E k st 1 cl 2 sl 3 yA yA];rfl) ht ?_ ?_
 .simp only[HJ,OZ,oy,all_cons,all_nil,Bool.and_true,Bool.and_eq_true];exact⟨rfl,O7 hH⟩
 .simp only[HJ,OZ];exact hK
theorem RX.iJ {o:Oper}{cl:Call}{g:FuncId}{args:List CV}{r0:CV}{W:List u5}{nt N:Nat}{dyn:List (Nat×Nat)}{K:St->Prop}{i:Nat}{r:List Nat}{res:Nat->Er}{E:List En}{k st cn sn:Nat}(hb:Body prog av g args [(0,dF p E k st cn sn)] 3 (iO r0 [(0,dF p E k st cn sn)] 3))(T6:4<nx)(hH:hO H [0] nx=true)
  (hi:ops[i]? = Option.some o) (hd:bj nt o.dst=true) (hg:ca ops ⟨e,(0,gG p E k st 3 cn 4 sn)::H,nx⟩ o=Option.some true) (hu:cz o=Option.some cl) (SP:bK ⟨e,(0,gG p E k st 3 cn 4 sn)::H,nx⟩ cl=Option.some (g,args)) (Sx:args.all okW=true) (ht:tree r0=true) (hv:Bq dyn res i [0]=true)
  (hK:vQ W dyn res i (jg r0 [0] [] 0 [(0,gG p E k st 3 cn 4 sn)])/\nL av W nt ops N dyn (Ez prog av W nt ops N dyn K) r (note dyn res i (jg r0 [0] [] 0 [(0,gG p E k st 3 cn 4 sn)])) (St.put ⟨e,(0,gG p E k st 3 cn 4 sn)::H,nx⟩ o.dst r0)):RX prog av W nt ops N dyn K (i::r) res ⟨e,(0,gG p E k st 3 cn 4 sn)::H,nx⟩:=by
 have OZ:eA ((0,gG p E k st 3 cn 4 sn)::H) [0]=H:=sU [0] H nx hH;refine RX.yk [0,3,4] [0] [] 3 0 hb rfl (Nt nx T6) hi hd hg hu yCx (by simp only[HJ];rfl) (xC yA Sx) (by simp only[dn,Aw,Ax p E k st 1 cn 2 sn 3 yA yA];rfl) ht hv (by simp only[HJ];rfl) (λ _ _ _=>rfl) ?_;simp only[HJ,OZ];exact hK
def T3 (p:Pg)(E:List En)(k st cl sl:Nat)(o1 o2:Ob):List (Nat×Ob):=[(0,gG p E k st 1 cl 2 sl),(1,o1),(2,o2)]
theorem rn_T {E:List En}{k st cl sl nx:Nat}{o1 o2:Ob}(h1:trees o1.cells=true)(h2:trees o2.cells=true):bz (bU [0,3,4] nx) (T3 p E k st cl sl o1 o2)=[(0,gG p E k st 3 cl 4 sl),(3,o1),(4,o2)]:=by
 simp only[T3,bz,uw,KJ,mapN1,mapN2];rw[show bb (bU [0,3,4] nx) o1=o1 from dm _ _ _ h1,show bb (bU [0,3,4] nx) o2=o2 from dm _ _ _ h2]
def T4 (p:Pg)(E:List En)(k st cl sl:Nat)(o1 o2:Ob):List (Nat×Ob):=[(0,gG p E k st 3 cl 4 sl),(3,o1),(4,o2)]
theorem F6 {E:List En}{k st cl sl nx:Nat}{o1 o2:Ob}(h1:trees o1.cells=true)(h2:trees o2.cells=true):bz (bU [0,3,4] nx) (T4 p E k st cl sl o1 o2)=[(0,gG p E k st nx cl (nx+1) sl),(nx,o1),(nx+1,o2)]:=by
 simp only[T4,bz,uw,KJ,mapN3,mapN4];rw[show bb (bU [0,3,4] nx) o1=o1 from dm _ _ _ h1,show bb (bU [0,3,4] nx) o2=o2 from dm _ _ _ h2]
theorem Pz {E:List En}{k st cl sl:Nat}{o1 o2:Ob}(h1:trees o1.cells=true)(h2:trees o2.cells=true):dn 3 (T3 p E k st cl sl o1 o2)=true:=by
 simp only[T3,dn,Ax p E k st 1 cl 2 sl 3 yA yA,bF 3 _ h1,bF 3 _ h2];rfl
variable {E E':List En}{k k' st st' cn cn' sn sn':Nat}{o1 o2 o3 o4:Ob}{args:List CV}{r0:CV}{g:FuncId}
theorem TL.jf {o:Oper}{l:List Oper}{c:Call}{K:St->Prop}(hb:Body prog av g args (T3 p E k st cn sn o1 o2) 3 (iO r0 (T4 p E' k' st' cn' sn' o3 o4) (3+2)))(h1:trees o1.cells=true)(h2:trees o2.cells=true)(h3:trees o3.cells=true)(h4:trees o4.cells=true)(T6:4<nx)(hH:hO H [0,3,4] nx=true)
  (hd:bj C.nt o.dst=true) (hg:ca ops ⟨e,(0,gG p E k st 3 cn 4 sn)::(3,o1)::(4,o2)::H,nx⟩ o=Option.some true) (ho:o.op=.call c) (SP:bK ⟨e,(0,gG p E k st 3 cn 4 sn)::(3,o1)::(4,o2)::H,nx⟩ c=Option.some (g,args)) (Sx:args.all okW=true) (ht:tree r0=true)
  (hK:TL prog C ops l (St.put ⟨e,(0,gG p E' k' st' nx cn' (nx+1) sn')::(nx,o3)::(nx+1,o4)::H,nx+2⟩ o.dst r0) K):TL prog C ops (o::l) ⟨e,(0,gG p E k st 3 cn 4 sn)::(3,o1)::(4,o2)::H,nx⟩ K:=by
 have OZ:eA ((0,gG p E k st 3 cn 4 sn)::(3,o1)::(4,o2)::H) [0,3,4]=H:=sU [0,3,4] H nx hH;refine TL.yk af [0,3,4] [0,3,4] 3 2 hb rfl (Nt nx T6) hd hg ho yCx (by simp only[rn_T h1 h2];rfl) (xC yA Sx) (Pz h1 h2) ht ?_ ?_
 .simp only[F6 h3 h4,OZ,oy,Bool.and_eq_true];exact⟨by simp,O7 hH⟩
 .simp only[F6 h3 h4,OZ];exact hK
theorem RX.jf {o:Oper}{cl:Call}{W:List u5}{nt N:Nat}{dyn:List (Nat×Nat)}{K:St->Prop}{i:Nat}{r:List Nat}{res:Nat->Er}(hb:Body prog av g args (T3 p E k st cn sn o1 o2) 3 (iO r0 (T4 p E' k' st' cn' sn' o3 o4) (3+2)))(h1:trees o1.cells=true)(h2:trees o2.cells=true)(h3:trees o3.cells=true)(h4:trees o4.cells=true)(T6:4<nx)(hH:hO H [0,3,4] nx=true)
  (hi:ops[i]? = Option.some o) (hd:bj nt o.dst=true) (hg:ca ops ⟨e,(0,gG p E k st 3 cn 4 sn)::(3,o1)::(4,o2)::H,nx⟩ o=Option.some true) (hu:cz o=Option.some cl) (SP:bK ⟨e,(0,gG p E k st 3 cn 4 sn)::(3,o1)::(4,o2)::H,nx⟩ cl=Option.some (g,args)) (Sx:args.all okW=true) (ht:tree r0=true) (hv:Bq dyn res i [0,3,4]=true)
  (hK:vQ W dyn res i (jg r0 [0,3,4] [0,3,4,nx,nx+1] 2 [(0,gG p E' k' st' nx cn' (nx+1) sn'),(nx,o3),(nx+1,o4)])/\nL av W nt ops N dyn (Ez prog av W nt ops N dyn K) r (note dyn res i (jg r0 [0,3,4] [0,3,4,nx,nx+1] 2 [(0,gG p E' k' st' nx cn' (nx+1) sn'),(nx,o3),(nx+1,o4)])) (St.put ⟨e,(0,gG p E' k' st' nx cn' (nx+1) sn')::(nx,o3)::(nx+1,o4)::H,nx+2⟩ o.dst r0)) :
  RX prog av W nt ops N dyn K (i::r) res ⟨e,(0,gG p E k st 3 cn 4 sn)::(3,o1)::(4,o2)::H,nx⟩:=by
 have OZ:eA ((0,gG p E k st 3 cn 4 sn)::(3,o1)::(4,o2)::H) [0,3,4]=H:=sU [0,3,4] H nx hH;refine RX.yk [0,3,4] [0,3,4] [0,3,4,nx,nx+1] 3 2 hb rfl (Nt nx T6) hi hd hg hu yCx (by simp only[rn_T h1 h2];rfl) (xC yA Sx) (Pz h1 h2) ht hv ?_ (λ q hq hn=>(hn (mem_append_left [nx,nx+1] hq)).elim) ?_
 .simp only[F6 h3 h4];have e1:¬ 0=nx:=by omega
  have e2:¬ 3=nx:=by omega
  simp[assoc,e1]
 .simp only[F6 h3 h4,OZ];exact hK
def Sn (c:List In)(cs:List CV):Ob:=⟨90,12,c.flatMap cY++cs⟩
theorem za (c:List In){cs:List CV}(h:trees cs=true):trees (Sn c cs).cells=true:=by simp only[Sn,a9,cA,h];rfl
theorem xk (p:Pg)(E:List En)(k st:Nat)(c:List In)(s:List Nat)(cs:List CV)(S8:cs.length=12)(T8:trees cs=true)(n:Nat)(hN:c.length<=10000)(hM:s.length<=10000) :
  Body prog av 130 [.ax 0 0,.agg cs,I n] (T3 p E k st c.length s.length (fO c) (gK s)) 3 (iO (I c.length) (T4 p E k st (c.length+1) (s.length+1) (Sn c cs) (gK (s++[n]))) (3+2)):=by
 have:=Qf p E k st (c.flatMap cY) c.length (Bm c) (cA c) (s.map λ n:Nat=>I n) s.length xr (a8 s) hN hM cs S8 T8 n
 simpa only[T3,T4,Sn,gK,fO,map_append,map_cons,map_nil] using this
theorem Qg (p:Pg)(E:List En)(k st:Nat)(c:List In)(s:List Nat)(N M:Nat)(h1:N=c.length)(h2:M=s.length)(cs:List CV)(S8:cs.length=12)(T8:trees cs=true)(n:Nat)(hN:N<=10000)(hM:M<=10000) :
  Body prog av 130 [.ax 0 0,.agg cs,I n] (T3 p E k st N M (fO c) (gK s)) 3 (iO (I N) (T4 p E k st (N+1) (M+1) (Sn c cs) (gK (s++[n]))) (3+2)):=by
 subst h1 h2;exact xk p E k st c s cs S8 T8 n hN hM
theorem j7 (c:List In)(cs:List CV)(x:In)(h:cs.map nz=cY x):(c.flatMap cY++cs).map nz=(c++[x]).flatMap cY:=by simp[sH,h]
end
theorem qM (E0:List En)(l:List Sm)(i:Nat):((bE E0 l i).all λ x=>ET x.2)=true:=by
 simp[bE,ET,tree]
theorem qN (E0:List En)(l:List Sm)(i:Nat):∀ x∈bE E0 l i,x.2≠CV.ax 5 0:=by
 simp[bE]
@[simp] theorem MW (p:Pg)(E:List En)(k st a cl b sl n:Nat):(gG p E k st a cl b sl).cells.all (aU n)=(decide (a<n) && decide (b<n)):=by
 obtain⟨t1,t2,t3⟩:=iS p;have t4:tree (.az (E.flatMap jj) E.length)=true:=by simp only[tree]
 simp only[gG,all_cons,all_nil,bG n _ t1,bG n _ t2,bG n _ t3,bG n _ t4,Bool.true_and];simp[aU]
@[simp] theorem scO_ltS (p:Pg)(E:List En)(k st a cl b sl n:Nat):ba n (gG p E k st a cl b sl).cells=(decide (a<n) && decide (b<n)):=by rw[aT];exact MW p E k st a cl b sl n
@[simp] theorem LI (c:List In)(n:Nat):(fO c).cells.all (aU n)=true:=ai (cA c) n
@[simp] theorem JJ (s:List Nat)(n:Nat):(gK s).cells.all (aU n)=true:=ai (a8 s) n
@[simp] theorem coOb_ltS (c:List In)(n:Nat):ba n (fO c).cells=true:=by rw[aT];exact LI c n
@[simp] theorem siOb_ltS (s:List Nat)(n:Nat):ba n (gK s).cells=true:=by rw[aT];exact JJ s n
@[simp] theorem coOb_frz (c:List In)(o:Nat)(cs:List CV)(n:Nat):(fO c).cells.map (cC o cs n)=(fO c).cells:=aN (cA c) o cs n
@[simp] theorem siOb_frz (s:List Nat)(o:Nat)(cs:List CV)(n:Nat):(gK s).cells.map (cC o cs n)=(gK s).cells:=aN (a8 s) o cs n
@[simp] theorem coOb_eta (c:List In):(⟨(fO c).elem,(fO c).sz,(fO c).cells⟩:Ob)=fO c:=rfl
@[simp] theorem siOb_eta (s:List Nat):(⟨(gK s).elem,(gK s).sz,(gK s).cells⟩:Ob)=gK s:=rfl
def MZ (p:Pg)(E0:List En)(l:List Sm)(i:Nat)(E:List En)(k st:Nat)(c:List In)(s:List Nat)(cs:List CV)(n:Nat):St:=
 ⟨mE E0 l i n,[(0,gG p E k st 3 c.length 4 s.length),(3,fO c),(4,gK s),(5,⟨207,0,cs⟩)],6⟩
theorem Of {C:Cx}{Q:Exit->St->Prop}(hC:C.nt=253)(M0:C.n0=3)(p:Pg)(E0:List En)(l:List Sm)(i:Nat){g:Nat}{fs:List (ByteArray×List Pm)}{ps:List Pm}{V:List ByteArray}(E:List En)(k st:Nat)(c:List In)(s:List Nat)(n:Nat)
  (hE:EW g p.ms fs ps V E k) (hl:E.length<=100000) (hm:p.ms.length<=1000) (hc:c.length<=9000) (hs:s.length<=9000) (u:Bool) (r:Rf) (hr:I2 p.ms ps V r) :
  T prog C (kW Tryz.f129 2) (MS p E0 l i E k st c s (.dS u r) n) (fz (aa C (λ z=>z=NS p E0 l i E k st (c++[.lock u (Az E r)]) (s++[n]))) Q):=by
 have hb:=GC p E k st c.length s.length hE hl hm n r hr;obtain⟨b1,b2,b3,b4,hp,ht⟩:=pb (Az E r);obtain⟨a1,a2,a3,hrf,hta⟩:=P3 r;have SF:cY (.lock u (Az E r))=[I (if u then 5 else 4),I 0,.bool false,I 0,I 0,.str eS,.az [] 0,.bool b1,I b2,.az b3 b4,.az [] 0,.az [] 0]:=by simp[cY,hp,bf]
 rw[hp,hrf] at hb;apply T.block;have Wm:ji (.dS u r)=[I (if u then 6 else 5),.str eS,I 0,I 0,.str eS,.az [] 0,.str a1,.az a2 a3,.az [] 0,.az [] 0,.az [] 0]:=by simp[ji,hrf,bf]
 simp only[MS,mE,mH,KO,Wm]
 cases u with
 | false=>
  apply aq;simp[hC];refine bg ?_;simp;apply aq;simp[hC];refine bg ?_;simp;apply aW;simp[hC];refine bg ?_;simp;apply aM;simp[hC];refine bg ?_;simp;apply aq;simp[hC];refine du ?_;simp;apply aM;simp[hC];refine TL.iJ (hb) yA rfl Rg rfl rfl Vj Vm Vl (TL.go' af ?_);simp[hC];refine TL.jf (xk p E k st c s [I 4,I 0,.bool false,I 0,I 0,.str eS,.aj,.bool b1,I b2,.az b3 b4,.aj,.aj] rfl (by simp[trees,tree]) n yA yA) U1 (a8 _) U1 (a8 _) yA rfl Rg rfl rfl Vj Vm Vl (TL.go' af ?_);simp;refine aa.le (mo M0 [5,4,0,1] 6 7 (e:=bE E0 l i) rfl (qM _ _ _) (qN _ _ _) rfl rfl rfl rfl (j7 _ _ (.lock false (Az E r)) (by simp[SF])) rfl xr xr) (aa.here rfl)
 | true=>
  apply aq;simp[hC];refine bg ?_;simp;apply aq;simp[hC];refine bg ?_;simp;apply aW;simp[hC];refine bg ?_;simp;apply aM;simp[hC];refine bg ?_;simp;apply aq;simp[hC];refine bg ?_;simp;apply aq;simp[hC];refine du ?_;simp;apply aM;simp[hC];refine TL.iJ (hb) yA rfl Rg rfl rfl Vj Vm Vl (TL.go' af ?_);simp[hC];refine TL.jf (xk p E k st c s [I 5,I 0,.bool false,I 0,I 0,.str eS,.aj,.bool b1,I b2,.az b3 b4,.aj,.aj] rfl (by simp[trees,tree]) n yA yA) U1 (a8 _) U1 (a8 _) yA rfl Rg rfl rfl Vj Vm Vl (TL.go' af ?_);simp;refine aa.le (mo M0 [5,4,0,1] 6 7 (e:=bE E0 l i) rfl (qM _ _ _) (qN _ _ _) rfl rfl rfl rfl (j7 _ _ (.lock true (Az E r)) (by simp[SF])) rfl xr xr) (aa.here rfl)
theorem Q3 {C:Cx}{Q:Exit->St->Prop}(hC:C.nt=253)(M0:C.n0=3)(p:Pg)(E0:List En)(l:List Sm)(i:Nat)(E:List En)(k st:Nat)(c:List In)(s:List Nat)(n:Nat)
  (hc:c.length<=9000) (hs:s.length<=9000) :
  T prog C (kW Tryz.f129 2) (MS p E0 l i E k st c s .kj n) (fz (aa C (λ z=>z=NS p E0 l i E k st (c++[.ret]) (s++[n]))) Q):=by
 apply T.block;simp only[MS,mE,mH,KO,ji];apply aq;simp[hC];refine bg ?_;simp;apply aq;simp[hC];refine bg ?_;simp;apply aW;simp[hC];refine bg ?_;simp;apply aM;simp[hC];refine bg ?_;simp;apply aq;simp[hC];refine bg ?_;simp;apply aq;simp[hC];refine bg ?_;simp;apply aq;simp[hC];refine bg ?_;simp;apply aq;simp[hC];refine bg ?_;simp;apply aM;simp[hC];refine TL.jf (xk p E k st c s [I 8,I 0,.bool false,I 0,I 0,.str eS,.aj,.bool false,I 0,.aj,.aj,.aj] rfl rfl n yA yA) U1 (a8 _) U1 (a8 _) yA rfl Rg rfl rfl Vj Vm Vl (TL.go' af ?_);simp;refine aa.le (mo M0 [5,4,0,1] 6 7 (e:=bE E0 l i) rfl (qM _ _ _) (qN _ _ _) rfl rfl rfl rfl (j7 _ _ (.ret) (by simp[cY,bf,oE])) rfl xr xr) (aa.here rfl)
theorem Og {C:Cx}{Q:Exit->St->Prop}(hC:C.nt=253)(M0:C.n0=3)(p:Pg)(E0:List En)(l:List Sm)(i:Nat){g:Nat}{ps:List Pm}{V:List ByteArray}(E:List En)(k st:Nat)(c:List In)(s:List Nat)(n:Nat)
  (hE:EW g p.ms (p.fs.map λ f=>(f.name,f.params)) ps V E k) (hl:E.length<=100000) (hm:p.ms.length<=1000) (Tg:p.fs.length<=1000) (hc:c.length<=9000) (hs:s.length<=9000) (go:Bool) (nm:ByteArray) (gp:List Pm) (al:List Ar)
  (hg:(nm,gp)∈p.fs.map λ f=>(f.name,f.params)) (hw:j0 p.ms ps V gp al) (XI:gp.length<=1000) :
  T prog C (kW Tryz.f129 2) (MS p E0 l i E k st c s (.eM go nm al) n) (fz (aa C (λ z=>z=NS p E0 l i E k st (c++[.call go (nc E nm).n (dz E al) (fE E al)]) (s++[n]))) Q):=by
 have hb:=KN p E k st c.length s.length hE hl hm Tg n go nm gp al hg hw XI;have XS:=eB (.call go (nc E nm).n (dz E al) (fE E al));have lin:=hU (.call go (nc E nm).n (dz E al) (fE E al));have nin:=Km (.call go (nc E nm).n (dz E al) (fE E al));have tsm:=js (.eM go nm al);have lsm:=lP (.eM go nm al);generalize hX:cY (.call go (nc E nm).n (dz E al) (fE E al))=X at hb XS lin nin;have hS:ji (.eM go nm al)=qO (if go=true then 4 else 3) nm al:=rfl;rw[hS] at hb;apply T.block;simp only[MS,mE,mH,KO,hS,qO];simp only[qO] at hb
 cases go with
 | false=>
  apply aq;simp[hC];refine bg ?_;simp;apply aq;simp[hC];refine bg ?_;simp;apply aW;simp[hC];refine jk ?_;simp;refine du ?_;simp;apply aM;simp[hC];refine TL.iJ (hb) yA rfl Rg rfl rfl Vj Vm Vl (TL.go' af ?_);simp[hC];refine TL.jf (xk p E k st c s X lin XS n yA yA) U1 (a8 _) U1 (a8 _) yA rfl Rg rfl rfl Vj Vm Vl (TL.go' af ?_);simp;refine aa.le (mo M0 [5,4,0,1] 6 7 (e:=bE E0 l i) rfl (qM _ _ _) (qN _ _ _) rfl rfl rfl rfl (j7 _ _ (.call false (nc E nm).n (dz E al) (fE E al)) (by simp[nin,hX])) rfl xr xr) (aa.here rfl)
 | true=>
  apply aq;simp[hC];refine bg ?_;simp;apply aq;simp[hC];refine bg ?_;simp;apply aW;simp[hC];refine bg ?_;simp;apply aM;simp[hC];refine du ?_;simp;apply aM;simp[hC];refine TL.iJ (hb) yA rfl Rg rfl rfl Vj Vm Vl (TL.go' af ?_);simp[hC];refine TL.jf (xk p E k st c s X lin XS n yA yA) U1 (a8 _) U1 (a8 _) yA rfl Rg rfl rfl Vj Vm Vl (TL.go' af ?_);simp;refine aa.le (mo M0 [5,4,0,1] 6 7 (e:=bE E0 l i) rfl (qM _ _ _) (qN _ _ _) rfl rfl rfl rfl (j7 _ _ (.call true (nc E nm).n (dz E al) (fE E al)) (by simp[nin,hX])) rfl xr xr) (aa.here rfl)
theorem Q5 {C:Cx}{Q:Exit->St->Prop}(hC:C.nt=253)(M0:C.n0=3)(p:Pg)(E0:List En)(l:List Sm)(i:Nat){g:Nat}{fs:List (ByteArray×List Pm)}{ps:List Pm}{V:List ByteArray}(E:List En)(k st:Nat)(c:List In)(s:List Nat)(n:Nat)
  (hE:EW g p.ms fs ps V E k) (hl:E.length<=100000) (hc:c.length<=9000) (hs:s.length<=9000) (nm:ByteArray) (x:Ex) (hn:nm∈V) (hx:gC V 2 x) :
  T prog C (kW Tryz.f129 2) (MS p E0 l i E k st c s (.jx nm x) n) (fz (aa C (λ z=>z=NS p E0 l i E k st (c++[.set (nc E nm).n (decide ((nc E nm).kind=1)) (eF E x)]) (s++[n]))) Q):=by
 obtain⟨kd,j,hf,hkd⟩:=hE.v nm hn;have hv:=u9 p E k st c.length s.length hl nm _ hf yBx n;rw[jb hf];have hb:=ll p E k st c.length s.length hE hl n 2 x hx;obtain⟨a1,a2,a3,a4,a5,ha,hta⟩:=gf x;obtain⟨b1,b2,b3,b4,b5,SS,htb⟩:=gf (eF E x);have SF:cY (.set j (decide (kd=1)) (eF E x))=[I 1,I j,.bool (decide (kd=1)),I b1,I b2,.str b3,.az b4 b5,.bool false,I 0,.az [] 0,.az [] 0,.az [] 0]:=by simp[cY,SS,oE]
 have Wm:ji (.jx nm x)=[I 2,.str nm,I a1,I a2,.str a3,.az a4 a5,.str eS,.az [] 0,.az [] 0,.az [] 0,.az [] 0]:=by simp[ji,ha,ml]
 rw[ha,SS] at hb;have WQ:((kd:Int) == 1)=decide (kd=1):=by rcases hkd with ⟨rfl,_⟩ | ⟨rfl,_⟩<;>rfl
 apply T.block;simp only[MS,mE,mH,KO,Wm];apply aq;simp[hC];refine bg ?_;simp;apply aq;simp[hC];refine du ?_;simp;apply aq;simp[hC];refine TL.iJ (hv) yA rfl Rg rfl rfl Vj Vm Vl (TL.go' af ?_);simp[hC,jj];refine T.le (Le.trim [6,7,5,4,0,1,11] [0,3,4,5,6] 7 We yA) ?_;simp;refine T.rx af follows [0,1,2,3,4,5,6,7,8,9,12,10,11,13] [(2,10),(4,10)] Bw ?_;simp[hC];refine RX.iJ (hb) yA rfl rfl xr rfl rfl Vj Vm Vl xr ?_;simp;refine RX.jf (xk p E k st c s [I 1,I j,.bool (decide (kd=1)),I b1,I b2,.str b3,.az b4 b5,.bool false,I 0,.aj,.aj,.aj] rfl Xc n yA yA) U1 (a8 _) U1 (a8 _) yA rfl rfl xr rfl rfl Vj Vm Vl xr ?_;simp;refine aa.le (mo M0 [5,4,0,1] 21 22 (e:=bE E0 l i) rfl (qM _ _ _) (qN _ _ _) rfl rfl rfl rfl (j7 _ _ (.set j (decide (kd=1)) (eF E x)) (by simp[SF])) rfl xr xr) (aa.here rfl)
theorem Q2 {C:Cx}{Q:Exit->St->Prop}(hC:C.nt=253)(M0:C.n0=3)(p:Pg)(E0:List En)(l:List Sm)(i:Nat){g:Nat}{fs:List (ByteArray×List Pm)}{ps:List Pm}{V:List ByteArray}(E:List En)(k st:Nat)(c:List In)(s:List Nat)(n:Nat)
  (hE:EW g p.ms fs ps V E k) (hl:E.length<=90000) (hk:k<=9000) (hc:c.length<=9000) (hs:s.length<=9000) (nm:ByteArray) (x:Ex) (hn:jJ E nm=none) (hx:gC V 2 x) :
  T prog C (kW Tryz.f129 2) (MS p E0 l i E k st c s (.iU nm x) n) (fz (aa C (λ z=>z=NS p E0 l i (E++[⟨nm,4,k⟩]) (k+1) st (c++[.set k false (eF E x)]) (s++[n]))) Q):=by
 have hb:=ll p E k st c.length s.length hE yA n 2 x hx;have VW:=sQ E nm yA;rw[hn] at VW;obtain⟨a1,a2,a3,a4,a5,ha,hta⟩:=gf x;obtain⟨b1,b2,b3,b4,b5,SS,htb⟩:=gf (eF E x);have SF:cY (.set k false (eF E x))=[I 1,I k,.bool false,I b1,I b2,.str b3,.az b4 b5,.bool false,I 0,.az [] 0,.az [] 0,.az [] 0]:=by simp[cY,SS,oE]
 have Wm:ji (.iU nm x)=[I 1,.str nm,I a1,I a2,.str a3,.az a4 a5,.str eS,.az [] 0,.az [] 0,.az [] 0,.az [] 0]:=by simp[ji,ha,ml]
 rw[ha,SS] at hb;apply T.block;simp only[MS,mE,mH,KO,Wm];apply aq;simp[hC];refine du ?_;simp;refine T.seq (T.seq ?_);refine T.rx af follows [0,1,2,3,4,5,10,6,7,8,9,11,12] [(3,10),(5,10),(10,6)] Bw ?_;simp[hC,gG];refine RX.call rfl xr rfl rfl rfl SD (VW) ?_;simp[sP];apply aq;simp[hC];refine gk ?_;simp;refine T.le (Le.to (s':=MZ p E0 l i E k st c s [I 1,.str nm,I a1,I a2,.str a3,.az a4 a5,.str eS,.az [] 0,.az [] 0,.az [] 0,.az [] 0] n) [6,7,5,4,0,1] [0,3,4,5] 6 We yA rfl) ?_;simp only[MZ,mE];apply aq;simp[hC];refine TL.iJ (hb) yA rfl Rg rfl rfl Vj Vm Vl (TL.go' af ?_);simp[hC];refine T.le (Le.trim [6,7,5,4,0,1,10] [0,3,4,5,6] 7 We yA) ?_;simp;apply T.seq;refine T.rx af follows [0,1,2,3,4,5,6,7,8] [] Bw ?_;simp[hC,gG];refine RX.jf (xk p E k st c s [I 1,I k,.bool false,I b1,I b2,.str b3,.az b4 b5,.bool false,I 0,.aj,.aj,.aj] rfl Xc n yA yA) U1 (a8 _) U1 (a8 _) yA rfl rfl xr rfl rfl Vj Vm Vl xr ?_;simp;refine T.le (kq M0 [6,7,5,4,0,1] 16 17 (e:=mE E0 l i n) rfl Y8 rfl rfl rfl rfl rfl Xc (j7 _ _ (.set k false (eF E x)) (by simp[SF])) rfl xr xr) ?_;simp only[mE];have f1:=aG (f:=jj) (n:=3) l6 E;have WX:E.length*32<=140737488355328:=by omega
 have bd2:(E.length+1)*32<=140737488355328:=by omega
 apply T.seq;refine T.rx af follows [0,1,2,3,4,5,6,7,8,9,10,11,12,13,14,15,16,17,18] [(1,5),(1,8),(1,12),(1,14),(5,14),(6,8),(6,12),(6,14)] Bw ?_;simp[hC,gG,f1,WX,bd2,aY];have wk:=cr ((k:Int)+1) yA yA;have tn:trees (E.flatMap jj++[.str nm,I 4,I k])=true:=by rw[a9,cK];rfl
 have tk:take ((E.length+1)*3) (E.flatMap jj++[.str nm,I 4,I k])=E.flatMap jj++[.str nm,I 4,I k]:=take_of_length_le (by simp only[length_append,f1,length_cons,length_nil];omega);have q1:=ai (jO p.gs);have q2:=ai (dw p.ms);have q3:=ai (da p.fs);have q4:=ai (cK E);have q5:=ai (cK E0);have q6:=ai (bQ l);apply aM;simp[hC,wk];refine aa.le (Le.trim [5,4,0,1] [0,26,3,4] 27 (by simp[-all_eq_true,-all_flatMap,q4]) yA) ?_;simp;refine aa.le (Le.di (o:=26) rfl tn) ?_;simp[tk];refine aa.trim [5,4,0,1] [0,3,4] 5 We yA ?_;simp[NS,bE,gG,jj]
theorem Bl (c S:List In){i0 i1:In}{a b d:CV}{r:List CV}(h0:cY i0=a::b::r)(h1:cY i1=a::d::r) :
  take (c.length*12+1) (fO (c++i0::S)).cells++d::drop (c.length*12+1+1) (fO (c++i0::S)).cells=(fO (c++i1::S)).cells:=by
 have e0:(fO (c++i0::S)).cells=c.flatMap cY++(a::b::(r++S.flatMap cY)):=by simp[fO,h0]
 have e1:(fO (c++i1::S)).cells=c.flatMap cY++(a::d::(r++S.flatMap cY)):=by simp[fO,h1]
 rw[e0,e1,<- Bm c];rw[take_append,drop_append,take_of_length_le yA,drop_of_length_le yA];have k1:(c.flatMap cY).length+1-(c.flatMap cY).length=1:=by omega
 have k2:(c.flatMap cY).length+1+1-(c.flatMap cY).length=2:=by omega
 rw[k1,k2];simp
theorem Bn (c S:List In)(i0:In):c.length*12+1+1<=(fO (c++i0::S)).cells.length:=by
 simp only[fO,Bm,length_append,length_cons];omega
def I4 (p:Pg)(l:List Sm)(E:List En)(k st:Nat)(c:List In)(s:List Nat):Prop:=
 Body prog av 129 [.ax 0 0,.az (bP l) l.length] (T3 p E k st c.length s.length (fO c) (gK s)) 3
  (iO (.cF []) (T4 p E (cc l E k c.length).2 (st+fY l) (c.length+(cc l E k c.length).1.length) (s.length+(jw l st).length) (fO (c++(cc l E k c.length).1)) (gK (s++jw l st))) (3+2))
theorem cs_if {C:Cx}{Q:Exit->St->Prop}(hC:C.nt=253)(M0:C.n0=3)(p:Pg)(E0:List En)(l:List Sm)(i:Nat){g:Nat}{fs:List (ByteArray×List Pm)}{ps:List Pm}{V:List ByteArray}(E:List En)(k st:Nat)(c:List In)(s:List Nat)(n:Nat)
  (hE:EW g p.ms fs ps V E k) (hl:E.length<=90000) (_hk:k<=9000) (hc:c.length<=9000) (hs:s.length<=9000) (x:Ex) (th el:List Sm) (hx:gC V 2 x)
  (Sz:st=n+1) (h1:I4 p th E k st (c++[.branch 0 (eF E x)]) (s++[n])) (SK:el.length=0) :
  T prog C (kW Tryz.f129 2) (MS p E0 l i E k st c s (.mL x th el) n) (fz (aa C (λ z=>z=NS p E0 l i E (cc th E k (c.length+1)).2 (st+fY th) (c++(eQ (.mL x th el) E k c.length).1) (s++yH (.mL x th el) n))) Q):=by
 subst Sz;simp only[I4,length_append,length_singleton] at h1;have hb:=ll p E k (n+1) c.length s.length hE yA n 2 x hx;obtain⟨a1,a2,a3,a4,a5,ha,hta⟩:=gf x;obtain⟨b1,b2,b3,b4,b5,SS,htb⟩:=gf (eF E x);have SF:cY (.branch 0 (eF E x))=[I 6,I 0,.bool false,I b1,I b2,.str b3,.az b4 b5,.bool false,I 0,.az [] 0,.az [] 0,.az [] 0]:=by simp[cY,SS,oE]
 have Wm:ji (.mL x th el)=[I 7,.str eS,I a1,I a2,.str a3,.az a4 a5,.str eS,.az [] 0,.az [] 0,.az (bP th) th.length,.az (bP el) el.length]:=by simp[ji,ha,ml]
 rw[ha,SS] at hb;have t1:=bQ th;have t2:=bQ el;have q5:=ai (cK E0);have q6:=ai (bQ l);apply T.block;simp only[MS,mE,mH,KO,Wm];apply aq;simp[hC];refine bg ?_;simp;apply aq;simp[hC];refine bg ?_;simp;apply aW;simp[hC];refine bg ?_;simp;apply aM;simp[hC];refine bg ?_;simp;apply aq;simp[hC];refine bg ?_;simp;apply aq;simp[hC];refine bg ?_;simp;apply aq;simp[hC];refine du ?_;simp;apply aq;simp[hC];refine TL.iJ (hb) yA rfl Rg rfl rfl Vj Vm Vl (TL.go' af ?_);simp[hC];refine TL.jf (xk p E k (n+1) c s [I 6,I 0,.bool false,I b1,I b2,.str b3,.az b4 b5,.bool false,I 0,.aj,.aj,.aj] rfl Xc n yA yA) U1 (a8 _) U1 (a8 _) yA rfl Rg rfl rfl Vj Vm Vl (TL.go' af ?_);simp[hC];refine T.le (kq M0 [12,6,7,5,4,0,1] 6 7 (e:=(12,I c.length)::mE E0 l i n) rfl Y8 rfl rfl rfl rfl rfl Xc (j7 _ _ (.branch 0 (eF E x)) (by simp[SF])) rfl xr xr) ?_;simp only[mE];apply aq;simp[hC];refine TL.jf h1 (cA _) (a8 _) (cA _) (a8 _) yA rfl Rg rfl rfl rfl yCn rfl (TL.go' af ?_);generalize hS:cc th E k (c.length+1)=S at h1;obtain⟨S1,S2⟩:=S;generalize hT:jw th (n+1)=S3 at h1;simp only at h1;simp[SK];have YF:cY (.branch (c.length+1+S1.length) (eF E x))=[I 6,I ((c.length+1+S1.length:Nat):Int),.bool false,I b1,I b2,.str b3,.az b4 b5,.bool false,I 0,.az [] 0,.az [] 0,.az [] 0]:=by simp[cY,SS,oE]
 have TV:=Bl c S1 SF YF;have hcf:=Bn c S1 (.branch 0 (eF E x));simp only[Int.natCast_add,Int.cast_ofNat_Int] at TV;apply aq;simp[hC];refine bg ?_;simp;refine T.rx af follows [0,1,2,3,4,5,6,7,8,9,10,11,12] [] Bw ?_;have P1:(c.length:Int)<(c.length:Int)+1+(S1.length:Int):=by omega
 simp[hC,gG,P1,hcf,TV];refine aa.le (mo M0 [5,4,0,1] 6 7 (e:=bE E0 l i) rfl (qM _ _ _) (qN _ _ _) rfl rfl rfl rfl (c':=c++.branch (c.length+1+S1.length) (eF E x)::S1) (s':=s++n::S3) (sH _) rfl Tv Tv) (aa.here ?_);simp[eQ,yH,SK,hS,hT,NS]
theorem Q4 {C:Cx}{Q:Exit->St->Prop}(hC:C.nt=253)(M0:C.n0=3)(p:Pg)(E0:List En)(l:List Sm)(i:Nat){g:Nat}{fs:List (ByteArray×List Pm)}{ps:List Pm}{V:List ByteArray}(E:List En)(k st:Nat)(c:List In)(s:List Nat)(n:Nat)
  (hE:EW g p.ms fs ps V E k) (hl:E.length<=90000) (_hk:k<=9000) (hc:c.length<=9000) (hs:s.length<=9000) (x:Ex) (th el:List Sm) (hx:gC V 2 x)
  (Sz:st=n+1) (h1:I4 p th E k st (c++[.branch 0 (eF E x)]) (s++[n])) (h2:I4 p el E (cc th E k (c.length+1)).2 (n+1+fY th) (c++.branch (c.length+2+(cc th E k (c.length+1)).1.length) (eF E x)::((cc th E k (c.length+1)).1++[.jump 0])) (s++n::(jw th (n+1)++[n]))) (SK:0<el.length) (SA:c.length+(cc th E k (c.length+1)).1.length<=9000) (Ym:s.length+(jw th (n+1)).length<=9000) :
  T prog C (kW Tryz.f129 2) (MS p E0 l i E k st c s (.mL x th el) n) (fz (aa C (λ z=>z=NS p E0 l i E (cc el E (cc th E k (c.length+1)).2 (c.length+2+(cc th E k (c.length+1)).1.length)).2 (st+fY th+fY el) (c++(eQ (.mL x th el) E k c.length).1) (s++yH (.mL x th el) n))) Q):=by
 subst Sz;simp only[I4,length_append,length_singleton] at h1;simp only[I4,length_append,length_cons,length_nil,Nat.zero_add] at h2;have hb:=ll p E k (n+1) c.length s.length hE yA n 2 x hx;obtain⟨a1,a2,a3,a4,a5,ha,hta⟩:=gf x;obtain⟨b1,b2,b3,b4,b5,SS,htb⟩:=gf (eF E x);have SF:cY (.branch 0 (eF E x))=[I 6,I 0,.bool false,I b1,I b2,.str b3,.az b4 b5,.bool false,I 0,.az [] 0,.az [] 0,.az [] 0]:=by simp[cY,SS,oE]
 have Wm:ji (.mL x th el)=[I 7,.str eS,I a1,I a2,.str a3,.az a4 a5,.str eS,.az [] 0,.az [] 0,.az (bP th) th.length,.az (bP el) el.length]:=by simp[ji,ha,ml]
 rw[ha,SS] at hb;have t1:=bQ th;have t2:=bQ el;have q5:=ai (cK E0);have q6:=ai (bQ l);apply T.block;simp only[MS,mE,mH,KO,Wm];apply aq;simp[hC];refine bg ?_;simp;apply aq;simp[hC];refine bg ?_;simp;apply aW;simp[hC];refine bg ?_;simp;apply aM;simp[hC];refine bg ?_;simp;apply aq;simp[hC];refine bg ?_;simp;apply aq;simp[hC];refine bg ?_;simp;apply aq;simp[hC];refine du ?_;simp;apply aq;simp[hC];refine TL.iJ (hb) yA rfl Rg rfl rfl Vj Vm Vl (TL.go' af ?_);simp[hC];refine TL.jf (xk p E k (n+1) c s [I 6,I 0,.bool false,I b1,I b2,.str b3,.az b4 b5,.bool false,I 0,.aj,.aj,.aj] rfl Xc n yA yA) U1 (a8 _) U1 (a8 _) yA rfl Rg rfl rfl Vj Vm Vl (TL.go' af ?_);simp[hC];refine T.le (kq M0 [12,6,7,5,4,0,1] 6 7 (e:=(12,I c.length)::mE E0 l i n) rfl Y8 rfl rfl rfl rfl rfl Xc (j7 _ _ (.branch 0 (eF E x)) (by simp[SF])) rfl xr xr) ?_;simp only[mE];apply aq;simp[hC];refine TL.jf h1 (cA _) (a8 _) (cA _) (a8 _) yA rfl Rg rfl rfl rfl yCn rfl (TL.go' af ?_);generalize hS:cc th E k (c.length+1)=S at h1 h2 SA;obtain⟨S1,S2⟩:=S;generalize hT:jw th (n+1)=S3 at h1 h2 Ym;simp only at h1 h2 SA;have hlen:c.length+(S1.length+1+1)=c.length+2+S1.length:=by omega
 generalize hS':cc el E S2 (c.length+(S1.length+1+1))=S' at h2;obtain⟨S4,S5⟩:=S';generalize hT':jw el (n+1+fY th)=S6 at h2;simp only at h2;simp;refine T.le (kq M0 [12,6,7,5,4,0,1] 6 7 (e:=(12,I c.length)::mE E0 l i n) (c':=c++.branch 0 (eF E x)::S1) (s':=s++n::S3) rfl Y8 rfl rfl rfl rfl rfl Xc (sH _) rfl Tv Tv) ?_;simp only[mE];have hel':0<el.length:=SK;apply aq;simp[hC,hel'];refine du ?_;simp;apply aq;simp[hC];refine TL.jf (Qg p E S2 (n+1+fY th) (c++.branch 0 (eF E x)::S1) (s++n::S3) (c.length+(S1.length+1)) (s.length+(S3.length+1)) xr xr [I 7,I 0,.bool false,I 0,I 0,.str eS,.aj,.bool false,I 0,.aj,.aj,.aj] rfl rfl n yA yA) U1 (a8 _) U1 (a8 _) yA rfl Rg rfl rfl Vj Vm Vl (TL.go' af ?_);simp[hC];refine T.le (kq M0 [13,12,6,7,5,4,0,1] 6 7 (e:=(13,I (c.length+(S1.length+1)))::(12,I c.length)::mE E0 l i n) (c':=c++.branch 0 (eF E x)::(S1++[.jump 0])) (s':=s++n::(S3++[n])) rfl Y8 rfl rfl rfl rfl rfl Xc (by simpa using j7 (c++In.branch 0 (eF E x)::S1) [I 7,I 0,.bool false,I 0,I 0,.str eS,.aj,.bool false,I 0,.aj,.aj,.aj] (.jump 0) (by simp[cY,bf,oE])) rfl Tv Tv) ?_;simp only[mE];have YF:cY (.branch (c.length+2+S1.length) (eF E x))=[I 6,I ((c.length:Int)+((S1.length:Int)+1+1)),.bool false,I b1,I b2,.str b3,.az b4 b5,.bool false,I 0,.az [] 0,.az [] 0,.az [] 0]:=by
  simp[cY,SS,oE];omega
 have TV:=Bl c (S1++[.jump 0]) SF YF;have hcf:=Bn c (S1++[.jump 0]) (.branch 0 (eF E x));have P1:(c.length:Int)<(c.length:Int)+((S1.length:Int)+1+1):=by omega
 apply T.seq;refine T.rx af follows [0,1,2,3,4,5,6,7,8,9,10,11,12] [] Bw ?_;simp[hC,gG,P1,hcf,TV];refine T.le (kq M0 [13,12,6,7,5,4,0,1] 3 4 (e:=(13,I (c.length+(S1.length+1)))::(12,I c.length)::mE E0 l i n) (c':=c++In.branch (c.length+2+S1.length) (eF E x)::(S1++[In.jump 0])) (s':=s++n::(S3++[n])) rfl Y8 rfl rfl rfl rfl rfl Xc (sH _) rfl xr xr) ?_;simp only[mE];apply aq;simp[hC];refine TL.jf h2 (cA _) (a8 _) (cA _) (a8 _) yA rfl Rg rfl rfl rfl yCn rfl (TL.go' af ?_);simp;have hin0:cY (.jump 0)=[I 7,I 0,.bool false,I 0,I 0,.str eS,.az [] 0,.bool false,I 0,.az [] 0,.az [] 0,.az [] 0]:=by simp[cY,bf,oE]
 have hin2:cY (.jump (c.length+2+S1.length+S4.length))=[I 7,I ((c.length:Int)+((S1.length:Int)+1+1)+(S4.length:Int)),.bool false,I 0,I 0,.str eS,.az [] 0,.bool false,I 0,.az [] 0,.az [] 0,.az [] 0]:=by
  simp[cY,bf,oE];omega
 have hco2:=Bl (c++In.branch (c.length+2+S1.length) (eF E x)::S1) S4 hin0 hin2;have hcf2:=Bn (c++In.branch (c.length+2+S1.length) (eF E x)::S1) S4 (.jump 0);simp only[length_append,length_cons,append_assoc,cons_append] at hco2 hcf2;have Um:(c.length:Int)+((S1.length:Int)+1)<(c.length:Int)+((S1.length:Int)+1+1)+(S4.length:Int):=by omega
 have ZZ:(0:Int)<=(c.length:Int)+((S1.length:Int)+1):=by omega
 have htn:((c.length:Int)+((S1.length:Int)+1)).toNat=c.length+(S1.length+1):=by omega
 refine T.rx af follows [0,1,2,3,4,5,6,7,8,9,10,11,12] [] Bw ?_;simp[hC,gG,Um,ZZ,htn,hcf2,hco2];have SL:¬ el.length=0:=by omega
 have hS2:cc el E S2 (c.length+2+S1.length)=(S4,S5):=by rw[<- hlen];exact hS'
 refine aa.le (mo M0 [5,4,0,1] 6 7 (e:=bE E0 l i) rfl (qM _ _ _) (qN _ _ _) rfl rfl rfl rfl (c':=c++In.branch (c.length+2+S1.length) (eF E x)::(S1++In.jump (c.length+2+S1.length+S4.length)::S4)) (s':=s++n::(S3++n::S6)) (sH _) rfl Tv Tv) (aa.here ?_);simp[eQ,yH,SL,hS,hS2,hT,hT',NS]
theorem LD {C:Cx}{Q:Exit->St->Prop}(hC:C.nt=253)(M0:C.n0=3)(p:Pg)(E0:List En)(l:List Sm)(i:Nat){g:Nat}{fs:List (ByteArray×List Pm)}{ps:List Pm}{V:List ByteArray}(E:List En)(k st:Nat)(c:List In)(s:List Nat)(n:Nat)
  (hE:EW g p.ms fs ps V E k) (hl:E.length<=90000) (_hk:k<=9000) (hc:c.length<=9000) (hs:s.length<=9000) (x:Ex) (th:List Sm) (hx:gC V 2 x)
  (Sz:st=n+1) (h1:I4 p th E k st (c++[.branch 0 (eF E x)]) (s++[n])) (SA:c.length+(cc th E k (c.length+1)).1.length<=9000) (Ym:s.length+(jw th (n+1)).length<=9000) :
  T prog C (kW Tryz.f129 2) (MS p E0 l i E k st c s (.cX x th) n) (fz (aa C (λ z=>z=NS p E0 l i E (cc th E k (c.length+1)).2 (st+fY th) (c++(eQ (.cX x th) E k c.length).1) (s++yH (.cX x th) n))) Q):=by
 subst Sz;simp only[I4,length_append,length_singleton] at h1;have hb:=ll p E k (n+1) c.length s.length hE yA n 2 x hx;obtain⟨a1,a2,a3,a4,a5,ha,hta⟩:=gf x;obtain⟨b1,b2,b3,b4,b5,SS,htb⟩:=gf (eF E x);have SF:cY (.branch 0 (eF E x))=[I 6,I 0,.bool false,I b1,I b2,.str b3,.az b4 b5,.bool false,I 0,.az [] 0,.az [] 0,.az [] 0]:=by simp[cY,SS,oE]
 have Wm:ji (.cX x th)=[I 8,.str eS,I a1,I a2,.str a3,.az a4 a5,.str eS,.az [] 0,.az [] 0,.az (bP th) th.length,.az [] 0]:=by simp[ji,ha,ml]
 rw[ha,SS] at hb;have t1:=bQ th;have q5:=ai (cK E0);have q6:=ai (bQ l);apply T.block;simp only[MS,mE,mH,KO,Wm];apply aq;simp[hC];refine bg ?_;simp;apply aq;simp[hC];refine bg ?_;simp;apply aW;simp[hC];refine bg ?_;simp;apply aM;simp[hC];refine bg ?_;simp;apply aq;simp[hC];refine bg ?_;simp;apply aq;simp[hC];refine bg ?_;simp;apply aq;simp[hC];refine bg ?_;simp;apply aq;simp[hC];refine du ?_;simp;apply aq;simp[hC];refine TL.iJ (hb) yA rfl Rg rfl rfl Vj Vm Vl (TL.go' af ?_);simp[hC];refine TL.jf (xk p E k (n+1) c s [I 6,I 0,.bool false,I b1,I b2,.str b3,.az b4 b5,.bool false,I 0,.aj,.aj,.aj] rfl Xc n yA yA) U1 (a8 _) U1 (a8 _) yA rfl Rg rfl rfl Vj Vm Vl (TL.go' af ?_);simp[hC];refine T.le (kq M0 [14,6,7,5,4,0,1] 6 7 (e:=(14,I c.length)::mE E0 l i n) rfl Y8 rfl rfl rfl rfl rfl Xc (j7 _ _ (.branch 0 (eF E x)) (by simp[SF])) rfl xr xr) ?_;simp only[mE];apply aq;simp[hC];refine TL.jf h1 (cA _) (a8 _) (cA _) (a8 _) yA rfl Rg rfl rfl rfl yCn rfl (TL.go' af ?_);generalize hS:cc th E k (c.length+1)=S at h1 SA;obtain⟨S1,S2⟩:=S;generalize hT:jw th (n+1)=S3 at h1 Ym;simp only at h1 SA;simp;refine T.le (kq M0 [14,6,7,5,4,0,1] 6 7 (e:=(14,I c.length)::mE E0 l i n) (c':=c++In.branch 0 (eF E x)::S1) (s':=s++n::S3) rfl Y8 rfl rfl rfl rfl rfl Xc (sH _) rfl Tv Tv) ?_;simp only[mE];apply aq;simp[hC];refine TL.jf (Qg p E S2 (n+1+fY th) (c++In.branch 0 (eF E x)::S1) (s++n::S3) (c.length+(S1.length+1)) (s.length+(S3.length+1)) xr xr [I 7,I c.length,.bool false,I 0,I 0,.str eS,.aj,.bool false,I 0,.aj,.aj,.aj] rfl rfl n yA yA) U1 (a8 _) U1 (a8 _) yA rfl Rg rfl rfl Vj Vm Vl (TL.go' af ?_);simp;refine T.le (kq M0 [14,6,7,5,4,0,1] 6 7 (e:=(14,I c.length)::mE E0 l i n) (c':=c++In.branch 0 (eF E x)::(S1++[In.jump c.length])) (s':=s++n::(S3++[n])) rfl Y8 rfl rfl rfl rfl rfl Xc (by simpa using j7 (c++In.branch 0 (eF E x)::S1) [I 7,I c.length,.bool false,I 0,I 0,.str eS,.aj,.bool false,I 0,.aj,.aj,.aj] (.jump c.length) (by simp[cY,bf,oE])) rfl Tv Tv) ?_;simp only[mE];have YF:cY (.branch (c.length+2+S1.length) (eF E x))=[I 6,I ((c.length:Int)+((S1.length:Int)+1+1)),.bool false,I b1,I b2,.str b3,.az b4 b5,.bool false,I 0,.az [] 0,.az [] 0,.az [] 0]:=by
  simp[cY,SS,oE];omega
 have TV:=Bl c (S1++[.jump c.length]) SF YF;have hcf:=Bn c (S1++[.jump c.length]) (.branch 0 (eF E x));have P1:(c.length:Int)<(c.length:Int)+((S1.length:Int)+1+1):=by omega
 refine T.rx af follows [0,1,2,3,4,5,6,7,8,9,10,11,12] [] Bw ?_;simp[hC,gG,P1,hcf,TV];refine aa.le (mo M0 [5,4,0,1] 3 4 (e:=bE E0 l i) rfl (qM _ _ _) (qN _ _ _) rfl rfl rfl rfl (c':=c++In.branch (c.length+2+S1.length) (eF E x)::(S1++[In.jump c.length])) (s':=s++n::(S3++[n])) (sH _) rfl xr xr) (aa.here ?_);simp[eQ,yH,hS,hT,NS]
theorem vX:(∀ x:Sm,∀ E k b n,(yH x n).length=(eQ x E k b).1.length)/\(∀ l:List Sm,∀ E k b n,(jw l n).length=(cc l E k b).1.length):=by
 let M1:Sm->Prop:=λ x=>∀ E k b n,(yH x n).length=(eQ x E k b).1.length
 let M2:List Sm->Prop:=λ l=>∀ E k b n,(jw l n).length=(cc l E k b).1.length
 have A1:∀ (s:ByteArray) (e:Ex),M1 (.iU s e):=λ s e E k b n=>by simp[yH,eQ]
 have A2:∀ (s:ByteArray) (e:Ex),M1 (.jx s e):=λ s e E k b n=>by simp[yH,eQ]
 have A3:∀ (g:Bool) (s:ByteArray) (l:List Ar),M1 (.eM g s l):=λ g s l E k b n=>by simp[yH,eQ]
 have A4:∀ (u:Bool) (r:Rf),M1 (.dS u r):=λ u r E k b n=>by simp[yH,eQ]
 have A5:∀ (e:Ex) (th el:List Sm),M2 th->M2 el->M1 (.mL e th el):=λ e th el h1 h2 E k b n=>by
  simp only[yH,eQ];split
  .simp[h1 E k (b+1) (n+1)]
  .simp[h1 E k (b+1) (n+1),h2 E (cc th E k (b+1)).2 (b+2+(cc th E k (b+1)).1.length) (n+1+fY th)]
 have A6:∀ (e:Ex) (th:List Sm),M2 th->M1 (.cX e th):=λ e th h1 E k b n=>by
  simp[yH,eQ,h1 E k (b+1) (n+1)]
 have A7:M1 .kj:=λ E k b n=>by simp[yH,eQ]
 have A0:M2 []:=λ E k b n=>by simp[jw,cc]
 have A8:∀ (s:Sm) (r:List Sm),M1 s->M2 r->M2 (s::r):=λ s r h1 h2 E k b n=>by
  simp only[jw,cc,length_append];rw[h1 E k b n,h2 (E++gj k s) (eQ s E k b).2 (b+(eQ s E k b).1.length) (n+pW s)]
 exact⟨λ s=>Sm.rec (motive_1:=M1) (motive_2:=M2) A1 A2 A3 A4 A5 A6 A7 A0 A8 s,λ l=>Sm.rec_1 (motive_1:=M1) (motive_2:=M2) A1 A2 A3 A4 A5 A6 A7 A0 A8 l⟩
theorem PU (x:Sm):∃ cs,ji x=I (KO x)::cs/\cs.length=10:=by
 have h:∃ cs,ji x=I (KO x)::cs:=by cases x<;>exact⟨_,rfl⟩
 obtain⟨cs,h⟩:=h;have:=lP x;rw[h] at this;exact⟨cs,h,by simpa using this⟩
theorem T.cutL {P:Program}{C:Cx}{s:St}{c:Code}{Q:Exit->St->Prop}(J:St->Prop)(h:T P C c s (fz (aa C J) Q))(hJ:∀ s',J s'->Q .normal s'):T P C c s Q:=by
 refine T.post h λ e s' q=>?_
 cases e with
 | normal=>
  obtain⟨UG,hj,hl⟩:=q;exact⟨UG,hJ UG hj,hl⟩
 | _=>exact⟨s',q,Le.refl _⟩
structure PgB (p:Pg):Prop where
 m:p.ms.length<=1000
 f:p.fs.length<=1000
 p:∀ f∈p.fs,f.params.length<=1000
theorem ML {C:Cx}{Q:Exit->St->Prop}(hC:C.nt=253)(M0:C.n0=3){p:Pg}(hp:PgB p)(E0:List En)(l:List Sm)(i:Nat){g:Nat}{ps:List Pm}{d:Nat}{V:List ByteArray}{E:List En}{k:Nat}{c:List In}{s:List Nat}{n:Nat}{x:Sm}
  (hE:EW g p.ms (p.fs.map λ f=>(f.name,f.params)) ps V E k) (hx:eH p.ms (p.fs.map λ f=>(f.name,f.params)) ps d V x) (hl:E.length+e9 x<=5000) (hk:k+e9 x<=5000) (hc:c.length+e9 x<=5000) (hs:s.length+e9 x<=5000) (Sz:n+e9 x<=1000000)
  (rec:∀ d' < d,∀ (l:List Sm) (V:List ByteArray) (E:List En) (k st:Nat) (c:List In) (s:List Nat),EW g p.ms (p.fs.map λ f=>(f.name,f.params)) ps V E k->dj p.ms (p.fs.map λ f=>(f.name,f.params)) ps d' V l->E.length+bY l<=5000->k+bY l<=5000->c.length+bY l<=5000->s.length+bY l<=5000->st+bY l<=1000000->I4 p l E k st c s) :
  T prog C (kW Tryz.f129 2) (MS p E0 l i E k (n+1) c s x n) (fz (aa C (λ z=>z=NS p E0 l i (E++gj k x) (eQ x E k c.length).2 (n+pW x) (c++(eQ x E k c.length).1) (s++yH x n))) Q):=by
 cases x with
 | iU nm e=>
  simp only[eH] at hx;obtain⟨⟨j,hj,rfl⟩,hv,he⟩:=hx;simp only[e9] at hl hk hc hs Sz;exact Q2 hC M0 p E0 l i E k (n+1) c s n hE yA yA yA yA _ e (hE.o _ hv (y5 j hj)) he
 | jx nm e=>
  simp only[eH] at hx;simp only[e9] at hl hk hc hs Sz
  simpa only[gj,eQ,pW,yH,append_nil] using Q5 (Q:=Q) hC M0 p E0 l i E k (n+1) c s n hE yA yA yA nm e hx.1 hx.2
 | eM go nm al=>
  simp only[eH] at hx;obtain⟨gp,h1,h2⟩:=hx;simp only[e9] at hl hk hc hs Sz;have XI:gp.length<=1000:=by
   obtain⟨f,hf,he⟩:=mem_map.1 h1;have:=hp.p f hf;simp only[Prod.mk.injEq] at he;rw[<- he.2];exact this
  simpa only[gj,eQ,pW,yH,append_nil] using Og (Q:=Q) hC M0 p E0 l i E k (n+1) c s n hE yA hp.m hp.f yA yA go nm gp al h1 h2 XI
 | dS u r=>
  simp only[eH] at hx;simp only[e9] at hl hk hc hs Sz
  simpa only[gj,eQ,pW,yH,append_nil] using Of (Q:=Q) hC M0 p E0 l i E k (n+1) c s n hE yA hp.m yA yA u r hx
 | kj=>
  simp only[e9] at hl hk hc hs Sz
  simpa only[gj,eQ,pW,yH,append_nil] using Q3 (Q:=Q) hC M0 p E0 l i E k (n+1) c s n yA yA
 | mL e th el=>
  cases d with
  | zero=>simp only[eH] at hx
  | succ d=>
   simp only[eH] at hx;simp only[e9] at hl hk hc hs Sz;obtain⟨v1,_,v3,v4⟩:=B8.2 th d V E k (c.length+1) hE hx.2.1;have v5:=vX.2 th E k (c.length+1) (n+1);have v6:=At.2 th;have h1:=rec d yA th V E k (n+1) (c++[.branch 0 (eF E e)]) (s++[n]) hE hx.2.1 yA yA Tv Tv yA;by_cases SK:el.length=0
   .have UK:el=[]:=eq_nil_of_length_eq_zero SK;have:=cs_if (Q:=Q) hC M0 p E0 l i E k (n+1) c s n hE yA yA yA yA e th el hx.1 rfl h1 SK;subst UK;have e1:n+pW (.mL e th [])=n+1+fY th:=by simp only[pW,fY];omega
    have e2:(eQ (.mL e th []) E k c.length).2=(cc th E k (c.length+1)).2:=by simp[eQ]
    rw[e1,e2]
    simpa only[gj,append_nil] using this
   .have h2:=rec d yA el V E (cc th E k (c.length+1)).2 (n+1+fY th) (c++.branch (c.length+2+(cc th E k (c.length+1)).1.length) (eF E e)::((cc th E k (c.length+1)).1++[.jump 0])) (s++n::(jw th (n+1)++[n])) (hE.up v1) hx.2.2 yA yA Tv Tv yA;have:=Q4 (Q:=Q) hC M0 p E0 l i E k (n+1) c s n hE yA yA yA yA e th el hx.1 rfl h1 h2 yA yA yA;have e1:n+pW (.mL e th el)=n+1+fY th+fY el:=by simp only[pW];omega
    have e2:(eQ (.mL e th el) E k c.length).2=(cc el E (cc th E k (c.length+1)).2 (c.length+2+(cc th E k (c.length+1)).1.length)).2:=by simp[eQ,SK]
    rw[e1,e2]
    simpa only[gj,append_nil] using this
 | cX e th=>
  cases d with
  | zero=>simp only[eH] at hx
  | succ d=>
   simp only[eH] at hx;simp only[e9] at hl hk hc hs Sz;obtain⟨v1,_,v3,v4⟩:=B8.2 th d V E k (c.length+1) hE hx.2;have v5:=vX.2 th E k (c.length+1) (n+1);have h1:=rec d yA th V E k (n+1) (c++[.branch 0 (eF E e)]) (s++[n]) hE hx.2 yA yA Tv Tv yA;have:=LD (Q:=Q) hC M0 p E0 l i E k (n+1) c s n hE yA yA yA yA e th hx.1 rfl h1 yA yA;have e1:n+pW (.cX e th)=n+1+fY th:=by simp only[pW];omega
   have e2:(eQ (.cX e th) E k c.length).2=(cc th E k (c.length+1)).2:=by simp[eQ]
   rw[e1,e2]
   simpa only[gj,append_nil] using this
theorem CT:∀ l:List Sm,l.length<=bY l
 | []=>Nat.le_refl _
 | x::r=>by
  have:=CT r;have h:1<=e9 x:=by cases x<;>simp only[e9]<;>omega
  simp only[length_cons,bY];omega
theorem Qr {c:CV}(h:okW c=true){m:List (Nat×Nat)}(h0:(assoc m 0).isSome=true):mZ m c=true:=by
 cases c with
 | ax q f=>
  cases f with
  | zero=>
   simp only[okW,beq_iff_eq] at h;subst h;exact h0
  | succ f=>simp[okW,tree] at h
 | agg cs=>simp only[okW,tree] at h;exact au h m
 | cF cs=>simp only[okW,tree] at h;exact au h m
 | _=>first | exact h | simp[okW,tree] at h
theorem Gm {m:List (Nat×Nat)}{n:Nat}(h0:ec m n 0=0):∀ {e:List (Nat×CV)},(e.all λ x=>okW x.2)=true->cq (ec m n) e=e
 | [],_=>rfl
 | (t,c)::e,h=>by
  simp only[all_cons,Bool.and_eq_true] at h;rw[cq,Ki h.1 _ h0,Gm h0 h.2]
theorem ms_le {C:Cx}{s:St}{p:Pg}(M0:C.n0=3)(ks:List Nat)(o:Nat)(ho:5<o){kd:Int}{e:List (Nat×CV)}{E:List En}{k st cl sl:Nat}{cs:List CV}{c':List In}{s':List Nat}(he:pick s.env (41::6::ks)=(41,I kd)::(6,.ax o 0)::e)(SU:(e.all λ x=>okW x.2)=true)
  (h0:assoc s.heap 0=some (gG p E k st 3 cl 4 sl)) (h3:assoc s.heap 3=some (fO c')) (h4:assoc s.heap 4=some (gK s')) (h5:assoc s.heap o=some ⟨207,0,cs⟩) (S8:trees cs=true) :
  Le C s ⟨(41,I kd)::(6,.ax 5 0)::e,[(0,gG p E k st 3 cl 4 sl),(3,fO c'),(4,gK s'),(5,⟨207,0,cs⟩)],6⟩:=by
 have n0:¬ 0=o:=by omega
 have n3:¬ 3=o:=by omega
 have n4:¬ 4=o:=by omega
 have r0:ec [(0,0),(3,3),(4,4),(o,5)] 6 0=0:=rfl;have r3:ec [(0,0),(3,3),(4,4),(o,5)] 6 3=3:=rfl;have r4:ec [(0,0),(3,3),(4,4),(o,5)] 6 4=4:=rfl;have ro:ec [(0,0),(3,3),(4,4),(o,5)] 6 o=5:=by simp[ec,assoc,n0,n3,n4]
 have ao:(assoc [(0,0),(3,3),(4,4),(o,5)] o).isSome=true:=by simp[assoc,n0,n3,n4]
 have TA:=Le.norm (C:=C) (s:=s) (41::6::ks) [(0,0),(3,3),(4,4),(o,5)] 3 6 (by simp[xJ,n0,n3,n4]) (by simp only[all_cons,all_nil,h0,h3,h4,h5];rfl) ?_ yA
 .rw[he] at TA;simp only[map_cons,map_nil,pick,h0,h3,h4,h5,bz,cq] at TA;rw[Gm r0 SU,r0,r3,r4,ro,uw,r3,r4,fO,gK,dm _ _ _ (cA c'),dm _ _ _ (a8 s'),dm _ _ _ S8] at TA;simp only[cO,ro] at TA;exact TA
 .unfold cB;rw[he];simp only[map_cons,map_nil,pick,h0,h3,h4,h5,all_cons,all_nil,Bool.and_true,Bool.and_eq_true,all_eq_true (l:=e)];refine⟨⟨rfl,ao,λ x hx=>Qr ((all_eq_true.1 SU) x hx) rfl⟩,Ey E k st 3 _ 4 _ _ rfl rfl,au (cA c') _,au (a8 s') _,au S8 _⟩
structure InvB (p:Pg)(g:Nat)(ps:List Pm)(d:Nat)(l:List Sm)(E:List En)(k st:Nat)(c:List In)(s:List Nat)(i:Nat)(V:List ByteArray)(Ei:List En)(ki Xg:Nat)(ci:List In)(si:List Nat):Prop where
 hi:i<=l.length
 he:EW g p.ms (p.fs.map λ f=>(f.name,f.params)) ps V Ei ki
 w:dj p.ms (p.fs.map λ f=>(f.name,f.params)) ps d V (l.drop i)
 l1:Ei.length+bY (l.drop i)<=5000
 l2:ki+bY (l.drop i)<=5000
 l3:ci.length+bY (l.drop i)<=5000
 l4:si.length+bY (l.drop i)<=5000
 l5:Xg+bY (l.drop i)<=1000000
 r1:(cc l E k c.length).2=(cc (l.drop i) Ei ki ci.length).2
 r2:c++(cc l E k c.length).1=ci++(cc (l.drop i) Ei ki ci.length).1
 r3:s++jw l st=si++jw (l.drop i) Xg
 r4:st+fY l=Xg+fY (l.drop i)
def JB (p:Pg)(g:Nat)(ps:List Pm)(d:Nat)(l:List Sm)(E:List En)(k st:Nat)(c:List In)(s:List Nat)(m:Nat)(z:St):Prop:=
 ∃ i V Ei ki Xg ci si,m=l.length-i/\InvB p g ps d l E k st c s i V Ei ki Xg ci si/\z=NS p E l i Ei ki Xg ci si
theorem LV {p:Pg}(hp:PgB p){g:Nat}{ps:List Pm}:∀ (d:Nat) (l:List Sm) (V:List ByteArray) (E:List En) (k st:Nat) (c:List In) (s:List Nat),
  EW g p.ms (p.fs.map λ f=>(f.name,f.params)) ps V E k->dj p.ms (p.fs.map λ f=>(f.name,f.params)) ps d V l->E.length+bY l<=5000->k+bY l<=5000->c.length+bY l<=5000->s.length+bY l<=5000->st+bY l<=1000000->I4 p l E k st c s:=by
 intro d
 induction d using Nat.strongRecOn with
 | _ d ih=>
 intro l V E k st c s hE hw hl hk hc hs Sz;unfold I4;refine Body.iZ Tryz.func129 rfl Bw (by simp[Tryz.ntmps129]) λ C hC M0=>?_;rw[Tryz.ntmps129] at hC;simp only[T3];have q1:=ai (jO p.gs);have q2:=ai (dw p.ms);have q3:=ai (da p.fs);have q4:=ai (cK E);have q6:=ai (bQ l);apply aq;simp[hC,gG];apply aW;simp[hC];apply T.block;refine T.aI (JB p g ps d l E k st c s) (n:=l.length) ?_ ?_
 .refine aa.le (Le.up 5 xr) ?_;refine aa.le (mo (p:=p) (E:=E) (k:=k) (st:=st) M0 [5,4,0,1] 1 2 (e:=bE E l 0) (c':=c) (s':=s) rfl (qM _ _ _) (qN _ _ _) rfl rfl rfl rfl (sH _) rfl rfl rfl) (aa.here ?_);exact⟨0,V,E,k,st,c,s,by omega,⟨by omega,hE,hw,hl,hk,hc,hs,Sz,rfl,rfl,rfl,rfl⟩,rfl⟩
 .rintro m z ⟨i,Vi,Ei,ki,Xg,ci,si,rfl,hI,rfl⟩;by_cases Jz:i<l.length
  .obtain⟨x,VB⟩:∃ x,l[i]? = some x:=⟨l[i],getElem?_eq_getElem Jz⟩;have UX:l.drop i=x::l.drop (i+1):=by
    rw[drop_eq_getElem_cons Jz,(List.getElem?_eq_some_iff.1 VB).2]
   obtain⟨i1,i2,i3,i4,i5,i6,i7,i8,i9,i10,i11,i12⟩:=hI;rw[UX] at i3 i4 i5 i6 i7 i8 i9 i10 i11 i12;simp only[dj,bY,cc,jw,fY] at i3 i4 i5 i6 i7 i8 i9 i10 i11 i12;obtain⟨hx1,Vp⟩:=i3;have cW:=λ Q C hC M0=>ML (C:=C) (Q:=Q) hC M0 hp E l i (n:=Xg) (c:=ci) (s:=si) i2 hx1 yA yA yA yA yA (λ d' Td l V E k st c s=>ih d' Td l V E k st c s);obtain⟨v1,_,v3,v4,v5⟩:=B8.1 x d Vi Ei ki ci.length i2 hx1;have v6:=vX.1 x Ei ki ci.length Xg;have v7:=At.1 x;obtain⟨xc,Vo,Xi⟩:=PU x;have OZ:drop (i*11) (bP l)=ji x++bP (l.drop (i+1)):=by rw[pV,pV];exact aL (f:=ji) (n:=11) lP VB
   have TY:=CT l;have wi:=cr ((i:Int)+1) yA yA;have wst:=cr ((Xg:Int)+1) yA yA;have txc:trees xc=true:=by
    have:=js x;rw[Vo,trees] at this;exact (Bool.and_eq_true _ _ ▸ this).2
   have SE:take 10 (xc++bP (l.drop (i+1)))=xc:=by rw[<- Xi,take_left]
   rw[Vo] at OZ;simp only[NS,bE];apply aW;simp[hC,Jz];refine jk ?_;simp;apply eE;apply T.seq;refine T.rx af follows [0,1,2,3,4,5,6,7,8,9,10] [(3,8),(7,8),(7,9)] Bw ?_;simp[hC,Jz,OZ,gG,Xi,SE];apply aq;simp[hC,wst];apply aq;simp[hC];refine T.le (ms_le (p:=p) (E:=Ei) (k:=ki) (st:=Xg+1) (cl:=ci.length) (sl:=si.length) (e:=[(7,I Xg),(5,I i),(4,.az (E.flatMap jj) E.length),(0,.ax 0 0),(1,.az (bP l) l.length)]) M0 [7,5,4,0,1] 13 yA rfl (by simp[okW,tree]) rfl rfl rfl rfl (by rw[trees,txc];rfl)) ?_;rw[<- Vo];refine T.cutL _ (cW _ C hC M0) ?_;rintro z rfl;simp only[rJ,fz,NS,bE];apply aM;simp[hC,wi];have X4:(Ei++gj ki x).length<=Ei.length+1:=by cases x<;>simp[gj]
   have hde2:1<=e9 x:=by cases x<;>simp only[e9]<;>omega
   refine⟨l.length-(i+1),by omega,aa.trim [5,4,0,1] [0,3,4] 5 We yA ⟨i+1,Vi++eJ x,Ei++gj ki x,(eQ x Ei ki ci.length).2,Xg+pW x,ci++(eQ x Ei ki ci.length).1,si++yH x Xg,rfl,⟨by omega,v3,Vp,by omega,by omega,by simp only[length_append];omega,by simp only[length_append];omega,by omega,?_,?_,?_,?_⟩,?_⟩⟩
   .rw[i9,length_append]
   .rw[i10,length_append,append_assoc]
   .rw[i11,append_assoc]
   .rw[i12];omega
   .simp[NS,bE]
  .have Rz:i=l.length:=by have:=hI.hi;omega
   obtain⟨i1,i2,i3,i4,i5,i6,i7,i8,i9,i10,i11,i12⟩:=hI;rw[Rz,drop_length] at i9 i10 i11 i12;simp only[cc,jw,fY,append_nil,Nat.add_zero] at i9 i10 i11 i12;simp only[NS,bE];apply aW;simp[hC,Jz];refine bg ?_;simp;apply T.exit;simp;apply aM;simp[hC,gG];refine aa.trim [] [0,3,4] 5 We yA ⟨_,rfl,rfl,?_,rfl⟩;have e1:c.length+(cc l E k c.length).1.length=ci.length:=by rw[<- i10,length_append]
   have e2:s.length+(jw l st).length=si.length:=by rw[<- i11,length_append]
   rw[e1,e2,i9,i10,i11,i12];simp[T4,gG]
end Go.Proofs.YtlkmbdfhdknlgaaGreat
