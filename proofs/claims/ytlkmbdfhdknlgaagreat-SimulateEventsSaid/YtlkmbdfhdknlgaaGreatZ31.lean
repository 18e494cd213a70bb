/- ref. -/
import Derived.Test.YtlkmbdfhdknlgaaGreatZ30
namespace Go.Proofs.YtlkmbdfhdknlgaaGreat
open Go.Can Go.aJ List Tryz
def zf (o:Option Ex):List Ex:=match o with
 | none=>[]
 | some e=>[e]
theorem oQ (o:Option Ex):oc o=.ax ((zf o).flatMap bf) (zf o).length:=by cases o<;>simp[oc,zf]
def J134 (p:Pg)(E:List En)(k st cl sl:Nat)(nm:ByteArray)(il:List Ex)(b:Bool)(j:Nat)(n:Int)(m:Nat)(s:St):Prop:=∃ i:Nat,m=il.length-i/\i<=il.length/\
 s=⟨[(11,I i),(9,.aw 18 0),(6,.aw 4 0),(4,.aw 3 0),(0,.aw 0 0),(2,I n)],[(0,dB p E k st cl sl),(3,⟨204,0,[.str nm,.ax (il.flatMap bf) il.length]⟩),(4,⟨87,0,[.bool false,I 0,.aj]⟩),(18,⟨87,0,[.bool b,I j,.bb 19 0 i]⟩),(19,l7 ((il.take i).map (eB E)))],20⟩
set_option maxHeartbeats 4000000 in
theorem Gd (p:Pg){g:Nat}{fs:List (ByteArray×List Pm)}{ps:List Pm}{V:List ByteArray}(E:List En)(k st cl sl:Nat)(hE:EW g p.ms fs ps V E k)(hl:E.length<=100000)(_hm:p.ms.length<=1000)(n:Int)(r:Rf)(hr:Iz p.ms ps V r) :
  Body prog av 170 [.aw 0 0,.agg (lN r),I n] [(0,dB p E k st cl sl)] 3 (jC (.agg (gW (Ao E r))) [(0,dB p E k st cl sl)] 3):=by
 obtain⟨c,j,hf,X3,he⟩:∃ c j,jm E r.name=some ⟨r.name,c,j⟩/\((c=2/\∃ m,p.ms[j]? = some m/\((0:Int)<m.size↔0<(zf r.index).length))\/(c=5/\(zf r.index).length=0))/\∀ e∈zf r.index,gu V 1 e:=by
  rcases hr with ⟨m,h1,h2,h3⟩ | ⟨q,h1,h2,h3,h4⟩
  ·obtain⟨j,h4,h5⟩:=hE.m m h1;rw[<- h2] at h4;refine⟨2,j,h4,.inl ⟨rfl,m,h5,?_⟩,λ e he=>?_⟩
   ·rcases h3 with ⟨h6,h7⟩ | ⟨e,h6,h7,_⟩
    ·simp[h6,zf,h7]
    ·simp[h6,zf,h7]
   ·rcases h3 with ⟨h6,h7⟩ | ⟨e',h6,h7,h8⟩
    ·simp[h6,zf] at he
    ·simp only[h6,zf,mem_singleton] at he;subst he;exact h8
  ·obtain⟨j,h5,h6⟩:=hE.p q h1 h2;rw[<- h3] at h5;exact⟨5,j,h5,.inr ⟨rfl,by simp[h4,zf]⟩,λ e he=>by simp[h4,zf] at he⟩
 have Vd:=sr E r.name hl;rw[hf] at Vd;have SP:gW (Ao E r)=[.bool (decide (c=5)),I j,.ax (((zf r.index).map (eB E)).flatMap bf) ((zf r.index).map (eB E)).length]:=by
  simp only[Ao,gW,iF hf,oQ];cases r.index<;>simp[zf]
 have SK:=λ (i:Nat) (x:Ex) (h:(zf r.index)[i]? = some x)=>aI (f:=bf) (n:=4) bA (m:=zf r.index) h;have UA:(zf r.index).length<=1:=by cases r.index<;>simp[zf]
 rw[SP];simp only[lN,oQ];generalize zf r.index=il at X3 he SK UA;generalize r.name=nm at hf Vd;clear SP hr;refine Body.jv Tryz.func170 rfl Ix (by simp[Tryz.ntmps170]) λ C hC RR=>?_;rw[Tryz.ntmps170] at hC;apply aq;simp[hC];apply T.seq;refine T.rx ah follows [0,1,2,3,4,5,10,6,7,8,9,11,12] [(3,10),(5,10),(10,6)] Ix ?_;simp[hC,dB,p6];refine RX.call rfl xr rfl rfl rfl R2 (Vd) ?_;simp[sq,iS];have hc5:((c:Int) == 5)=decide (c=5):=by rcases X3 with ⟨rfl,_⟩ | ⟨rfl,_⟩<;>rfl
 apply aq;simp[hC,hc5];refine T.cut (λ s=>s=⟨[(9,.aw 18 0),(6,.aw 4 0),(4,.aw 3 0),(0,.aw 0 0),(2,I n)],[(0,dB p E k st cl sl),(3,⟨204,0,[.str nm,.ax (il.flatMap bf) il.length]⟩),(4,⟨87,0,[.bool false,I 0,.aj]⟩),(18,⟨87,0,[.bool (decide (c=5)),I j,.aj]⟩)],19⟩) ?_ ?_
 ·rcases X3 with ⟨rfl,m,hmj,hiff⟩ | ⟨rfl,UY⟩
  ·have hmd:=b9 (f:=cH) (n:=3) (λ _=>rfl) hmj 2 yA;have Sv:=(List.getElem?_eq_some_iff.1 hmj).1;apply T.block;apply aq;simp[hC];refine a9 ?_;simp;apply aq;simp[hC];refine a9 ?_;simp;apply T.seq;refine T.rx ah follows [0,1,2,3,4,5,6,7,8,9,10,11,12,13,14,15,16] [] Ix ?_;simp[hC,Sv,hmd,cH];by_cases hz:0<il.length
   ·have Ti:0<m.size:=by omega
    apply aq;simp[hC,hz,Ti];refine fX ?_;simp;refine aa.trim [9,6,4,0,2] [0,3,4,18] 19 xr yA ?_;simp[dB,p6]
   ·have Ti:¬ 0<m.size:=by omega
    apply aq;simp[hC,hz,Ti];refine fX ?_;simp;refine aa.trim [9,6,4,0,2] [0,3,4,18] 19 xr yA ?_;simp[dB,p6]
  ·apply T.block;apply aq;simp[hC];refine a9 ?_;simp;apply aq;simp[hC];refine a9 ?_;simp;apply T.seq;refine T.rx ah follows [0,1,2,3,4,5,6,7,8,9,10,11,12,13,14,15,16] [] Ix ?_;simp[hC];apply aq;simp[hC,UY];refine fX ?_;simp;refine aa.trim [9,6,4,0,2] [0,3,4,18] 19 xr yA ?_;simp[dB,p6]
 rintro s rfl;apply aW;simp[hC];apply T.block;refine T.aH (J134 p E k st cl sl nm il (decide (c=5)) j n) (n:=il.length) ?_ ?_
 ·refine aa.le (Le.nk 18 2 85 4 rfl rfl) ?_;simp;refine aa.trim [11,9,6,4,0,2] [0,3,4,18,19] 20 (by simp[dB,p6]) yA ⟨0,by omega,by omega,?_⟩;simp[l7]
 ·rintro m s ⟨i,rfl,hi,rfl⟩;by_cases Og:i<il.length
  ·obtain⟨a,SH⟩:∃ a,il[i]? = some a:=⟨il[i],getElem?_eq_getElem Og⟩;have Qd:=SK i a SH;have hb:=kI p E k st cl sl hE hl n 1 a (he a (mem_of_getElem? SH));have wi:=cF ((i:Int)+1) yA yA;apply aW;simp[hC,Og];refine gw ?_;simp;apply eN;refine T.rx ah follows [0,1,2,3,4,5,6,7,8,9,10,11,12,13] [(1,9),(1,10)] Ix ?_;simp[hC,Og,Qd];have R3:take (i+1) (map (eB E) il)=take i (map (eB E) il)++[eB E a]:=by
    rw[take_add_one,getElem?_map,SH];rfl
   have ZA:(take i (map (eB E) il)).length=i:=by simp;omega
   generalize hN:take i (map (eB E) il)=N at R3 ZA;have Wn:=aC (f:=bf) (n:=4) bA N;rw[ZA] at Wn;have hbd:(i+1)*56<=140737488355328:=by omega
   have hbd2:(i+1)*64<=140737488355328:=by omega
   refine RX.cU [0] [] 3 (hb) rfl xr rfl rfl rfl rfl xr SZ SY rfl rfl rfl xr ?_;simp[l7,bA,Wn,hbd,aY,-length_flatMap];apply aN;simp[hC,wi];refine⟨il.length-(i+1),by omega,?_⟩;have hN3:(N++[eB E a]).flatMap bf=N.flatMap bf++bf (eB E a):=by simp
   have Sa:trees (N.flatMap bf++bf (eB E a))=true:=by rw[<- hN3];exact ak aL _
   refine aa.le (Le.trim [11,9,6,4,0,2] [0,3,4,18,34] 35 yDr yA) ?_;simp;refine aa.le (Le.p7 34 19 rfl rfl yA xr xr yDq) ?_;simp only[dB,p6];simp[bl (ak aL N)];have ZR:(il.take (i+1)).map (eB E)=N++[eB E a]:=by rw[map_take];exact R3
   refine aa.trim [11,9,6,4,0,2] [0,3,4,18,19] 20 yEb yA ⟨i+1,rfl,by omega,?_⟩;rw[ZR];simp[l7,dB,p6]
  ·have RU:i=il.length:=by omega
   apply aW;simp[hC,Og];refine a9 ?_;simp;apply T.exit;simp;apply aq;simp[hC];apply T.ret;subst RU;have R3:take il.length (map (eB E) il)=il.map (eB E):=take_of_length_le xr;have Wz:(((il.map (eB E)).flatMap bf).take (il.length*4))=(il.map (eB E)).flatMap bf:=take_of_length_le (by rw[aC (f:=bf) (n:=4) bA];simp);refine aa.le (Le.trim [6] [0,4,19] 20 yDs yA) ?_;simp;refine aa.le (Le.dn (o:=19) rfl (ak aL _)) ?_;simp[l7,R3,Wz];refine aa.le (Le.dn (o:=4) rfl (by simp[trees,tree])) ?_;simp[dB,p6];refine aa.trim [6] [0] 3 xr yA ⟨_,?_,rfl,?_,rfl⟩
   ·simp
   ·simp
theorem uq (E:List En):∀ a b:List Ar,dt E (a++b)=dt E a++dt E b
 | [],b=>rfl
 | .exp e::a,b=>by simp[dt,uq E a b]
 | .xf r::a,b=>by simp[dt,uq E a b]
theorem wT (E:List En):∀ a b:List Ar,fD E (a++b)=fD E a++fD E b
 | [],b=>rfl
 | .exp e::a,b=>by simp[fD,wT E a b]
 | .xf r::a,b=>by simp[fD,wT E a b]
theorem um (E:List En):∀ a:List Ar,(dt E a).length<=a.length
 | []=>Nat.le_refl _
 | .exp e::a=>by have:=um E a;simp[dt];omega
 | .xf r::a=>by have:=um E a;simp[dt];omega
theorem wR (E:List En):∀ a:List Ar,(fD E a).length<=a.length
 | []=>Nat.le_refl _
 | .exp e::a=>by have:=wR E a;simp[fD];omega
 | .xf r::a=>by have:=wR E a;simp[fD];omega
theorem Lq {ms:List Mx}{ps:List Pm}{V:List ByteArray}:∀ {gp:List Pm} {al:List Ar} {i:Nat} {a:Ar},jD ms ps V gp al->al[i]? = some a->∃ q,gp[i]? = some q/\ArW ms ps V q a
 | [],[],_,_,_,h=>by simp at h
 | q::gp,b::al,0,a,hw,h=>by
  simp only[jD] at hw;simp only[getElem?_cons_zero,Option.some.injEq] at h;subst h;exact⟨q,rfl,hw.1⟩
 | q::gp,b::al,i+1,a,hw,h=>by
  simp only[jD] at hw;simp only[getElem?_cons_succ] at h;obtain⟨q',h1,h2⟩:=Lq hw.2 h;exact⟨q',by simpa using h1,h2⟩
 | [],_::_,_,_,hw,_=>hw.elim
 | _::_,[],_,_,hw,_=>hw.elim
theorem lj (x:Pl):(gW x).length=3:=rfl
theorem cY (x:Pl):trees (gW x)=true:=by
 rcases x with ⟨_,_,_ | e⟩
 ·rfl
 ·simp only[gW,oc,trees,tree,Bool.and_self]
def yn (l:List Pl):Ob:=⟨87,3,l.flatMap gW⟩
def DM:List CV:=[I 0,I 0,.bool false,I 0,I 0,.str ⟨#[]⟩,.aj,.bool false,I 0,.aj,.aj,.aj]
def qv (kd:Int)(nm:ByteArray)(al:List Ar):List CV:=[I kd,.str nm,I 0,I 0,.str ⟨#[]⟩,.ax [] 0,.str ⟨#[]⟩,.ax [] 0,.ax (al.flatMap qc) al.length,.ax [] 0,.ax [] 0]
def J133 (p:Pg)(E:List En)(k st cl sl:Nat)(n:Int)(kd op:Int)(nm:ByteArray)(j:Nat)(gp:List Pm)(al:List Ar)(m:Nat)(s:St):Prop:=∃ i:Nat,m=al.length-i/\i<=al.length/\
 s=⟨[(11,I i),(10,.ax (gp.flatMap lU) gp.length),(7,.aw 5 0),(6,.aw 4 0),(4,.aw 3 0),(0,.aw 0 0),(2,I n)],[(0,dB p E k st cl sl),(3,⟨207,0,qv kd nm al⟩),(4,⟨90,0,DM⟩),
  (5,⟨90,0,[I op,I j,.bool false,I 0,I 0,.str ⟨#[]⟩,.aj,.bool false,I 0,.aj,.bb 6 0 (dt E (al.take i)).length,.bb 7 0 (fD E (al.take i)).length]⟩),(6,l7 (dt E (al.take i))),(7,yn (fD E (al.take i)))],8⟩
set_option maxHeartbeats 4000000 in
theorem Kg (p:Pg){g:Nat}{ps:List Pm}{V:List ByteArray}(E:List En)(k st cl sl:Nat)(hE:EW g p.ms (p.fs.map λ f=>(f.name,f.params)) ps V E k)(hl:E.length<=100000)(hm:p.ms.length<=1000)(_hfl:p.fs.length<=1000)(n:Int)(go:Bool)(nm:ByteArray)(gp:List Pm)(al:List Ar)
  (hg:(nm,gp)∈p.fs.map λ f=>(f.name,f.params)) (hw:jD p.ms ps V gp al) (W1:gp.length<=1000) :
  Body prog av 169 [.aw 0 0,.agg (iR (.eJ go nm al)),I n] [(0,dB p E k st cl sl)] 3 (jC (.agg (cW (.call go (mJ E nm).n (dt E al) (fD E al)))) [(0,dB p E k st cl sl)] 3):=by
 obtain⟨j,hf,Th⟩:=hE.f _ hg;have hgl2:=hw.len;have Vd:=sr E nm hl;rw[hf] at Vd;rw[iF hf];have hs:iR (.eJ go nm al)=qv (if go=true then 4 else 3) nm al:=rfl;rw[hs];obtain⟨f,Zr,Wm⟩:∃ f,p.fs[j]? = some f/\f.params=gp:=by
  rw[getElem?_map,Option.map_eq_some_iff] at Th;obtain⟨f,h1,h2⟩:=Th;exact⟨f,h1,by injection h2⟩
 have hfd1:=b9 (f:=fL) (n:=3) (λ _=>rfl) Zr 1 yA;have Sv:=(List.getElem?_eq_some_iff.1 Zr).1;refine Body.jv Tryz.func169 rfl Ix (by simp[Tryz.ntmps169]) λ C hC RR=>?_;rw[Tryz.ntmps169] at hC;apply aq;simp[hC];apply aq;simp[hC];simp only[dB,p6,qv];refine T.cut (λ s=>s=⟨[(7,.aw 5 0),(6,.aw 4 0),(4,.aw 3 0),(0,.aw 0 0),(2,I n)],[(0,dB p E k st cl sl),(3,⟨207,0,qv (if go=true then 4 else 3) nm al⟩),(4,⟨90,0,DM⟩),(5,⟨90,0,[I (if go=true then 3 else 2),I 0,.bool false,I 0,I 0,.str ⟨#[]⟩,.aj,.bool false,I 0,.aj,.aj,.aj]⟩)],6⟩) ?_ ?_
 ·cases go with
  | true=>
   apply aq;simp[hC];refine dy ?_;simp;apply aN;simp[hC];refine aa.trim [7,6,4,0,2] [0,3,4,5] 6 xr yA ?_;simp[dB,p6,qv,DM]
  | false=>
   apply aq;simp[hC];refine fX ?_;simp;refine aa.trim [7,6,4,0,2] [0,3,4,5] 6 xr yA ?_;simp[dB,p6,qv,DM]
 rintro s rfl;apply T.seq;refine T.rx ah follows [0,1,2,3,4,5,10,6,7,8,9,11,12] [(3,10),(5,10),(10,6)] Ix ?_;simp[hC,dB,p6,qv,DM];refine RX.call rfl xr rfl rfl rfl R2 (Vd) ?_;simp[sq,iS];apply eN;apply aq;simp[hC];refine a9 ?_;simp;apply aq;simp[hC];refine fX ?_;simp;apply aq;simp[hC];apply T.seq;refine T.rx ah follows [0,1,2,3,4,5,6,7,8,9,10] [] Ix ?_;simp[hC,Sv,hfd1,fL,Wm];apply aW;simp[hC,hgl2];refine fX ?_;simp;refine T.le (Le.trim [10,7,6,4,0,2] [0,3,4,5] 6 xr yA) ?_;simp;generalize (if go=true then (4:Int) else 3)=kd;have R5:(if go=true then (3:Int) else 2)=(if go then 3 else 2:Int):=rfl;generalize Z4:(if go=true then (3:Int) else 2)=op;apply aW;simp[hC];apply T.block;refine T.aH (J133 p E k st cl sl n kd op nm j gp al) (n:=al.length) ?_ ?_
 ·refine aa.le (Le.nk 5 10 85 4 rfl rfl) ?_;simp;refine aa.le (Le.nk 5 11 87 3 rfl rfl) ?_;simp;refine aa.trim [11,10,7,6,4,0,2] [0,3,4,5,6,7] 8 xr yA ⟨0,by omega,by omega,?_⟩;simp[l7,yn,dt,fD,dB,p6,qv,DM,hgl2]
 ·rintro m s ⟨i,rfl,hi,rfl⟩;by_cases Og:i<al.length
  ·obtain⟨a,SH⟩:∃ a,al[i]? = some a:=⟨al[i],getElem?_eq_getElem Og⟩;obtain⟨q,hiq,haw⟩:=Lq hw SH;have Qd:=aI (f:=qc) (n:=7) vV SH;have YS:=b9 (f:=lU) (n:=2) (λ _=>rfl) hiq 1 yA;have UA:i<gp.length:=by omega
   have wi:=cF ((i:Int)+1) yA yA;have R3:al.take (i+1)=al.take i++[a]:=by rw[take_add_one,SH];rfl
   have Wi:=um E (al.take i);have Up:=wR E (al.take i);rw[length_take] at Wi Up;have hI:dt E (al.take (i+1))=dt E (al.take i)++dt E [a]:=by rw[R3,uq]
   have hP:fD E (al.take (i+1))=fD E (al.take i)++fD E [a]:=by rw[R3,wT]
   generalize dt E (al.take i)=NI at Wi hI;generalize fD E (al.take i)=NP at Up hP;have f1:=aC (f:=bf) (n:=4) bA NI;have f2:=aC (f:=gW) (n:=3) lj NP;have b1:(NI.length+1)*56<=140737488355328:=by omega
   have b2:(NP.length+1)*48<=140737488355328:=by omega
   have b3:(NP.length+1)*40<=140737488355328:=by omega
   have VF:∀ x:Pl,take 3 (gW x)=gW x:=λ _=>rfl;have TZ:∀ x:Ex,take 4 (bf x)=bf x:=λ x=>take_of_length_le (by rw[bA];exact Nat.le_refl _);have tE:=ak aL NI;have tP:=ak cY NP;apply aW;simp[hC,UA];refine gw ?_;simp;apply eN
   cases a with
   | xf r=>
    have hb:=Gd p E k st cl sl hE hl hm n r haw.2;have hqm:q.mutex=true:=haw.1;obtain⟨rn,ri⟩:=r;obtain⟨q1,q2,hq⟩:∃ cs n,oc ri=.ax cs n:=by cases ri<;>exact⟨_,_,rfl⟩
    simp only[lN,hq] at hb;simp only[qc,lN,bf,hq,cons_append,nil_append] at Qd;apply aq;simp[hC,Og,Qd,qv];refine T.seq (T.seq ?_);refine T.rx ah follows [0,1,2,3,4,5,6,7] [] Ix ?_;simp[hC,UA,YS,lU,hqm];refine fX ?_;simp;apply aq;simp[hC];refine dy ?_;simp;refine T.rx ah follows [0,1,2,3,4,5,6,7,8,9,10] [(1,6),(1,7)] Ix ?_;simp[hC];refine RX.cU [0] [] 3 (hb) rfl xr rfl rfl rfl rfl xr SZ SY rfl rfl rfl xr ?_;simp[yn,lj,f2,b3,VF,aY,-length_flatMap];apply aN;simp[hC,wi];refine⟨al.length-(i+1),by omega,?_⟩;have tQ:=cY (Ao E ⟨rn,ri⟩);refine aa.le (Le.trim [11,10,7,6,4,0,2] [0,3,4,5,6,28] 29 (by simp only[dB,p6,DM,l7];simp[-all_eq_true,-all_flatMap,ai tE,ai tP,ai tQ]) yA) ?_;simp;refine aa.le (Le.p7 28 7 rfl rfl yA xr xr (by simp only[dB,p6,DM,l7];simp[-all_eq_true,-all_flatMap,bw tE,bw tP,bw tQ])) ?_;simp only[dB,p6,DM,l7];simp[bl tE,bl tP,bl tQ];refine aa.trim [11,10,7,6,4,0,2] [0,3,4,5,6,7] 8 (by simp[-all_eq_true,-all_flatMap,ai tE,ai tP,ai tQ]) yA ⟨i+1,rfl,by omega,?_⟩;rw[hI,hP];simp[l7,yn,dt,fD,dB,p6,qv,DM]
   | exp e=>
    have hb:=kI p E k st cl sl hE hl n 2 e haw.2;have hqm:q.mutex=false:=haw.1;simp only[qc,bW e,lP,cons_append,nil_append] at Qd;rw[bW e] at hb;apply aq;simp[hC,Og,Qd,qv];refine T.seq (T.seq ?_);refine T.rx ah follows [0,1,2,3,4,5,6,7] [] Ix ?_;simp[hC,UA,YS,lU,hqm];refine fX ?_;simp;apply aq;simp[hC];refine a9 ?_;simp;refine T.rx ah follows [0,1,2,3,4,5,6,7,8,9,10] [(1,6),(1,7)] Ix ?_;simp[hC];refine RX.cU [0] [] 3 (hb) rfl xr rfl rfl rfl rfl xr SZ SY rfl rfl rfl xr ?_;simp[l7,bA,f1,b1,TZ,aY,-length_flatMap];apply aN;simp[hC,wi];refine⟨al.length-(i+1),by omega,?_⟩;have tQ:=aL (eB E e);refine aa.le (Le.trim [11,10,7,6,4,0,2] [0,3,4,5,28,7] 29 (by simp only[dB,p6,DM,yn];simp[-all_eq_true,-all_flatMap,ai tE,ai tP,ai tQ]) yA) ?_;simp;refine aa.le (Le.p7 28 6 rfl rfl yA xr xr (by simp only[dB,p6,DM,yn];simp[-all_eq_true,-all_flatMap,bw tE,bw tP,bw tQ])) ?_;simp only[dB,p6,DM,yn];simp[bl tE,bl tP,bl tQ];refine aa.trim [11,10,7,6,4,0,2] [0,3,4,5,6,7] 8 (by simp[-all_eq_true,-all_flatMap,ai tE,ai tP,ai tQ]) yA ⟨i+1,rfl,by omega,?_⟩;rw[hI,hP];simp[l7,yn,dt,fD,dB,p6,qv,DM]
  ·have RU:i=al.length:=by omega
   have UA:¬ i<gp.length:=by omega
   apply aW;simp[hC,UA];refine a9 ?_;simp;apply T.exit;simp;apply aq;simp[hC];apply T.ret;rw[RU,take_length];have tE:=ak aL (dt E al);have tP:=ak cY (fD E al);have x1:((dt E al).flatMap bf).take ((dt E al).length*4)=(dt E al).flatMap bf:=take_of_length_le (by rw[aC (f:=bf) (n:=4) bA];exact Nat.le_refl _);have x2:((fD E al).flatMap gW).take ((fD E al).length*3)=(fD E al).flatMap gW:=take_of_length_le (by rw[aC (f:=gW) (n:=3) lj];exact Nat.le_refl _);generalize dt E al=NI at tE x1;generalize fD E al=NP at tP x2;refine aa.le (Le.trim [6] [0,4,6,7] 8 (by simp only[dB,p6,l7,yn];simp[-all_eq_true,-all_flatMap,ai tE,ai tP,DM]) yA) ?_;simp;refine aa.le (Le.dn (o:=6) rfl tE) ?_;simp[l7,yn,x1,aS tP];refine aa.le (Le.dn (o:=7) rfl tP) ?_;simp[x2];refine aa.le (Le.nz [] [4]) ?_;simp[DM];refine aa.le (Le.dn (o:=4) rfl (by simp[trees,tree])) ?_;simp[dB,p6];refine aa.trim [6] [0] 3 xr yA ⟨_,?_,rfl,?_,rfl⟩
   ·simp[cW,bf,eS,nZ,Z4]
   ·simp
def gz (p:Pg)(E:List En)(k st a cl b sl:Nat):Ob:=⟨215,0,[.ax (p.gs.flatMap qk) p.gs.length,.ax (p.ms.flatMap cH) p.ms.length,.ax (p.fs.flatMap fL) p.fs.length,.ax (E.flatMap iS) E.length,I k,I st,I 0,I 0,.bb a 0 cl,.bb b 0 sl]⟩
theorem Ak (p:Pg)(E:List En)(k st cl sl:Nat):dB p E k st cl sl=gz p E k st 1 cl 2 sl:=rfl
set_option maxHeartbeats 4000000 in
theorem PA (p:Pg)(E:List En)(k st:Nat)(X:List CV)(N:Nat)(hX:X.length=N*12)(tX:trees X=true)(S:List CV)(M:Nat)(hS:S.length=M)(tS:trees S=true)(hN:N<=10000)(hM:M<=10000)
  (cs:List CV) (Sw:cs.length=12) (Tp:trees cs=true) (n:Int) :
  Body prog av 130 [.aw 0 0,.agg cs,I n] [(0,gz p E k st 1 N 2 M),(1,⟨90,12,X⟩),(2,⟨3,1,S⟩)] 3 (jC (I N) [(0,gz p E k st 3 (N+1) 4 (M+1)),(3,⟨90,12,X++cs⟩),(4,⟨3,1,S++[I n]⟩)] (3+2)):=by
 refine Body.jv Tryz.func130 rfl Ix (by simp[Tryz.ntmps130]) λ C hC RR=>?_;rw[Tryz.ntmps130] at hC;apply aq;simp[hC];have Vl:(N+1)*168<=140737488355328:=by omega
 have TG:(M+1)*8<=140737488355328:=by omega
 have htc:take 12 cs=cs:=take_of_length_le yA;apply T.seq;refine T.rx ah follows [0,1,2,3,4,5,6,7,8,9,10,11,12,13,14,15,16,17,18,19,20,21] [(5,7),(5,14),(6,14),(7,12),(7,14),(8,12),(8,14),(12,14)] Ix ?_;simp[hC,gz,hX,hS,Sw,htc,Vl,TG,aY];have w1:=cF (N:Int) yA yA;apply aq;simp[hC,w1];apply T.ret;have tXc:trees (X++cs)=true:=by rw[bg,tX,Tp];rfl
 have tSn:trees (S++[I n])=true:=by rw[bg,tS];rfl
 refine aa.le (Le.trim [6] [0,26,27] 28 (by simp[-all_eq_true,-all_flatMap,ai tX,ai Tp,ai tS]) yA) ?_;simp;refine aa.le (Le.p7 26 3 rfl rfl yA xr xr (by simp[-all_eq_true,-all_flatMap,bw tX,bw Tp,bw tS])) ?_;simp[bl tX,bl Tp,bl tS];refine aa.le (Le.p7 27 4 rfl rfl yA xr xr (by simp[-all_eq_true,-all_flatMap,bw tX,bw Tp,bw tS])) ?_;simp[bl tX,bl Tp,bl tS];refine aa.trim [6] [0,3,4] 5 (by simp[-all_eq_true,-all_flatMap,ai tX,ai Tp,ai tS]) yA ⟨_,?_,rfl,?_,rfl⟩
 ·simp
 ·simp
def Ou (id:Nat):Code->Option Code
 | .block j x=>if j=id then some (.block j x) else Ou id x
 | .seq a b=>match Ou id a with
  | some c=>some c
  | none=>Ou id b
 | .cond _ a b=>match Ou id a with
  | some c=>some c
  | none=>Ou id b
 | .loop x=>Ou id x
 | .scope x=>Ou id x
 | _=>none
def kf (f:Func)(id:Nat):Code:=((f.body).bind (Ou id)).getD .skip
theorem fK (x:In):trees (cW x)=true:=by
 cases x with
 | set t g e=>simp only[cW,bg,aL,Bool.and_true];rfl
 | call g t l ps=>simp only[cW,bg,aL,trees,tree,Bool.and_true];rfl
 | lock u q=>simp only[cW,bg,aL,cY,Bool.and_true];rfl
 | branch t e=>simp only[cW,bg,aL,Bool.and_true];rfl
 | jump t=>rfl
 | ret=>rfl
theorem fQ (e:Ex):∃ o n s cs m,bf e=[I o,I n,.str s,.ax cs m]/\trees cs=true:=⟨_,_,_,_,_,bW e,ak aL _⟩
theorem oL (q:Pl):∃ b n cs m,gW q=[.bool b,I n,.ax cs m]/\trees cs=true:=⟨_,_,_,_,by rw[gW,oQ],ak aL _⟩
theorem Pn (r:Rf):∃ s cs m,lN r=[.str s,.ax cs m]/\trees cs=true:=⟨_,_,_,by rw[lN,oQ],ak aL _⟩
def fJ (l:List In):Ob:=⟨90,12,l.flatMap cW⟩
def gH (l:List Nat):Ob:=⟨3,1,l.map λ n:Nat=>I n⟩
theorem cu (l:List In):trees (l.flatMap cW)=true:=ak fK l
theorem a8 (l:List Nat):trees (l.map λ n:Nat=>I n)=true:=by
 induction l with
 | nil=>rfl
 | cons a r ih=>rw[map_cons,trees,ih];rfl
theorem Bc (l:List In):(l.flatMap cW).length=l.length*12:=aC (f:=cW) gB l
theorem JP (x:In):(cW x).map nz=cW x:=by
 cases x with
 | set t g e=>simp[cW,bW,nZ]
 | call g t l ps=>simp[cW,bW,nZ]
 | lock u q=>simp[cW,bW,gW,oQ]
 | branch t e=>simp[cW,bW,nZ]
 | jump t=>simp[cW,bW,nZ]
 | ret=>simp[cW,bW,nZ]
theorem r9 (l:List In):(l.flatMap cW).map nz=l.flatMap cW:=by
 induction l with
 | nil=>rfl
 | cons a r ih=>rw[flatMap_cons,map_append,ih,JP]
def EA (c:CV):Bool:=match c with
 | .aw p 0=>p == 0 || p == 5
 | c=>tree c
section
variable (p:Pg)(E0:List En)(l:List Sm)(i:Nat)
def bE:List (Nat×CV):=[(5,I i),(4,.ax (E0.flatMap iS) E0.length),(0,.aw 0 0),(1,.ax (bO l) l.length)]
def NS (E:List En)(k st:Nat)(c:List In)(s:List Nat):St:=⟨bE E0 l i,[(0,gz p E k st 3 c.length 4 s.length),(3,fJ c),(4,gH s)],5⟩
def Kh:Sm->Int
 | .iz _ _=>1
 | .jd _ _=>2
 | .eJ g _ _=>if g=true then 4 else 3
 | .dP u _=>if u=true then 6 else 5
 | .mf _ _ _=>7
 | .cS _ _=>8
 | .jP=>9
def mE (n:Nat):List (Nat×CV):=[(6,.aw 5 0),(7,I n),(5,I i),(4,.ax (E0.flatMap iS) E0.length),(0,.aw 0 0),(1,.ax (bO l) l.length)]
def mH (E:List En)(k st:Nat)(c:List In)(s:List Nat)(x:Sm):List (Nat×Ob):=[(0,gz p E k st 3 c.length 4 s.length),(3,fJ c),(4,gH s),(5,⟨207,0,iR x⟩)]
def MS (E:List En)(k st:Nat)(c:List In)(s:List Nat)(x:Sm)(n:Nat):St:=
 ⟨(41,I (Kh x))::mE E0 l i n,mH p E k st c s x,6⟩
end
theorem JL {c:CV}(h:EA c=true){m:List (Nat×Nat)}(h0:(assoc m 0).isSome=true)(h5:c≠.aw 5 0\/(assoc m 5).isSome=true):oe m c=true:=by
 cases c with
 | aw q f=>
  cases f with
  | zero=>
   simp only[EA,Bool.or_eq_true,beq_iff_eq] at h;rcases h with rfl | rfl
   ·exact h0
   ·rcases h5 with h5 | h5
    ·exact (h5 rfl).elim
    ·exact h5
  | succ f=>simp[EA,tree] at h
 | agg cs=>simp only[EA,tree] at h;exact au h m
 | cB cs=>simp only[EA,tree] at h;exact au h m
 | _=>first | exact h | simp[EA,tree] at h
theorem PN {c:CV}(h:EA c=true)(m:List (Nat×Nat))(n:Nat)(h0:dZ m n 0=0)(h5:c≠.aw 5 0\/dZ m n 5=5):cN (dZ m n) c=c:=by
 cases c with
 | aw q f=>
  cases f with
  | zero=>
   simp only[EA,Bool.or_eq_true,beq_iff_eq] at h;rcases h with rfl | rfl
   ·rw[cN,h0]
   ·rcases h5 with h5 | h5
    ·exact (h5 rfl).elim
    ·rw[cN,h5]
  | succ f=>simp[EA,tree] at h
 | _=>exact iB _ _ h
theorem Az {m:List (Nat×Nat)}{n:Nat}(h0:dZ m n 0=0):∀ {e:List (Nat×CV)},(e.all λ x=>EA x.2)=true->((∀ x∈e,x.2≠CV.aw 5 0)\/dZ m n 5=5)->cm (dZ m n) e=e
 | [],_,_=>rfl
 | (t,c)::e,h,h5=>by
  simp only[all_cons,Bool.and_eq_true] at h;rw[cm,PN h.1 m n h0 (h5.imp (λ h5=>h5 (t,c) mem_cons_self) id),Az h0 h.2 (h5.imp (λ h5 x hx=>h5 x (mem_cons_of_mem _ hx)) id)]
theorem dg (ρ:Nat->Nat)(t:TypeId)(n:Nat){cs:List CV}(h:trees cs=true):bh ρ ⟨t,n,cs⟩=⟨t,n,cs⟩:=by simp only[bh,af ρ _ h]
theorem iy (p:Pg):tree (.ax (p.gs.flatMap qk) p.gs.length)=true/\tree (.ax (p.ms.flatMap cH) p.ms.length)=true/\tree (.ax (p.fs.flatMap fL) p.fs.length)=true:=
 ⟨by simp only[tree],by simp only[tree],by simp only[tree]⟩
theorem cG (E:List En):trees (E.flatMap iS)=true:=ak (λ _=>rfl) E
section
variable {C:Cx}{s:St}{p:Pg}
theorem Ea (E:List En)(k st a cl b sl:Nat)(m:List (Nat×Nat))(ha:(assoc m a).isSome=true)(hb:(assoc m b).isSome=true):(gz p E k st a cl b sl).cells.all (mg m)=true:=by
 obtain⟨t1,t2,t3⟩:=iy p;have t4:=cG E;simp only[gz,all_cons,all_nil,mg,ha,hb,Bool.and_true,Bool.and_eq_true];simp only[tree] at t1 t2 t3 |-;refine⟨t1,t2,t3,?_⟩;simp
theorem tJ (E:List En)(k st a cl b sl:Nat)(ρ:Nat->Nat):bh ρ (gz p E k st a cl b sl)=gz p E k st (ρ a) cl (ρ b) sl:=by
 obtain⟨t1,t2,t3⟩:=iy p;have t4:tree (.ax (E.flatMap iS) E.length)=true:=by simp only[tree]
 simp only[bh,gz,aX,iB ρ _ t1,iB ρ _ t2,iB ρ _ t3,iB ρ _ t4];rfl
theorem lQ (RR:C.n0=3)(ks:List Nat)(a b:Nat){e:List (Nat×CV)}{E:List En}{k st N M:Nat}{X S:List CV}{c':List In}{s':List Nat}(he:pick s.env ks=e)(Sg:(e.all λ x=>EA x.2)=true)(h5:∀ x∈e,x.2≠CV.aw 5 0)(Y1:(a != b && (a != 0 && b != 0))=true)
  (h0:assoc s.heap 0=some (gz p E k st a N b M)) (ha:assoc s.heap a=some ⟨90,12,X⟩) (hb:assoc s.heap b=some ⟨3,1,S⟩) (hX:X.map nz=c'.flatMap cW) (hS:S=s'.map λ n:Nat=>I n) (hN:N=c'.length) (hM:M=s'.length) :
  Le C s ⟨e,[(0,gz p E k st 3 c'.length 4 s'.length),(3,fJ c'),(4,gH s')],5⟩:=by
 subst hN hM hS;simp only[Bool.and_eq_true,bne_iff_ne,ne_eq] at Y1;obtain⟨n1,n2,n3⟩:=Y1;have n1':¬ b=a:=λ h=>n1 h.symm;refine Le.trans (Le.nz [] [a]) ?_;have e1:Iq [] s.env=s.env:=by
  have:∀ e:List (Nat×CV),Iq [] e=e:=by
   intro e
   induction e with
   | nil=>rfl
   | cons x r ih=>obtain⟨k,c⟩:=x;rw[Iq,ih];rfl
  exact this _
 rw[e1];have g0:assoc (Cs [a] s.heap) 0=some (gz p E k st a c'.length b s'.length):=by
  rw[eR,h0];simp[Ne.symm n2]
 have ga:assoc (Cs [a] s.heap) a=some (fJ c'):=by
  rw[eR,ha];simp[hX,fJ]
 have gb:assoc (Cs [a] s.heap) b=some (gH s'):=by
  rw[eR,hb];simp[n1',gH]
 have r0:dZ [(0,0),(a,3),(b,4)] 5 0=0:=rfl;have ra:dZ [(0,0),(a,3),(b,4)] 5 a=3:=by simp[dZ,assoc,Ne.symm n2]
 have rb:dZ [(0,0),(a,3),(b,4)] 5 b=4:=by simp[dZ,assoc,Ne.symm n3,n1]
 have SV:=Le.norm (C:=C) (s:=⟨s.env,Cs [a] s.heap,s.nx⟩) ks [(0,0),(a,3),(b,4)] 3 5 (by simp[xk,n1,Ne.symm n2,Ne.symm n3]) (by simp only[all_cons,all_nil,g0,ga,gb];rfl) ?_ yA
 ·simp only[he,map_cons,map_nil,pick,g0,ga,gb,bC] at SV;rw[Az r0 Sg (.inl h5),r0,ra,rb,tJ,ra,rb,fJ,gH,dg _ _ _ (cu c'),dg _ _ _ (a8 s')] at SV;exact SV
 ·simp only[cI,he,map_cons,map_nil,pick,g0,ga,gb,all_cons,all_nil,Bool.and_true,Bool.and_eq_true,all_eq_true (l:=e)];refine⟨λ x hx=>JL ((all_eq_true.1 Sg) x hx) rfl (.inl (h5 x hx)),Ea E k st a _ b _ _ (by simp[assoc,Ne.symm n2]) (by simp[assoc,Ne.symm n3];split<;>rfl),au (cu c') _,au (a8 s') _⟩
theorem jR (RR:C.n0=3)(ks:List Nat)(a b:Nat){e:List (Nat×CV)}{E:List En}{k st N M:Nat}{X S cs:List CV}{c':List In}{s':List Nat}(he:pick s.env ks=e)(Sg:(e.all λ x=>EA x.2)=true)(Y1:((a != b && (a != 0 && b != 0)) && (a != 5 && b != 5))=true)
  (h0:assoc s.heap 0=some (gz p E k st a N b M)) (ha:assoc s.heap a=some ⟨90,12,X⟩) (hb:assoc s.heap b=some ⟨3,1,S⟩) (h5:assoc s.heap 5=some ⟨207,0,cs⟩) (Sw:trees cs=true) (hX:X.map nz=c'.flatMap cW) (hS:S=s'.map λ n:Nat=>I n) (hN:N=c'.length) (hM:M=s'.length) :
  Le C s ⟨e,[(0,gz p E k st 3 c'.length 4 s'.length),(3,fJ c'),(4,gH s'),(5,⟨207,0,cs⟩)],6⟩:=by
 subst hN hM hS;simp only[Bool.and_eq_true,bne_iff_ne,ne_eq] at Y1;obtain⟨⟨n1,n2,n3⟩,n4,n5⟩:=Y1;have n1':¬ b=a:=λ h=>n1 h.symm;refine Le.trans (Le.nz [] [a]) ?_;have e1:Iq [] s.env=s.env:=by
  have:∀ e:List (Nat×CV),Iq [] e=e:=by
   intro e
   induction e with
   | nil=>rfl
   | cons x r ih=>obtain⟨k,c⟩:=x;rw[Iq,ih];rfl
  exact this _
 rw[e1];have g0:assoc (Cs [a] s.heap) 0=some (gz p E k st a c'.length b s'.length):=by
  rw[eR,h0];simp[Ne.symm n2]
 have ga:assoc (Cs [a] s.heap) a=some (fJ c'):=by
  rw[eR,ha];simp[hX,fJ]
 have gb:assoc (Cs [a] s.heap) b=some (gH s'):=by
  rw[eR,hb];simp[n1',gH]
 have g5:assoc (Cs [a] s.heap) 5=some ⟨207,0,cs⟩:=by
  rw[eR,h5];simp;intro h;exact (n4 h.symm).elim
 have r0:dZ [(0,0),(a,3),(b,4),(5,5)] 6 0=0:=rfl;have ra:dZ [(0,0),(a,3),(b,4),(5,5)] 6 a=3:=by simp[dZ,assoc,Ne.symm n2]
 have rb:dZ [(0,0),(a,3),(b,4),(5,5)] 6 b=4:=by simp[dZ,assoc,Ne.symm n3,n1]
 have r5:dZ [(0,0),(a,3),(b,4),(5,5)] 6 5=5:=by simp[dZ,assoc,n4,n5]
 have SV:=Le.norm (C:=C) (s:=⟨s.env,Cs [a] s.heap,s.nx⟩) ks [(0,0),(a,3),(b,4),(5,5)] 3 6 (by simp[xk,n1,Ne.symm n2,Ne.symm n3,n4,n5]) (by simp only[all_cons,all_nil,g0,ga,gb,g5];rfl) ?_ yA
 ·simp only[he,map_cons,map_nil,pick,g0,ga,gb,g5,bC] at SV;rw[Az r0 Sg (.inr r5),r0,ra,rb,r5,tJ,ra,rb,fJ,gH,dg _ _ _ (cu c'),dg _ _ _ (a8 s'),dg _ _ _ Sw] at SV;exact SV
 ·simp only[cI,he,map_cons,map_nil,pick,g0,ga,gb,g5,all_cons,all_nil,Bool.and_true,Bool.and_eq_true,all_eq_true (l:=e)];refine⟨λ x hx=>JL ((all_eq_true.1 Sg) x hx) rfl (.inr (by simp[assoc,n4,n5])),Ea E k st a _ b _ _ (by simp[assoc,Ne.symm n2]) (by simp[assoc,Ne.symm n3];split<;>rfl),au (cu c') _,au (a8 s') _,au Sw _⟩
end
theorem Al (p:Pg)(E:List En)(k st a cl b sl n:Nat)(ha:a<n)(hb:b<n):ba n (gz p E k st a cl b sl).cells=true:=by
 obtain⟨t1,t2,t3⟩:=iy p;have t4:tree (.ax (E.flatMap iS) E.length)=true:=by simp only[tree]
 simp only[gz,ba,bP n _ t1,bP n _ t2,bP n _ t3,bP n _ t4,Bool.true_and];simp[aU,ha,hb]
def okW (c:CV):Bool:=match c with
 | .aw p 0=>p == 0
 | c=>tree c
theorem JK {c:CV}(h:okW c=true)(ρ:Nat->Nat)(h0:ρ 0=0):cN ρ c=c:=by
 cases c with
 | aw q f=>
  cases f with
  | zero=>
   simp only[okW,beq_iff_eq] at h;subst h;rw[cN,h0]
  | succ f=>simp[okW,tree] at h
 | _=>exact iB _ _ h
theorem FY {ρ:Nat->Nat}(h0:ρ 0=0):∀ {cs:List CV},cs.all okW=true->aX ρ cs=cs
 | [],_=>rfl
 | c::cs,h=>by
  simp only[all_cons,Bool.and_eq_true] at h;rw[aX,JK h.1 ρ h0,FY h0 h.2]
theorem xa {n:Nat}(hn:0<n):∀ {cs:List CV},cs.all okW=true->ba n cs=true
 | [],_=>rfl
 | c::cs,h=>by
  simp only[all_cons,Bool.and_eq_true] at h;rw[ba,xa hn h.2,Bool.and_true];have h1:=h.1
  cases c with
  | aw q f=>
   cases f with
   | zero=>
    simp only[okW,beq_iff_eq] at h1;subst h1
    simpa [aU] using hn
   | succ f=>simp[okW,tree] at h1
  | _=>exact bP _ _ h1
theorem MM (m:Nat)(h:4<m):Ip [0,3,4] m=true:=by
 simp only[Ip,all_cons,all_nil,Bool.and_true,Bool.and_eq_true,decide_eq_true_eq];refine⟨⟨by omega,by omega,by omega⟩,by decide⟩
theorem Kc (m:Nat):bS [0,3,4] m 0=0:=rfl
theorem mapN1 (m:Nat):bS [0,3,4] m 1=3:=rfl
theorem mapN2 (m:Nat):bS [0,3,4] m 2=4:=rfl
theorem mapN3 (m:Nat):bS [0,3,4] m 3=m:=by simp[bS]
theorem mapN4 (m:Nat):bS [0,3,4] m 4=m+1:=by simp[bS];omega
def hO (H:List (Nat×Ob))(ks:List Nat)(nx:Nat):Bool:=H.all λ x=>!ks.contains x.1 && decide (x.1<nx)
theorem sy:∀ (ks:List Nat) (H:List (Nat×Ob)) (nx:Nat),hO H ks nx=true->ep H ks=H
 | [],_,_,_=>rfl
 | k::ks,H,nx,h=>by
  have h1:jX H k=H:=by
   have:∀ H:List (Nat×Ob),hO H (k::ks) nx=true->jX H k=H:=by
    intro H
    induction H with
    | nil=>intro _;rfl
    | cons x r ih=>
     intro h;obtain⟨q,ob⟩:=x;have h':=h;simp only[hO,all_cons,Bool.and_eq_true] at h';have h2:=h'.1.1;simp only[Bool.not_eq_true',contains_eq_mem,decide_eq_false_iff_not,mem_cons,not_or] at h2;rw[jX,if_neg h2.1,ih h'.2]
   exact this H h
  rw[ep,h1];refine sy ks H nx ?_;simp only[hO,all_eq_true,Bool.and_eq_true,Bool.not_eq_true',contains_eq_mem,decide_eq_false_iff_not,mem_cons,not_or] at h |-;exact λ x hx=>⟨(h x hx).1.2,(h x hx).2⟩
theorem Oo {H:List (Nat×Ob)}{ks:List Nat}{nx:Nat}(h:hO H ks nx=true):(H.all λ x=>decide (x.1<nx))=true:=by
 simp only[hO,all_eq_true,Bool.and_eq_true] at h |-;exact λ x hx=>(h x hx).2
section
variable {C:Cx}{p:Pg}{ops:Array Oper}{e:List (Nat×CV)}{H:List (Nat×Ob)}{nx:Nat}
theorem Hm (E:List En)(k st cl sl nx:Nat):bC (bS [0,3,4] nx) [(0,dB p E k st cl sl)]=[(0,gz p E k st 3 cl 4 sl)]:=by
 rw[bC,bC,Ak,tJ];rfl
theorem TL.iq {o:Oper}{l:List Oper}{c:Call}{g:FuncId}{args:List CV}{K:St->Prop}{r0:CV}{E:List En}{k st cl sl:Nat}(hb:Body prog av g args [(0,dB p E k st cl sl)] 3 (jC r0 [(0,dB p E k st cl sl)] 3))(Te:4<nx)(hH:hO H [0] nx=true)
  (hd:bm C.nt o.dst=true) (hg:bY ops ⟨e,(0,gz p E k st 3 cl 4 sl)::H,nx⟩ o=Option.some true) (ho:o.op=.call c) (Se:bM ⟨e,(0,gz p E k st 3 cl 4 sl)::H,nx⟩ c=Option.some (g,args)) (RV:args.all okW=true) (ht:tree r0=true)
  (hK:TL prog C ops l (St.put ⟨e,(0,gz p E k st 3 cl 4 sl)::H,nx⟩ o.dst r0) K):TL prog C ops (o::l) ⟨e,(0,gz p E k st 3 cl 4 sl)::H,nx⟩ K:=by
 have Qd:ep ((0,gz p E k st 3 cl 4 sl)::H) [0]=H:=sy [0] H nx hH;refine TL.xW ah [0,3,4] [0] 3 0 hb rfl (MM nx Te) hd hg ho yCx (by simp only[Hm];rfl) (xa yA RV) (by simp only[dh,Ak,Al p E k st 1 cl 2 sl 3 yA yA];rfl) ht ?_ ?_
 ·simp only[Hm,Qd,nU,all_cons,all_nil,Bool.and_true,Bool.and_eq_true];exact⟨rfl,Oo hH⟩
 ·simp only[Hm,Qd];exact hK
theorem RX.iq {o:Oper}{cl:Call}{g:FuncId}{args:List CV}{r0:CV}{W:List uI}{nt N:Nat}{dyn:List (Nat×Nat)}{K:St->Prop}{i:Nat}{r:List Nat}{res:Nat->Er}{E:List En}{k st cn sn:Nat}(hb:Body prog av g args [(0,dB p E k st cn sn)] 3 (jC r0 [(0,dB p E k st cn sn)] 3))(Te:4<nx)(hH:hO H [0] nx=true)
  (hi:ops[i]? = Option.some o) (hd:bm nt o.dst=true) (hg:bY ops ⟨e,(0,gz p E k st 3 cn 4 sn)::H,nx⟩ o=Option.some true) (hu:ct o=Option.some cl) (Se:bM ⟨e,(0,gz p E k st 3 cn 4 sn)::H,nx⟩ cl=Option.some (g,args)) (RV:args.all okW=true) (ht:tree r0=true) (hv:Bi dyn res i [0]=true)
  (hK:vu W dyn res i (iN r0 [0] [] 0 [(0,gz p E k st 3 cn 4 sn)])/\nh av W nt ops N dyn (Ec prog av W nt ops N dyn K) r (note dyn res i (iN r0 [0] [] 0 [(0,gz p E k st 3 cn 4 sn)])) (St.put ⟨e,(0,gz p E k st 3 cn 4 sn)::H,nx⟩ o.dst r0)):RX prog av W nt ops N dyn K (i::r) res ⟨e,(0,gz p E k st 3 cn 4 sn)::H,nx⟩:=by
 have Qd:ep ((0,gz p E k st 3 cn 4 sn)::H) [0]=H:=sy [0] H nx hH;refine RX.xW [0,3,4] [0] [] 3 0 hb rfl (MM nx Te) hi hd hg hu yCx (by simp only[Hm];rfl) (xa yA RV) (by simp only[dh,Ak,Al p E k st 1 cn 2 sn 3 yA yA];rfl) ht hv (by simp only[Hm];rfl) (λ _ _ _=>rfl) ?_;simp only[Hm,Qd];exact hK
def T3 (p:Pg)(E:List En)(k st cl sl:Nat)(o1 o2:Ob):List (Nat×Ob):=[(0,gz p E k st 1 cl 2 sl),(1,o1),(2,o2)]
theorem rn_T {E:List En}{k st cl sl nx:Nat}{o1 o2:Ob}(h1:trees o1.cells=true)(h2:trees o2.cells=true):bC (bS [0,3,4] nx) (T3 p E k st cl sl o1 o2)=[(0,gz p E k st 3 cl 4 sl),(3,o1),(4,o2)]:=by
 simp only[T3,bC,tJ,Kc,mapN1,mapN2];rw[show bh (bS [0,3,4] nx) o1=o1 from dg _ _ _ h1,show bh (bS [0,3,4] nx) o2=o2 from dg _ _ _ h2]
def T4 (p:Pg)(E:List En)(k st cl sl:Nat)(o1 o2:Ob):List (Nat×Ob):=[(0,gz p E k st 3 cl 4 sl),(3,o1),(4,o2)]
theorem FN {E:List En}{k st cl sl nx:Nat}{o1 o2:Ob}(h1:trees o1.cells=true)(h2:trees o2.cells=true):bC (bS [0,3,4] nx) (T4 p E k st cl sl o1 o2)=[(0,gz p E k st nx cl (nx+1) sl),(nx,o1),(nx+1,o2)]:=by
 simp only[T4,bC,tJ,Kc,mapN3,mapN4];rw[show bh (bS [0,3,4] nx) o1=o1 from dg _ _ _ h1,show bh (bS [0,3,4] nx) o2=o2 from dg _ _ _ h2]
theorem OO {E:List En}{k st cl sl:Nat}{o1 o2:Ob}(h1:trees o1.cells=true)(h2:trees o2.cells=true):dh 3 (T3 p E k st cl sl o1 o2)=true:=by
 simp only[T3,dh,Al p E k st 1 cl 2 sl 3 yA yA,bD 3 _ h1,bD 3 _ h2];rfl
variable {E E':List En}{k k' st st' cn cn' sn sn':Nat}{o1 o2 o3 o4:Ob}{args:List CV}{r0:CV}{g:FuncId}
theorem TL.iM {o:Oper}{l:List Oper}{c:Call}{K:St->Prop}(hb:Body prog av g args (T3 p E k st cn sn o1 o2) 3 (jC r0 (T4 p E' k' st' cn' sn' o3 o4) (3+2)))(h1:trees o1.cells=true)(h2:trees o2.cells=true)(h3:trees o3.cells=true)(h4:trees o4.cells=true)(Te:4<nx)(hH:hO H [0,3,4] nx=true)
  (hd:bm C.nt o.dst=true) (hg:bY ops ⟨e,(0,gz p E k st 3 cn 4 sn)::(3,o1)::(4,o2)::H,nx⟩ o=Option.some true) (ho:o.op=.call c) (Se:bM ⟨e,(0,gz p E k st 3 cn 4 sn)::(3,o1)::(4,o2)::H,nx⟩ c=Option.some (g,args)) (RV:args.all okW=true) (ht:tree r0=true)
  (hK:TL prog C ops l (St.put ⟨e,(0,gz p E' k' st' nx cn' (nx+1) sn')::(nx,o3)::(nx+1,o4)::H,nx+2⟩ o.dst r0) K):TL prog C ops (o::l) ⟨e,(0,gz p E k st 3 cn 4 sn)::(3,o1)::(4,o2)::H,nx⟩ K:=by
 have Qd:ep ((0,gz p E k st 3 cn 4 sn)::(3,o1)::(4,o2)::H) [0,3,4]=H:=sy [0,3,4] H nx hH;refine TL.xW ah [0,3,4] [0,3,4] 3 2 hb rfl (MM nx Te) hd hg ho yCx (by simp only[rn_T h1 h2];rfl) (xa yA RV) (OO h1 h2) ht ?_ ?_
 ·simp only[FN h3 h4,Qd,nU,Bool.and_eq_true];exact⟨by simp,Oo hH⟩
 ·simp only[FN h3 h4,Qd];exact hK
theorem RX.iM {o:Oper}{cl:Call}{W:List uI}{nt N:Nat}{dyn:List (Nat×Nat)}{K:St->Prop}{i:Nat}{r:List Nat}{res:Nat->Er}(hb:Body prog av g args (T3 p E k st cn sn o1 o2) 3 (jC r0 (T4 p E' k' st' cn' sn' o3 o4) (3+2)))(h1:trees o1.cells=true)(h2:trees o2.cells=true)(h3:trees o3.cells=true)(h4:trees o4.cells=true)(Te:4<nx)(hH:hO H [0,3,4] nx=true)
  (hi:ops[i]? = Option.some o) (hd:bm nt o.dst=true) (hg:bY ops ⟨e,(0,gz p E k st 3 cn 4 sn)::(3,o1)::(4,o2)::H,nx⟩ o=Option.some true) (hu:ct o=Option.some cl) (Se:bM ⟨e,(0,gz p E k st 3 cn 4 sn)::(3,o1)::(4,o2)::H,nx⟩ cl=Option.some (g,args)) (RV:args.all okW=true) (ht:tree r0=true) (hv:Bi dyn res i [0,3,4]=true)
  (hK:vu W dyn res i (iN r0 [0,3,4] [0,3,4,nx,nx+1] 2 [(0,gz p E' k' st' nx cn' (nx+1) sn'),(nx,o3),(nx+1,o4)])/\nh av W nt ops N dyn (Ec prog av W nt ops N dyn K) r (note dyn res i (iN r0 [0,3,4] [0,3,4,nx,nx+1] 2 [(0,gz p E' k' st' nx cn' (nx+1) sn'),(nx,o3),(nx+1,o4)])) (St.put ⟨e,(0,gz p E' k' st' nx cn' (nx+1) sn')::(nx,o3)::(nx+1,o4)::H,nx+2⟩ o.dst r0)) :
  RX prog av W nt ops N dyn K (i::r) res ⟨e,(0,gz p E k st 3 cn 4 sn)::(3,o1)::(4,o2)::H,nx⟩:=by
 have Qd:ep ((0,gz p E k st 3 cn 4 sn)::(3,o1)::(4,o2)::H) [0,3,4]=H:=sy [0,3,4] H nx hH;refine RX.xW [0,3,4] [0,3,4] [0,3,4,nx,nx+1] 3 2 hb rfl (MM nx Te) hi hd hg hu yCx (by simp only[rn_T h1 h2];rfl) (xa yA RV) (OO h1 h2) ht hv ?_ (λ q hq hn=>(hn (mem_append_left [nx,nx+1] hq)).elim) ?_
 ·simp only[FN h3 h4];have e1:¬ 0=nx:=by omega
  have e2:¬ 3=nx:=by omega
  simp[assoc,e1]
 ·simp only[FN h3 h4,Qd];exact hK
def RJ (c:List In)(cs:List CV):Ob:=⟨90,12,c.flatMap cW++cs⟩
theorem yN (c:List In){cs:List CV}(h:trees cs=true):trees (RJ c cs).cells=true:=by simp only[RJ,bg,cu,h];rfl
theorem wO (p:Pg)(E:List En)(k st:Nat)(c:List In)(s:List Nat)(cs:List CV)(Sw:cs.length=12)(Tp:trees cs=true)(n:Nat)(hN:c.length<=10000)(hM:s.length<=10000) :
  Body prog av 130 [.aw 0 0,.agg cs,I n] (T3 p E k st c.length s.length (fJ c) (gH s)) 3 (jC (I c.length) (T4 p E k st (c.length+1) (s.length+1) (RJ c cs) (gH (s++[n]))) (3+2)):=by
 have:=PA p E k st (c.flatMap cW) c.length (Bc c) (cu c) (s.map λ n:Nat=>I n) s.length xr (a8 s) hN hM cs Sw Tp n
 simpa only[T3,T4,RJ,gH,fJ,map_append,map_cons,map_nil] using this
theorem PB (p:Pg)(E:List En)(k st:Nat)(c:List In)(s:List Nat)(N M:Nat)(h1:N=c.length)(h2:M=s.length)(cs:List CV)(Sw:cs.length=12)(Tp:trees cs=true)(n:Nat)(hN:N<=10000)(hM:M<=10000) :
  Body prog av 130 [.aw 0 0,.agg cs,I n] (T3 p E k st N M (fJ c) (gH s)) 3 (jC (I N) (T4 p E k st (N+1) (M+1) (RJ c cs) (gH (s++[n]))) (3+2)):=by
 subst h1 h2;exact wO p E k st c s cs Sw Tp n hN hM
theorem jI (c:List In)(cs:List CV)(x:In)(h:cs.map nz=cW x):(c.flatMap cW++cs).map nz=(c++[x]).flatMap cW:=by simp[r9,h]
end
theorem qp (E0:List En)(l:List Sm)(i:Nat):((bE E0 l i).all λ x=>EA x.2)=true:=by
 simp[bE,EA,tree]
theorem qt (E0:List En)(l:List Sm)(i:Nat):∀ x∈bE E0 l i,x.2≠CV.aw 5 0:=by
 simp[bE]
@[simp] theorem Ml (p:Pg)(E:List En)(k st a cl b sl n:Nat):(gz p E k st a cl b sl).cells.all (aU n)=(decide (a<n) && decide (b<n)):=by
 obtain⟨t1,t2,t3⟩:=iy p;have t4:tree (.ax (E.flatMap iS) E.length)=true:=by simp only[tree]
 simp only[gz,all_cons,all_nil,bP n _ t1,bP n _ t2,bP n _ t3,bP n _ t4,Bool.true_and];simp[aU]
@[simp] theorem scO_ltS (p:Pg)(E:List En)(k st a cl b sl n:Nat):ba n (gz p E k st a cl b sl).cells=(decide (a<n) && decide (b<n)):=by rw[aT];exact Ml p E k st a cl b sl n
@[simp] theorem K7 (c:List In)(n:Nat):(fJ c).cells.all (aU n)=true:=ai (cu c) n
@[simp] theorem Jf (s:List Nat)(n:Nat):(gH s).cells.all (aU n)=true:=ai (a8 s) n
@[simp] theorem coOb_ltS (c:List In)(n:Nat):ba n (fJ c).cells=true:=by rw[aT];exact K7 c n
@[simp] theorem siOb_ltS (s:List Nat)(n:Nat):ba n (gH s).cells=true:=by rw[aT];exact Jf s n
@[simp] theorem coOb_frz (c:List In)(o:Nat)(cs:List CV)(n:Nat):(fJ c).cells.map (cw o cs n)=(fJ c).cells:=aS (cu c) o cs n
@[simp] theorem siOb_frz (s:List Nat)(o:Nat)(cs:List CV)(n:Nat):(gH s).cells.map (cw o cs n)=(gH s).cells:=aS (a8 s) o cs n
@[simp] theorem coOb_eta (c:List In):(⟨(fJ c).elem,(fJ c).sz,(fJ c).cells⟩:Ob)=fJ c:=rfl
@[simp] theorem siOb_eta (s:List Nat):(⟨(gH s).elem,(gH s).sz,(gH s).cells⟩:Ob)=gH s:=rfl
def MZ (p:Pg)(E0:List En)(l:List Sm)(i:Nat)(E:List En)(k st:Nat)(c:List In)(s:List Nat)(cs:List CV)(n:Nat):St:=
 ⟨mE E0 l i n,[(0,gz p E k st 3 c.length 4 s.length),(3,fJ c),(4,gH s),(5,⟨207,0,cs⟩)],6⟩
end Go.Proofs.YtlkmbdfhdknlgaaGreat
