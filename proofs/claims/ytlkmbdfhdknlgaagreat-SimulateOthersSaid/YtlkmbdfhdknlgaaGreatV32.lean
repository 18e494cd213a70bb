/- ref. -/
import Derived.Test.YtlkmbdfhdknlgaaGreatV31
namespace Go.Proofs.YtlkmbdfhdknlgaaGreat
open Go.Can Go.aV List Tryz
def xH (o:Option Ex):List Ex:=match o with
 | none=>[]
 | some e=>[e]
theorem od (o:Option Ex):mA o=.au ((xH o).flatMap a8) (xH o).length:=by cases o<;>simp[mA,xH]
def J134 (p:Pg)(E:List En)(k st cl sl:Nat)(nm:ByteArray)(il:List Ex)(b:Bool)(j:Nat)(n:Int)(m:Nat)(s:St):Prop:=∃ i:Nat,m=il.length-i/\i<=il.length/\
 s=⟨[(11,I i),(9,.ax 18 0),(6,.ax 4 0),(4,.ax 3 0),(0,.ax 0 0),(2,I n)],[(0,dC p E k st cl sl),(3,⟨204,0,[.str nm,.au (il.flatMap a8) il.length]⟩),(4,⟨87,0,[.bool false,I 0,.ak]⟩),(18,⟨87,0,[.bool b,I j,.bg 19 0 i]⟩),(19,lH ((il.take i).map (ed E)))],20⟩
set_option maxHeartbeats 4000000 in
theorem DY (p:Pg){g:Nat}{fs:List (ByteArray×List Pm)}{ps:List Pm}{V:List ByteArray}(E:List En)(k st cl sl:Nat)(hE:EW g p.ms fs ps V E k)(hl:E.length<=100000)(_hm:p.ms.length<=1000)(n:Int)(r:Rf)(hr:Gc p.ms ps V r) :
  Body prog av 170 [.ax 0 0,.agg (ld r),I n] [(0,dC p E k st cl sl)] 3 (jk (.agg (fC (yP E r))) [(0,dC p E k st cl sl)] 3):=by
 obtain⟨c,j,hf,U0,he⟩:∃ c j,jh E r.name=some ⟨r.name,c,j⟩/\((c=2/\∃ m,p.ms[j]? = some m/\((0:Int)<m.size↔0<(xH r.index).length))\/(c=5/\(xH r.index).length=0))/\∀ e∈xH r.index,fV V 1 e:=by
  rcases hr with ⟨m,h1,h2,h3⟩ | ⟨q,h1,h2,h3,h4⟩
  ·obtain⟨j,h4,h5⟩:=hE.m m h1;rw[<- h2] at h4;refine⟨2,j,h4,.inl ⟨rfl,m,h5,?_⟩,λ e he=>?_⟩
   ·rcases h3 with ⟨h6,h7⟩ | ⟨e,h6,h7,_⟩
    ·simp[h6,xH,h7]
    ·simp[h6,xH,h7]
   ·rcases h3 with ⟨h6,h7⟩ | ⟨e',h6,h7,h8⟩
    ·simp[h6,xH] at he
    ·simp only[h6,xH,mem_singleton] at he;subst he;exact h8
  ·obtain⟨j,h5,h6⟩:=hE.p q h1 h2;rw[<- h3] at h5;exact⟨5,j,h5,.inr ⟨rfl,by simp[h4,xH]⟩,λ e he=>by simp[h4,xH] at he⟩
 have Sl:=qR E r.name hl;rw[hf] at Sl;have P2:fC (yP E r)=[.bool (decide (c=5)),I j,.au (((xH r.index).map (ed E)).flatMap a8) ((xH r.index).map (ed E)).length]:=by
  simp only[yP,fC,iu hf,od];cases r.index<;>simp[xH]
 have PS:=λ (i:Nat) (x:Ex) (h:(xH r.index)[i]? = some x)=>aH (f:=a8) (n:=4) bA (m:=xH r.index) h;have SY:(xH r.index).length<=1:=by cases r.index<;>simp[xH]
 rw[P2];simp only[ld,od];generalize xH r.index=il at U0 he PS SY;generalize r.name=nm at hf Sl;clear P2 hr;refine Body.jb Tryz.func170 rfl GK (by simp[Tryz.ntmps170]) λ C hC OR=>?_;rw[Tryz.ntmps170] at hC;apply aq;simp[hC];apply T.seq;refine T.rx ag follows [0,1,2,3,4,5,10,6,7,8,9,11,12] [(3,10),(5,10),(10,6)] GK ?_;simp[hC,dC,pf];refine RX.call rfl xr rfl rfl rfl O4 (Sl) ?_;simp[qQ,iF];have hc5:((c:Int) == 5)=decide (c=5):=by rcases U0 with ⟨rfl,_⟩ | ⟨rfl,_⟩<;>rfl
 apply aq;simp[hC,hc5];refine T.cut (λ s=>s=⟨[(9,.ax 18 0),(6,.ax 4 0),(4,.ax 3 0),(0,.ax 0 0),(2,I n)],[(0,dC p E k st cl sl),(3,⟨204,0,[.str nm,.au (il.flatMap a8) il.length]⟩),(4,⟨87,0,[.bool false,I 0,.ak]⟩),(18,⟨87,0,[.bool (decide (c=5)),I j,.ak]⟩)],19⟩) ?_ ?_
 ·rcases U0 with ⟨rfl,m,hmj,hiff⟩ | ⟨rfl,Re⟩
  ·have hmd:=cq (f:=cI) (n:=3) (λ _=>rfl) hmj 2 yA;have QL:=(List.getElem?_eq_some_iff.1 hmj).1;apply T.block;apply aq;simp[hC];refine bh ?_;simp;apply aq;simp[hC];refine bh ?_;simp;apply T.seq;refine T.rx ag follows [0,1,2,3,4,5,6,7,8,9,10,11,12,13,14,15,16] [] GK ?_;simp[hC,QL,hmd,cI];by_cases hz:0<il.length
   ·have Qs:0<m.size:=by omega
    apply aq;simp[hC,hz,Qs];refine eQ ?_;simp;refine aa.trim [9,6,4,0,2] [0,3,4,18] 19 xr yA ?_;simp[dC,pf]
   ·have Qs:¬ 0<m.size:=by omega
    apply aq;simp[hC,hz,Qs];refine eQ ?_;simp;refine aa.trim [9,6,4,0,2] [0,3,4,18] 19 xr yA ?_;simp[dC,pf]
  ·apply T.block;apply aq;simp[hC];refine bh ?_;simp;apply aq;simp[hC];refine bh ?_;simp;apply T.seq;refine T.rx ag follows [0,1,2,3,4,5,6,7,8,9,10,11,12,13,14,15,16] [] GK ?_;simp[hC];apply aq;simp[hC,Re];refine eQ ?_;simp;refine aa.trim [9,6,4,0,2] [0,3,4,18] 19 xr yA ?_;simp[dC,pf]
 rintro s rfl;apply aT;simp[hC];apply T.block;refine T.aQ (J134 p E k st cl sl nm il (decide (c=5)) j n) (n:=il.length) ?_ ?_
 ·refine aa.le (Le.lq 18 2 85 4 rfl rfl) ?_;simp;refine aa.trim [11,9,6,4,0,2] [0,3,4,18,19] 20 (by simp[dC,pf]) yA ⟨0,by omega,by omega,?_⟩;simp[lH]
 ·rintro m s ⟨i,rfl,hi,rfl⟩;by_cases OP:i<il.length
  ·obtain⟨a,PX⟩:∃ a,il[i]? = some a:=⟨il[i],getElem?_eq_getElem OP⟩;have OS:=PS i a PX;have hb:=kk p E k st cl sl hE hl n 1 a (he a (mem_of_getElem? PX));have wi:=cw ((i:Int)+1) yA yA;apply aT;simp[hC,OP];refine iI ?_;simp;apply eZ;refine T.rx ag follows [0,1,2,3,4,5,6,7,8,9,10,11,12,13] [(1,9),(1,10)] GK ?_;simp[hC,OP,OS];have Pb:take (i+1) (map (ed E) il)=take i (map (ed E) il)++[ed E a]:=by
    rw[take_add_one,getElem?_map,PX];rfl
   have WC:(take i (map (ed E) il)).length=i:=by simp;omega
   generalize hN:take i (map (ed E) il)=N at Pb WC;have Sk:=aA (f:=a8) (n:=4) bA N;rw[WC] at Sk;have hbd:(i+1)*56<=140737488355328:=by omega
   have hbd2:(i+1)*64<=140737488355328:=by omega
   refine RX.di [0] [] 3 (hb) rfl xr rfl rfl rfl rfl xr Qe Qd rfl rfl rfl xr ?_;simp[lH,bA,Sk,hbd,aS,-length_flatMap];apply aG;simp[hC,wi];refine⟨il.length-(i+1),by omega,?_⟩;have Yg:(N++[ed E a]).flatMap a8=N.flatMap a8++a8 (ed E a):=by simp
   have O1:trees (N.flatMap a8++a8 (ed E a))=true:=by rw[<- Yg];exact ah aJ _
   refine aa.le (Le.trim [11,9,6,4,0,2] [0,3,4,18,34] 35 yDr yA) ?_;simp;refine aa.le (Le.ph 34 19 rfl rfl yA xr xr yDq) ?_;simp only[dC,pf];simp[bm (ah aJ N)];have WU:(il.take (i+1)).map (ed E)=N++[ed E a]:=by rw[map_take];exact Pb
   refine aa.trim [11,9,6,4,0,2] [0,3,4,18,19] 20 yEb yA ⟨i+1,rfl,by omega,?_⟩;rw[WU];simp[lH,dC,pf]
  ·have OV:i=il.length:=by omega
   apply aT;simp[hC,OP];refine bh ?_;simp;apply T.exit;simp;apply aq;simp[hC];apply T.ret;subst OV;have Pb:take il.length (map (ed E) il)=il.map (ed E):=take_of_length_le xr;have Uy:(((il.map (ed E)).flatMap a8).take (il.length*4))=(il.map (ed E)).flatMap a8:=take_of_length_le (by rw[aA (f:=a8) (n:=4) bA];simp);refine aa.le (Le.trim [6] [0,4,19] 20 yDs yA) ?_;simp;refine aa.le (Le.cF (o:=19) rfl (ah aJ _)) ?_;simp[lH,Pb,Uy];refine aa.le (Le.cF (o:=4) rfl (by simp[trees,tree])) ?_;simp[dC,pf];refine aa.trim [6] [0] 3 xr yA ⟨_,?_,rfl,?_,rfl⟩
   ·simp
   ·simp
theorem ss (E:List En):∀ a b:List Ar,dx E (a++b)=dx E a++dx E b
 | [],b=>rfl
 | .exp e::a,b=>by simp[dx,ss E a b]
 | .vw r::a,b=>by simp[dx,ss E a b]
theorem vh (E:List En):∀ a b:List Ar,fq E (a++b)=fq E a++fq E b
 | [],b=>rfl
 | .exp e::a,b=>by simp[fq,vh E a b]
 | .vw r::a,b=>by simp[fq,vh E a b]
theorem sr (E:List En):∀ a:List Ar,(dx E a).length<=a.length
 | []=>Nat.le_refl _
 | .exp e::a=>by have:=sr E a;simp[dx];omega
 | .vw r::a=>by have:=sr E a;simp[dx];omega
theorem vg (E:List En):∀ a:List Ar,(fq E a).length<=a.length
 | []=>Nat.le_refl _
 | .exp e::a=>by have:=vg E a;simp[fq];omega
 | .vw r::a=>by have:=vg E a;simp[fq];omega
theorem IH {ms:List Mx}{ps:List Pm}{V:List ByteArray}:∀ {gp:List Pm} {al:List Ar} {i:Nat} {a:Ar},jy ms ps V gp al->al[i]? = some a->∃ q,gp[i]? = some q/\ArW ms ps V q a
 | [],[],_,_,_,h=>by simp at h
 | q::gp,b::al,0,a,hw,h=>by
  simp only[jy] at hw;simp only[getElem?_cons_zero,Option.some.injEq] at h;subst h;exact⟨q,rfl,hw.1⟩
 | q::gp,b::al,i+1,a,hw,h=>by
  simp only[jy] at hw;simp only[getElem?_cons_succ] at h;obtain⟨q',h1,h2⟩:=IH hw.2 h;exact⟨q',by simpa using h1,h2⟩
 | [],_::_,_,_,hw,_=>hw.elim
 | _::_,[],_,_,hw,_=>hw.elim
theorem jN (x:Pl):(fC x).length=3:=rfl
theorem cJ (x:Pl):trees (fC x)=true:=by
 rcases x with ⟨_,_,_ | e⟩
 ·rfl
 ·simp only[fC,mA,trees,tree,Bool.and_self]
def wN (l:List Pl):Ob:=⟨87,3,l.flatMap fC⟩
def BY:List CV:=[I 0,I 0,.bool false,I 0,I 0,.str ⟨#[]⟩,.ak,.bool false,I 0,.ak,.ak,.ak]
def pQ (kd:Int)(nm:ByteArray)(al:List Ar):List CV:=[I kd,.str nm,I 0,I 0,.str ⟨#[]⟩,.au [] 0,.str ⟨#[]⟩,.au [] 0,.au (al.flatMap pw) al.length,.au [] 0,.au [] 0]
def J133 (p:Pg)(E:List En)(k st cl sl:Nat)(n:Int)(kd op:Int)(nm:ByteArray)(j:Nat)(gp:List Pm)(al:List Ar)(m:Nat)(s:St):Prop:=∃ i:Nat,m=al.length-i/\i<=al.length/\
 s=⟨[(11,I i),(10,.au (gp.flatMap ln) gp.length),(7,.ax 5 0),(6,.ax 4 0),(4,.ax 3 0),(0,.ax 0 0),(2,I n)],[(0,dC p E k st cl sl),(3,⟨207,0,pQ kd nm al⟩),(4,⟨90,0,BY⟩),
  (5,⟨90,0,[I op,I j,.bool false,I 0,I 0,.str ⟨#[]⟩,.ak,.bool false,I 0,.ak,.bg 6 0 (dx E (al.take i)).length,.bg 7 0 (fq E (al.take i)).length]⟩),(6,lH (dx E (al.take i))),(7,wN (fq E (al.take i)))],8⟩
set_option maxHeartbeats 4000000 in
theorem HE (p:Pg){g:Nat}{ps:List Pm}{V:List ByteArray}(E:List En)(k st cl sl:Nat)(hE:EW g p.ms (p.fs.map λ f=>(f.name,f.params)) ps V E k)(hl:E.length<=100000)(hm:p.ms.length<=1000)(_hfl:p.fs.length<=1000)(n:Int)(go:Bool)(nm:ByteArray)(gp:List Pm)(al:List Ar)
  (hg:(nm,gp)∈p.fs.map λ f=>(f.name,f.params)) (hw:jy p.ms ps V gp al) (T8:gp.length<=1000) :
  Body prog av 169 [.ax 0 0,.agg (iD (.en go nm al)),I n] [(0,dC p E k st cl sl)] 3 (jk (.agg (df (.call go (l8 E nm).n (dx E al) (fq E al)))) [(0,dC p E k st cl sl)] 3):=by
 obtain⟨j,hf,Qq⟩:=hE.f _ hg;have ZA:=hw.len;have Sl:=qR E nm hl;rw[hf] at Sl;rw[iu hf];have hs:iD (.en go nm al)=pQ (if go=true then 4 else 3) nm al:=rfl;rw[hs];obtain⟨f,Ww,Tt⟩:∃ f,p.fs[j]? = some f/\f.params=gp:=by
  rw[getElem?_map,Option.map_eq_some_iff] at Qq;obtain⟨f,h1,h2⟩:=Qq;exact⟨f,h1,by injection h2⟩
 have hfd1:=cq (f:=fD) (n:=3) (λ _=>rfl) Ww 1 yA;have QL:=(List.getElem?_eq_some_iff.1 Ww).1;refine Body.jb Tryz.func169 rfl GK (by simp[Tryz.ntmps169]) λ C hC OR=>?_;rw[Tryz.ntmps169] at hC;apply aq;simp[hC];apply aq;simp[hC];simp only[dC,pf,pQ];refine T.cut (λ s=>s=⟨[(7,.ax 5 0),(6,.ax 4 0),(4,.ax 3 0),(0,.ax 0 0),(2,I n)],[(0,dC p E k st cl sl),(3,⟨207,0,pQ (if go=true then 4 else 3) nm al⟩),(4,⟨90,0,BY⟩),(5,⟨90,0,[I (if go=true then 3 else 2),I 0,.bool false,I 0,I 0,.str ⟨#[]⟩,.ak,.bool false,I 0,.ak,.ak,.ak]⟩)],6⟩) ?_ ?_
 ·cases go with
  | true=>
   apply aq;simp[hC];refine cX ?_;simp;apply aG;simp[hC];refine aa.trim [7,6,4,0,2] [0,3,4,5] 6 xr yA ?_;simp[dC,pf,pQ,BY]
  | false=>
   apply aq;simp[hC];refine eQ ?_;simp;refine aa.trim [7,6,4,0,2] [0,3,4,5] 6 xr yA ?_;simp[dC,pf,pQ,BY]
 rintro s rfl;apply T.seq;refine T.rx ag follows [0,1,2,3,4,5,10,6,7,8,9,11,12] [(3,10),(5,10),(10,6)] GK ?_;simp[hC,dC,pf,pQ,BY];refine RX.call rfl xr rfl rfl rfl O4 (Sl) ?_;simp[qQ,iF];apply eZ;apply aq;simp[hC];refine bh ?_;simp;apply aq;simp[hC];refine eQ ?_;simp;apply aq;simp[hC];apply T.seq;refine T.rx ag follows [0,1,2,3,4,5,6,7,8,9,10] [] GK ?_;simp[hC,QL,hfd1,fD,Tt];apply aT;simp[hC,ZA];refine eQ ?_;simp;refine T.le (Le.trim [10,7,6,4,0,2] [0,3,4,5] 6 xr yA) ?_;simp;generalize (if go=true then (4:Int) else 3)=kd;have Pj:(if go=true then (3:Int) else 2)=(if go then 3 else 2:Int):=rfl;generalize W6:(if go=true then (3:Int) else 2)=op;apply aT;simp[hC];apply T.block;refine T.aQ (J133 p E k st cl sl n kd op nm j gp al) (n:=al.length) ?_ ?_
 ·refine aa.le (Le.lq 5 10 85 4 rfl rfl) ?_;simp;refine aa.le (Le.lq 5 11 87 3 rfl rfl) ?_;simp;refine aa.trim [11,10,7,6,4,0,2] [0,3,4,5,6,7] 8 xr yA ⟨0,by omega,by omega,?_⟩;simp[lH,wN,dx,fq,dC,pf,pQ,BY,ZA]
 ·rintro m s ⟨i,rfl,hi,rfl⟩;by_cases OP:i<al.length
  ·obtain⟨a,PX⟩:∃ a,al[i]? = some a:=⟨al[i],getElem?_eq_getElem OP⟩;obtain⟨q,hiq,Xq⟩:=IH hw PX;have OS:=aH (f:=pw) (n:=7) uL PX;have ZH:=cq (f:=ln) (n:=2) (λ _=>rfl) hiq 1 yA;have SY:i<gp.length:=by omega
   have wi:=cw ((i:Int)+1) yA yA;have Pb:al.take (i+1)=al.take i++[a]:=by rw[take_add_one,PX];rfl
   have R5:=sr E (al.take i);have QV:=vg E (al.take i);rw[length_take] at R5 QV;have hI:dx E (al.take (i+1))=dx E (al.take i)++dx E [a]:=by rw[Pb,ss]
   have hP:fq E (al.take (i+1))=fq E (al.take i)++fq E [a]:=by rw[Pb,vh]
   generalize dx E (al.take i)=NI at R5 hI;generalize fq E (al.take i)=NP at QV hP;have f1:=aA (f:=a8) (n:=4) bA NI;have f2:=aA (f:=fC) (n:=3) jN NP;have b1:(NI.length+1)*56<=140737488355328:=by omega
   have b2:(NP.length+1)*48<=140737488355328:=by omega
   have b3:(NP.length+1)*40<=140737488355328:=by omega
   have Q2:∀ x:Pl,take 3 (fC x)=fC x:=λ _=>rfl;have PY:∀ x:Ex,take 4 (a8 x)=a8 x:=λ x=>take_of_length_le (by rw[bA];exact Nat.le_refl _);have tE:=ah aJ NI;have tP:=ah cJ NP;apply aT;simp[hC,SY];refine iI ?_;simp;apply eZ
   cases a with
   | vw r=>
    have hb:=DY p E k st cl sl hE hl hm n r Xq.2;have hqm:q.mutex=true:=Xq.1;obtain⟨rn,ri⟩:=r;obtain⟨q1,q2,hq⟩:∃ cs n,mA ri=.au cs n:=by cases ri<;>exact⟨_,_,rfl⟩
    simp only[ld,hq] at hb;simp only[pw,ld,a8,hq,cons_append,nil_append] at OS;apply aq;simp[hC,OP,OS,pQ];refine T.seq (T.seq ?_);refine T.rx ag follows [0,1,2,3,4,5,6,7] [] GK ?_;simp[hC,SY,ZH,ln,hqm];refine eQ ?_;simp;apply aq;simp[hC];refine cX ?_;simp;refine T.rx ag follows [0,1,2,3,4,5,6,7,8,9,10] [(1,6),(1,7)] GK ?_;simp[hC];refine RX.di [0] [] 3 (hb) rfl xr rfl rfl rfl rfl xr Qe Qd rfl rfl rfl xr ?_;simp[wN,jN,f2,b3,Q2,aS,-length_flatMap];apply aG;simp[hC,wi];refine⟨al.length-(i+1),by omega,?_⟩;have tQ:=cJ (yP E ⟨rn,ri⟩);refine aa.le (Le.trim [11,10,7,6,4,0,2] [0,3,4,5,6,28] 29 (by simp only[dC,pf,BY,lH];simp[-all_eq_true,-all_flatMap,aj tE,aj tP,aj tQ]) yA) ?_;simp;refine aa.le (Le.ph 28 7 rfl rfl yA xr xr (by simp only[dC,pf,BY,lH];simp[-all_eq_true,-all_flatMap,bC tE,bC tP,bC tQ])) ?_;simp only[dC,pf,BY,lH];simp[bm tE,bm tP,bm tQ];refine aa.trim [11,10,7,6,4,0,2] [0,3,4,5,6,7] 8 (by simp[-all_eq_true,-all_flatMap,aj tE,aj tP,aj tQ]) yA ⟨i+1,rfl,by omega,?_⟩;rw[hI,hP];simp[lH,wN,dx,fq,dC,pf,pQ,BY]
   | exp e=>
    have hb:=kk p E k st cl sl hE hl n 2 e Xq.2;have hqm:q.mutex=false:=Xq.1;simp only[pw,bV e,lh,cons_append,nil_append] at OS;rw[bV e] at hb;apply aq;simp[hC,OP,OS,pQ];refine T.seq (T.seq ?_);refine T.rx ag follows [0,1,2,3,4,5,6,7] [] GK ?_;simp[hC,SY,ZH,ln,hqm];refine eQ ?_;simp;apply aq;simp[hC];refine bh ?_;simp;refine T.rx ag follows [0,1,2,3,4,5,6,7,8,9,10] [(1,6),(1,7)] GK ?_;simp[hC];refine RX.di [0] [] 3 (hb) rfl xr rfl rfl rfl rfl xr Qe Qd rfl rfl rfl xr ?_;simp[lH,bA,f1,b1,PY,aS,-length_flatMap];apply aG;simp[hC,wi];refine⟨al.length-(i+1),by omega,?_⟩;have tQ:=aJ (ed E e);refine aa.le (Le.trim [11,10,7,6,4,0,2] [0,3,4,5,28,7] 29 (by simp only[dC,pf,BY,wN];simp[-all_eq_true,-all_flatMap,aj tE,aj tP,aj tQ]) yA) ?_;simp;refine aa.le (Le.ph 28 6 rfl rfl yA xr xr (by simp only[dC,pf,BY,wN];simp[-all_eq_true,-all_flatMap,bC tE,bC tP,bC tQ])) ?_;simp only[dC,pf,BY,wN];simp[bm tE,bm tP,bm tQ];refine aa.trim [11,10,7,6,4,0,2] [0,3,4,5,6,7] 8 (by simp[-all_eq_true,-all_flatMap,aj tE,aj tP,aj tQ]) yA ⟨i+1,rfl,by omega,?_⟩;rw[hI,hP];simp[lH,wN,dx,fq,dC,pf,pQ,BY]
  ·have OV:i=al.length:=by omega
   have SY:¬ i<gp.length:=by omega
   apply aT;simp[hC,SY];refine bh ?_;simp;apply T.exit;simp;apply aq;simp[hC];apply T.ret;rw[OV,take_length];have tE:=ah aJ (dx E al);have tP:=ah cJ (fq E al);have x1:((dx E al).flatMap a8).take ((dx E al).length*4)=(dx E al).flatMap a8:=take_of_length_le (by rw[aA (f:=a8) (n:=4) bA];exact Nat.le_refl _);have x2:((fq E al).flatMap fC).take ((fq E al).length*3)=(fq E al).flatMap fC:=take_of_length_le (by rw[aA (f:=fC) (n:=3) jN];exact Nat.le_refl _);generalize dx E al=NI at tE x1;generalize fq E al=NP at tP x2;refine aa.le (Le.trim [6] [0,4,6,7] 8 (by simp only[dC,pf,lH,wN];simp[-all_eq_true,-all_flatMap,aj tE,aj tP,BY]) yA) ?_;simp;refine aa.le (Le.cF (o:=6) rfl tE) ?_;simp[lH,wN,x1,ai tP];refine aa.le (Le.cF (o:=7) rfl tP) ?_;simp[x2];refine aa.le (Le.nz [] [4]) ?_;simp[BY];refine aa.le (Le.cF (o:=4) rfl (by simp[trees,tree])) ?_;simp[dC,pf];refine aa.trim [6] [0] 3 xr yA ⟨_,?_,rfl,?_,rfl⟩
   ·simp[df,a8,eS,kI,W6]
   ·simp
def gf (p:Pg)(E:List En)(k st a cl b sl:Nat):Ob:=⟨215,0,[.au (p.gs.flatMap pE) p.gs.length,.au (p.ms.flatMap cI) p.ms.length,.au (p.fs.flatMap fD) p.fs.length,.au (E.flatMap iF) E.length,I k,I st,I 0,I 0,.bg a 0 cl,.bg b 0 sl]⟩
theorem yM (p:Pg)(E:List En)(k st cl sl:Nat):dC p E k st cl sl=gf p E k st 1 cl 2 sl:=rfl
set_option maxHeartbeats 4000000 in
theorem Mr (p:Pg)(E:List En)(k st:Nat)(X:List CV)(N:Nat)(hX:X.length=N*12)(tX:trees X=true)(S:List CV)(M:Nat)(hS:S.length=M)(tS:trees S=true)(hN:N<=10000)(hM:M<=10000)
  (cs:List CV) (PQ:cs.length=12) (Qy:trees cs=true) (n:Int) :
  Body prog av 130 [.ax 0 0,.agg cs,I n] [(0,gf p E k st 1 N 2 M),(1,⟨90,12,X⟩),(2,⟨3,1,S⟩)] 3 (jk (I N) [(0,gf p E k st 3 (N+1) 4 (M+1)),(3,⟨90,12,X++cs⟩),(4,⟨3,1,S++[I n]⟩)] (3+2)):=by
 refine Body.jb Tryz.func130 rfl GK (by simp[Tryz.ntmps130]) λ C hC OR=>?_;rw[Tryz.ntmps130] at hC;apply aq;simp[hC];have Tg:(N+1)*168<=140737488355328:=by omega
 have Q0:(M+1)*8<=140737488355328:=by omega
 have htc:take 12 cs=cs:=take_of_length_le yA;apply T.seq;refine T.rx ag follows [0,1,2,3,4,5,6,7,8,9,10,11,12,13,14,15,16,17,18,19,20,21] [(5,7),(5,14),(6,14),(7,12),(7,14),(8,12),(8,14),(12,14)] GK ?_;simp[hC,gf,hX,hS,PQ,htc,Tg,Q0,aS];have w1:=cw (N:Int) yA yA;apply aq;simp[hC,w1];apply T.ret;have tXc:trees (X++cs)=true:=by rw[aF,tX,Qy];rfl
 have tSn:trees (S++[I n])=true:=by rw[aF,tS];rfl
 refine aa.le (Le.trim [6] [0,26,27] 28 (by simp[-all_eq_true,-all_flatMap,aj tX,aj Qy,aj tS]) yA) ?_;simp;refine aa.le (Le.ph 26 3 rfl rfl yA xr xr (by simp[-all_eq_true,-all_flatMap,bC tX,bC Qy,bC tS])) ?_;simp[bm tX,bm Qy,bm tS];refine aa.le (Le.ph 27 4 rfl rfl yA xr xr (by simp[-all_eq_true,-all_flatMap,bC tX,bC Qy,bC tS])) ?_;simp[bm tX,bm Qy,bm tS];refine aa.trim [6] [0,3,4] 5 (by simp[-all_eq_true,-all_flatMap,aj tX,aj Qy,aj tS]) yA ⟨_,?_,rfl,?_,rfl⟩
 ·simp
 ·simp
def Lr (id:Nat):Code->Option Code
 | .block j x=>if j=id then some (.block j x) else Lr id x
 | .seq a b=>match Lr id a with
  | some c=>some c
  | none=>Lr id b
 | .cond _ a b=>match Lr id a with
  | some c=>some c
  | none=>Lr id b
 | .loop x=>Lr id x
 | .scope x=>Lr id x
 | _=>none
def j7 (f:Func)(id:Nat):Code:=((f.body).bind (Lr id)).getD .skip
theorem eE (x:In):trees (df x)=true:=by
 cases x with
 | set t g e=>simp only[df,aF,aJ,Bool.and_true];rfl
 | call g t l ps=>simp only[df,aF,aJ,trees,tree,Bool.and_true];rfl
 | lock u q=>simp only[df,aF,aJ,cJ,Bool.and_true];rfl
 | branch t e=>simp only[df,aF,aJ,Bool.and_true];rfl
 | jump t=>rfl
 | ret=>rfl
theorem fe (e:Ex):∃ o n s cs m,a8 e=[I o,I n,.str s,.au cs m]/\trees cs=true:=⟨_,_,_,_,_,bV e,ah aJ _⟩
theorem lp (q:Pl):∃ b n cs m,fC q=[.bool b,I n,.au cs m]/\trees cs=true:=⟨_,_,_,_,by rw[fC,od],ah aJ _⟩
theorem Mf (r:Rf):∃ s cs m,ld r=[.str s,.au cs m]/\trees cs=true:=⟨_,_,_,by rw[ld,od],ah aJ _⟩
def fB (l:List In):Ob:=⟨90,12,l.flatMap df⟩
def gm (l:List Nat):Ob:=⟨3,1,l.map λ n:Nat=>I n⟩
theorem cC (l:List In):trees (l.flatMap df)=true:=ah eE l
theorem bb (l:List Nat):trees (l.map λ n:Nat=>I n)=true:=by
 induction l with
 | nil=>rfl
 | cons a r ih=>rw[map_cons,trees,ih];rfl
theorem zr (l:List In):(l.flatMap df).length=l.length*12:=aA (f:=df) jS l
theorem Hj (x:In):(df x).map nz=df x:=by
 cases x with
 | set t g e=>simp[df,bV,kI]
 | call g t l ps=>simp[df,bV,kI]
 | lock u q=>simp[df,bV,fC,od]
 | branch t e=>simp[df,bV,kI]
 | jump t=>simp[df,bV,kI]
 | ret=>simp[df,bV,kI]
theorem qJ (l:List In):(l.flatMap df).map nz=l.flatMap df:=by
 induction l with
 | nil=>rfl
 | cons a r ih=>rw[flatMap_cons,map_append,ih,Hj]
def CL (c:CV):Bool:=match c with
 | .ax p 0=>p == 0 || p == 5
 | c=>tree c
section
variable (p:Pg)(E0:List En)(l:List Sm)(i:Nat)
def bE:List (Nat×CV):=[(5,I i),(4,.au (E0.flatMap iF) E0.length),(0,.ax 0 0),(1,.au (bS l) l.length)]
def NS (E:List En)(k st:Nat)(c:List In)(s:List Nat):St:=⟨bE E0 l i,[(0,gf p E k st 3 c.length 4 s.length),(3,fB c),(4,gm s)],5⟩
def HF:Sm->Int
 | .ia _ _=>1
 | .iX _ _=>2
 | .en g _ _=>if g=true then 4 else 3
 | .dP u _=>if u=true then 6 else 5
 | .lO _ _ _=>7
 | .dh _ _=>8
 | .jJ=>9
def mE (n:Nat):List (Nat×CV):=[(6,.ax 5 0),(7,I n),(5,I i),(4,.au (E0.flatMap iF) E0.length),(0,.ax 0 0),(1,.au (bS l) l.length)]
def mH (E:List En)(k st:Nat)(c:List In)(s:List Nat)(x:Sm):List (Nat×Ob):=[(0,gf p E k st 3 c.length 4 s.length),(3,fB c),(4,gm s),(5,⟨207,0,iD x⟩)]
def MS (E:List En)(k st:Nat)(c:List In)(s:List Nat)(x:Sm)(n:Nat):St:=
 ⟨(41,I (HF x))::mE E0 l i n,mH p E k st c s x,6⟩
end
theorem Hg {c:CV}(h:CL c=true){m:List (Nat×Nat)}(h0:(assoc m 0).isSome=true)(h5:c≠.ax 5 0\/(assoc m 5).isSome=true):nu m c=true:=by
 cases c with
 | ax q f=>
  cases f with
  | zero=>
   simp only[CL,Bool.or_eq_true,beq_iff_eq] at h;rcases h with rfl | rfl
   ·exact h0
   ·rcases h5 with h5 | h5
    ·exact (h5 rfl).elim
    ·exact h5
  | succ f=>simp[CL,tree] at h
 | agg cs=>simp only[CL,tree] at h;exact aw h m
 | bY cs=>simp only[CL,tree] at h;exact aw h m
 | _=>first | exact h | simp[CL,tree] at h
theorem MD {c:CV}(h:CL c=true)(m:List (Nat×Nat))(n:Nat)(h0:dW m n 0=0)(h5:c≠.ax 5 0\/dW m n 5=5):cQ (dW m n) c=c:=by
 cases c with
 | ax q f=>
  cases f with
  | zero=>
   simp only[CL,Bool.or_eq_true,beq_iff_eq] at h;rcases h with rfl | rfl
   ·rw[cQ,h0]
   ·rcases h5 with h5 | h5
    ·exact (h5 rfl).elim
    ·rw[cQ,h5]
  | succ f=>simp[CL,tree] at h
 | _=>exact ij _ _ h
theorem yZ {m:List (Nat×Nat)}{n:Nat}(h0:dW m n 0=0):∀ {e:List (Nat×CV)},(e.all λ x=>CL x.2)=true->((∀ x∈e,x.2≠CV.ax 5 0)\/dW m n 5=5)->cz (dW m n) e=e
 | [],_,_=>rfl
 | (t,c)::e,h,h5=>by
  simp only[all_cons,Bool.and_eq_true] at h;rw[cz,MD h.1 m n h0 (h5.imp (λ h5=>h5 (t,c) mem_cons_self) id),yZ h0 h.2 (h5.imp (λ h5 x hx=>h5 x (mem_cons_of_mem _ hx)) id)]
theorem dp (ρ:Nat->Nat)(t:TypeId)(n:Nat){cs:List CV}(h:trees cs=true):bf ρ ⟨t,n,cs⟩=⟨t,n,cs⟩:=by simp only[bf,ae ρ _ h]
theorem hU (p:Pg):tree (.au (p.gs.flatMap pE) p.gs.length)=true/\tree (.au (p.ms.flatMap cI) p.ms.length)=true/\tree (.au (p.fs.flatMap fD) p.fs.length)=true:=
 ⟨by simp only[tree],by simp only[tree],by simp only[tree]⟩
theorem cM (E:List En):trees (E.flatMap iF)=true:=ah (λ _=>rfl) E
section
variable {C:Cx}{s:St}{p:Pg}
theorem Cp (E:List En)(k st a cl b sl:Nat)(m:List (Nat×Nat))(ha:(assoc m a).isSome=true)(hb:(assoc m b).isSome=true):(gf p E k st a cl b sl).cells.all (lF m)=true:=by
 obtain⟨t1,t2,t3⟩:=hU p;have t4:=cM E;simp only[gf,all_cons,all_nil,lF,ha,hb,Bool.and_true,Bool.and_eq_true];simp only[tree] at t1 t2 t3 |-;refine⟨t1,t2,t3,?_⟩;simp
theorem rU (E:List En)(k st a cl b sl:Nat)(ρ:Nat->Nat):bf ρ (gf p E k st a cl b sl)=gf p E k st (ρ a) cl (ρ b) sl:=by
 obtain⟨t1,t2,t3⟩:=hU p;have t4:tree (.au (E.flatMap iF) E.length)=true:=by simp only[tree]
 simp only[bf,gf,aL,ij ρ _ t1,ij ρ _ t2,ij ρ _ t3,ij ρ _ t4];rfl
theorem lj (OR:C.n0=3)(ks:List Nat)(a b:Nat){e:List (Nat×CV)}{E:List En}{k st N M:Nat}{X S:List CV}{c':List In}{s':List Nat}(he:pick s.env ks=e)(O8:(e.all λ x=>CL x.2)=true)(h5:∀ x∈e,x.2≠CV.ax 5 0)(U5:(a != b && (a != 0 && b != 0))=true)
  (h0:assoc s.heap 0=some (gf p E k st a N b M)) (ha:assoc s.heap a=some ⟨90,12,X⟩) (hb:assoc s.heap b=some ⟨3,1,S⟩) (hX:X.map nz=c'.flatMap df) (hS:S=s'.map λ n:Nat=>I n) (hN:N=c'.length) (hM:M=s'.length) :
  Le C s ⟨e,[(0,gf p E k st 3 c'.length 4 s'.length),(3,fB c'),(4,gm s')],5⟩:=by
 subst hN hM hS;simp only[Bool.and_eq_true,bne_iff_ne,ne_eq] at U5;obtain⟨n1,n2,n3⟩:=U5;have n1':¬ b=a:=λ h=>n1 h.symm;refine Le.trans (Le.nz [] [a]) ?_;have e1:F7 [] s.env=s.env:=by
  have:∀ e:List (Nat×CV),F7 [] e=e:=by
   intro e
   induction e with
   | nil=>rfl
   | cons x r ih=>obtain⟨k,c⟩:=x;rw[F7,ih];rfl
  exact this _
 rw[e1];have g0:assoc (AB [a] s.heap) 0=some (gf p E k st a c'.length b s'.length):=by
  rw[eF,h0];simp[Ne.symm n2]
 have ga:assoc (AB [a] s.heap) a=some (fB c'):=by
  rw[eF,ha];simp[hX,fB]
 have gb:assoc (AB [a] s.heap) b=some (gm s'):=by
  rw[eF,hb];simp[n1',gm]
 have r0:dW [(0,0),(a,3),(b,4)] 5 0=0:=rfl;have ra:dW [(0,0),(a,3),(b,4)] 5 a=3:=by simp[dW,assoc,Ne.symm n2]
 have rb:dW [(0,0),(a,3),(b,4)] 5 b=4:=by simp[dW,assoc,Ne.symm n3,n1]
 have P8:=Le.norm (C:=C) (s:=⟨s.env,AB [a] s.heap,s.nx⟩) ks [(0,0),(a,3),(b,4)] 3 5 (by simp[vD,n1,Ne.symm n2,Ne.symm n3]) (by simp only[all_cons,all_nil,g0,ga,gb];rfl) ?_ yA
 ·simp only[he,map_cons,map_nil,pick,g0,ga,gb,br] at P8;rw[yZ r0 O8 (.inl h5),r0,ra,rb,rU,ra,rb,fB,gm,dp _ _ _ (cC c'),dp _ _ _ (bb s')] at P8;exact P8
 ·simp only[cO,he,map_cons,map_nil,pick,g0,ga,gb,all_cons,all_nil,Bool.and_true,Bool.and_eq_true,all_eq_true (l:=e)];refine⟨λ x hx=>Hg ((all_eq_true.1 O8) x hx) rfl (.inl (h5 x hx)),Cp E k st a _ b _ _ (by simp[assoc,Ne.symm n2]) (by simp[assoc,Ne.symm n3];split<;>rfl),aw (cC c') _,aw (bb s') _⟩
theorem jL (OR:C.n0=3)(ks:List Nat)(a b:Nat){e:List (Nat×CV)}{E:List En}{k st N M:Nat}{X S cs:List CV}{c':List In}{s':List Nat}(he:pick s.env ks=e)(O8:(e.all λ x=>CL x.2)=true)(U5:((a != b && (a != 0 && b != 0)) && (a != 5 && b != 5))=true)
  (h0:assoc s.heap 0=some (gf p E k st a N b M)) (ha:assoc s.heap a=some ⟨90,12,X⟩) (hb:assoc s.heap b=some ⟨3,1,S⟩) (h5:assoc s.heap 5=some ⟨207,0,cs⟩) (PQ:trees cs=true) (hX:X.map nz=c'.flatMap df) (hS:S=s'.map λ n:Nat=>I n) (hN:N=c'.length) (hM:M=s'.length) :
  Le C s ⟨e,[(0,gf p E k st 3 c'.length 4 s'.length),(3,fB c'),(4,gm s'),(5,⟨207,0,cs⟩)],6⟩:=by
 subst hN hM hS;simp only[Bool.and_eq_true,bne_iff_ne,ne_eq] at U5;obtain⟨⟨n1,n2,n3⟩,n4,n5⟩:=U5;have n1':¬ b=a:=λ h=>n1 h.symm;refine Le.trans (Le.nz [] [a]) ?_;have e1:F7 [] s.env=s.env:=by
  have:∀ e:List (Nat×CV),F7 [] e=e:=by
   intro e
   induction e with
   | nil=>rfl
   | cons x r ih=>obtain⟨k,c⟩:=x;rw[F7,ih];rfl
  exact this _
 rw[e1];have g0:assoc (AB [a] s.heap) 0=some (gf p E k st a c'.length b s'.length):=by
  rw[eF,h0];simp[Ne.symm n2]
 have ga:assoc (AB [a] s.heap) a=some (fB c'):=by
  rw[eF,ha];simp[hX,fB]
 have gb:assoc (AB [a] s.heap) b=some (gm s'):=by
  rw[eF,hb];simp[n1',gm]
 have g5:assoc (AB [a] s.heap) 5=some ⟨207,0,cs⟩:=by
  rw[eF,h5];simp;intro h;exact (n4 h.symm).elim
 have r0:dW [(0,0),(a,3),(b,4),(5,5)] 6 0=0:=rfl;have ra:dW [(0,0),(a,3),(b,4),(5,5)] 6 a=3:=by simp[dW,assoc,Ne.symm n2]
 have rb:dW [(0,0),(a,3),(b,4),(5,5)] 6 b=4:=by simp[dW,assoc,Ne.symm n3,n1]
 have r5:dW [(0,0),(a,3),(b,4),(5,5)] 6 5=5:=by simp[dW,assoc,n4,n5]
 have P8:=Le.norm (C:=C) (s:=⟨s.env,AB [a] s.heap,s.nx⟩) ks [(0,0),(a,3),(b,4),(5,5)] 3 6 (by simp[vD,n1,Ne.symm n2,Ne.symm n3,n4,n5]) (by simp only[all_cons,all_nil,g0,ga,gb,g5];rfl) ?_ yA
 ·simp only[he,map_cons,map_nil,pick,g0,ga,gb,g5,br] at P8;rw[yZ r0 O8 (.inr r5),r0,ra,rb,r5,rU,ra,rb,fB,gm,dp _ _ _ (cC c'),dp _ _ _ (bb s'),dp _ _ _ PQ] at P8;exact P8
 ·simp only[cO,he,map_cons,map_nil,pick,g0,ga,gb,g5,all_cons,all_nil,Bool.and_true,Bool.and_eq_true,all_eq_true (l:=e)];refine⟨λ x hx=>Hg ((all_eq_true.1 O8) x hx) rfl (.inr (by simp[assoc,n4,n5])),Cp E k st a _ b _ _ (by simp[assoc,Ne.symm n2]) (by simp[assoc,Ne.symm n3];split<;>rfl),aw (cC c') _,aw (bb s') _,aw PQ _⟩
end
theorem yN (p:Pg)(E:List En)(k st a cl b sl n:Nat)(ha:a<n)(hb:b<n):aX n (gf p E k st a cl b sl).cells=true:=by
 obtain⟨t1,t2,t3⟩:=hU p;have t4:tree (.au (E.flatMap iF) E.length)=true:=by simp only[tree]
 simp only[gf,aX,bq n _ t1,bq n _ t2,bq n _ t3,bq n _ t4,Bool.true_and];simp[aU,ha,hb]
def okW (c:CV):Bool:=match c with
 | .ax p 0=>p == 0
 | c=>tree c
theorem Hf {c:CV}(h:okW c=true)(ρ:Nat->Nat)(h0:ρ 0=0):cQ ρ c=c:=by
 cases c with
 | ax q f=>
  cases f with
  | zero=>
   simp only[okW,beq_iff_eq] at h;subst h;rw[cQ,h0]
  | succ f=>simp[okW,tree] at h
 | _=>exact ij _ _ h
theorem DM {ρ:Nat->Nat}(h0:ρ 0=0):∀ {cs:List CV},cs.all okW=true->aL ρ cs=cs
 | [],_=>rfl
 | c::cs,h=>by
  simp only[all_cons,Bool.and_eq_true] at h;rw[aL,Hf h.1 ρ h0,DM h0 h.2]
theorem vp {n:Nat}(hn:0<n):∀ {cs:List CV},cs.all okW=true->aX n cs=true
 | [],_=>rfl
 | c::cs,h=>by
  simp only[all_cons,Bool.and_eq_true] at h;rw[aX,vp hn h.2,Bool.and_true];have h1:=h.1
  cases c with
  | ax q f=>
   cases f with
   | zero=>
    simp only[okW,beq_iff_eq] at h1;subst h1
    simpa [aU] using hn
   | succ f=>simp[okW,tree] at h1
  | _=>exact bq _ _ h1
theorem JW (m:Nat)(h:4<m):F6 [0,3,4] m=true:=by
 simp only[F6,all_cons,all_nil,Bool.and_true,Bool.and_eq_true,decide_eq_true_eq];refine⟨⟨by omega,by omega,by omega⟩,by decide⟩
theorem HB (m:Nat):bP [0,3,4] m 0=0:=rfl
theorem mapN1 (m:Nat):bP [0,3,4] m 1=3:=rfl
theorem mapN2 (m:Nat):bP [0,3,4] m 2=4:=rfl
theorem mapN3 (m:Nat):bP [0,3,4] m 3=m:=by simp[bP]
theorem mapN4 (m:Nat):bP [0,3,4] m 4=m+1:=by simp[bP];omega
def hO (H:List (Nat×Ob))(ks:List Nat)(nx:Nat):Bool:=H.all λ x=>!ks.contains x.1 && decide (x.1<nx)
theorem qU:∀ (ks:List Nat) (H:List (Nat×Ob)) (nx:Nat),hO H ks nx=true->ec H ks=H
 | [],_,_,_=>rfl
 | k::ks,H,nx,h=>by
  have h1:jU H k=H:=by
   have:∀ H:List (Nat×Ob),hO H (k::ks) nx=true->jU H k=H:=by
    intro H
    induction H with
    | nil=>intro _;rfl
    | cons x r ih=>
     intro h;obtain⟨q,ob⟩:=x;have h':=h;simp only[hO,all_cons,Bool.and_eq_true] at h';have h2:=h'.1.1;simp only[Bool.not_eq_true',contains_eq_mem,decide_eq_false_iff_not,mem_cons,not_or] at h2;rw[jU,if_neg h2.1,ih h'.2]
   exact this H h
  rw[ec,h1];refine qU ks H nx ?_;simp only[hO,all_eq_true,Bool.and_eq_true,Bool.not_eq_true',contains_eq_mem,decide_eq_false_iff_not,mem_cons,not_or] at h |-;exact λ x hx=>⟨(h x hx).1.2,(h x hx).2⟩
theorem Lp {H:List (Nat×Ob)}{ks:List Nat}{nx:Nat}(h:hO H ks nx=true):(H.all λ x=>decide (x.1<nx))=true:=by
 simp only[hO,all_eq_true,Bool.and_eq_true] at h |-;exact λ x hx=>(h x hx).2
section
variable {C:Cx}{p:Pg}{ops:Array Oper}{e:List (Nat×CV)}{H:List (Nat×Ob)}{nx:Nat}
theorem E1 (E:List En)(k st cl sl nx:Nat):br (bP [0,3,4] nx) [(0,dC p E k st cl sl)]=[(0,gf p E k st 3 cl 4 sl)]:=by
 rw[br,br,yM,rU];rfl
theorem TL.gY {o:Oper}{l:List Oper}{c:Call}{g:FuncId}{args:List CV}{K:St->Prop}{r0:CV}{E:List En}{k st cl sl:Nat}(hb:Body prog av g args [(0,dC p E k st cl sl)] 3 (jk r0 [(0,dC p E k st cl sl)] 3))(QP:4<nx)(hH:hO H [0] nx=true)
  (hd:bl C.nt o.dst=true) (hg:bW ops ⟨e,(0,gf p E k st 3 cl 4 sl)::H,nx⟩ o=Option.some true) (ho:o.op=.call c) (Pc:bJ ⟨e,(0,gf p E k st 3 cl 4 sl)::H,nx⟩ c=Option.some (g,args)) (OX:args.all okW=true) (ht:tree r0=true)
  (hK:TL prog C ops l (St.put ⟨e,(0,gf p E k st 3 cl 4 sl)::H,nx⟩ o.dst r0) K):TL prog C ops (o::l) ⟨e,(0,gf p E k st 3 cl 4 sl)::H,nx⟩ K:=by
 have OS:ec ((0,gf p E k st 3 cl 4 sl)::H) [0]=H:=qU [0] H nx hH;refine TL.wa ag [0,3,4] [0] 3 0 hb rfl (JW nx QP) hd hg ho Z6 (by simp only[E1];rfl) (vp yA OX) (by simp only[dq,yM,yN p E k st 1 cl 2 sl 3 yA yA];rfl) ht ?_ ?_
 ·simp only[E1,OS,na,all_cons,all_nil,Bool.and_true,Bool.and_eq_true];exact⟨rfl,Lp hH⟩
 ·simp only[E1,OS];exact hK
theorem RX.gY {o:Oper}{cl:Call}{g:FuncId}{args:List CV}{r0:CV}{W:List rz}{nt N:Nat}{dyn:List (Nat×Nat)}{K:St->Prop}{i:Nat}{r:List Nat}{res:Nat->Er}{E:List En}{k st cn sn:Nat}(hb:Body prog av g args [(0,dC p E k st cn sn)] 3 (jk r0 [(0,dC p E k st cn sn)] 3))(QP:4<nx)(hH:hO H [0] nx=true)
  (hi:ops[i]? = Option.some o) (hd:bl nt o.dst=true) (hg:bW ops ⟨e,(0,gf p E k st 3 cn 4 sn)::H,nx⟩ o=Option.some true) (hu:cB o=Option.some cl) (Pc:bJ ⟨e,(0,gf p E k st 3 cn 4 sn)::H,nx⟩ cl=Option.some (g,args)) (OX:args.all okW=true) (ht:tree r0=true) (hv:zy dyn res i [0]=true)
  (hK:um W dyn res i (iB r0 [0] [] 0 [(0,gf p E k st 3 cn 4 sn)])/\mr av W nt ops N dyn (Cq prog av W nt ops N dyn K) r (note dyn res i (iB r0 [0] [] 0 [(0,gf p E k st 3 cn 4 sn)])) (St.put ⟨e,(0,gf p E k st 3 cn 4 sn)::H,nx⟩ o.dst r0)):RX prog av W nt ops N dyn K (i::r) res ⟨e,(0,gf p E k st 3 cn 4 sn)::H,nx⟩:=by
 have OS:ec ((0,gf p E k st 3 cn 4 sn)::H) [0]=H:=qU [0] H nx hH;refine RX.wa [0,3,4] [0] [] 3 0 hb rfl (JW nx QP) hi hd hg hu Z6 (by simp only[E1];rfl) (vp yA OX) (by simp only[dq,yM,yN p E k st 1 cn 2 sn 3 yA yA];rfl) ht hv (by simp only[E1];rfl) (λ _ _ _=>rfl) ?_;simp only[E1,OS];exact hK
def T3 (p:Pg)(E:List En)(k st cl sl:Nat)(o1 o2:Ob):List (Nat×Ob):=[(0,gf p E k st 1 cl 2 sl),(1,o1),(2,o2)]
theorem rn_T {E:List En}{k st cl sl nx:Nat}{o1 o2:Ob}(h1:trees o1.cells=true)(h2:trees o2.cells=true):br (bP [0,3,4] nx) (T3 p E k st cl sl o1 o2)=[(0,gf p E k st 3 cl 4 sl),(3,o1),(4,o2)]:=by
 simp only[T3,br,rU,HB,mapN1,mapN2];rw[show bf (bP [0,3,4] nx) o1=o1 from dp _ _ _ h1,show bf (bP [0,3,4] nx) o2=o2 from dp _ _ _ h2]
def T4 (p:Pg)(E:List En)(k st cl sl:Nat)(o1 o2:Ob):List (Nat×Ob):=[(0,gf p E k st 3 cl 4 sl),(3,o1),(4,o2)]
theorem DC {E:List En}{k st cl sl nx:Nat}{o1 o2:Ob}(h1:trees o1.cells=true)(h2:trees o2.cells=true):br (bP [0,3,4] nx) (T4 p E k st cl sl o1 o2)=[(0,gf p E k st nx cl (nx+1) sl),(nx,o1),(nx+1,o2)]:=by
 simp only[T4,br,rU,HB,mapN3,mapN4];rw[show bf (bP [0,3,4] nx) o1=o1 from dp _ _ _ h1,show bf (bP [0,3,4] nx) o2=o2 from dp _ _ _ h2]
theorem LL {E:List En}{k st cl sl:Nat}{o1 o2:Ob}(h1:trees o1.cells=true)(h2:trees o2.cells=true):dq 3 (T3 p E k st cl sl o1 o2)=true:=by
 simp only[T3,dq,yN p E k st 1 cl 2 sl 3 yA yA,bK 3 _ h1,bK 3 _ h2];rfl
variable {E E':List En}{k k' st XJ cn Yi sn XK:Nat}{o1 o2 o3 o4:Ob}{args:List CV}{r0:CV}{g:FuncId}
theorem TL.iA {o:Oper}{l:List Oper}{c:Call}{K:St->Prop}(hb:Body prog av g args (T3 p E k st cn sn o1 o2) 3 (jk r0 (T4 p E' k' XJ Yi XK o3 o4) (3+2)))(h1:trees o1.cells=true)(h2:trees o2.cells=true)(h3:trees o3.cells=true)(h4:trees o4.cells=true)(QP:4<nx)(hH:hO H [0,3,4] nx=true)
  (hd:bl C.nt o.dst=true) (hg:bW ops ⟨e,(0,gf p E k st 3 cn 4 sn)::(3,o1)::(4,o2)::H,nx⟩ o=Option.some true) (ho:o.op=.call c) (Pc:bJ ⟨e,(0,gf p E k st 3 cn 4 sn)::(3,o1)::(4,o2)::H,nx⟩ c=Option.some (g,args)) (OX:args.all okW=true) (ht:tree r0=true)
  (hK:TL prog C ops l (St.put ⟨e,(0,gf p E' k' XJ nx Yi (nx+1) XK)::(nx,o3)::(nx+1,o4)::H,nx+2⟩ o.dst r0) K):TL prog C ops (o::l) ⟨e,(0,gf p E k st 3 cn 4 sn)::(3,o1)::(4,o2)::H,nx⟩ K:=by
 have OS:ec ((0,gf p E k st 3 cn 4 sn)::(3,o1)::(4,o2)::H) [0,3,4]=H:=qU [0,3,4] H nx hH;refine TL.wa ag [0,3,4] [0,3,4] 3 2 hb rfl (JW nx QP) hd hg ho Z6 (by simp only[rn_T h1 h2];rfl) (vp yA OX) (LL h1 h2) ht ?_ ?_
 ·simp only[DC h3 h4,OS,na,Bool.and_eq_true];exact⟨by simp,Lp hH⟩
 ·simp only[DC h3 h4,OS];exact hK
theorem RX.iA {o:Oper}{cl:Call}{W:List rz}{nt N:Nat}{dyn:List (Nat×Nat)}{K:St->Prop}{i:Nat}{r:List Nat}{res:Nat->Er}(hb:Body prog av g args (T3 p E k st cn sn o1 o2) 3 (jk r0 (T4 p E' k' XJ Yi XK o3 o4) (3+2)))(h1:trees o1.cells=true)(h2:trees o2.cells=true)(h3:trees o3.cells=true)(h4:trees o4.cells=true)(QP:4<nx)(hH:hO H [0,3,4] nx=true)
  (hi:ops[i]? = Option.some o) (hd:bl nt o.dst=true) (hg:bW ops ⟨e,(0,gf p E k st 3 cn 4 sn)::(3,o1)::(4,o2)::H,nx⟩ o=Option.some true) (hu:cB o=Option.some cl) (Pc:bJ ⟨e,(0,gf p E k st 3 cn 4 sn)::(3,o1)::(4,o2)::H,nx⟩ cl=Option.some (g,args)) (OX:args.all okW=true) (ht:tree r0=true) (hv:zy dyn res i [0,3,4]=true)
  (hK:um W dyn res i (iB r0 [0,3,4] [0,3,4,nx,nx+1] 2 [(0,gf p E' k' XJ nx Yi (nx+1) XK),(nx,o3),(nx+1,o4)])/\mr av W nt ops N dyn (Cq prog av W nt ops N dyn K) r (note dyn res i (iB r0 [0,3,4] [0,3,4,nx,nx+1] 2 [(0,gf p E' k' XJ nx Yi (nx+1) XK),(nx,o3),(nx+1,o4)])) (St.put ⟨e,(0,gf p E' k' XJ nx Yi (nx+1) XK)::(nx,o3)::(nx+1,o4)::H,nx+2⟩ o.dst r0)) :
  RX prog av W nt ops N dyn K (i::r) res ⟨e,(0,gf p E k st 3 cn 4 sn)::(3,o1)::(4,o2)::H,nx⟩:=by
 have OS:ec ((0,gf p E k st 3 cn 4 sn)::(3,o1)::(4,o2)::H) [0,3,4]=H:=qU [0,3,4] H nx hH;refine RX.wa [0,3,4] [0,3,4] [0,3,4,nx,nx+1] 3 2 hb rfl (JW nx QP) hi hd hg hu Z6 (by simp only[rn_T h1 h2];rfl) (vp yA OX) (LL h1 h2) ht hv ?_ (λ q hq hn=>(hn (mem_append_left [nx,nx+1] hq)).elim) ?_
 ·simp only[DC h3 h4];have e1:¬ 0=nx:=by omega
  have e2:¬ 3=nx:=by omega
  simp[assoc,e1]
 ·simp only[DC h3 h4,OS];exact hK
def OI (c:List In)(cs:List CV):Ob:=⟨90,12,c.flatMap df++cs⟩
theorem xe (c:List In){cs:List CV}(h:trees cs=true):trees (OI c cs).cells=true:=by simp only[OI,aF,cC,h];rfl
theorem vc (p:Pg)(E:List En)(k st:Nat)(c:List In)(s:List Nat)(cs:List CV)(PQ:cs.length=12)(Qy:trees cs=true)(n:Nat)(hN:c.length<=10000)(hM:s.length<=10000) :
  Body prog av 130 [.ax 0 0,.agg cs,I n] (T3 p E k st c.length s.length (fB c) (gm s)) 3 (jk (I c.length) (T4 p E k st (c.length+1) (s.length+1) (OI c cs) (gm (s++[n]))) (3+2)):=by
 have:=Mr p E k st (c.flatMap df) c.length (zr c) (cC c) (s.map λ n:Nat=>I n) s.length xr (bb s) hN hM cs PQ Qy n
 simpa only[T3,T4,OI,gm,fB,map_append,map_cons,map_nil] using this
theorem Ms (p:Pg)(E:List En)(k st:Nat)(c:List In)(s:List Nat)(N M:Nat)(h1:N=c.length)(h2:M=s.length)(cs:List CV)(PQ:cs.length=12)(Qy:trees cs=true)(n:Nat)(hN:N<=10000)(hM:M<=10000) :
  Body prog av 130 [.ax 0 0,.agg cs,I n] (T3 p E k st N M (fB c) (gm s)) 3 (jk (I N) (T4 p E k st (N+1) (M+1) (OI c cs) (gm (s++[n]))) (3+2)):=by
 subst h1 h2;exact vc p E k st c s cs PQ Qy n hN hM
theorem jC (c:List In)(cs:List CV)(x:In)(h:cs.map nz=df x):(c.flatMap df++cs).map nz=(c++[x]).flatMap df:=by simp[qJ,h]
end
theorem pJ (E0:List En)(l:List Sm)(i:Nat):((bE E0 l i).all λ x=>CL x.2)=true:=by
 simp[bE,CL,tree]
theorem pK (E0:List En)(l:List Sm)(i:Nat):∀ x∈bE E0 l i,x.2≠CV.ax 5 0:=by
 simp[bE]
@[simp] theorem Jx (p:Pg)(E:List En)(k st a cl b sl n:Nat):(gf p E k st a cl b sl).cells.all (aU n)=(decide (a<n) && decide (b<n)):=by
 obtain⟨t1,t2,t3⟩:=hU p;have t4:tree (.au (E.flatMap iF) E.length)=true:=by simp only[tree]
 simp only[gf,all_cons,all_nil,bq n _ t1,bq n _ t2,bq n _ t3,bq n _ t4,Bool.true_and];simp[aU]
@[simp] theorem scO_ltS (p:Pg)(E:List En)(k st a cl b sl n:Nat):aX n (gf p E k st a cl b sl).cells=(decide (a<n) && decide (b<n)):=by rw[aE];exact Jx p E k st a cl b sl n
@[simp] theorem It (c:List In)(n:Nat):(fB c).cells.all (aU n)=true:=aj (cC c) n
@[simp] theorem GR (s:List Nat)(n:Nat):(gm s).cells.all (aU n)=true:=aj (bb s) n
@[simp] theorem coOb_ltS (c:List In)(n:Nat):aX n (fB c).cells=true:=by rw[aE];exact It c n
@[simp] theorem siOb_ltS (s:List Nat)(n:Nat):aX n (gm s).cells=true:=by rw[aE];exact GR s n
@[simp] theorem coOb_frz (c:List In)(o:Nat)(cs:List CV)(n:Nat):(fB c).cells.map (cK o cs n)=(fB c).cells:=ai (cC c) o cs n
@[simp] theorem siOb_frz (s:List Nat)(o:Nat)(cs:List CV)(n:Nat):(gm s).cells.map (cK o cs n)=(gm s).cells:=ai (bb s) o cs n
@[simp] theorem coOb_eta (c:List In):(⟨(fB c).elem,(fB c).sz,(fB c).cells⟩:Ob)=fB c:=rfl
@[simp] theorem siOb_eta (s:List Nat):(⟨(gm s).elem,(gm s).sz,(gm s).cells⟩:Ob)=gm s:=rfl
def MZ (p:Pg)(E0:List En)(l:List Sm)(i:Nat)(E:List En)(k st:Nat)(c:List In)(s:List Nat)(cs:List CV)(n:Nat):St:=
 ⟨mE E0 l i n,[(0,gf p E k st 3 c.length 4 s.length),(3,fB c),(4,gm s),(5,⟨207,0,cs⟩)],6⟩
end Go.Proofs.YtlkmbdfhdknlgaaGreat
