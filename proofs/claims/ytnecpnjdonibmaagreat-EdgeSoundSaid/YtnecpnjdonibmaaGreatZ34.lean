/- find, variable, expr. -/
import Derived.Test.YtnecpnjdonibmaaGreatZ33
namespace Go.Proofs.YtnecpnjdonibmaaGreat
open Go.Can Go.aP
theorem jW (x:En):(gN x).length=3:=rfl
def J59 (E:List En)(s:ByteArray)(n:Nat)(st:St):Prop:=∃ i:Nat,n=E.length-i∧i≤E.length∧iu E s=iu (E.drop i) s∧st=⟨[(6,I i),(5,.bool false),(4,.av 0 0),(0,.az (E.flatMap gN) E.length),(1,.str s)],[(0,⟨201,0,[.str ⟨#[]⟩,I 0,I 0]⟩)],1⟩
def pv:Option En→CV
 | some x=>.dH [.agg (gN x),.bool true]
 | none=>.dH [.agg [.str ⟨#[]⟩,I 0,I 0],.bool false]
theorem DQ (R:Option En):tree (pv R)=true:=by cases R<;>rfl
theorem pw (E:List En)(s:ByteArray)(hl:E.length≤100000):ae Tryz.prog 135 [.az (E.flatMap gN) E.length,.str s] (pv (iu E s)):=by
 have Qv:=fun (i:Nat) (x:En) (h:E[i]? = some x)=>aO (f:=gN) (n:=3) jW (m:=E) h;refine ae.aM ah Tryz.func135 rfl PH (by simp[Tryz.ntmps135]) (DQ _) fun C hC PN=>?_;rw[Tryz.ntmps135] at hC;apply aj;simp[hC];apply aU;simp[hC];apply T.block;refine T.aJ (J59 E s) (n:=E.length) ?_ ?_
 ·refine aa.here ⟨0,by omega,by omega,rfl,?_⟩;simp
 ·rintro n st ⟨i,rfl,hi,hf,rfl⟩;by_cases PJ:i<E.length
  ·obtain⟨a,Qz⟩:∃ a,E[i]? = some a:=⟨E[i],List.getElem?_eq_getElem PJ⟩;have PL:=Qv i a Qz;have wi:=cE ((i:Int)+1) yA yA;have hd:E.drop i=a::E.drop (i+1):=by
    rw[List.drop_eq_getElem_cons PJ,(List.getElem?_eq_some_iff.1 Qz).2]
   rw[hd,iu] at hf;apply aU;simp[hC,PJ];refine gQ ?_;simp;apply dZ;apply aj;simp[hC,PJ,PL,gN,gY];by_cases hn:a.name=s
   ·rw[if_pos hn] at hf;simp only[hn,decide_true];refine fx ?_;simp;apply aj;simp[hC,PJ,PL,gN];apply T.ret;apply aa.here;simp[Tryz.results135,hf,pv,gN]
   ·rw[if_neg hn] at hf;simp only[hn,decide_false];refine gO ?_;simp;apply aW;simp[hC,wi];refine⟨E.length-(i+1),by omega,?_⟩;refine aa.trim [6,5,4,0,1] [0] 1 zX yA ⟨i+1,rfl,by omega,hf,?_⟩;simp
  ·have PS:i=E.length:=by omega
   rw[PS,List.drop_length,iu] at hf;apply aU;simp[hC,PJ];refine bh ?_;simp;apply T.exit;simp;apply aj;simp[hC];apply T.ret;apply aa.here;simp[Tryz.results135,hf,pv]
def nA (p:Pg)(E:List En)(k st cl sl:Nat):List CV:=[.az (p.gs.flatMap nW) p.gs.length,.az (p.ms.flatMap eL) p.ms.length,.az (p.fs.flatMap eF) p.fs.length,.az (E.flatMap gN) E.length,I k,I st,I 0,I 0,.bj 1 0 cl,.bj 2 0 sl]
def cY (p:Pg)(E:List En)(k st cl sl:Nat):Ob:=⟨273,0,nA p E k st cl sl⟩
theorem qF (p:Pg)(E:List En)(k st cl sl:Nat)(hl:E.length≤100000)(s:ByteArray)(x:En)(hx:iu E s=some x)(hk:x.kind=1∨x.kind=4)(n:Int) :
  Body Tryz.prog au 265 [.av 0 0,.str s,I n] [(0,cY p E k st cl sl)] 3 (iy (.agg (gN x)) [(0,cY p E k st cl sl)] 3):=by
 have hf:=pw E s hl;rw[hx] at hf;refine Body.iV Tryz.func265 rfl PH (by simp[Tryz.ntmps265]) fun C hC PN=>?_;rw[Tryz.ntmps265] at hC;apply aj;simp[hC];apply aj;simp[hC,cY,nA];refine dQ P2 (hf) ?_;simp[hC,pv,gN];obtain⟨nm,kd,nn⟩:=x;simp only at hk ⊢;rcases hk with rfl | rfl
 ·apply dZ;apply aj;simp[hC];refine bh ?_;simp;apply aj;simp[hC];refine gO ?_;simp;apply aj;simp[hC];apply T.ret;refine aa.le (Le.trim [6] [0,3] 4 Rt yA) ?_;simp;refine aa.le (Le.nz [] [3]) ?_;simp;refine aa.le (Le.dz (o:=3) rfl U8) ?_;simp;refine aa.trim [6] [0] 3 zX yA ⟨_,?_,rfl,?_,rfl⟩
  ·simp
  ·simp
 ·apply dZ;apply aj;simp[hC];refine bh ?_;simp;apply aj;simp[hC];refine gO ?_;simp;apply aj;simp[hC];apply T.ret;refine aa.le (Le.trim [6] [0,3] 4 Rt yA) ?_;simp;refine aa.le (Le.nz [] [3]) ?_;simp;refine aa.le (Le.dz (o:=3) rfl U8) ?_;simp;refine aa.trim [6] [0] 3 zX yA ⟨_,?_,rfl,?_,rfl⟩
  ·simp
  ·simp
def ky (l:List Ex):Ob:=⟨80,4,l.flatMap bK⟩
def J131 (p:Pg)(E:List En)(k st cl sl:Nat)(e:Ex)(n:Int)(m:Nat)(s:St):Prop:=∃ i:Nat,m=e.args.length-i∧i≤e.args.length∧
 s=⟨[(9,I i),(8,.av 5 0),(6,.av 4 0),(4,.av 3 0),(0,.av 0 0),(2,I n)],[(0,cY p E k st cl sl),(3,⟨80,0,bK e⟩),(4,⟨80,0,[I 0,I 0,.str ⟨#[]⟩,.ai]⟩),(5,⟨80,0,[I e.op,I e.n,.str ⟨#[]⟩,.bj 6 0 i]⟩),(6,ky ((e.args.take i).map (dA E)))],7⟩
set_option maxHeartbeats 4000000 in
theorem ly (p:Pg)(E:List En)(k st cl sl:Nat)(n:Int)(e e':Ex)(P0:(e.op == 2)=false)(h1:e'.op=e.op)(h2:e'.n=e.n)(h3:e'.name=eS)(h4:e'.args=e.args.map (dA E))(RC:e.args.length≤2)
  (ha:∀ x∈e.args,Body Tryz.prog au 264 [.av 0 0,.agg (bK x),I n] [(0,cY p E k st cl sl)] 3 (iy (.agg (bK (dA E x))) [(0,cY p E k st cl sl)] 3)) :
  Body Tryz.prog au 264 [.av 0 0,.agg (bK e),I n] [(0,cY p E k st cl sl)] 3 (iy (.agg (bK e')) [(0,cY p E k st cl sl)] 3):=by
 have Qv:=fun (i:Nat) (x:Ex) (h:e.args[i]? = some x)=>aO (f:=bK) (n:=4) bJ (m:=e.args) h;refine Body.iV Tryz.func264 rfl PH (by simp[Tryz.ntmps264]) fun C hC PN=>?_;rw[Tryz.ntmps264] at hC;rw[bU e];apply aj;simp[hC];apply aU;simp[hC,P0];refine gO ?_;simp;apply aj;simp[hC];apply aU;simp[hC];apply T.block;refine T.aJ (J131 p E k st cl sl e n) (n:=e.args.length) ?_ ?_
 ·refine aa.le (Le.oo 5 3 80 4 rfl rfl) ?_;simp;refine aa.trim [9,8,6,4,0,2] [0,3,4,5,6] 7 (by simp[cY,nA]) yA ⟨0,by omega,by omega,?_⟩;rw[bU e];simp[ky]
 ·rintro m s ⟨i,rfl,hi,rfl⟩;by_cases PJ:i<e.args.length
  ·obtain⟨a,Qz⟩:∃ a,e.args[i]? = some a:=⟨e.args[i],List.getElem?_eq_getElem PJ⟩;have PL:=Qv i a Qz;have hb:=ha a (List.mem_of_getElem? Qz);have wi:=cE ((i:Int)+1) yA yA;rw[bU e];apply aU;simp[hC,PJ];refine gQ ?_;simp;apply dZ;refine T.rx ah follows [0,1,2,3,4,5,6,7,8,9,10,11,12,13] [(1,9),(1,10)] PH ?_;simp[hC,PJ,PL];have PY:List.take (i+1) (List.map (dA E) e.args)=List.take i (List.map (dA E) e.args)++[dA E a]:=by
    rw[List.take_add_one,List.getElem?_map,Qz];rfl
   have Xl:(List.take i (List.map (dA E) e.args)).length=i:=by simp;omega
   generalize hN:List.take i (List.map (dA E) e.args)=N at PY Xl;have VH:=bk (f:=bK) (n:=4) bJ N;rw[Xl] at VH;have hbd:(i+1)*56≤140737488355328:=by omega
   have hbd2:(i+1)*64≤140737488355328:=by omega
   refine RX.cD [0] [] 3 (hb) rfl zX rfl rfl rfl rfl zX QS QR rfl rfl rfl zX ?_;simp[ky,bJ,VH,hbd,aX,-List.length_flatMap];apply aW;simp[hC,wi];refine⟨e.args.length-(i+1),by omega,?_⟩;have YN:(N++[dA E a]).flatMap bK=N.flatMap bK++bK (dA E a):=by simp
   have RQ:trees (N.flatMap bK++bK (dA E a))=true:=by rw[← YN];exact aF bA _
   refine aa.le (Le.trim [9,8,6,4,0,2] [0,3,4,5,21] 22 yCl yA) ?_;simp;refine aa.le (Le.nB 21 6 rfl rfl yA zX zX yCk) ?_;simp only[cY,nA];simp[aV (aF bA N)];have Xx:(e.args.take (i+1)).map (dA E)=N++[dA E a]:=by rw[List.map_take];exact PY
   refine aa.trim [9,8,6,4,0,2] [0,3,4,5,6] 7 yCr yA ⟨i+1,rfl,by omega,?_⟩;rw[Xx,bU e];simp[ky,cY,nA]
  ·have PS:i=e.args.length:=by omega
   rw[bU e];apply aU;simp[hC,PJ];refine bh ?_;simp;apply T.exit;simp;apply aj;simp[hC];apply T.ret;subst PS;have PY:List.take e.args.length (List.map (dA E) e.args)=e'.args:=by rw[h4];exact List.take_of_length_le zX
   have Sc:((e'.args.flatMap bK).take (e.args.length*4))=e'.args.flatMap bK:=List.take_of_length_le (by rw[bk (f:=bK) (n:=4) bJ,h4];simp);refine aa.le (Le.trim [6] [0,4,6] 7 yCm yA) ?_;simp;refine aa.le (Le.dz (o:=6) rfl (aF bA _)) ?_;simp[ky,PY,Sc];refine aa.le (Le.dz (o:=4) rfl (by simp[trees,tree])) ?_;simp[cY,nA];refine aa.trim [6] [0] 3 zX yA ⟨_,?_,rfl,?_,rfl⟩
   ·simp[bU e',h1,h2,h3,h4,eS]
   ·simp
theorem jC (p:Pg){g:Nat}{ms:List Mx}{fs:List (ByteArray×List Pm)}{ps:List Pm}{V:List ByteArray}(E:List En)(k st cl sl:Nat)(hE:EW g ms fs ps V E k)(hl:E.length≤100000)(n:Int):∀ (d:Nat) (e:Ex),fc V d e →
  Body Tryz.prog au 264 [.av 0 0,.agg (bK e),I n] [(0,cY p E k st cl sl)] 3 (iy (.agg (bK (dA E e))) [(0,cY p E k st cl sl)] 3):=by
 have Up:∀ s∈V,Body Tryz.prog au 264 [.av 0 0,.agg (bK (.nm s)),I n] [(0,cY p E k st cl sl)] 3 (iy (.agg (bK (dA E (.nm s)))) [(0,cY p E k st cl sl)] 3):=by
  intro s hs;obtain⟨c,j,h1,h2⟩:=hE.v s hs;have hv:=qF p E k st cl sl hl s _ h1 (by simp only;omega) n;simp only[dA,gG h1];refine Body.iV Tryz.func264 rfl PH (by simp[Tryz.ntmps264]) fun C hC PN=>?_;rw[Tryz.ntmps264] at hC;simp only[cY,nA] at hv ⊢;apply aj;simp[hC,bK];apply aU;simp[hC];refine fx ?_;simp;apply aj;simp[hC];refine TL.cD ah [0] 3 (hv) PV rfl rfl rfl rfl zX QS QR rfl (TL.go' ah ?_);simp[hC,gN];rcases h2 with ⟨rfl,h2⟩ | ⟨rfl,h2⟩
  ·apply aU;simp[hC];refine fx ?_;simp;apply aj;simp[hC];apply T.ret;refine aa.le (Le.trim [6] [0,4] 5 Rt yA) ?_;simp;refine aa.le (Le.nz [] [4]) ?_;simp;refine aa.le (Le.dz (o:=4) rfl U8) ?_;simp;refine aa.trim [6] [0] 3 zX yA ⟨_,?_,rfl,?_,rfl⟩
   ·simp[bK,eS]
   ·simp
  ·apply aU;simp[hC];refine gO ?_;simp;apply aj;simp[hC];apply T.ret;refine aa.le (Le.trim [6] [0,4] 5 Rt yA) ?_;simp;refine aa.le (Le.nz [] [4]) ?_;simp;refine aa.le (Le.dz (o:=4) rfl U8) ?_;simp;refine aa.trim [6] [0] 3 zX yA ⟨_,?_,rfl,?_,rfl⟩
   ·simp[bK,eS]
   ·simp
 intro d
 induction d with
 | zero=>
  intro e hw
  match e,hw with
  | .nm s,hw=>exact Up s (by simpa [fc] using hw)
  | .num c,hw=>exact ly p E k st cl sl n (.num c) (.num c) rfl rfl rfl rfl rfl S9 S9
 | succ d ih=>
  intro e hw
  match e,hw with
  | .nm s,hw=>exact Up s (by simpa [fc] using hw)
  | .num c,hw=>exact ly p E k st cl sl n (.num c) (.num c) rfl rfl rfl rfl rfl S9 S9
  | .un o x,hw=>
   simp only[fc] at hw;refine ly p E k st cl sl n (.un o x) (.un o (dA E x)) (by simp[Ex.op];omega) rfl rfl rfl rfl S9 fun y hy=>?_;simp only[Ex.args,List.mem_singleton] at hy;subst hy;exact ih _ hw.2
  | .bin o x y,hw=>
   simp only[fc] at hw;refine ly p E k st cl sl n (.bin o x y) (.bin o (dA E x) (dA E y)) (by simp[Ex.op];omega) rfl rfl rfl rfl S9 fun z hz=>?_;simp only[Ex.args,List.mem_cons,List.not_mem_nil,or_false] at hz;rcases hz with rfl | rfl
   ·exact ih _ hw.2.1
   ·exact ih _ hw.2.2
def vV (o:Option Ex):List Ex:=match o with
 | none=>[]
 | some e=>[e]
theorem mr (o:Option Ex):nV o=.az ((vV o).flatMap bK) (vV o).length:=by cases o<;>simp[nV,vV]
def J134 (p:Pg)(E:List En)(k st cl sl:Nat)(nm:ByteArray)(il:List Ex)(b:Bool)(j:Nat)(n:Int)(m:Nat)(s:St):Prop:=∃ i:Nat,m=il.length-i∧i≤il.length∧
 s=⟨[(11,I i),(9,.av 18 0),(6,.av 4 0),(4,.av 3 0),(0,.av 0 0),(2,I n)],[(0,cY p E k st cl sl),(3,⟨262,0,[.str nm,.az (il.flatMap bK) il.length]⟩),(4,⟨82,0,[.bool false,I 0,.ai]⟩),(18,⟨82,0,[.bool b,I j,.bj 19 0 i]⟩),(19,ky ((il.take i).map (dA E)))],20⟩
set_option maxHeartbeats 4000000 in
theorem C9 (p:Pg){g:Nat}{fs:List (ByteArray×List Pm)}{ps:List Pm}{V:List ByteArray}(E:List En)(k st cl sl:Nat)(hE:EW g p.ms fs ps V E k)(hl:E.length≤100000)(_hm:p.ms.length≤1000)(n:Int)(r:Rf)(hr:FC p.ms ps V r) :
  Body Tryz.prog au 267 [.av 0 0,.agg (j9 r),I n] [(0,cY p E k st cl sl)] 3 (iy (.agg (l9 (xG E r))) [(0,cY p E k st cl sl)] 3):=by
 obtain⟨c,j,hf,VP,he⟩:∃ c j,iu E r.name=some ⟨r.name,c,j⟩∧((c=2∧∃ m,p.ms[j]? = some m∧((0:Int)<m.size↔0<(vV r.index).length))∨(c=5∧(vV r.index).length=0))∧∀ e∈vV r.index,fc V 1 e:=by
  rcases hr with ⟨m,h1,h2,h3⟩ | ⟨q,h1,h2,h3,h4⟩
  ·obtain⟨j,h4,h5⟩:=hE.m m h1;rw[← h2] at h4;refine⟨2,j,h4,.inl ⟨rfl,m,h5,?_⟩,fun e he=>?_⟩
   ·rcases h3 with ⟨h6,h7⟩ | ⟨e,h6,h7,_⟩
    ·simp[h6,vV,h7]
    ·simp[h6,vV,h7]
   ·rcases h3 with ⟨h6,h7⟩ | ⟨e',h6,h7,h8⟩
    ·simp[h6,vV] at he
    ·simp only[h6,vV,List.mem_singleton] at he;subst he;exact h8
  ·obtain⟨j,h5,h6⟩:=hE.p q h1 h2;rw[← h3] at h5;exact⟨5,j,h5,.inr ⟨rfl,by simp[h4,vV]⟩,fun e he=>by simp[h4,vV] at he⟩
 have SU:=pw E r.name hl;rw[hf] at SU;have Q3:l9 (xG E r)=[.bool (decide (c=5)),I j,.az (((vV r.index).map (dA E)).flatMap bK) ((vV r.index).map (dA E)).length]:=by
  simp only[xG,l9,gG hf,mr];cases r.index<;>simp[vV]
 have Qv:=fun (i:Nat) (x:Ex) (h:(vV r.index)[i]? = some x)=>aO (f:=bK) (n:=4) bJ (m:=vV r.index) h;have QW:(vV r.index).length≤1:=by cases r.index<;>simp[vV]
 rw[Q3];simp only[j9,mr];generalize vV r.index=il at VP he Qv QW;generalize r.name=nm at hf SU;clear Q3 hr;refine Body.iV Tryz.func267 rfl PH (by simp[Tryz.ntmps267]) fun C hC PN=>?_;rw[Tryz.ntmps267] at hC;apply aj;simp[hC];apply T.seq;refine T.rx ah follows [0,1,2,3,4,5,10,6,7,8,9,11,12] [(3,10),(5,10),(10,6)] PH ?_;simp[hC,cY,nA];refine RX.call rfl zX rfl rfl rfl P2 (SU) ?_;simp[pv,gN];have hc5:((c:Int) == 5)=decide (c=5):=by rcases VP with ⟨rfl,_⟩ | ⟨rfl,_⟩<;>rfl
 apply aj;simp[hC,hc5];refine T.cut (fun s=>s=⟨[(9,.av 18 0),(6,.av 4 0),(4,.av 3 0),(0,.av 0 0),(2,I n)],[(0,cY p E k st cl sl),(3,⟨262,0,[.str nm,.az (il.flatMap bK) il.length]⟩),(4,⟨82,0,[.bool false,I 0,.ai]⟩),(18,⟨82,0,[.bool (decide (c=5)),I j,.ai]⟩)],19⟩) ?_ ?_
 ·rcases VP with ⟨rfl,m,hmj,hiff⟩ | ⟨rfl,V9⟩
  ·have hmd:=bS (f:=eL) (n:=3) (fun _=>rfl) hmj 2 yA;have P7:=(List.getElem?_eq_some_iff.1 hmj).1;apply T.block;apply aj;simp[hC];refine bh ?_;simp;apply aj;simp[hC];refine bh ?_;simp;apply T.seq;refine T.rx ah follows [0,1,2,3,4,5,6,7,8,9,10,11,12,13,14,15,16] [] PH ?_;simp[hC,P7,hmd,eL];by_cases hz:0<il.length
   ·have Ra:0<m.size:=by omega
    apply aj;simp[hC,hz,Ra];refine gO ?_;simp;refine aa.trim [9,6,4,0,2] [0,3,4,18] 19 zX yA ?_;simp[cY,nA]
   ·have Ra:¬ 0<m.size:=by omega
    apply aj;simp[hC,hz,Ra];refine gO ?_;simp;refine aa.trim [9,6,4,0,2] [0,3,4,18] 19 zX yA ?_;simp[cY,nA]
  ·apply T.block;apply aj;simp[hC];refine bh ?_;simp;apply aj;simp[hC];refine bh ?_;simp;apply T.seq;refine T.rx ah follows [0,1,2,3,4,5,6,7,8,9,10,11,12,13,14,15,16] [] PH ?_;simp[hC];apply aj;simp[hC,V9];refine gO ?_;simp;refine aa.trim [9,6,4,0,2] [0,3,4,18] 19 zX yA ?_;simp[cY,nA]
 rintro s rfl;apply aU;simp[hC];apply T.block;refine T.aJ (J134 p E k st cl sl nm il (decide (c=5)) j n) (n:=il.length) ?_ ?_
 ·refine aa.le (Le.oo 18 2 80 4 rfl rfl) ?_;simp;refine aa.trim [11,9,6,4,0,2] [0,3,4,18,19] 20 (by simp[cY,nA]) yA ⟨0,by omega,by omega,?_⟩;simp[ky]
 ·rintro m s ⟨i,rfl,hi,rfl⟩;by_cases PJ:i<il.length
  ·obtain⟨a,Qz⟩:∃ a,il[i]? = some a:=⟨il[i],List.getElem?_eq_getElem PJ⟩;have PL:=Qv i a Qz;have hb:=jC p E k st cl sl hE hl n 1 a (he a (List.mem_of_getElem? Qz));have wi:=cE ((i:Int)+1) yA yA;apply aU;simp[hC,PJ];refine gQ ?_;simp;apply dZ;refine T.rx ah follows [0,1,2,3,4,5,6,7,8,9,10,11,12,13] [(1,9),(1,10)] PH ?_;simp[hC,PJ,PL];have PY:List.take (i+1) (List.map (dA E) il)=List.take i (List.map (dA E) il)++[dA E a]:=by
    rw[List.take_add_one,List.getElem?_map,Qz];rfl
   have Xl:(List.take i (List.map (dA E) il)).length=i:=by simp;omega
   generalize hN:List.take i (List.map (dA E) il)=N at PY Xl;have VH:=bk (f:=bK) (n:=4) bJ N;rw[Xl] at VH;have hbd:(i+1)*56≤140737488355328:=by omega
   have hbd2:(i+1)*64≤140737488355328:=by omega
   refine RX.cD [0] [] 3 (hb) rfl zX rfl rfl rfl rfl zX QS QR rfl rfl rfl zX ?_;simp[ky,bJ,VH,hbd,aX,-List.length_flatMap];apply aW;simp[hC,wi];refine⟨il.length-(i+1),by omega,?_⟩;have YN:(N++[dA E a]).flatMap bK=N.flatMap bK++bK (dA E a):=by simp
   have RQ:trees (N.flatMap bK++bK (dA E a))=true:=by rw[← YN];exact aF bA _
   refine aa.le (Le.trim [11,9,6,4,0,2] [0,3,4,18,34] 35 yCl yA) ?_;simp;refine aa.le (Le.nB 34 19 rfl rfl yA zX zX yCk) ?_;simp only[cY,nA];simp[aV (aF bA N)];have Xx:(il.take (i+1)).map (dA E)=N++[dA E a]:=by rw[List.map_take];exact PY
   refine aa.trim [11,9,6,4,0,2] [0,3,4,18,19] 20 yCr yA ⟨i+1,rfl,by omega,?_⟩;rw[Xx];simp[ky,cY,nA]
  ·have PS:i=il.length:=by omega
   apply aU;simp[hC,PJ];refine bh ?_;simp;apply T.exit;simp;apply aj;simp[hC];apply T.ret;subst PS;have PY:List.take il.length (List.map (dA E) il)=il.map (dA E):=List.take_of_length_le zX;have Sc:(((il.map (dA E)).flatMap bK).take (il.length*4))=(il.map (dA E)).flatMap bK:=List.take_of_length_le (by rw[bk (f:=bK) (n:=4) bJ];simp);refine aa.le (Le.trim [6] [0,4,19] 20 yCm yA) ?_;simp;refine aa.le (Le.dz (o:=19) rfl (aF bA _)) ?_;simp[ky,PY,Sc];refine aa.le (Le.dz (o:=4) rfl (by simp[trees,tree])) ?_;simp[cY,nA];refine aa.trim [6] [0] 3 zX yA ⟨_,?_,rfl,?_,rfl⟩
   ·simp
   ·simp
theorem qu (E:List En):∀ a b:List Ar,cR E (a++b)=cR E a++cR E b
 | [],b=>rfl
 | .exp e::a,b=>by simp[cR,qu E a b]
 | .ua r::a,b=>by simp[cR,qu E a b]
theorem tK (E:List En):∀ a b:List Ar,er E (a++b)=er E a++er E b
 | [],b=>rfl
 | .exp e::a,b=>by simp[er,tK E a b]
 | .ua r::a,b=>by simp[er,tK E a b]
theorem qt (E:List En):∀ a:List Ar,(cR E a).length≤a.length
 | []=>Nat.le_refl _
 | .exp e::a=>by have:=qt E a;simp[cR];omega
 | .ua r::a=>by have:=qt E a;simp[cR];omega
theorem tJ (E:List En):∀ a:List Ar,(er E a).length≤a.length
 | []=>Nat.le_refl _
 | .exp e::a=>by have:=tJ E a;simp[er];omega
 | .ua r::a=>by have:=tJ E a;simp[er];omega
theorem IB {ms:List Mx}{ps:List Pm}{V:List ByteArray}:∀ {gp:List Pm} {al:List Ar} {i:Nat} {a:Ar},iR ms ps V gp al→al[i]? = some a→∃ q,gp[i]? = some q∧ArW ms ps V q a
 | [],[],_,_,_,h=>by simp at h
 | q::gp,b::al,0,a,hw,h=>by
  simp only[iR] at hw;simp only[List.getElem?_cons_zero,Option.some.injEq] at h;subst h;exact⟨q,rfl,hw.1⟩
 | q::gp,b::al,i+1,a,hw,h=>by
  simp only[iR] at hw;simp only[List.getElem?_cons_succ] at h;obtain⟨q',h1,h2⟩:=IB hw.2 h;exact⟨q',by simpa using h1,h2⟩
 | [],_::_,_,_,hw,_=>hw.elim
 | _::_,[],_,_,hw,_=>hw.elim
theorem sb (x:Pl):(l9 x).length=3:=rfl
theorem gW (x:Pl):trees (l9 x)=true:=by
 rcases x with ⟨_,_,_ | e⟩
 ·rfl
 ·simp only[l9,nV,trees,tree,Bool.and_self]
def va (l:List Pl):Ob:=⟨82,3,l.flatMap l9⟩
def AQ:List CV:=[I 0,I 0,.bool false,I 0,I 0,.str ⟨#[]⟩,.ai,.bool false,I 0,.ai,.ai,.ai]
def oc (kd:Int)(nm:ByteArray)(al:List Ar):List CV:=[I kd,.str nm,I 0,I 0,.str ⟨#[]⟩,.az [] 0,.str ⟨#[]⟩,.az [] 0,.az (al.flatMap nN) al.length,.az [] 0,.az [] 0]
def J133 (p:Pg)(E:List En)(k st cl sl:Nat)(n:Int)(kd op:Int)(nm:ByteArray)(j:Nat)(gp:List Pm)(al:List Ar)(m:Nat)(s:St):Prop:=∃ i:Nat,m=al.length-i∧i≤al.length∧
 s=⟨[(11,I i),(10,.az (gp.flatMap kj) gp.length),(7,.av 5 0),(6,.av 4 0),(4,.av 3 0),(0,.av 0 0),(2,I n)],[(0,cY p E k st cl sl),(3,⟨265,0,oc kd nm al⟩),(4,⟨85,0,AQ⟩),
  (5,⟨85,0,[I op,I j,.bool false,I 0,I 0,.str ⟨#[]⟩,.ai,.bool false,I 0,.ai,.bj 6 0 (cR E (al.take i)).length,.bj 7 0 (er E (al.take i)).length]⟩),(6,ky (cR E (al.take i))),(7,va (er E (al.take i)))],8⟩
set_option maxHeartbeats 4000000 in
theorem Hp (p:Pg){g:Nat}{ps:List Pm}{V:List ByteArray}(E:List En)(k st cl sl:Nat)(hE:EW g p.ms (p.fs.map fun f=>(f.name,f.params)) ps V E k)(hl:E.length≤100000)(hm:p.ms.length≤1000)(_hfl:p.fs.length≤1000)(n:Int)(go:Bool)(nm:ByteArray)(gp:List Pm)(al:List Ar)
  (hg:(nm,gp)∈p.fs.map fun f=>(f.name,f.params)) (hw:iR p.ms ps V gp al) (UJ:gp.length≤1000) :
  Body Tryz.prog au 266 [.av 0 0,.agg (gM (.dI go nm al)),I n] [(0,cY p E k st cl sl)] 3 (iy (.agg (dd (.call go (kW E nm).n (cR E al) (er E al)))) [(0,cY p E k st cl sl)] 3):=by
 obtain⟨j,hf,RP⟩:=hE.f _ hg;have Z5:=hw.len;have SU:=pw E nm hl;rw[hf] at SU;rw[gG hf];have hs:gM (.dI go nm al)=oc (if go=true then 4 else 3) nm al:=rfl;rw[hs];obtain⟨f,Xe,We⟩:∃ f,p.fs[j]? = some f∧f.params=gp:=by
  rw[List.getElem?_map,Option.map_eq_some_iff] at RP;obtain⟨f,h1,h2⟩:=RP;exact⟨f,h1,by injection h2⟩
 have hfd1:=bS (f:=eF) (n:=3) (fun _=>rfl) Xe 1 yA;have P7:=(List.getElem?_eq_some_iff.1 Xe).1;refine Body.iV Tryz.func266 rfl PH (by simp[Tryz.ntmps266]) fun C hC PN=>?_;rw[Tryz.ntmps266] at hC;apply aj;simp[hC];apply aj;simp[hC];simp only[cY,nA,oc];refine T.cut (fun s=>s=⟨[(7,.av 5 0),(6,.av 4 0),(4,.av 3 0),(0,.av 0 0),(2,I n)],[(0,cY p E k st cl sl),(3,⟨265,0,oc (if go=true then 4 else 3) nm al⟩),(4,⟨85,0,AQ⟩),(5,⟨85,0,[I (if go=true then 3 else 2),I 0,.bool false,I 0,I 0,.str ⟨#[]⟩,.ai,.bool false,I 0,.ai,.ai,.ai]⟩)],6⟩) ?_ ?_
 ·cases go with
  | true=>
   apply aj;simp[hC];refine fx ?_;simp;apply aW;simp[hC];refine aa.trim [7,6,4,0,2] [0,3,4,5] 6 zX yA ?_;simp[cY,nA,oc,AQ]
  | false=>
   apply aj;simp[hC];refine gO ?_;simp;refine aa.trim [7,6,4,0,2] [0,3,4,5] 6 zX yA ?_;simp[cY,nA,oc,AQ]
 rintro s rfl;apply T.seq;refine T.rx ah follows [0,1,2,3,4,5,10,6,7,8,9,11,12] [(3,10),(5,10),(10,6)] PH ?_;simp[hC,cY,nA,oc,AQ];refine RX.call rfl zX rfl rfl rfl P2 (SU) ?_;simp[pv,gN];apply dZ;apply aj;simp[hC];refine bh ?_;simp;apply aj;simp[hC];refine gO ?_;simp;apply aj;simp[hC];apply T.seq;refine T.rx ah follows [0,1,2,3,4,5,6,7,8,9,10] [] PH ?_;simp[hC,P7,hfd1,eF,We];apply aU;simp[hC,Z5];refine gO ?_;simp;refine T.le (Le.trim [10,7,6,4,0,2] [0,3,4,5] 6 zX yA) ?_;simp;generalize (if go=true then (4:Int) else 3)=kd;have P0:(if go=true then (3:Int) else 2)=(if go then 3 else 2:Int):=rfl;generalize XQ:(if go=true then (3:Int) else 2)=op;apply aU;simp[hC];apply T.block;refine T.aJ (J133 p E k st cl sl n kd op nm j gp al) (n:=al.length) ?_ ?_
 ·refine aa.le (Le.oo 5 10 80 4 rfl rfl) ?_;simp;refine aa.le (Le.oo 5 11 82 3 rfl rfl) ?_;simp;refine aa.trim [11,10,7,6,4,0,2] [0,3,4,5,6,7] 8 zX yA ⟨0,by omega,by omega,?_⟩;simp[ky,va,cR,er,cY,nA,oc,AQ,Z5]
 ·rintro m s ⟨i,rfl,hi,rfl⟩;by_cases PJ:i<al.length
  ·obtain⟨a,Qz⟩:∃ a,al[i]? = some a:=⟨al[i],List.getElem?_eq_getElem PJ⟩;obtain⟨q,hiq,haw⟩:=IB hw Qz;have PL:=aO (f:=nN) (n:=7) sH Qz;have WK:=bS (f:=kj) (n:=2) (fun _=>rfl) hiq 1 yA;have QW:i<gp.length:=by omega
   have wi:=cE ((i:Int)+1) yA yA;have PY:al.take (i+1)=al.take i++[a]:=by rw[List.take_add_one,Qz];rfl
   have Vy:=qt E (al.take i);have SP:=tJ E (al.take i);rw[List.length_take] at Vy SP;have hI:cR E (al.take (i+1))=cR E (al.take i)++cR E [a]:=by rw[PY,qu]
   have hP:er E (al.take (i+1))=er E (al.take i)++er E [a]:=by rw[PY,tK]
   generalize cR E (al.take i)=NI at Vy hI;generalize er E (al.take i)=NP at SP hP;have f1:=bk (f:=bK) (n:=4) bJ NI;have f2:=bk (f:=l9) (n:=3) sb NP;have b1:(NI.length+1)*56≤140737488355328:=by omega
   have b2:(NP.length+1)*48≤140737488355328:=by omega
   have b3:(NP.length+1)*40≤140737488355328:=by omega
   have htp:∀ x:Pl,List.take 3 (l9 x)=l9 x:=fun _=>rfl;have hte:∀ x:Ex,List.take 4 (bK x)=bK x:=fun x=>List.take_of_length_le (by rw[bJ];exact Nat.le_refl _);have tE:=aF bA NI;have tP:=aF gW NP;apply aU;simp[hC,QW];refine gQ ?_;simp;apply dZ
   cases a with
   | ua r=>
    have hb:=C9 p E k st cl sl hE hl hm n r haw.2;have hqm:q.mutex=true:=haw.1;obtain⟨rn,ri⟩:=r;obtain⟨q1,q2,hq⟩:∃ cs n,nV ri=.az cs n:=by cases ri<;>exact⟨_,_,rfl⟩
    simp only[j9,hq] at hb;simp only[nN,j9,bK,hq,List.cons_append,List.nil_append] at PL;apply aj;simp[hC,PJ,PL,oc];refine T.seq (T.seq ?_);refine T.rx ah follows [0,1,2,3,4,5,6,7] [] PH ?_;simp[hC,QW,WK,kj,hqm];refine gO ?_;simp;apply aj;simp[hC];refine fx ?_;simp;refine T.rx ah follows [0,1,2,3,4,5,6,7,8,9,10] [(1,6),(1,7)] PH ?_;simp[hC];refine RX.cD [0] [] 3 (hb) rfl zX rfl rfl rfl rfl zX QS QR rfl rfl rfl zX ?_;simp[va,sb,f2,b3,htp,aX,-List.length_flatMap];apply aW;simp[hC,wi];refine⟨al.length-(i+1),by omega,?_⟩;have tQ:=gW (xG E ⟨rn,ri⟩);refine aa.le (Le.trim [11,10,7,6,4,0,2] [0,3,4,5,6,28] 29 (by simp only[cY,nA,AQ,ky];simp[-List.all_eq_true,-List.all_flatMap,af tE,af tP,af tQ]) yA) ?_;simp;refine aa.le (Le.nB 28 7 rfl rfl yA zX zX (by simp only[cY,nA,AQ,ky];simp[-List.all_eq_true,-List.all_flatMap,bf tE,bf tP,bf tQ])) ?_;simp only[cY,nA,AQ,ky];simp[aV tE,aV tP,aV tQ];refine aa.trim [11,10,7,6,4,0,2] [0,3,4,5,6,7] 8 (by simp[-List.all_eq_true,-List.all_flatMap,af tE,af tP,af tQ]) yA ⟨i+1,rfl,by omega,?_⟩;rw[hI,hP];simp[ky,va,cR,er,cY,nA,oc,AQ]
   | exp e=>
    have hb:=jC p E k st cl sl hE hl n 2 e haw.2;have hqm:q.mutex=false:=haw.1;simp only[nN,bU e,ke,List.cons_append,List.nil_append] at PL;rw[bU e] at hb;apply aj;simp[hC,PJ,PL,oc];refine T.seq (T.seq ?_);refine T.rx ah follows [0,1,2,3,4,5,6,7] [] PH ?_;simp[hC,QW,WK,kj,hqm];refine gO ?_;simp;apply aj;simp[hC];refine bh ?_;simp;refine T.rx ah follows [0,1,2,3,4,5,6,7,8,9,10] [(1,6),(1,7)] PH ?_;simp[hC];refine RX.cD [0] [] 3 (hb) rfl zX rfl rfl rfl rfl zX QS QR rfl rfl rfl zX ?_;simp[ky,bJ,f1,b1,hte,aX,-List.length_flatMap];apply aW;simp[hC,wi];refine⟨al.length-(i+1),by omega,?_⟩;have tQ:=bA (dA E e);refine aa.le (Le.trim [11,10,7,6,4,0,2] [0,3,4,5,28,7] 29 (by simp only[cY,nA,AQ,va];simp[-List.all_eq_true,-List.all_flatMap,af tE,af tP,af tQ]) yA) ?_;simp;refine aa.le (Le.nB 28 6 rfl rfl yA zX zX (by simp only[cY,nA,AQ,va];simp[-List.all_eq_true,-List.all_flatMap,bf tE,bf tP,bf tQ])) ?_;simp only[cY,nA,AQ,va];simp[aV tE,aV tP,aV tQ];refine aa.trim [11,10,7,6,4,0,2] [0,3,4,5,6,7] 8 (by simp[-List.all_eq_true,-List.all_flatMap,af tE,af tP,af tQ]) yA ⟨i+1,rfl,by omega,?_⟩;rw[hI,hP];simp[ky,va,cR,er,cY,nA,oc,AQ]
  ·have PS:i=al.length:=by omega
   have QW:¬ i<gp.length:=by omega
   apply aU;simp[hC,QW];refine bh ?_;simp;apply T.exit;simp;apply aj;simp[hC];apply T.ret;rw[PS,List.take_length];have tE:=aF bA (cR E al);have tP:=aF gW (er E al);have x1:((cR E al).flatMap bK).take ((cR E al).length*4)=(cR E al).flatMap bK:=List.take_of_length_le (by rw[bk (f:=bK) (n:=4) bJ];exact Nat.le_refl _);have x2:((er E al).flatMap l9).take ((er E al).length*3)=(er E al).flatMap l9:=List.take_of_length_le (by rw[bk (f:=l9) (n:=3) sb];exact Nat.le_refl _);generalize cR E al=NI at tE x1;generalize er E al=NP at tP x2;refine aa.le (Le.trim [6] [0,4,6,7] 8 (by simp only[cY,nA,ky,va];simp[-List.all_eq_true,-List.all_flatMap,af tE,af tP,AQ]) yA) ?_;simp;refine aa.le (Le.dz (o:=6) rfl tE) ?_;simp[ky,va,x1,cW tP];refine aa.le (Le.dz (o:=7) rfl tP) ?_;simp[x2];refine aa.le (Le.nz [] [4]) ?_;simp[AQ];refine aa.le (Le.dz (o:=4) rfl (by simp[trees,tree])) ?_;simp[cY,nA];refine aa.trim [6] [0] 3 zX yA ⟨_,?_,rfl,?_,rfl⟩
   ·simp[dd,bK,eS,qL,XQ]
   ·simp
def fj (p:Pg)(E:List En)(k st a cl b sl:Nat):Ob:=⟨273,0,[.az (p.gs.flatMap nW) p.gs.length,.az (p.ms.flatMap eL) p.ms.length,.az (p.fs.flatMap eF) p.fs.length,.az (E.flatMap gN) E.length,I k,I st,I 0,I 0,.bj a 0 cl,.bj b 0 sl]⟩
theorem xE (p:Pg)(E:List En)(k st cl sl:Nat):cY p E k st cl sl=fj p E k st 1 cl 2 sl:=rfl
set_option maxHeartbeats 4000000 in
theorem Md (p:Pg)(E:List En)(k st:Nat)(X:List CV)(N:Nat)(hX:X.length=N*12)(tX:trees X=true)(S:List CV)(M:Nat)(hS:S.length=M)(tS:trees S=true)(hN:N≤10000)(hM:M≤10000)
  (cs:List CV) (Ql:cs.length=12) (R0:trees cs=true) (n:Int) :
  Body Tryz.prog au 204 [.av 0 0,.agg cs,I n] [(0,fj p E k st 1 N 2 M),(1,⟨85,12,X⟩),(2,⟨3,1,S⟩)] 3 (iy (I N) [(0,fj p E k st 3 (N+1) 4 (M+1)),(3,⟨85,12,X++cs⟩),(4,⟨3,1,S++[I n]⟩)] (3+2)):=by
 refine Body.iV Tryz.func204 rfl PH (by simp[Tryz.ntmps204]) fun C hC PN=>?_;rw[Tryz.ntmps204] at hC;apply aj;simp[hC];have S8:(N+1)*168≤140737488355328:=by omega
 have Re:(M+1)*8≤140737488355328:=by omega
 have htc:List.take 12 cs=cs:=List.take_of_length_le yA;apply T.seq;refine T.rx ah follows [0,1,2,3,4,5,6,7,8,9,10,11,12,13,14,15,16,17,18,19,20,21] [(5,7),(5,14),(6,14),(7,12),(7,14),(8,12),(8,14),(12,14)] PH ?_;simp[hC,fj,hX,hS,Ql,htc,S8,Re,aX];have w1:=cE (N:Int) yA yA;apply aj;simp[hC,w1];apply T.ret;have tXc:trees (X++cs)=true:=by rw[bF,tX,R0];rfl
 have tSn:trees (S++[I n])=true:=by rw[bF,tS];rfl
 refine aa.le (Le.trim [6] [0,26,27] 28 (by simp[-List.all_eq_true,-List.all_flatMap,af tX,af R0,af tS]) yA) ?_;simp;refine aa.le (Le.nB 26 3 rfl rfl yA zX zX (by simp[-List.all_eq_true,-List.all_flatMap,bf tX,bf R0,bf tS])) ?_;simp[aV tX,aV R0,aV tS];refine aa.le (Le.nB 27 4 rfl rfl yA zX zX (by simp[-List.all_eq_true,-List.all_flatMap,bf tX,bf R0,bf tS])) ?_;simp[aV tX,aV R0,aV tS];refine aa.trim [6] [0,3,4] 5 (by simp[-List.all_eq_true,-List.all_flatMap,af tX,af R0,af tS]) yA ⟨_,?_,rfl,?_,rfl⟩
 ·simp
 ·simp
end Go.Proofs.YtnecpnjdonibmaaGreat
