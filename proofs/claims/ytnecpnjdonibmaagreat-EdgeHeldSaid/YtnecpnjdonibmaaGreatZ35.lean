/- find, variable, expr. -/
import Derived.Test.YtnecpnjdonibmaaGreatZ34
namespace Go.Proofs.YtnecpnjdonibmaaGreat
open Go.Can Go.aP
theorem kM (x:En):(im x).length=3:=rfl
def J59 (E:List En)(s:ByteArray)(n:Nat)(st:St):Prop:=∃ i:Nat,n=E.length-i∧i≤E.length∧iX E s=iX (E.drop i) s∧st=⟨[(6,I i),(5,.bool false),(4,.ax 0 0),(0,.aA (E.flatMap im) E.length),(1,.str s)],[(0,⟨201,0,[.str ⟨#[]⟩,I 0,I 0]⟩)],1⟩
def qH:Option En→CV
 | some x=>.dS [.agg (im x),.bool true]
 | none=>.dS [.agg [.str ⟨#[]⟩,I 0,I 0],.bool false]
theorem E5 (R:Option En):tree (qH R)=true:=by cases R<;>rfl
theorem qI (E:List En)(s:ByteArray)(hl:E.length≤100000):af Tryz.prog 135 [.aA (E.flatMap im) E.length,.str s] (qH (iX E s)):=by
 have PO:=fun (i:Nat) (x:En) (h:E[i]? = some x)=>aN (f:=im) (n:=3) kM (m:=E) h;refine af.aK ai Tryz.func135 rfl OV (by simp[Tryz.ntmps135]) (E5 _) fun C hC O0=>?_;rw[Tryz.ntmps135] at hC;apply aq;simp[hC];apply aO;simp[hC];apply T.block;refine T.aH (J59 E s) (n:=E.length) ?_ ?_
 ·refine ae.here ⟨0,by omega,by omega,rfl,?_⟩;simp
 ·rintro n st ⟨i,rfl,hi,hf,rfl⟩;by_cases OX:i<E.length
  ·obtain⟨a,PS⟩:∃ a,E[i]? = some a:=⟨E[i],List.getElem?_eq_getElem OX⟩;have OZ:=PO i a PS;have wi:=cC ((i:Int)+1) yA yA;have hd:E.drop i=a::E.drop (i+1):=by
    rw[List.drop_eq_getElem_cons OX,(List.getElem?_eq_some_iff.1 PS).2]
   rw[hd,iX] at hf;apply aO;simp[hC,OX];refine fB ?_;simp;apply ed;apply aq;simp[hC,OX,OZ,im,iB];by_cases hn:a.name=s
   ·rw[if_pos hn] at hf;simp only[hn,decide_true];refine fE ?_;simp;apply aq;simp[hC,OX,OZ,im];apply T.ret;apply ae.here;simp[Tryz.results135,hf,qH,im]
   ·rw[if_neg hn] at hf;simp only[hn,decide_false];refine gw ?_;simp;apply aV;simp[hC,wi];refine⟨E.length-(i+1),by omega,?_⟩;refine ae.trim [6,5,4,0,1] [0] 1 OU yA ⟨i+1,rfl,by omega,hf,?_⟩;simp
  ·have O6:i=E.length:=by omega
   rw[O6,List.drop_length,iX] at hf;apply aO;simp[hC,OX];refine a7 ?_;simp;apply T.exit;simp;apply aq;simp[hC];apply T.ret;apply ae.here;simp[Tryz.results135,hf,qH]
def oW (p:Pg)(E:List En)(k st cl sl:Nat):List CV:=[.aA (p.gs.flatMap px) p.gs.length,.aA (p.ms.flatMap eJ) p.ms.length,.aA (p.fs.flatMap fq) p.fs.length,.aA (E.flatMap im) E.length,I k,I st,I 0,I 0,.bl 1 0 cl,.bl 2 0 sl]
def di (p:Pg)(E:List En)(k st cl sl:Nat):Ob:=⟨273,0,oW p E k st cl sl⟩
theorem sI (p:Pg)(E:List En)(k st cl sl:Nat)(hl:E.length≤100000)(s:ByteArray)(x:En)(hx:iX E s=some x)(hk:x.kind=1∨x.kind=4)(n:Int) :
  Body Tryz.prog ak 265 [.ax 0 0,.str s,I n] [(0,di p E k st cl sl)] 3 (jb (.agg (im x)) [(0,di p E k st cl sl)] 3):=by
 have hf:=qI E s hl;rw[hx] at hf;refine Body.jA Tryz.func265 rfl OV (by simp[Tryz.ntmps265]) fun C hC O0=>?_;rw[Tryz.ntmps265] at hC;apply aq;simp[hC];apply aq;simp[hC,di,oW];refine dz Pc (hf) ?_;simp[hC,qH,im];obtain⟨nm,kd,nn⟩:=x;simp only at hk ⊢;rcases hk with rfl | rfl
 ·apply ed;apply aq;simp[hC];refine a7 ?_;simp;apply aq;simp[hC];refine gw ?_;simp;apply aq;simp[hC];apply T.ret;refine ae.le (Le.trim [6] [0,3] 4 QJ yA) ?_;simp;refine ae.le (Le.nz [] [3]) ?_;simp;refine ae.le (Le.dp (o:=3) rfl Uq) ?_;simp;refine ae.trim [6] [0] 3 OU yA ⟨_,?_,rfl,?_,rfl⟩
  ·simp
  ·simp
 ·apply ed;apply aq;simp[hC];refine a7 ?_;simp;apply aq;simp[hC];refine gw ?_;simp;apply aq;simp[hC];apply T.ret;refine ae.le (Le.trim [6] [0,3] 4 QJ yA) ?_;simp;refine ae.le (Le.nz [] [3]) ?_;simp;refine ae.le (Le.dp (o:=3) rfl Uq) ?_;simp;refine ae.trim [6] [0] 3 OU yA ⟨_,?_,rfl,?_,rfl⟩
  ·simp
  ·simp
def lu (l:List Ex):Ob:=⟨80,4,l.flatMap bR⟩
def J131 (p:Pg)(E:List En)(k st cl sl:Nat)(e:Ex)(n:Int)(m:Nat)(s:St):Prop:=∃ i:Nat,m=e.args.length-i∧i≤e.args.length∧
 s=⟨[(9,I i),(8,.ax 5 0),(6,.ax 4 0),(4,.ax 3 0),(0,.ax 0 0),(2,I n)],[(0,di p E k st cl sl),(3,⟨80,0,bR e⟩),(4,⟨80,0,[I 0,I 0,.str ⟨#[]⟩,.aa]⟩),(5,⟨80,0,[I e.op,I e.n,.str ⟨#[]⟩,.bl 6 0 i]⟩),(6,lu ((e.args.take i).map (dT E)))],7⟩
set_option maxHeartbeats 4000000 in
theorem mg (p:Pg)(E:List En)(k st cl sl:Nat)(n:Int)(e e':Ex)(O8:(e.op == 2)=false)(h1:e'.op=e.op)(h2:e'.n=e.n)(h3:e'.name=eS)(h4:e'.args=e.args.map (dT E))(Q2:e.args.length≤2)
  (ha:∀ x∈e.args,Body Tryz.prog ak 264 [.ax 0 0,.agg (bR x),I n] [(0,di p E k st cl sl)] 3 (jb (.agg (bR (dT E x))) [(0,di p E k st cl sl)] 3)) :
  Body Tryz.prog ak 264 [.ax 0 0,.agg (bR e),I n] [(0,di p E k st cl sl)] 3 (jb (.agg (bR e')) [(0,di p E k st cl sl)] 3):=by
 have PO:=fun (i:Nat) (x:Ex) (h:e.args[i]? = some x)=>aN (f:=bR) (n:=4) bP (m:=e.args) h;refine Body.jA Tryz.func264 rfl OV (by simp[Tryz.ntmps264]) fun C hC O0=>?_;rw[Tryz.ntmps264] at hC;rw[b9 e];apply aq;simp[hC];apply aO;simp[hC,O8];refine gw ?_;simp;apply aq;simp[hC];apply aO;simp[hC];apply T.block;refine T.aH (J131 p E k st cl sl e n) (n:=e.args.length) ?_ ?_
 ·refine ae.le (Le.pO 5 3 80 4 rfl rfl) ?_;simp;refine ae.trim [9,8,6,4,0,2] [0,3,4,5,6] 7 (by simp[di,oW]) yA ⟨0,by omega,by omega,?_⟩;rw[b9 e];simp[lu]
 ·rintro m s ⟨i,rfl,hi,rfl⟩;by_cases OX:i<e.args.length
  ·obtain⟨a,PS⟩:∃ a,e.args[i]? = some a:=⟨e.args[i],List.getElem?_eq_getElem OX⟩;have OZ:=PO i a PS;have hb:=ha a (List.mem_of_getElem? PS);have wi:=cC ((i:Int)+1) yA yA;rw[b9 e];apply aO;simp[hC,OX];refine fB ?_;simp;apply ed;refine T.rx ai follows [0,1,2,3,4,5,6,7,8,9,10,11,12,13] [(1,9),(1,10)] OV ?_;simp[hC,OX,OZ];have Pd:List.take (i+1) (List.map (dT E) e.args)=List.take i (List.map (dT E) e.args)++[dT E a]:=by
    rw[List.take_add_one,List.getElem?_map,PS];rfl
   have Ww:(List.take i (List.map (dT E) e.args)).length=i:=by simp;omega
   generalize hN:List.take i (List.map (dT E) e.args)=N at Pd Ww;have UZ:=bM (f:=bR) (n:=4) bP N;rw[Ww] at UZ;have hbd:(i+1)*56≤140737488355328:=by omega
   have hbd2:(i+1)*64≤140737488355328:=by omega
   refine RX.cK [0] [] 3 (hb) rfl OU rfl rfl rfl rfl OU Qc Qb rfl rfl rfl OU ?_;simp[lu,bP,UZ,hbd,bb,-List.length_flatMap];apply aV;simp[hC,wi];refine⟨e.args.length-(i+1),by omega,?_⟩;have X6:(N++[dT E a]).flatMap bR=N.flatMap bR++bR (dT E a):=by simp
   have QU:trees (N.flatMap bR++bR (dT E a))=true:=by rw[← X6];exact aQ bz _
   refine ae.le (Le.trim [9,8,6,4,0,2] [0,3,4,5,21] 22 yCv yA) ?_;simp;refine ae.le (Le.oX 21 6 rfl rfl yA OU OU yCu) ?_;simp only[di,oW];simp[aZ (aQ bz N)];have WN:(e.args.take (i+1)).map (dT E)=N++[dT E a]:=by rw[List.map_take];exact Pd
   refine ae.trim [9,8,6,4,0,2] [0,3,4,5,6] 7 yDb yA ⟨i+1,rfl,by omega,?_⟩;rw[WN,b9 e];simp[lu,di,oW]
  ·have O6:i=e.args.length:=by omega
   rw[b9 e];apply aO;simp[hC,OX];refine a7 ?_;simp;apply T.exit;simp;apply aq;simp[hC];apply T.ret;subst O6;have Pd:List.take e.args.length (List.map (dT E) e.args)=e'.args:=by rw[h4];exact List.take_of_length_le OU
   have S0:((e'.args.flatMap bR).take (e.args.length*4))=e'.args.flatMap bR:=List.take_of_length_le (by rw[bM (f:=bR) (n:=4) bP,h4];simp);refine ae.le (Le.trim [6] [0,4,6] 7 yCw yA) ?_;simp;refine ae.le (Le.dp (o:=6) rfl (aQ bz _)) ?_;simp[lu,Pd,S0];refine ae.le (Le.dp (o:=4) rfl (by simp[trees,tree])) ?_;simp[di,oW];refine ae.trim [6] [0] 3 OU yA ⟨_,?_,rfl,?_,rfl⟩
   ·simp[b9 e',h1,h2,h3,h4,eS]
   ·simp
theorem j9 (p:Pg){g:Nat}{ms:List Mx}{fs:List (ByteArray×List Pm)}{ps:List Pm}{V:List ByteArray}(E:List En)(k st cl sl:Nat)(hE:EW g ms fs ps V E k)(hl:E.length≤100000)(n:Int):∀ (d:Nat) (e:Ex),fS V d e →
  Body Tryz.prog ak 264 [.ax 0 0,.agg (bR e),I n] [(0,di p E k st cl sl)] 3 (jb (.agg (bR (dT E e))) [(0,di p E k st cl sl)] 3):=by
 have Tx:∀ s∈V,Body Tryz.prog ak 264 [.ax 0 0,.agg (bR (.nm s)),I n] [(0,di p E k st cl sl)] 3 (jb (.agg (bR (dT E (.nm s)))) [(0,di p E k st cl sl)] 3):=by
  intro s hs;obtain⟨c,j,h1,h2⟩:=hE.v s hs;have hv:=sI p E k st cl sl hl s _ h1 (by simp only;omega) n;simp only[dT,ia h1];refine Body.jA Tryz.func264 rfl OV (by simp[Tryz.ntmps264]) fun C hC O0=>?_;rw[Tryz.ntmps264] at hC;simp only[di,oW] at hv ⊢;apply aq;simp[hC,bR];apply aO;simp[hC];refine fE ?_;simp;apply aq;simp[hC];refine TL.cK ai [0] 3 (hv) O5 rfl rfl rfl rfl OU Qc Qb rfl (TL.go' ai ?_);simp[hC,im];rcases h2 with ⟨rfl,h2⟩ | ⟨rfl,h2⟩
  ·apply aO;simp[hC];refine fE ?_;simp;apply aq;simp[hC];apply T.ret;refine ae.le (Le.trim [6] [0,4] 5 QJ yA) ?_;simp;refine ae.le (Le.nz [] [4]) ?_;simp;refine ae.le (Le.dp (o:=4) rfl Uq) ?_;simp;refine ae.trim [6] [0] 3 OU yA ⟨_,?_,rfl,?_,rfl⟩
   ·simp[bR,eS]
   ·simp
  ·apply aO;simp[hC];refine gw ?_;simp;apply aq;simp[hC];apply T.ret;refine ae.le (Le.trim [6] [0,4] 5 QJ yA) ?_;simp;refine ae.le (Le.nz [] [4]) ?_;simp;refine ae.le (Le.dp (o:=4) rfl Uq) ?_;simp;refine ae.trim [6] [0] 3 OU yA ⟨_,?_,rfl,?_,rfl⟩
   ·simp[bR,eS]
   ·simp
 intro d
 induction d with
 | zero=>
  intro e hw
  match e,hw with
  | .nm s,hw=>exact Tx s (by simpa [fS] using hw)
  | .num c,hw=>exact mg p E k st cl sl n (.num c) (.num c) rfl rfl rfl rfl rfl Sj Sj
 | succ d ih=>
  intro e hw
  match e,hw with
  | .nm s,hw=>exact Tx s (by simpa [fS] using hw)
  | .num c,hw=>exact mg p E k st cl sl n (.num c) (.num c) rfl rfl rfl rfl rfl Sj Sj
  | .un o x,hw=>
   simp only[fS] at hw;refine mg p E k st cl sl n (.un o x) (.un o (dT E x)) (by simp[Ex.op];omega) rfl rfl rfl rfl Sj fun y hy=>?_;simp only[Ex.args,List.mem_singleton] at hy;subst hy;exact ih _ hw.2
  | .bin o x y,hw=>
   simp only[fS] at hw;refine mg p E k st cl sl n (.bin o x y) (.bin o (dT E x) (dT E y)) (by simp[Ex.op];omega) rfl rfl rfl rfl Sj fun z hz=>?_;simp only[Ex.args,List.mem_cons,List.not_mem_nil,or_false] at hz;rcases hz with rfl | rfl
   ·exact ih _ hw.2.1
   ·exact ih _ hw.2.2
def xL (o:Option Ex):List Ex:=match o with
 | none=>[]
 | some e=>[e]
theorem nQ (o:Option Ex):pv o=.aA ((xL o).flatMap bR) (xL o).length:=by cases o<;>simp[pv,xL]
def J134 (p:Pg)(E:List En)(k st cl sl:Nat)(nm:ByteArray)(il:List Ex)(b:Bool)(j:Nat)(n:Int)(m:Nat)(s:St):Prop:=∃ i:Nat,m=il.length-i∧i≤il.length∧
 s=⟨[(11,I i),(9,.ax 18 0),(6,.ax 4 0),(4,.ax 3 0),(0,.ax 0 0),(2,I n)],[(0,di p E k st cl sl),(3,⟨262,0,[.str nm,.aA (il.flatMap bR) il.length]⟩),(4,⟨82,0,[.bool false,I 0,.aa]⟩),(18,⟨82,0,[.bool b,I j,.bl 19 0 i]⟩),(19,lu ((il.take i).map (dT E)))],20⟩
set_option maxHeartbeats 4000000 in
theorem D6 (p:Pg){g:Nat}{fs:List (ByteArray×List Pm)}{ps:List Pm}{V:List ByteArray}(E:List En)(k st cl sl:Nat)(hE:EW g p.ms fs ps V E k)(hl:E.length≤100000)(_hm:p.ms.length≤1000)(n:Int)(r:Rf)(hr:Gy p.ms ps V r) :
  Body Tryz.prog ak 267 [.ax 0 0,.agg (kY r),I n] [(0,di p E k st cl sl)] 3 (jb (.agg (pN (y7 E r))) [(0,di p E k st cl sl)] 3):=by
 obtain⟨c,j,hf,U4,he⟩:∃ c j,iX E r.name=some ⟨r.name,c,j⟩∧((c=2∧∃ m,p.ms[j]? = some m∧((0:Int)<m.size↔0<(xL r.index).length))∨(c=5∧(xL r.index).length=0))∧∀ e∈xL r.index,fS V 1 e:=by
  rcases hr with ⟨m,h1,h2,h3⟩ | ⟨q,h1,h2,h3,h4⟩
  ·obtain⟨j,h4,h5⟩:=hE.m m h1;rw[← h2] at h4;refine⟨2,j,h4,.inl ⟨rfl,m,h5,?_⟩,fun e he=>?_⟩
   ·rcases h3 with ⟨h6,h7⟩ | ⟨e,h6,h7,_⟩
    ·simp[h6,xL,h7]
    ·simp[h6,xL,h7]
   ·rcases h3 with ⟨h6,h7⟩ | ⟨e',h6,h7,h8⟩
    ·simp[h6,xL] at he
    ·simp only[h6,xL,List.mem_singleton] at he;subst he;exact h8
  ·obtain⟨j,h5,h6⟩:=hE.p q h1 h2;rw[← h3] at h5;exact⟨5,j,h5,.inr ⟨rfl,by simp[h4,xL]⟩,fun e he=>by simp[h4,xL] at he⟩
 have Sa:=qI E r.name hl;rw[hf] at Sa;have P0:pN (y7 E r)=[.bool (decide (c=5)),I j,.aA (((xL r.index).map (dT E)).flatMap bR) ((xL r.index).map (dT E)).length]:=by
  simp only[y7,pN,ia hf,nQ];cases r.index<;>simp[xL]
 have PO:=fun (i:Nat) (x:Ex) (h:(xL r.index)[i]? = some x)=>aN (f:=bR) (n:=4) bP (m:=xL r.index) h;have Qq:(xL r.index).length≤1:=by cases r.index<;>simp[xL]
 rw[P0];simp only[kY,nQ];generalize xL r.index=il at U4 he PO Qq;generalize r.name=nm at hf Sa;clear P0 hr;refine Body.jA Tryz.func267 rfl OV (by simp[Tryz.ntmps267]) fun C hC O0=>?_;rw[Tryz.ntmps267] at hC;apply aq;simp[hC];apply T.seq;refine T.rx ai follows [0,1,2,3,4,5,10,6,7,8,9,11,12] [(3,10),(5,10),(10,6)] OV ?_;simp[hC,di,oW];refine RX.call rfl OU rfl rfl rfl Pc (Sa) ?_;simp[qH,im];have hc5:((c:Int) == 5)=decide (c=5):=by rcases U4 with ⟨rfl,_⟩ | ⟨rfl,_⟩<;>rfl
 apply aq;simp[hC,hc5];refine T.cut (fun s=>s=⟨[(9,.ax 18 0),(6,.ax 4 0),(4,.ax 3 0),(0,.ax 0 0),(2,I n)],[(0,di p E k st cl sl),(3,⟨262,0,[.str nm,.aA (il.flatMap bR) il.length]⟩),(4,⟨82,0,[.bool false,I 0,.aa]⟩),(18,⟨82,0,[.bool (decide (c=5)),I j,.aa]⟩)],19⟩) ?_ ?_
 ·rcases U4 with ⟨rfl,m,hmj,hiff⟩ | ⟨rfl,Uf⟩
  ·have hmd:=bQ (f:=eJ) (n:=3) (fun _=>rfl) hmj 2 yA;have Pn:=(List.getElem?_eq_some_iff.1 hmj).1;apply T.block;apply aq;simp[hC];refine a7 ?_;simp;apply aq;simp[hC];refine a7 ?_;simp;apply T.seq;refine T.rx ai follows [0,1,2,3,4,5,6,7,8,9,10,11,12,13,14,15,16] [] OV ?_;simp[hC,Pn,hmd,eJ];by_cases hz:0<il.length
   ·have Qw:0<m.size:=by omega
    apply aq;simp[hC,hz,Qw];refine gw ?_;simp;refine ae.trim [9,6,4,0,2] [0,3,4,18] 19 OU yA ?_;simp[di,oW]
   ·have Qw:¬ 0<m.size:=by omega
    apply aq;simp[hC,hz,Qw];refine gw ?_;simp;refine ae.trim [9,6,4,0,2] [0,3,4,18] 19 OU yA ?_;simp[di,oW]
  ·apply T.block;apply aq;simp[hC];refine a7 ?_;simp;apply aq;simp[hC];refine a7 ?_;simp;apply T.seq;refine T.rx ai follows [0,1,2,3,4,5,6,7,8,9,10,11,12,13,14,15,16] [] OV ?_;simp[hC];apply aq;simp[hC,Uf];refine gw ?_;simp;refine ae.trim [9,6,4,0,2] [0,3,4,18] 19 OU yA ?_;simp[di,oW]
 rintro s rfl;apply aO;simp[hC];apply T.block;refine T.aH (J134 p E k st cl sl nm il (decide (c=5)) j n) (n:=il.length) ?_ ?_
 ·refine ae.le (Le.pO 18 2 80 4 rfl rfl) ?_;simp;refine ae.trim [11,9,6,4,0,2] [0,3,4,18,19] 20 (by simp[di,oW]) yA ⟨0,by omega,by omega,?_⟩;simp[lu]
 ·rintro m s ⟨i,rfl,hi,rfl⟩;by_cases OX:i<il.length
  ·obtain⟨a,PS⟩:∃ a,il[i]? = some a:=⟨il[i],List.getElem?_eq_getElem OX⟩;have OZ:=PO i a PS;have hb:=j9 p E k st cl sl hE hl n 1 a (he a (List.mem_of_getElem? PS));have wi:=cC ((i:Int)+1) yA yA;apply aO;simp[hC,OX];refine fB ?_;simp;apply ed;refine T.rx ai follows [0,1,2,3,4,5,6,7,8,9,10,11,12,13] [(1,9),(1,10)] OV ?_;simp[hC,OX,OZ];have Pd:List.take (i+1) (List.map (dT E) il)=List.take i (List.map (dT E) il)++[dT E a]:=by
    rw[List.take_add_one,List.getElem?_map,PS];rfl
   have Ww:(List.take i (List.map (dT E) il)).length=i:=by simp;omega
   generalize hN:List.take i (List.map (dT E) il)=N at Pd Ww;have UZ:=bM (f:=bR) (n:=4) bP N;rw[Ww] at UZ;have hbd:(i+1)*56≤140737488355328:=by omega
   have hbd2:(i+1)*64≤140737488355328:=by omega
   refine RX.cK [0] [] 3 (hb) rfl OU rfl rfl rfl rfl OU Qc Qb rfl rfl rfl OU ?_;simp[lu,bP,UZ,hbd,bb,-List.length_flatMap];apply aV;simp[hC,wi];refine⟨il.length-(i+1),by omega,?_⟩;have X6:(N++[dT E a]).flatMap bR=N.flatMap bR++bR (dT E a):=by simp
   have QU:trees (N.flatMap bR++bR (dT E a))=true:=by rw[← X6];exact aQ bz _
   refine ae.le (Le.trim [11,9,6,4,0,2] [0,3,4,18,34] 35 yCv yA) ?_;simp;refine ae.le (Le.oX 34 19 rfl rfl yA OU OU yCu) ?_;simp only[di,oW];simp[aZ (aQ bz N)];have WN:(il.take (i+1)).map (dT E)=N++[dT E a]:=by rw[List.map_take];exact Pd
   refine ae.trim [11,9,6,4,0,2] [0,3,4,18,19] 20 yDb yA ⟨i+1,rfl,by omega,?_⟩;rw[WN];simp[lu,di,oW]
  ·have O6:i=il.length:=by omega
   apply aO;simp[hC,OX];refine a7 ?_;simp;apply T.exit;simp;apply aq;simp[hC];apply T.ret;subst O6;have Pd:List.take il.length (List.map (dT E) il)=il.map (dT E):=List.take_of_length_le OU;have S0:(((il.map (dT E)).flatMap bR).take (il.length*4))=(il.map (dT E)).flatMap bR:=List.take_of_length_le (by rw[bM (f:=bR) (n:=4) bP];simp);refine ae.le (Le.trim [6] [0,4,19] 20 yCw yA) ?_;simp;refine ae.le (Le.dp (o:=19) rfl (aQ bz _)) ?_;simp[lu,Pd,S0];refine ae.le (Le.dp (o:=4) rfl (by simp[trees,tree])) ?_;simp[di,oW];refine ae.trim [6] [0] 3 OU yA ⟨_,?_,rfl,?_,rfl⟩
   ·simp
   ·simp
theorem sr (E:List En):∀ a b:List Ar,db E (a++b)=db E a++db E b
 | [],b=>rfl
 | .exp e::a,b=>by simp[db,sr E a b]
 | .vm r::a,b=>by simp[db,sr E a b]
theorem vd (E:List En):∀ a b:List Ar,e8 E (a++b)=e8 E a++e8 E b
 | [],b=>rfl
 | .exp e::a,b=>by simp[e8,vd E a b]
 | .vm r::a,b=>by simp[e8,vd E a b]
theorem sq (E:List En):∀ a:List Ar,(db E a).length≤a.length
 | []=>Nat.le_refl _
 | .exp e::a=>by have:=sq E a;simp[db];omega
 | .vm r::a=>by have:=sq E a;simp[db];omega
theorem vc (E:List En):∀ a:List Ar,(e8 E a).length≤a.length
 | []=>Nat.le_refl _
 | .exp e::a=>by have:=vc E a;simp[e8];omega
 | .vm r::a=>by have:=vc E a;simp[e8];omega
theorem Ju {ms:List Mx}{ps:List Pm}{V:List ByteArray}:∀ {gp:List Pm} {al:List Ar} {i:Nat} {a:Ar},jw ms ps V gp al→al[i]? = some a→∃ q,gp[i]? = some q∧ArW ms ps V q a
 | [],[],_,_,_,h=>by simp at h
 | q::gp,b::al,0,a,hw,h=>by
  simp only[jw] at hw;simp only[List.getElem?_cons_zero,Option.some.injEq] at h;subst h;exact⟨q,rfl,hw.1⟩
 | q::gp,b::al,i+1,a,hw,h=>by
  simp only[jw] at hw;simp only[List.getElem?_cons_succ] at h;obtain⟨q',h1,h2⟩:=Ju hw.2 h;exact⟨q',by simpa using h1,h2⟩
 | [],_::_,_,_,hw,_=>hw.elim
 | _::_,[],_,_,hw,_=>hw.elim
theorem ui (x:Pl):(pN x).length=3:=rfl
theorem jV (x:Pl):trees (pN x)=true:=by
 rcases x with ⟨_,_,_ | e⟩
 ·rfl
 ·simp only[pN,pv,trees,tree,Bool.and_self]
def wQ (l:List Pl):Ob:=⟨82,3,l.flatMap pN⟩
def BY:List CV:=[I 0,I 0,.bool false,I 0,I 0,.str ⟨#[]⟩,.aa,.bool false,I 0,.aa,.aa,.aa]
def pG (kd:Int)(nm:ByteArray)(al:List Ar):List CV:=[I kd,.str nm,I 0,I 0,.str ⟨#[]⟩,.aA [] 0,.str ⟨#[]⟩,.aA [] 0,.aA (al.flatMap pe) al.length,.aA [] 0,.aA [] 0]
def J133 (p:Pg)(E:List En)(k st cl sl:Nat)(n:Int)(kd op:Int)(nm:ByteArray)(j:Nat)(gp:List Pm)(al:List Ar)(m:Nat)(s:St):Prop:=∃ i:Nat,m=al.length-i∧i≤al.length∧
 s=⟨[(11,I i),(10,.aA (gp.flatMap lh) gp.length),(7,.ax 5 0),(6,.ax 4 0),(4,.ax 3 0),(0,.ax 0 0),(2,I n)],[(0,di p E k st cl sl),(3,⟨265,0,pG kd nm al⟩),(4,⟨85,0,BY⟩),
  (5,⟨85,0,[I op,I j,.bool false,I 0,I 0,.str ⟨#[]⟩,.aa,.bool false,I 0,.aa,.bl 6 0 (db E (al.take i)).length,.bl 7 0 (e8 E (al.take i)).length]⟩),(6,lu (db E (al.take i))),(7,wQ (e8 E (al.take i)))],8⟩
set_option maxHeartbeats 4000000 in
theorem Ih (p:Pg){g:Nat}{ps:List Pm}{V:List ByteArray}(E:List En)(k st cl sl:Nat)(hE:EW g p.ms (p.fs.map fun f=>(f.name,f.params)) ps V E k)(hl:E.length≤100000)(hm:p.ms.length≤1000)(_hfl:p.fs.length≤1000)(n:Int)(go:Bool)(nm:ByteArray)(gp:List Pm)(al:List Ar)
  (hg:(nm,gp)∈p.fs.map fun f=>(f.name,f.params)) (hw:jw p.ms ps V gp al) (TY:gp.length≤1000) :
  Body Tryz.prog ak 266 [.ax 0 0,.agg (ik (.ef go nm al)),I n] [(0,di p E k st cl sl)] 3 (jb (.agg (dt (.call go (lV E nm).n (db E al) (e8 E al)))) [(0,di p E k st cl sl)] 3):=by
 obtain⟨j,hf,Q4⟩:=hE.f _ hg;have Zq:=hw.len;have Sa:=qI E nm hl;rw[hf] at Sa;rw[ia hf];have hs:ik (.ef go nm al)=pG (if go=true then 4 else 3) nm al:=rfl;rw[hs];obtain⟨f,Wq,Vu⟩:∃ f,p.fs[j]? = some f∧f.params=gp:=by
  rw[List.getElem?_map,Option.map_eq_some_iff] at Q4;obtain⟨f,h1,h2⟩:=Q4;exact⟨f,h1,by injection h2⟩
 have hfd1:=bQ (f:=fq) (n:=3) (fun _=>rfl) Wq 1 yA;have Pn:=(List.getElem?_eq_some_iff.1 Wq).1;refine Body.jA Tryz.func266 rfl OV (by simp[Tryz.ntmps266]) fun C hC O0=>?_;rw[Tryz.ntmps266] at hC;apply aq;simp[hC];apply aq;simp[hC];simp only[di,oW,pG];refine T.cut (fun s=>s=⟨[(7,.ax 5 0),(6,.ax 4 0),(4,.ax 3 0),(0,.ax 0 0),(2,I n)],[(0,di p E k st cl sl),(3,⟨265,0,pG (if go=true then 4 else 3) nm al⟩),(4,⟨85,0,BY⟩),(5,⟨85,0,[I (if go=true then 3 else 2),I 0,.bool false,I 0,I 0,.str ⟨#[]⟩,.aa,.bool false,I 0,.aa,.aa,.aa]⟩)],6⟩) ?_ ?_
 ·cases go with
  | true=>
   apply aq;simp[hC];refine fE ?_;simp;apply aV;simp[hC];refine ae.trim [7,6,4,0,2] [0,3,4,5] 6 OU yA ?_;simp[di,oW,pG,BY]
  | false=>
   apply aq;simp[hC];refine gw ?_;simp;refine ae.trim [7,6,4,0,2] [0,3,4,5] 6 OU yA ?_;simp[di,oW,pG,BY]
 rintro s rfl;apply T.seq;refine T.rx ai follows [0,1,2,3,4,5,10,6,7,8,9,11,12] [(3,10),(5,10),(10,6)] OV ?_;simp[hC,di,oW,pG,BY];refine RX.call rfl OU rfl rfl rfl Pc (Sa) ?_;simp[qH,im];apply ed;apply aq;simp[hC];refine a7 ?_;simp;apply aq;simp[hC];refine gw ?_;simp;apply aq;simp[hC];apply T.seq;refine T.rx ai follows [0,1,2,3,4,5,6,7,8,9,10] [] OV ?_;simp[hC,Pn,hfd1,fq,Vu];apply aO;simp[hC,Zq];refine gw ?_;simp;refine T.le (Le.trim [10,7,6,4,0,2] [0,3,4,5] 6 OU yA) ?_;simp;generalize (if go=true then (4:Int) else 3)=kd;have O8:(if go=true then (3:Int) else 2)=(if go then 3 else 2:Int):=rfl;generalize W2:(if go=true then (3:Int) else 2)=op;apply aO;simp[hC];apply T.block;refine T.aH (J133 p E k st cl sl n kd op nm j gp al) (n:=al.length) ?_ ?_
 ·refine ae.le (Le.pO 5 10 80 4 rfl rfl) ?_;simp;refine ae.le (Le.pO 5 11 82 3 rfl rfl) ?_;simp;refine ae.trim [11,10,7,6,4,0,2] [0,3,4,5,6,7] 8 OU yA ⟨0,by omega,by omega,?_⟩;simp[lu,wQ,db,e8,di,oW,pG,BY,Zq]
 ·rintro m s ⟨i,rfl,hi,rfl⟩;by_cases OX:i<al.length
  ·obtain⟨a,PS⟩:∃ a,al[i]? = some a:=⟨al[i],List.getElem?_eq_getElem OX⟩;obtain⟨q,hiq,haw⟩:=Ju hw PS;have OZ:=aN (f:=pe) (n:=7) uE PS;have VW:=bQ (f:=lh) (n:=2) (fun _=>rfl) hiq 1 yA;have Qq:i<gp.length:=by omega
   have wi:=cC ((i:Int)+1) yA yA;have Pd:al.take (i+1)=al.take i++[a]:=by rw[List.take_add_one,PS];rfl
   have Vr:=sq E (al.take i);have R6:=vc E (al.take i);rw[List.length_take] at Vr R6;have hI:db E (al.take (i+1))=db E (al.take i)++db E [a]:=by rw[Pd,sr]
   have hP:e8 E (al.take (i+1))=e8 E (al.take i)++e8 E [a]:=by rw[Pd,vd]
   generalize db E (al.take i)=NI at Vr hI;generalize e8 E (al.take i)=NP at R6 hP;have f1:=bM (f:=bR) (n:=4) bP NI;have f2:=bM (f:=pN) (n:=3) ui NP;have b1:(NI.length+1)*56≤140737488355328:=by omega
   have b2:(NP.length+1)*48≤140737488355328:=by omega
   have b3:(NP.length+1)*40≤140737488355328:=by omega
   have htp:∀ x:Pl,List.take 3 (pN x)=pN x:=fun _=>rfl;have hte:∀ x:Ex,List.take 4 (bR x)=bR x:=fun x=>List.take_of_length_le (by rw[bP];exact Nat.le_refl _);have tE:=aQ bz NI;have tP:=aQ jV NP;apply aO;simp[hC,Qq];refine fB ?_;simp;apply ed
   cases a with
   | vm r=>
    have hb:=D6 p E k st cl sl hE hl hm n r haw.2;have hqm:q.mutex=true:=haw.1;obtain⟨rn,ri⟩:=r;obtain⟨q1,q2,hq⟩:∃ cs n,pv ri=.aA cs n:=by cases ri<;>exact⟨_,_,rfl⟩
    simp only[kY,hq] at hb;simp only[pe,kY,bR,hq,List.cons_append,List.nil_append] at OZ;apply aq;simp[hC,OX,OZ,pG];refine T.seq (T.seq ?_);refine T.rx ai follows [0,1,2,3,4,5,6,7] [] OV ?_;simp[hC,Qq,VW,lh,hqm];refine gw ?_;simp;apply aq;simp[hC];refine fE ?_;simp;refine T.rx ai follows [0,1,2,3,4,5,6,7,8,9,10] [(1,6),(1,7)] OV ?_;simp[hC];refine RX.cK [0] [] 3 (hb) rfl OU rfl rfl rfl rfl OU Qc Qb rfl rfl rfl OU ?_;simp[wQ,ui,f2,b3,htp,bb,-List.length_flatMap];apply aV;simp[hC,wi];refine⟨al.length-(i+1),by omega,?_⟩;have tQ:=jV (y7 E ⟨rn,ri⟩);refine ae.le (Le.trim [11,10,7,6,4,0,2] [0,3,4,5,6,28] 29 (by simp only[di,oW,BY,lu];simp[-List.all_eq_true,-List.all_flatMap,ah tE,ah tP,ah tQ]) yA) ?_;simp;refine ae.le (Le.oX 28 7 rfl rfl yA OU OU (by simp only[di,oW,BY,lu];simp[-List.all_eq_true,-List.all_flatMap,bj tE,bj tP,bj tQ])) ?_;simp only[di,oW,BY,lu];simp[aZ tE,aZ tP,aZ tQ];refine ae.trim [11,10,7,6,4,0,2] [0,3,4,5,6,7] 8 (by simp[-List.all_eq_true,-List.all_flatMap,ah tE,ah tP,ah tQ]) yA ⟨i+1,rfl,by omega,?_⟩;rw[hI,hP];simp[lu,wQ,db,e8,di,oW,pG,BY]
   | exp e=>
    have hb:=j9 p E k st cl sl hE hl n 2 e haw.2;have hqm:q.mutex=false:=haw.1;simp only[pe,b9 e,k8,List.cons_append,List.nil_append] at OZ;rw[b9 e] at hb;apply aq;simp[hC,OX,OZ,pG];refine T.seq (T.seq ?_);refine T.rx ai follows [0,1,2,3,4,5,6,7] [] OV ?_;simp[hC,Qq,VW,lh,hqm];refine gw ?_;simp;apply aq;simp[hC];refine a7 ?_;simp;refine T.rx ai follows [0,1,2,3,4,5,6,7,8,9,10] [(1,6),(1,7)] OV ?_;simp[hC];refine RX.cK [0] [] 3 (hb) rfl OU rfl rfl rfl rfl OU Qc Qb rfl rfl rfl OU ?_;simp[lu,bP,f1,b1,hte,bb,-List.length_flatMap];apply aV;simp[hC,wi];refine⟨al.length-(i+1),by omega,?_⟩;have tQ:=bz (dT E e);refine ae.le (Le.trim [11,10,7,6,4,0,2] [0,3,4,5,28,7] 29 (by simp only[di,oW,BY,wQ];simp[-List.all_eq_true,-List.all_flatMap,ah tE,ah tP,ah tQ]) yA) ?_;simp;refine ae.le (Le.oX 28 6 rfl rfl yA OU OU (by simp only[di,oW,BY,wQ];simp[-List.all_eq_true,-List.all_flatMap,bj tE,bj tP,bj tQ])) ?_;simp only[di,oW,BY,wQ];simp[aZ tE,aZ tP,aZ tQ];refine ae.trim [11,10,7,6,4,0,2] [0,3,4,5,6,7] 8 (by simp[-List.all_eq_true,-List.all_flatMap,ah tE,ah tP,ah tQ]) yA ⟨i+1,rfl,by omega,?_⟩;rw[hI,hP];simp[lu,wQ,db,e8,di,oW,pG,BY]
  ·have O6:i=al.length:=by omega
   have Qq:¬ i<gp.length:=by omega
   apply aO;simp[hC,Qq];refine a7 ?_;simp;apply T.exit;simp;apply aq;simp[hC];apply T.ret;rw[O6,List.take_length];have tE:=aQ bz (db E al);have tP:=aQ jV (e8 E al);have x1:((db E al).flatMap bR).take ((db E al).length*4)=(db E al).flatMap bR:=List.take_of_length_le (by rw[bM (f:=bR) (n:=4) bP];exact Nat.le_refl _);have x2:((e8 E al).flatMap pN).take ((e8 E al).length*3)=(e8 E al).flatMap pN:=List.take_of_length_le (by rw[bM (f:=pN) (n:=3) ui];exact Nat.le_refl _);generalize db E al=NI at tE x1;generalize e8 E al=NP at tP x2;refine ae.le (Le.trim [6] [0,4,6,7] 8 (by simp only[di,oW,lu,wQ];simp[-List.all_eq_true,-List.all_flatMap,ah tE,ah tP,BY]) yA) ?_;simp;refine ae.le (Le.dp (o:=6) rfl tE) ?_;simp[lu,wQ,x1,cI tP];refine ae.le (Le.dp (o:=7) rfl tP) ?_;simp[x2];refine ae.le (Le.nz [] [4]) ?_;simp[BY];refine ae.le (Le.dp (o:=4) rfl (by simp[trees,tree])) ?_;simp[di,oW];refine ae.trim [6] [0] 3 OU yA ⟨_,?_,rfl,?_,rfl⟩
   ·simp[dt,bR,eS,sQ,W2]
   ·simp
end Go.Proofs.YtnecpnjdonibmaaGreat
namespace Go.Can
open Go.RowKit
section
variable {P:Program}{C:Cx}{σ:Nat→Option OB}{s:St}{a:Act}{w:World}{ops:Array Oper}{ak:List (Nat×TI)}
theorem Body.grow {ρ:Nat→Nat}(hi:∀ x y,ρ x=ρ y→x=y){f:FuncId}{args:List CV}{H:List (Nat×Ob)}{n n' d:Nat}{R:CV→St→Prop}(hρ:∀ p,p<n→ρ p<n')(hρ2:∀ p,n≤p→ρ p=p-n+n')(h:Body P ak f args H n R)(ha:aX n args=true)(hH:dc n H=true)(hR:∀ r s,R r s→s.nx=n+d) :
  Body P ak f (ca ρ args) (cj ρ H) n' fun r s=>∃ r1 s1,R r1 s1∧r=dR ρ r1∧s=⟨dj ρ s1.env,cj ρ s1.heap,n' + d⟩:=by
 obtain⟨fn,c,hf,hb,P2,hl,hT⟩:=h;refine⟨fn,c,hf,hb,P2,by rw[gy];exact hl,fun C' hC O0 a w ⟨σ,hr⟩=>?_⟩;rw[ya] at hr;have O4:∀ (t:Nat) c o,assoc (enter args).env t=some c→aL o c=false→o<n:=fun t c o hc ho=>by
  obtain⟨_,h2⟩:=fw args 0 t c hc;have hm:c∈args:=List.mem_of_getElem? h2;rw[cB,List.all_eq_true] at ha;exact lM n c o (ha c hm) ho
 obtain⟨σt,hσt⟩:∃ σt:Nat→Option OB,σt=below (fun p=>σ (ρ p)) n fun _=>none:=⟨_,rfl⟩;have t1:∀ p,p<n→σt p=σ (ρ p):=fun p hp=>by rw[hσt];exact gC hp
 have t2:∀ p,n≤p→σt p=none:=fun p hp=>by rw[hσt];exact km hp
 have PT:∀ (G:List (Nat×Ob)),(∀ o ob,assoc G o=some ob→o<n)→∀ b,(C'.F b∨∃ o ob,assoc G o=some ob∧aY σt o=some b)↔FB C' σ (cj ρ G) b:=fun G hG b=>by
  unfold FB;constructor
  ·rintro (h | ⟨o,ob,ho,hx⟩)
   ·exact .inl h
   ·refine .inr ⟨ρ o,cc ρ ob,by rw[ch hi,ho];rfl,?_⟩;unfold aY at hx ⊢;rwa [t1 o (hG o ob ho)] at hx
  ·rintro (h | ⟨q,ob,hq,hx⟩)
   ·exact .inl h
   ·obtain⟨o,rfl⟩:=ey G q ob hq;rw[ch hi] at hq;obtain⟨Pk,ho,_⟩:=Option.map_eq_some_iff.1 hq;refine .inr ⟨o,Pk,ho,?_⟩;unfold aY at hx ⊢;rwa [t1 o (hG o Pk ho)]
 have Q1:∀ o ob,assoc H o=some ob→o<n:=fun o ob ho=>(iL hH o ob ho).1;have h0:aM ⟨C'.w0,C'.F,C'.own,C'.hF,C'.nt,σt,n⟩ σt ⟨(enter args).env,H,n⟩ a w:=by
  have hK:cw w w (FB C' σ (cj ρ H)) (FB ⟨C'.w0,C'.F,C'.own,C'.hF,C'.nt,σt,n⟩ σt H):=cw.same fun b hx=>(PT H Q1 b).1 hx;refine⟨hr.nk,hr.tm,hr.os,hr.tape,hr.output,hr.size,hr.frame,?_,?_,?_,fun o ho=>t2 o ho,fun _ _=>rfl,Nat.le_refl _,fun o B b ho hB _=>by rw[t2 o ho] at hB;cases hB⟩
  ·intro t c hc;obtain⟨v,k1,k2⟩:=hr.env t (dR ρ c) (by rw[fN,hc];rfl);refine⟨v,k1,?_⟩;exact VR.bk hK _ _ (fun o ho=>t1 o (O4 t c o hc ho)) ((VR.cX ρ c v).1 k2)
  ·intro o ob ho;obtain⟨B,m1,m2,m3,m4,m5⟩:=hr.obj (ρ o) (cc ρ ob) (by rw[ch hi,ho];rfl);have O1:=Q1 o ob ho;refine⟨B,by rw[t1 o O1];exact m1,m2,fun hb=>?_,by have:=m4;simp only[cc,gf] at this;exact this,fun b hb=>?_⟩
   ·have:=m3 hb;simp only[cc] at this;have hl:=gy ρ ob.cells;rw[this] at hl;exact List.eq_nil_of_length_eq_zero hl.symm
   ·obtain⟨cur,n1,n2,n3,n4,n5,n6⟩:=m5 b hb;simp only[cc,gy] at n5 n6;refine⟨cur,n1,n2,n3,n4,n5,?_⟩;exact aS.bk hK _ _ (fun p hp=>t1 p (eX n _ p (iL hH o ob ho).2 hp)) ((aS.cX ρ _ _).1 n6)
  ·intro o o' ob Pk b ho Py hx QG;unfold aY at hx QG;rw[t1 o (Q1 o ob ho)] at hx;rw[t1 o' (Q1 o' Pk Py)] at QG;exact hi _ _ (hr.inj (ρ o) (ρ o') (cc ρ ob) (cc ρ Pk) b (by rw[ch hi,ho];rfl) (by rw[ch hi,Py];rfl) hx QG)
 refine wp_mono (hT ⟨C'.w0,C'.F,C'.own,C'.hF,C'.nt,σt,n⟩ hC rfl a w ⟨_,h0⟩) fun e a' w' ⟨s1,q,σ1,PQ⟩=>?_;have fin:ae ⟨C'.w0,C'.F,C'.own,C'.hF,C'.nt,σt,n⟩ (fun s'=>∃ r,bG ak fn s'=some r∧R r s') s1 →
   ∃ s',ae C' (fun s'=>∃ r,bG ak fn s'=some r∧∃ r1 s1,R r1 s1∧r=dR ρ r1∧s'=⟨dj ρ s1.env,cj ρ s1.heap,n' + d⟩) s'∧Rel C' s' a' w':=fun⟨s2,⟨r,q1,q2⟩,hle⟩=>by
  obtain⟨σ2,Px⟩:=hle _ _ ⟨σ1,PQ⟩;have SD:=hR r s2 q2;obtain⟨e2,H2,n2⟩:=s2;simp only at SD;subst SD;obtain⟨σn,hσn⟩:∃ σn:Nat→Option OB,σn=fun q=>if q<n' then σ q else σ2 (q-n' + n):=⟨_,rfl⟩
  have u1:∀ q,q<n'→σn q=σ q:=fun q hq=>by rw[hσn];exact if_pos hq
  have u2:∀ q,n'≤q→σn q=σ2 (q-n' + n):=fun q hq=>by rw[hσn];exact if_neg yA
  have u3:∀ o,σn (ρ o)=σ2 o:=fun o=>by
   rcases Nat.lt_or_ge o n with ho | ho
   ·rw[u1 _ (hρ o ho),← t1 o ho];exact (Px.fh o ho).symm
   ·rw[hρ2 o ho,u2 _ yA];congr 1;omega
  have Qi:∀ o,aY σn (ρ o)=aY σ2 o:=fun o=>by unfold aY;rw[u3]
  have Um:∀ b,FB C' σn (cj ρ H2) b→FB ⟨C'.w0,C'.F,C'.own,C'.hF,C'.nt,σt,n⟩ σ2 H2 b:=by
   rintro b (h | ⟨q,ob,hq,hx⟩)
   ·exact .inl h
   ·obtain⟨o,rfl⟩:=ey H2 q ob hq;rw[ch hi] at hq;obtain⟨Pk,ho,_⟩:=Option.map_eq_some_iff.1 hq;exact .inr ⟨o,Pk,ho,by rwa [Qi] at hx⟩
  have hK:cw w' w' (FB ⟨C'.w0,C'.F,C'.own,C'.hF,C'.nt,σt,n⟩ σ2 H2) (FB C' σn (cj ρ H2)):=cw.same fun b hx=>Um b hx;refine⟨⟨dj ρ e2,cj ρ H2,n' + d⟩,ae.here ⟨dR ρ r,?_,r,_,q2,rfl,rfl⟩,σn,?_⟩
  ·rw[qN (n:=n+d) hi (fun t cs hc=>?_),q1]
   ·rfl
   ·obtain⟨v,_,k2⟩:=Px.env t _ hc;simp only[VR,cq] at k2;obtain⟨ad,_,h3⟩:=k2;exact av ρ cs (gD.tree cs ad h3)
  ·refine⟨Px.nk,Px.tm,Px.os,Px.tape,Px.output,Px.size,Px.frame,?_,?_,?_,fun q hq=>?_,fun q hq=>?_,by rw[O0];exact Nat.le_add_right _ _,fun q B b hq hB hb=>?_⟩
   ·intro t c hc;simp only[fN] at hc;obtain⟨c',hd,rfl⟩:=Option.map_eq_some_iff.1 hc;obtain⟨v,k1,k2⟩:=Px.env t c' hd;exact⟨v,k1,(VR.cX ρ c' v).2 (VR.bk hK _ _ (fun o _=>u3 o) k2)⟩
   ·intro q ob hq;obtain⟨o,rfl⟩:=ey H2 q ob hq;simp only[ch hi] at hq;obtain⟨Pk,ho,rfl⟩:=Option.map_eq_some_iff.1 hq;obtain⟨B,m1,m2,m3,m4,m5⟩:=Px.obj o Pk ho;refine⟨B,by rw[u3];exact m1,m2,fun hb=>by simp only[cc,m3 hb];rfl,by simp only[cc,gf];exact m4,fun b hb=>?_⟩;obtain⟨cur,n1,Yn,n3,n4,n5,n6⟩:=m5 b hb;simp only[cc,gy];exact⟨cur,n1,Yn,n3,n4,n5,(aS.cX ρ _ _).2 (aS.bk hK _ _ (fun p _=>u3 p) n6)⟩
   ·intro q q' ob Pk b hq RQ hx QG;obtain⟨o,rfl⟩:=ey H2 q ob hq;obtain⟨o',rfl⟩:=ey H2 q' Pk RQ;simp only[ch hi] at hq RQ;obtain⟨x,ho,_⟩:=Option.map_eq_some_iff.1 hq;obtain⟨x',Py,_⟩:=Option.map_eq_some_iff.1 RQ;rw[Qi] at hx QG;rw[Px.inj o o' x x' b ho Py hx QG]
   ·simp only at hq;rw[u2 q yA];exact Px.nx _ (by simp only;omega)
   ·rw[O0] at hq;rw[u1 q hq];exact hr.fh q (by rw[O0];exact hq)
   ·rw[O0] at hq;rw[u2 q hq] at hB;exact Px.new _ B b (by simp only;omega) hB hb
 cases e with
 | normal=>exact fin q
 | ret=>exact fin q
 | exit _=>exact q.elim
 | goto _=>exact q.elim
 | panic _=>exact q.elim
 | outgrown=>exact q.elim
def cQ (l:List Nat)(m p:Nat):Nat:=if p<l.length then l.getD p 0 else p-l.length+m
def HW (l:List Nat)(m:Nat):Bool:=l.all (fun x=>decide (x<m)) && decide ((l.zipIdx).all fun x=>(l.zipIdx).all fun y=>x.1 != y.1 || x.2 == y.2)
theorem CD {l:List Nat}{m:Nat}(h:HW l m=true):∀ p,p<l.length→cQ l m p<m:=by
 intro p hp;simp only[HW,Bool.and_eq_true,List.all_eq_true,decide_eq_true_eq] at h;unfold cQ;rw[if_pos hp,List.getD_eq_getElem?_getD,List.getElem?_eq_getElem hp];exact h.1 _ (List.getElem_mem hp)
theorem DX {l:List Nat}{m:Nat}(h:HW l m=true):∀ x y,cQ l m x=cQ l m y→x=y:=by
 intro x y QL;have O1:=CD h;rcases Nat.lt_or_ge x l.length with hx | hx<;>rcases Nat.lt_or_ge y l.length with hy | hy
 ·simp only[HW,Bool.and_eq_true,decide_eq_true_eq,List.all_eq_true] at h;have h2:=h.2;unfold cQ at QL;rw[if_pos hx,if_pos hy,List.getD_eq_getElem?_getD,List.getD_eq_getElem?_getD,List.getElem?_eq_getElem hx,List.getElem?_eq_getElem hy] at QL;have mx:(l[x],x)∈l.zipIdx:=List.mk_mem_zipIdx_iff_getElem?.2 (List.getElem?_eq_getElem hx);have my:(l[y],y)∈l.zipIdx:=List.mk_mem_zipIdx_iff_getElem?.2 (List.getElem?_eq_getElem hy);have:=h2 _ mx _ my;simp only[Option.getD_some] at QL
  simpa [QL] using this
 ·have h1:=O1 x hx;have h2:cQ l m y=y-l.length+m:=if_neg yA;omega
 ·have h1:=O1 y hy;have h2:cQ l m x=x-l.length+m:=if_neg yA;omega
 ·have h1:cQ l m x=x-l.length+m:=if_neg yA;have h2:cQ l m y=y-l.length+m:=if_neg yA;omega
theorem Body.retN {f:FuncId}{args:List CV}{H H1:List (Nat×Ob)}{n m d:Nat}{r0:CV}(l:List Nat)(hl:l.length=n)(h:Body P ak f args H n (jb r0 H1 (n+d)))(hk:HW l m=true)(hr:aX n args=true)(hH:dc n H=true)(ht:tree r0=true) :
  Body P ak f (ca (cQ l m) args) (cj (cQ l m) H) m (jb r0 (cj (cQ l m) H1) (m+d)):=by
 subst hl;refine (Body.grow (DX hk) (CD hk) (fun p hp=>if_neg yA) h hr hH fun r s h=>h.2.2).ret fun r s ⟨r1,s1,h1,h2,h3⟩=>?_;obtain⟨k1,k2,k3⟩:=h1;subst h3;rw[h2,k1,g7 _ _ ht,k2];exact⟨rfl,rfl,rfl⟩
def lD (ks:List Nat)(m:Nat)(H D:List (Nat×Ob)):Bool:=(H.all fun x=>ks.contains x.1 || decide (m≤x.1)) && D.all fun x=>decide (x.1<m)
theorem TL.vZ (Rp:aG P ak){o:Oper}{l:List Oper}{c:Call}{g:FuncId}{args:List CV}{K:St→Prop}{r0:CV}{H H1:List (Nat×Ob)}(ns ks:List Nat)(n d:Nat)(hb:Body P ak g args H n (jb r0 H1 (n+d)))(hl:ns.length=n)(hk:HW ns s.nx=true)(hd:a6 C.nt o.dst=true)(hg:bZ ops s o=Option.some true)(ho:o.op=.call c)(Ps:bm s c=Option.some (g,ca (cQ ns s.nx) args))
  (hp:eg s.heap ks=Option.some (cj (cQ ns s.nx) H)) (ha:aX n args=true) (hH:dc n H=true) (ht:tree r0=true) (hx:lD ks s.nx (cj (cQ ns s.nx) H1) (dx s.heap ks)=true)
  (hK:TL P C ops l (St.put ⟨s.env,cj (cQ ns s.nx) H1++dx s.heap ks,s.nx+d⟩ o.dst r0) K):TL P C ops (o::l) s K:=by
 intro a w Q hr hQ;have hw:=eT hr hg;obtain⟨σ,hr⟩:=hr;unfold wpList;rw[if_pos hw];refine .inl ?_;have Po:=hb.retN ns hl hk ha hH ht;have Ws:iR P g:=by
  obtain⟨fn,code,hf,P7,P2,_⟩:=Po;exact⟨fn,hf,P2,by simp[P7]⟩
 simp only[lD,Bool.and_eq_true,List.all_eq_true,Bool.or_eq_true,decide_eq_true_eq] at hx;refine oT Rp (mY.of hp) (pf.value ho Ps Ws) Po ?_ hr _ _ ?_
 ·rintro r s1 ⟨_,h1,_⟩ p ob Pk h2 h3;rw[h1] at h2;have m3:=hx.2 _ (bD _ _ _ h3);rw[dQ] at h3;rcases hx.1 _ (bD _ _ _ h2) with hm | hm
  ·rw[if_pos (by simpa using hm)] at h3;cases h3
  ·simp only at m3 hm;omega
 ·rintro r s1 v w' σ' ⟨h1,h2,h3⟩ Pp hv _;subst h1;rw[h2,h3] at Pp;rw[h2] at hv;refine hK _ w' Q ⟨σ',Pp.put ?_ hv⟩ hQ;intro t e;rw[Pp.tm];rw[e] at hd
  simpa [a6] using hd
end
end Go.Can
namespace Go.Proofs.YtnecpnjdonibmaaGreat
open Go.Can Go.aP
def fY (p:Pg)(E:List En)(k st a cl b sl:Nat):Ob:=⟨273,0,[.aA (p.gs.flatMap px) p.gs.length,.aA (p.ms.flatMap eJ) p.ms.length,.aA (p.fs.flatMap fq) p.fs.length,.aA (E.flatMap im) E.length,I k,I st,I 0,I 0,.bl a 0 cl,.bl b 0 sl]⟩
theorem y3 (p:Pg)(E:List En)(k st cl sl:Nat):di p E k st cl sl=fY p E k st 1 cl 2 sl:=rfl
set_option maxHeartbeats 4000000 in
theorem MK (p:Pg)(E:List En)(k st:Nat)(X:List CV)(N:Nat)(hX:X.length=N*12)(tX:trees X=true)(S:List CV)(M:Nat)(hS:S.length=M)(tS:trees S=true)(hN:N≤10000)(hM:M≤10000)
  (cs:List CV) (PE:cs.length=12) (Rg:trees cs=true) (n:Int) :
  Body Tryz.prog ak 204 [.ax 0 0,.agg cs,I n] [(0,fY p E k st 1 N 2 M),(1,⟨85,12,X⟩),(2,⟨3,1,S⟩)] 3 (jb (I N) [(0,fY p E k st 3 (N+1) 4 (M+1)),(3,⟨85,12,X++cs⟩),(4,⟨3,1,S++[I n]⟩)] (3+2)):=by
 refine Body.jA Tryz.func204 rfl OV (by simp[Tryz.ntmps204]) fun C hC O0=>?_;rw[Tryz.ntmps204] at hC;apply aq;simp[hC];have Si:(N+1)*168≤140737488355328:=by omega
 have Qz:(M+1)*8≤140737488355328:=by omega
 have htc:List.take 12 cs=cs:=List.take_of_length_le yA;apply T.seq;refine T.rx ai follows [0,1,2,3,4,5,6,7,8,9,10,11,12,13,14,15,16,17,18,19,20,21] [(5,7),(5,14),(6,14),(7,12),(7,14),(8,12),(8,14),(12,14)] OV ?_;simp[hC,fY,hX,hS,PE,htc,Si,Qz,bb];have w1:=cC (N:Int) yA yA;apply aq;simp[hC,w1];apply T.ret;have tXc:trees (X++cs)=true:=by rw[bC,tX,Rg];rfl
 have tSn:trees (S++[I n])=true:=by rw[bC,tS];rfl
 refine ae.le (Le.trim [6] [0,26,27] 28 (by simp[-List.all_eq_true,-List.all_flatMap,ah tX,ah Rg,ah tS]) yA) ?_;simp;refine ae.le (Le.oX 26 3 rfl rfl yA OU OU (by simp[-List.all_eq_true,-List.all_flatMap,bj tX,bj Rg,bj tS])) ?_;simp[aZ tX,aZ Rg,aZ tS];refine ae.le (Le.oX 27 4 rfl rfl yA OU OU (by simp[-List.all_eq_true,-List.all_flatMap,bj tX,bj Rg,bj tS])) ?_;simp[aZ tX,aZ Rg,aZ tS];refine ae.trim [6] [0,3,4] 5 (by simp[-List.all_eq_true,-List.all_flatMap,ah tX,ah Rg,ah tS]) yA ⟨_,?_,rfl,?_,rfl⟩
 ·simp
 ·simp
end Go.Proofs.YtnecpnjdonibmaaGreat
