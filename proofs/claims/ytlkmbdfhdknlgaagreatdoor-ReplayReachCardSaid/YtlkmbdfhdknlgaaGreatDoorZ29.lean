/- ref. -/
import Derived.Test.YtlkmbdfhdknlgaaGreatDoorZ28
namespace Go.Proofs.YtlkmbdfhdknlgaaGreatDoor
open Go.Can Go.aN
def xf (o:Option Ex):List Ex:=match o with
 | none=>[]
 | some e=>[e]
theorem nq (o:Option Ex):oZ o=.az ((xf o).flatMap bM) (xf o).length:=by cases o<;>simp[oZ,xf]
def J134 (p:Pg)(E:List En)(k st cl sl:Nat)(nm:ByteArray)(il:List Ex)(b:Bool)(j:Nat)(n:Int)(m:Nat)(s:St):Prop:=∃ i:Nat,m=il.length-i∧i≤il.length∧
 s=⟨[(11,I i),(9,.aq 18 0),(6,.aq 4 0),(4,.aq 3 0),(0,.aq 0 0),(2,I n)],[(0,de p E k st cl sl),(3,⟨167,0,[.str nm,.az (il.flatMap bM) il.length]⟩),(4,⟨133,0,[.bool false,I 0,.aj]⟩),(18,⟨133,0,[.bool b,I j,.bp 19 0 i]⟩),(19,k8 ((il.take i).map (dP E)))],20⟩
set_option maxHeartbeats 4000000 in
theorem Dy (p:Pg){g:Nat}{fs:List (ByteArray×List Pm)}{ps:List Pm}{V:List ByteArray}(E:List En)(k st cl sl:Nat)(hE:EW g p.ms fs ps V E k)(hl:E.length≤100000)(_hm:p.ms.length≤1000)(n:Int)(r:Rf)(hr:FR p.ms ps V r) :
  Body Tryz.prog av 114 [.aq 0 0,.agg (kO r),I n] [(0,de p E k st cl sl)] 3 (jA (.agg (pt (yh E r))) [(0,de p E k st cl sl)] 3):=by
 obtain⟨c,j,hf,UC,he⟩:∃ c j,iJ E r.name=some ⟨r.name,c,j⟩∧((c=2∧∃ m,p.ms[j]? = some m∧((0:Int)<m.size↔0<(xf r.index).length))∨(c=5∧(xf r.index).length=0))∧∀ e∈xf r.index,fK V 1 e:=by
  rcases hr with ⟨m,h1,h2,h3⟩ | ⟨q,h1,h2,h3,h4⟩
  ·obtain⟨j,h4,h5⟩:=hE.m m h1;rw[← h2] at h4;refine⟨2,j,h4,.inl ⟨rfl,m,h5,?_⟩,fun e he=>?_⟩
   ·rcases h3 with ⟨h6,h7⟩ | ⟨e,h6,h7,_⟩
    ·simp[h6,xf,h7]
    ·simp[h6,xf,h7]
   ·rcases h3 with ⟨h6,h7⟩ | ⟨e',h6,h7,h8⟩
    ·simp[h6,xf] at he
    ·simp only[h6,xf,List.mem_singleton] at he;subst he;exact h8
  ·obtain⟨j,h5,h6⟩:=hE.p q h1 h2;rw[← h3] at h5;exact⟨5,j,h5,.inr ⟨rfl,by simp[h4,xf]⟩,fun e he=>by simp[h4,xf] at he⟩
 have Rz:=qD E r.name hl;rw[hf] at Rz;have PA:pt (yh E r)=[.bool (decide (c=5)),I j,.az (((xf r.index).map (dP E)).flatMap bM) ((xf r.index).map (dP E)).length]:=by
  simp only[yh,pt,gV hf,nq];cases r.index<;>simp[xf]
 have O8:=fun (i:Nat) (x:Ex) (h:(xf r.index)[i]? = some x)=>aD (f:=bM) (n:=4) bK (m:=xf r.index) h;have QR:(xf r.index).length≤1:=by cases r.index<;>simp[xf]
 rw[PA];simp only[kO,nq];generalize xf r.index=il at UC he O8 QR;generalize r.name=nm at hf Rz;clear PA hr;refine Body.iV Tryz.func114 rfl N4 (by simp[Tryz.ntmps114]) fun C hC N8=>?_;rw[Tryz.ntmps114] at hC;apply ai;simp[hC];apply T.seq;refine T.rx af follows [0,1,2,3,4,5,10,6,7,8,9,11,12] [(3,10),(5,10),(10,6)] N4 ?_;simp[hC,de,oI];refine RX.call rfl N3 rfl rfl rfl Od (Rz) ?_;simp[qB,ic];have hc5:((c:Int) == 5)=decide (c=5):=by rcases UC with ⟨rfl,_⟩ | ⟨rfl,_⟩<;>rfl
 apply ai;simp[hC,hc5];refine T.cut (fun s=>s=⟨[(9,.aq 18 0),(6,.aq 4 0),(4,.aq 3 0),(0,.aq 0 0),(2,I n)],[(0,de p E k st cl sl),(3,⟨167,0,[.str nm,.az (il.flatMap bM) il.length]⟩),(4,⟨133,0,[.bool false,I 0,.aj]⟩),(18,⟨133,0,[.bool (decide (c=5)),I j,.aj]⟩)],19⟩) ?_ ?_
 ·rcases UC with ⟨rfl,m,hmj,hiff⟩ | ⟨rfl,SH⟩
  ·have hmd:=a8 (f:=eM) (n:=3) (fun _=>rfl) hmj 2 yA;have OD:=(List.getElem?_eq_some_iff.1 hmj).1;apply T.block;apply ai;simp[hC];refine aX ?_;simp;apply ai;simp[hC];refine aX ?_;simp;apply T.seq;refine T.rx af follows [0,1,2,3,4,5,6,7,8,9,10,11,12,13,14,15,16] [] N4 ?_;simp[hC,OD,hmd,eM];by_cases hz:0<il.length
   ·have O0:0<m.size:=by omega
    apply ai;simp[hC,hz,O0];refine dv ?_;simp;refine aa.trim [9,6,4,0,2] [0,3,4,18] 19 N3 yA ?_;simp[de,oI]
   ·have O0:¬ 0<m.size:=by omega
    apply ai;simp[hC,hz,O0];refine dv ?_;simp;refine aa.trim [9,6,4,0,2] [0,3,4,18] 19 N3 yA ?_;simp[de,oI]
  ·apply T.block;apply ai;simp[hC];refine aX ?_;simp;apply ai;simp[hC];refine aX ?_;simp;apply T.seq;refine T.rx af follows [0,1,2,3,4,5,6,7,8,9,10,11,12,13,14,15,16] [] N4 ?_;simp[hC];apply ai;simp[hC,SH];refine dv ?_;simp;refine aa.trim [9,6,4,0,2] [0,3,4,18] 19 N3 yA ?_;simp[de,oI]
 rintro s rfl;apply aL;simp[hC];apply T.block;refine T.aI (J134 p E k st cl sl nm il (decide (c=5)) j n) (n:=il.length) ?_ ?_
 ·refine aa.le (Le.oL 18 2 131 4 rfl rfl) ?_;simp;refine aa.trim [11,9,6,4,0,2] [0,3,4,18,19] 20 (by simp[de,oI]) yA ⟨0,by omega,by omega,?_⟩;simp[k8]
 ·rintro m s ⟨i,rfl,hi,rfl⟩;by_cases N6:i<il.length
  ·obtain⟨a,OZ⟩:∃ a,il[i]? = some a:=⟨il[i],List.getElem?_eq_getElem N6⟩;have N7:=O8 i a OZ;have hb:=jU p E k st cl sl hE hl n 1 a (he a (List.mem_of_getElem? OZ));have wi:=cf ((i:Int)+1) yA yA;apply aL;simp[hC,N6];refine fh ?_;simp;apply eG;refine T.rx af follows [0,1,2,3,4,5,6,7,8,9,10,11,12,13] [(1,9),(1,10)] N4 ?_;simp[hC,N6,N7];have On:List.take (i+1) (List.map (dP E) il)=List.take i (List.map (dP E) il)++[dP E a]:=by
    rw[List.take_add_one,List.getElem?_map,OZ];rfl
   have V8:(List.take i (List.map (dP E) il)).length=i:=by simp;omega
   generalize hN:List.take i (List.map (dP E) il)=N at On V8;have Uw:=aM (f:=bM) (n:=4) bK N;rw[V8] at Uw;have TP:(i+1)*56≤140737488355328:=by omega
   have hbd2:(i+1)*64≤140737488355328:=by omega
   refine RX.bS [0] [] 3 (hb) rfl N3 rfl rfl rfl rfl N3 OP OO rfl rfl rfl N3 ?_;simp[k8,bK,Uw,TP,aS,-List.length_flatMap];apply aY;simp[hC,wi];refine⟨il.length-(i+1),by omega,?_⟩;have XP:(N++[dP E a]).flatMap bM=N.flatMap bM++bM (dP E a):=by simp
   have Qh:trees (N.flatMap bM++bM (dP E a))=true:=by rw[← XP];exact aO bz _
   refine aa.le (Le.trim [11,9,6,4,0,2] [0,3,4,18,34] 35 yCw yA) ?_;simp;refine aa.le (Le.oJ 34 19 rfl rfl yA N3 N3 yCv) ?_;simp only[de,oI];simp[a7 (aO bz N)];have Wj:(il.take (i+1)).map (dP E)=N++[dP E a]:=by rw[List.map_take];exact On
   refine aa.trim [11,9,6,4,0,2] [0,3,4,18,19] 20 yDe yA ⟨i+1,rfl,by omega,?_⟩;rw[Wj];simp[k8,de,oI]
  ·have Oe:i=il.length:=by omega
   apply aL;simp[hC,N6];refine aX ?_;simp;apply T.exit;simp;apply ai;simp[hC];apply T.ret;subst Oe;have On:List.take il.length (List.map (dP E) il)=il.map (dP E):=List.take_of_length_le N3;have Sx:(((il.map (dP E)).flatMap bM).take (il.length*4))=(il.map (dP E)).flatMap bM:=List.take_of_length_le (by rw[aM (f:=bM) (n:=4) bK];simp);refine aa.le (Le.trim [6] [0,4,19] 20 yCy yA) ?_;simp;refine aa.le (Le.cV (o:=19) rfl (aO bz _)) ?_;simp[k8,On,Sx];refine aa.le (Le.cV (o:=4) rfl (by simp[trees,tree])) ?_;simp[de,oI];refine aa.trim [6] [0] 3 N3 yA ⟨_,?_,rfl,?_,rfl⟩
   ·simp
   ·simp
theorem rZ (E:List En):∀ a b:List Ar,cZ E (a++b)=cZ E a++cZ E b
 | [],b=>rfl
 | .exp e::a,b=>by simp[cZ,rZ E a b]
 | .uX r::a,b=>by simp[cZ,rZ E a b]
theorem uP (E:List En):∀ a b:List Ar,eR E (a++b)=eR E a++eR E b
 | [],b=>rfl
 | .exp e::a,b=>by simp[eR,uP E a b]
 | .uX r::a,b=>by simp[eR,uP E a b]
theorem rY (E:List En):∀ a:List Ar,(cZ E a).length≤a.length
 | []=>Nat.le_refl _
 | .exp e::a=>by have:=rY E a;simp[cZ];omega
 | .uX r::a=>by have:=rY E a;simp[cZ];omega
theorem uO (E:List En):∀ a:List Ar,(eR E a).length≤a.length
 | []=>Nat.le_refl _
 | .exp e::a=>by have:=uO E a;simp[eR];omega
 | .uX r::a=>by have:=uO E a;simp[eR];omega
theorem IA {ms:List Mx}{ps:List Pm}{V:List ByteArray}:∀ {gp:List Pm} {al:List Ar} {i:Nat} {a:Ar},ja ms ps V gp al→al[i]? = some a→∃ q,gp[i]? = some q∧ArW ms ps V q a
 | [],[],_,_,_,h=>by simp at h
 | q::gp,b::al,0,a,hw,h=>by
  simp only[ja] at hw;simp only[List.getElem?_cons_zero,Option.some.injEq] at h;subst h;exact⟨q,rfl,hw.1⟩
 | q::gp,b::al,i+1,a,hw,h=>by
  simp only[ja] at hw;simp only[List.getElem?_cons_succ] at h;obtain⟨q',h1,h2⟩:=IA hw.2 h;exact⟨q',by simpa using h1,h2⟩
 | [],_::_,_,_,hw,_=>hw.elim
 | _::_,[],_,_,hw,_=>hw.elim
theorem tK (x:Pl):(pt x).length=3:=rfl
theorem jC (x:Pl):trees (pt x)=true:=by
 rcases x with ⟨_,_,_ | e⟩
 ·rfl
 ·simp only[pt,oZ,trees,tree,Bool.and_self]
def vT (l:List Pl):Ob:=⟨133,3,l.flatMap pt⟩
def By:List CV:=[I 0,I 0,.bool false,I 0,I 0,.str ⟨#[]⟩,.aj,.bool false,I 0,.aj,.aj,.aj]
def pg (kd:Int)(nm:ByteArray)(al:List Ar):List CV:=[I kd,.str nm,I 0,I 0,.str ⟨#[]⟩,.az [] 0,.str ⟨#[]⟩,.az [] 0,.az (al.flatMap oR) al.length,.az [] 0,.az [] 0]
def J133 (p:Pg)(E:List En)(k st cl sl:Nat)(n:Int)(kd op:Int)(nm:ByteArray)(j:Nat)(gp:List Pm)(al:List Ar)(m:Nat)(s:St):Prop:=∃ i:Nat,m=al.length-i∧i≤al.length∧
 s=⟨[(11,I i),(10,.az (gp.flatMap kT) gp.length),(7,.aq 5 0),(6,.aq 4 0),(4,.aq 3 0),(0,.aq 0 0),(2,I n)],[(0,de p E k st cl sl),(3,⟨170,0,pg kd nm al⟩),(4,⟨136,0,By⟩),
  (5,⟨136,0,[I op,I j,.bool false,I 0,I 0,.str ⟨#[]⟩,.aj,.bool false,I 0,.aj,.bp 6 0 (cZ E (al.take i)).length,.bp 7 0 (eR E (al.take i)).length]⟩),(6,k8 (cZ E (al.take i))),(7,vT (eR E (al.take i)))],8⟩
set_option maxHeartbeats 4000000 in
theorem Hk (p:Pg){g:Nat}{ps:List Pm}{V:List ByteArray}(E:List En)(k st cl sl:Nat)(hE:EW g p.ms (p.fs.map fun f=>(f.name,f.params)) ps V E k)(hl:E.length≤100000)(hm:p.ms.length≤1000)(_hfl:p.fs.length≤1000)(n:Int)(go:Bool)(nm:ByteArray)(gp:List Pm)(al:List Ar)
  (hg:(nm,gp)∈p.fs.map fun f=>(f.name,f.params)) (hw:ja p.ms ps V gp al) (Sk:gp.length≤1000) :
  Body Tryz.prog av 113 [.aq 0 0,.agg (ib (.dU go nm al)),I n] [(0,de p E k st cl sl)] 3 (jA (.agg (cU (.call go (lP E nm).n (cZ E al) (eR E al)))) [(0,de p E k st cl sl)] 3):=by
 obtain⟨j,hf,Qf⟩:=hE.f _ hg;have Zm:=hw.len;have Rz:=qD E nm hl;rw[hf] at Rz;rw[gV hf];have hs:ib (.dU go nm al)=pg (if go=true then 4 else 3) nm al:=rfl;rw[hs];obtain⟨f,VZ,TJ⟩:∃ f,p.fs[j]? = some f∧f.params=gp:=by
  rw[List.getElem?_map,Option.map_eq_some_iff] at Qf;obtain⟨f,h1,h2⟩:=Qf;exact⟨f,h1,by injection h2⟩
 have hfd1:=a8 (f:=eZ) (n:=3) (fun _=>rfl) VZ 1 yA;have OD:=(List.getElem?_eq_some_iff.1 VZ).1;refine Body.iV Tryz.func113 rfl N4 (by simp[Tryz.ntmps113]) fun C hC N8=>?_;rw[Tryz.ntmps113] at hC;apply ai;simp[hC];apply ai;simp[hC];simp only[de,oI,pg];refine T.cut (fun s=>s=⟨[(7,.aq 5 0),(6,.aq 4 0),(4,.aq 3 0),(0,.aq 0 0),(2,I n)],[(0,de p E k st cl sl),(3,⟨170,0,pg (if go=true then 4 else 3) nm al⟩),(4,⟨136,0,By⟩),(5,⟨136,0,[I (if go=true then 3 else 2),I 0,.bool false,I 0,I 0,.str ⟨#[]⟩,.aj,.bool false,I 0,.aj,.aj,.aj]⟩)],6⟩) ?_ ?_
 ·cases go with
  | true=>
   apply ai;simp[hC];refine cB ?_;simp;apply aY;simp[hC];refine aa.trim [7,6,4,0,2] [0,3,4,5] 6 N3 yA ?_;simp[de,oI,pg,By]
  | false=>
   apply ai;simp[hC];refine dv ?_;simp;refine aa.trim [7,6,4,0,2] [0,3,4,5] 6 N3 yA ?_;simp[de,oI,pg,By]
 rintro s rfl;apply T.seq;refine T.rx af follows [0,1,2,3,4,5,10,6,7,8,9,11,12] [(3,10),(5,10),(10,6)] N4 ?_;simp[hC,de,oI,pg,By];refine RX.call rfl N3 rfl rfl rfl Od (Rz) ?_;simp[qB,ic];apply eG;apply ai;simp[hC];refine aX ?_;simp;apply ai;simp[hC];refine dv ?_;simp;apply ai;simp[hC];apply T.seq;refine T.rx af follows [0,1,2,3,4,5,6,7,8,9,10] [] N4 ?_;simp[hC,OD,hfd1,eZ,TJ];apply aL;simp[hC,Zm];refine dv ?_;simp;refine T.le (Le.trim [10,7,6,4,0,2] [0,3,4,5] 6 N3 yA) ?_;simp;generalize (if go=true then (4:Int) else 3)=kd;have Ol:(if go=true then (3:Int) else 2)=(if go then 3 else 2:Int):=rfl;generalize WB:(if go=true then (3:Int) else 2)=op;apply aL;simp[hC];apply T.block;refine T.aI (J133 p E k st cl sl n kd op nm j gp al) (n:=al.length) ?_ ?_
 ·refine aa.le (Le.oL 5 10 131 4 rfl rfl) ?_;simp;refine aa.le (Le.oL 5 11 133 3 rfl rfl) ?_;simp;refine aa.trim [11,10,7,6,4,0,2] [0,3,4,5,6,7] 8 N3 yA ⟨0,by omega,by omega,?_⟩;simp[k8,vT,cZ,eR,de,oI,pg,By,Zm]
 ·rintro m s ⟨i,rfl,hi,rfl⟩;by_cases N6:i<al.length
  ·obtain⟨a,OZ⟩:∃ a,al[i]? = some a:=⟨al[i],List.getElem?_eq_getElem N6⟩;obtain⟨q,hiq,haw⟩:=IA hw OZ;have N7:=aD (f:=oR) (n:=7) ui OZ;have RB:=a8 (f:=kT) (n:=2) (fun _=>rfl) hiq 1 yA;have QR:i<gp.length:=by omega
   have wi:=cf ((i:Int)+1) yA yA;have On:al.take (i+1)=al.take i++[a]:=by rw[List.take_add_one,OZ];rfl
   have PF:=rY E (al.take i);have Q2:=uO E (al.take i);rw[List.length_take] at PF Q2;have hI:cZ E (al.take (i+1))=cZ E (al.take i)++cZ E [a]:=by rw[On,rZ]
   have hP:eR E (al.take (i+1))=eR E (al.take i)++eR E [a]:=by rw[On,uP]
   generalize cZ E (al.take i)=NI at PF hI;generalize eR E (al.take i)=NP at Q2 hP;have f1:=aM (f:=bM) (n:=4) bK NI;have f2:=aM (f:=pt) (n:=3) tK NP;have b1:(NI.length+1)*56≤140737488355328:=by omega
   have b2:(NP.length+1)*48≤140737488355328:=by omega
   have b3:(NP.length+1)*40≤140737488355328:=by omega
   have htp:∀ x:Pl,List.take 3 (pt x)=pt x:=fun _=>rfl;have hte:∀ x:Ex,List.take 4 (bM x)=bM x:=fun x=>List.take_of_length_le (by rw[bK];exact Nat.le_refl _);have tE:=aO bz NI;have tP:=aO jC NP;apply aL;simp[hC,QR];refine fh ?_;simp;apply eG
   cases a with
   | uX r=>
    have hb:=Dy p E k st cl sl hE hl hm n r haw.2;have hqm:q.mutex=true:=haw.1;obtain⟨rn,ri⟩:=r;obtain⟨q1,q2,hq⟩:∃ cs n,oZ ri=.az cs n:=by cases ri<;>exact⟨_,_,rfl⟩
    simp only[kO,hq] at hb;simp only[oR,kO,bM,hq,List.cons_append,List.nil_append] at N7;apply ai;simp[hC,N6,N7,pg];refine T.seq (T.seq ?_);refine T.rx af follows [0,1,2,3,4,5,6,7] [] N4 ?_;simp[hC,QR,RB,kT,hqm];refine dv ?_;simp;apply ai;simp[hC];refine cB ?_;simp;refine T.rx af follows [0,1,2,3,4,5,6,7,8,9,10] [(1,6),(1,7)] N4 ?_;simp[hC];refine RX.bS [0] [] 3 (hb) rfl N3 rfl rfl rfl rfl N3 OP OO rfl rfl rfl N3 ?_;simp[vT,tK,f2,b3,htp,aS,-List.length_flatMap];apply aY;simp[hC,wi];refine⟨al.length-(i+1),by omega,?_⟩;have tQ:=jC (yh E ⟨rn,ri⟩);refine aa.le (Le.trim [11,10,7,6,4,0,2] [0,3,4,5,6,28] 29 (by simp only[de,oI,By,k8];simp[-List.all_eq_true,-List.all_flatMap,ah tE,ah tP,ah tQ]) yA) ?_;simp;refine aa.le (Le.oJ 28 7 rfl rfl yA N3 N3 (by simp only[de,oI,By,k8];simp[-List.all_eq_true,-List.all_flatMap,bh tE,bh tP,bh tQ])) ?_;simp only[de,oI,By,k8];simp[a7 tE,a7 tP,a7 tQ];refine aa.trim [11,10,7,6,4,0,2] [0,3,4,5,6,7] 8 (by simp[-List.all_eq_true,-List.all_flatMap,ah tE,ah tP,ah tQ]) yA ⟨i+1,rfl,by omega,?_⟩;rw[hI,hP];simp[k8,vT,cZ,eR,de,oI,pg,By]
   | exp e=>
    have hb:=jU p E k st cl sl hE hl n 2 e haw.2;have hqm:q.mutex=false:=haw.1;simp only[oR,bW e,kQ,List.cons_append,List.nil_append] at N7;rw[bW e] at hb;apply ai;simp[hC,N6,N7,pg];refine T.seq (T.seq ?_);refine T.rx af follows [0,1,2,3,4,5,6,7] [] N4 ?_;simp[hC,QR,RB,kT,hqm];refine dv ?_;simp;apply ai;simp[hC];refine aX ?_;simp;refine T.rx af follows [0,1,2,3,4,5,6,7,8,9,10] [(1,6),(1,7)] N4 ?_;simp[hC];refine RX.bS [0] [] 3 (hb) rfl N3 rfl rfl rfl rfl N3 OP OO rfl rfl rfl N3 ?_;simp[k8,bK,f1,b1,hte,aS,-List.length_flatMap];apply aY;simp[hC,wi];refine⟨al.length-(i+1),by omega,?_⟩;have tQ:=bz (dP E e);refine aa.le (Le.trim [11,10,7,6,4,0,2] [0,3,4,5,28,7] 29 (by simp only[de,oI,By,vT];simp[-List.all_eq_true,-List.all_flatMap,ah tE,ah tP,ah tQ]) yA) ?_;simp;refine aa.le (Le.oJ 28 6 rfl rfl yA N3 N3 (by simp only[de,oI,By,vT];simp[-List.all_eq_true,-List.all_flatMap,bh tE,bh tP,bh tQ])) ?_;simp only[de,oI,By,vT];simp[a7 tE,a7 tP,a7 tQ];refine aa.trim [11,10,7,6,4,0,2] [0,3,4,5,6,7] 8 (by simp[-List.all_eq_true,-List.all_flatMap,ah tE,ah tP,ah tQ]) yA ⟨i+1,rfl,by omega,?_⟩;rw[hI,hP];simp[k8,vT,cZ,eR,de,oI,pg,By]
  ·have Oe:i=al.length:=by omega
   have QR:¬ i<gp.length:=by omega
   apply aL;simp[hC,QR];refine aX ?_;simp;apply T.exit;simp;apply ai;simp[hC];apply T.ret;rw[Oe,List.take_length];have tE:=aO bz (cZ E al);have tP:=aO jC (eR E al);have x1:((cZ E al).flatMap bM).take ((cZ E al).length*4)=(cZ E al).flatMap bM:=List.take_of_length_le (by rw[aM (f:=bM) (n:=4) bK];exact Nat.le_refl _);have x2:((eR E al).flatMap pt).take ((eR E al).length*3)=(eR E al).flatMap pt:=List.take_of_length_le (by rw[aM (f:=pt) (n:=3) tK];exact Nat.le_refl _);generalize cZ E al=NI at tE x1;generalize eR E al=NP at tP x2;refine aa.le (Le.trim [6] [0,4,6,7] 8 (by simp only[de,oI,k8,vT];simp[-List.all_eq_true,-List.all_flatMap,ah tE,ah tP,By]) yA) ?_;simp;refine aa.le (Le.cV (o:=6) rfl tE) ?_;simp[k8,vT,x1,dk tP];refine aa.le (Le.cV (o:=7) rfl tP) ?_;simp[x2];refine aa.le (Le.nz [] [4]) ?_;simp[By];refine aa.le (Le.cV (o:=4) rfl (by simp[trees,tree])) ?_;simp[de,oI];refine aa.trim [6] [0] 3 N3 yA ⟨_,?_,rfl,?_,rfl⟩
   ·simp[cU,bM,eS,sF,WB]
   ·simp
def fO (p:Pg)(E:List En)(k st a cl b sl:Nat):Ob:=⟨178,0,[.az (p.gs.flatMap o0) p.gs.length,.az (p.ms.flatMap eM) p.ms.length,.az (p.fs.flatMap eZ) p.fs.length,.az (E.flatMap ic) E.length,I k,I st,I 0,I 0,.bp a 0 cl,.bp b 0 sl]⟩
theorem yc (p:Pg)(E:List En)(k st cl sl:Nat):de p E k st cl sl=fO p E k st 1 cl 2 sl:=rfl
set_option maxHeartbeats 4000000 in
theorem LP (p:Pg)(E:List En)(k st:Nat)(X:List CV)(N:Nat)(hX:X.length=N*12)(tX:trees X=true)(S:List CV)(M:Nat)(hS:S.length=M)(tS:trees S=true)(hN:N≤10000)(hM:M≤10000)
  (cs:List CV) (OJ:cs.length=12) (Ql:trees cs=true) (n:Int) :
  Body Tryz.prog av 85 [.aq 0 0,.agg cs,I n] [(0,fO p E k st 1 N 2 M),(1,⟨136,12,X⟩),(2,⟨3,1,S⟩)] 3 (jA (I N) [(0,fO p E k st 3 (N+1) 4 (M+1)),(3,⟨136,12,X++cs⟩),(4,⟨3,1,S++[I n]⟩)] (3+2)):=by
 refine Body.iV Tryz.func85 rfl N4 (by simp[Tryz.ntmps85]) fun C hC N8=>?_;rw[Tryz.ntmps85] at hC;apply ai;simp[hC];have Pq:(N+1)*168≤140737488355328:=by omega
 have O2:(M+1)*8≤140737488355328:=by omega
 have htc:List.take 12 cs=cs:=List.take_of_length_le yA;apply T.seq;refine T.rx af follows [0,1,2,3,4,5,6,7,8,9,10,11,12,13,14,15,16,17,18,19,20,21] [(5,7),(5,14),(6,14),(7,12),(7,14),(8,12),(8,14),(12,14)] N4 ?_;simp[hC,fO,hX,hS,OJ,htc,Pq,O2,aS];have w1:=cf (N:Int) yA yA;apply ai;simp[hC,w1];apply T.ret;have tXc:trees (X++cs)=true:=by rw[aZ,tX,Ql];rfl
 have tSn:trees (S++[I n])=true:=by rw[aZ,tS];rfl
 refine aa.le (Le.trim [6] [0,26,27] 28 (by simp[-List.all_eq_true,-List.all_flatMap,ah tX,ah Ql,ah tS]) yA) ?_;simp;refine aa.le (Le.oJ 26 3 rfl rfl yA N3 N3 (by simp[-List.all_eq_true,-List.all_flatMap,bh tX,bh Ql,bh tS])) ?_;simp[a7 tX,a7 Ql,a7 tS];refine aa.le (Le.oJ 27 4 rfl rfl yA N3 N3 (by simp[-List.all_eq_true,-List.all_flatMap,bh tX,bh Ql,bh tS])) ?_;simp[a7 tX,a7 Ql,a7 tS];refine aa.trim [6] [0,3,4] 5 (by simp[-List.all_eq_true,-List.all_flatMap,ah tX,ah Ql,ah tS]) yA ⟨_,?_,rfl,?_,rfl⟩
 ·simp
 ·simp
def KT (id:Nat):Code→Option Code
 | .block j x=>if j=id then some (.block j x) else KT id x
 | .seq a b=>match KT id a with
  | some c=>some c
  | none=>KT id b
 | .cond _ a b=>match KT id a with
  | some c=>some c
  | none=>KT id b
 | .loop x=>KT id x
 | .scope x=>KT id x
 | _=>none
def jI (f:Func)(id:Nat):Code:=((f.body).bind (KT id)).getD .skip
theorem iu (x:In):trees (cU x)=true:=by
 cases x with
 | set t g e=>simp only[cU,aZ,bz,Bool.and_true];rfl
 | call g t l ps=>simp only[cU,aZ,bz,trees,tree,Bool.and_true];rfl
 | lock u q=>simp only[cU,aZ,bz,jC,Bool.and_true];rfl
 | branch t e=>simp only[cU,aZ,bz,Bool.and_true];rfl
 | jump t=>rfl
 | ret=>rfl
theorem k9 (e:Ex):∃ o n s cs m,bM e=[I o,I n,.str s,.az cs m]∧trees cs=true:=⟨_,_,_,_,_,bW e,aO bz _⟩
theorem GQ (q:Pl):∃ b n cs m,pt q=[.bool b,I n,.az cs m]∧trees cs=true:=⟨_,_,_,_,by rw[pt,nq],aO bz _⟩
theorem LD (r:Rf):∃ s cs m,kO r=[.str s,.az cs m]∧trees cs=true:=⟨_,_,_,by rw[kO,nq],aO bz _⟩
def eW (l:List In):Ob:=⟨136,12,l.flatMap cU⟩
def fW (l:List Nat):Ob:=⟨3,1,l.map fun n:Nat=>I n⟩
theorem cb (l:List In):trees (l.flatMap cU)=true:=aO iu l
theorem aW (l:List Nat):trees (l.map fun n:Nat=>I n)=true:=by
 induction l with
 | nil=>rfl
 | cons a r ih=>rw[List.map_cons,trees,ih];rfl
theorem yX (l:List In):(l.flatMap cU).length=l.length*12:=aM (f:=cU) eg l
theorem G1 (x:In):(cU x).map nz=cU x:=by
 cases x with
 | set t g e=>simp[cU,bW,sF]
 | call g t l ps=>simp[cU,bW,sF]
 | lock u q=>simp[cU,bW,pt,nq]
 | branch t e=>simp[cU,bW,sF]
 | jump t=>simp[cU,bW,sF]
 | ret=>simp[cU,bW,sF]
theorem qt (l:List In):(l.flatMap cU).map nz=l.flatMap cU:=by
 induction l with
 | nil=>rfl
 | cons a r ih=>rw[List.flatMap_cons,List.map_append,ih,G1]
def Ck (c:CV):Bool:=match c with
 | .aq p 0=>p == 0 || p == 5
 | c=>tree c
section
variable (p:Pg)(E0:List En)(l:List Sm)(i:Nat)
def bE:List (Nat×CV):=[(5,I i),(4,.az (E0.flatMap ic) E0.length),(0,.aq 0 0),(1,.az (bx l) l.length)]
def NS (E:List En)(k st:Nat)(c:List In)(s:List Nat):St:=⟨bE E0 l i,[(0,fO p E k st 3 c.length 4 s.length),(3,eW c),(4,fW s)],5⟩
def Hl:Sm→Int
 | .gP _ _=>1
 | .iy _ _=>2
 | .dU g _ _=>if g=true then 4 else 3
 | .dx u _=>if u=true then 6 else 5
 | .lu _ _ _=>7
 | .cE _ _=>8
 | .jm=>9
def mE (n:Nat):List (Nat×CV):=[(6,.aq 5 0),(7,I n),(5,I i),(4,.az (E0.flatMap ic) E0.length),(0,.aq 0 0),(1,.az (bx l) l.length)]
def mH (E:List En)(k st:Nat)(c:List In)(s:List Nat)(x:Sm):List (Nat×Ob):=[(0,fO p E k st 3 c.length 4 s.length),(3,eW c),(4,fW s),(5,⟨170,0,ib x⟩)]
def MS (E:List En)(k st:Nat)(c:List In)(s:List Nat)(x:Sm)(n:Nat):St:=
 ⟨(41,I (Hl x))::mE E0 l i n,mH p E k st c s x,6⟩
end
theorem GX {c:CV}(h:Ck c=true){m:List (Nat×Nat)}(h0:(assoc m 0).isSome=true)(h5:c≠.aq 5 0∨(assoc m 5).isSome=true):qx m c=true:=by
 cases c with
 | aq q f=>
  cases f with
  | zero=>
   simp only[Ck,Bool.or_eq_true,beq_iff_eq] at h;rcases h with rfl | rfl
   ·exact h0
   ·rcases h5 with h5 | h5
    ·exact (h5 rfl).elim
    ·exact h5
  | succ f=>simp[Ck,tree] at h
 | agg cs=>simp only[Ck,tree] at h;exact aC h m
 | dI cs=>simp only[Ck,tree] at h;exact aC h m
 | _=>first | exact h | simp[Ck,tree] at h
theorem L0 {c:CV}(h:Ck c=true)(m:List (Nat×Nat))(n:Nat)(h0:fc m n 0=0)(h5:c≠.aq 5 0∨fc m n 5=5):dT (fc m n) c=c:=by
 cases c with
 | aq q f=>
  cases f with
  | zero=>
   simp only[Ck,Bool.or_eq_true,beq_iff_eq] at h;rcases h with rfl | rfl
   ·rw[dT,h0]
   ·rcases h5 with h5 | h5
    ·exact (h5 rfl).elim
    ·rw[dT,h5]
  | succ f=>simp[Ck,tree] at h
 | _=>exact gQ _ _ h
theorem yq {m:List (Nat×Nat)}{n:Nat}(h0:fc m n 0=0):∀ {e:List (Nat×CV)},(e.all fun x=>Ck x.2)=true→((∀ x∈e,x.2≠CV.aq 5 0)∨fc m n 5=5)→cT (fc m n) e=e
 | [],_,_=>rfl
 | (t,c)::e,h,h5=>by
  simp only[List.all_cons,Bool.and_eq_true] at h;rw[cT,L0 h.1 m n h0 (h5.imp (fun h5=>h5 (t,c) List.mem_cons_self) id),yq h0 h.2 (h5.imp (fun h5 x hx=>h5 x (List.mem_cons_of_mem _ hx)) id)]
theorem cP (ρ:Nat→Nat)(t:TypeId)(n:Nat){cs:List CV}(h:trees cs=true):cc ρ ⟨t,n,cs⟩=⟨t,n,cs⟩:=by simp only[cc,ay ρ _ h]
theorem iO (p:Pg):tree (.az (p.gs.flatMap o0) p.gs.length)=true∧tree (.az (p.ms.flatMap eM) p.ms.length)=true∧tree (.az (p.fs.flatMap eZ) p.fs.length)=true:=
 ⟨by simp only[tree],by simp only[tree],by simp only[tree]⟩
theorem ck (E:List En):trees (E.flatMap ic)=true:=aO (fun _=>rfl) E
section
variable {C:Cx}{s:St}{p:Pg}
theorem BZ (E:List En)(k st a cl b sl:Nat)(m:List (Nat×Nat))(ha:(assoc m a).isSome=true)(hb:(assoc m b).isSome=true):(fO p E k st a cl b sl).cells.all (ox m)=true:=by
 obtain⟨t1,t2,t3⟩:=iO p;have t4:=ck E;simp only[fO,List.all_cons,List.all_nil,ox,ha,hb,Bool.and_true,Bool.and_eq_true];simp only[tree] at t1 t2 t3 ⊢;refine⟨t1,t2,t3,?_⟩;simp
theorem rB (E:List En)(k st a cl b sl:Nat)(ρ:Nat→Nat):cc ρ (fO p E k st a cl b sl)=fO p E k st (ρ a) cl (ρ b) sl:=by
 obtain⟨t1,t2,t3⟩:=iO p;have t4:tree (.az (E.flatMap ic) E.length)=true:=by simp only[tree]
 simp only[cc,fO,bV,gQ ρ _ t1,gQ ρ _ t2,gQ ρ _ t3,gQ ρ _ t4];rfl
theorem kR (N8:C.n0=3)(ks:List Nat)(a b:Nat){e:List (Nat×CV)}{E:List En}{k st N M:Nat}{X S:List CV}{c':List In}{s':List Nat}(he:pick s.env ks=e)(Om:(e.all fun x=>Ck x.2)=true)(h5:∀ x∈e,x.2≠CV.aq 5 0)(Tv:(a != b && (a != 0 && b != 0))=true)
  (h0:assoc s.heap 0=some (fO p E k st a N b M)) (ha:assoc s.heap a=some ⟨136,12,X⟩) (hb:assoc s.heap b=some ⟨3,1,S⟩) (hX:X.map nz=c'.flatMap cU) (hS:S=s'.map fun n:Nat=>I n) (hN:N=c'.length) (hM:M=s'.length) :
  Le C s ⟨e,[(0,fO p E k st 3 c'.length 4 s'.length),(3,eW c'),(4,fW s')],5⟩:=by
 subst hN hM hS;simp only[Bool.and_eq_true,bne_iff_ne,ne_eq] at Tv;obtain⟨n1,n2,n3⟩:=Tv;have n1':¬ b=a:=fun h=>n1 h.symm;refine Le.trans (Le.nz [] [a]) ?_;have e1:FM [] s.env=s.env:=by
  have:∀ e:List (Nat×CV),FM [] e=e:=by
   intro e
   induction e with
   | nil=>rfl
   | cons x r ih=>obtain⟨k,c⟩:=x;rw[FM,ih];rfl
  exact this _
 rw[e1];have g0:assoc (Af [a] s.heap) 0=some (fO p E k st a c'.length b s'.length):=by
  rw[dZ,h0];simp[Ne.symm n2]
 have ga:assoc (Af [a] s.heap) a=some (eW c'):=by
  rw[dZ,ha];simp[hX,eW]
 have gb:assoc (Af [a] s.heap) b=some (fW s'):=by
  rw[dZ,hb];simp[n1',fW]
 have r0:fc [(0,0),(a,3),(b,4)] 5 0=0:=rfl;have ra:fc [(0,0),(a,3),(b,4)] 5 a=3:=by simp[fc,assoc,Ne.symm n2]
 have rb:fc [(0,0),(a,3),(b,4)] 5 b=4:=by simp[fc,assoc,Ne.symm n3,n1]
 have Pb:=Le.norm (C:=C) (s:=⟨s.env,Af [a] s.heap,s.nx⟩) ks [(0,0),(a,3),(b,4)] 3 5 (by simp[u0,n1,Ne.symm n2,Ne.symm n3]) (by simp only[List.all_cons,List.all_nil,g0,ga,gb];rfl) ?_ yA
 ·simp only[he,List.map_cons,List.map_nil,pick,g0,ga,gb,cu] at Pb;rw[yq r0 Om (.inl h5),r0,ra,rb,rB,ra,rb,eW,fW,cP _ _ _ (cb c'),cP _ _ _ (aW s')] at Pb;exact Pb
 ·simp only[cX,he,List.map_cons,List.map_nil,pick,g0,ga,gb,List.all_cons,List.all_nil,Bool.and_true,Bool.and_eq_true,List.all_eq_true (l:=e)];refine⟨fun x hx=>GX ((List.all_eq_true.1 Om) x hx) rfl (.inl (h5 x hx)),BZ E k st a _ b _ _ (by simp[assoc,Ne.symm n2]) (by simp[assoc,Ne.symm n3];split<;>rfl),aC (cb c') _,aC (aW s') _⟩
theorem jo (N8:C.n0=3)(ks:List Nat)(a b:Nat){e:List (Nat×CV)}{E:List En}{k st N M:Nat}{X S cs:List CV}{c':List In}{s':List Nat}(he:pick s.env ks=e)(Om:(e.all fun x=>Ck x.2)=true)(Tv:((a != b && (a != 0 && b != 0)) && (a != 5 && b != 5))=true)
  (h0:assoc s.heap 0=some (fO p E k st a N b M)) (ha:assoc s.heap a=some ⟨136,12,X⟩) (hb:assoc s.heap b=some ⟨3,1,S⟩) (h5:assoc s.heap 5=some ⟨170,0,cs⟩) (OJ:trees cs=true) (hX:X.map nz=c'.flatMap cU) (hS:S=s'.map fun n:Nat=>I n) (hN:N=c'.length) (hM:M=s'.length) :
  Le C s ⟨e,[(0,fO p E k st 3 c'.length 4 s'.length),(3,eW c'),(4,fW s'),(5,⟨170,0,cs⟩)],6⟩:=by
 subst hN hM hS;simp only[Bool.and_eq_true,bne_iff_ne,ne_eq] at Tv;obtain⟨⟨n1,n2,n3⟩,n4,n5⟩:=Tv;have n1':¬ b=a:=fun h=>n1 h.symm;refine Le.trans (Le.nz [] [a]) ?_;have e1:FM [] s.env=s.env:=by
  have:∀ e:List (Nat×CV),FM [] e=e:=by
   intro e
   induction e with
   | nil=>rfl
   | cons x r ih=>obtain⟨k,c⟩:=x;rw[FM,ih];rfl
  exact this _
 rw[e1];have g0:assoc (Af [a] s.heap) 0=some (fO p E k st a c'.length b s'.length):=by
  rw[dZ,h0];simp[Ne.symm n2]
 have ga:assoc (Af [a] s.heap) a=some (eW c'):=by
  rw[dZ,ha];simp[hX,eW]
 have gb:assoc (Af [a] s.heap) b=some (fW s'):=by
  rw[dZ,hb];simp[n1',fW]
 have g5:assoc (Af [a] s.heap) 5=some ⟨170,0,cs⟩:=by
  rw[dZ,h5];simp;intro h;exact (n4 h.symm).elim
 have r0:fc [(0,0),(a,3),(b,4),(5,5)] 6 0=0:=rfl;have ra:fc [(0,0),(a,3),(b,4),(5,5)] 6 a=3:=by simp[fc,assoc,Ne.symm n2]
 have rb:fc [(0,0),(a,3),(b,4),(5,5)] 6 b=4:=by simp[fc,assoc,Ne.symm n3,n1]
 have r5:fc [(0,0),(a,3),(b,4),(5,5)] 6 5=5:=by simp[fc,assoc,n4,n5]
 have Pb:=Le.norm (C:=C) (s:=⟨s.env,Af [a] s.heap,s.nx⟩) ks [(0,0),(a,3),(b,4),(5,5)] 3 6 (by simp[u0,n1,Ne.symm n2,Ne.symm n3,n4,n5]) (by simp only[List.all_cons,List.all_nil,g0,ga,gb,g5];rfl) ?_ yA
 ·simp only[he,List.map_cons,List.map_nil,pick,g0,ga,gb,g5,cu] at Pb;rw[yq r0 Om (.inr r5),r0,ra,rb,r5,rB,ra,rb,eW,fW,cP _ _ _ (cb c'),cP _ _ _ (aW s'),cP _ _ _ OJ] at Pb;exact Pb
 ·simp only[cX,he,List.map_cons,List.map_nil,pick,g0,ga,gb,g5,List.all_cons,List.all_nil,Bool.and_true,Bool.and_eq_true,List.all_eq_true (l:=e)];refine⟨fun x hx=>GX ((List.all_eq_true.1 Om) x hx) rfl (.inr (by simp[assoc,n4,n5])),BZ E k st a _ b _ _ (by simp[assoc,Ne.symm n2]) (by simp[assoc,Ne.symm n3];split<;>rfl),aC (cb c') _,aC (aW s') _,aC OJ _⟩
end
theorem yd (p:Pg)(E:List En)(k st a cl b sl n:Nat)(ha:a<n)(hb:b<n):a6 n (fO p E k st a cl b sl).cells=true:=by
 obtain⟨t1,t2,t3⟩:=iO p;have t4:tree (.az (E.flatMap ic) E.length)=true:=by simp only[tree]
 simp only[fO,a6,a9 n _ t1,a9 n _ t2,a9 n _ t3,a9 n _ t4,Bool.true_and];simp[ba,ha,hb]
def okW (c:CV):Bool:=match c with
 | .aq p 0=>p == 0
 | c=>tree c
theorem GW {c:CV}(h:okW c=true)(ρ:Nat→Nat)(h0:ρ 0=0):dT ρ c=c:=by
 cases c with
 | aq q f=>
  cases f with
  | zero=>
   simp only[okW,beq_iff_eq] at h;subst h;rw[dT,h0]
  | succ f=>simp[okW,tree] at h
 | _=>exact gQ _ _ h
theorem Dj {ρ:Nat→Nat}(h0:ρ 0=0):∀ {cs:List CV},cs.all okW=true→bV ρ cs=cs
 | [],_=>rfl
 | c::cs,h=>by
  simp only[List.all_cons,Bool.and_eq_true] at h;rw[bV,GW h.1 ρ h0,Dj h0 h.2]
theorem uT {n:Nat}(hn:0<n):∀ {cs:List CV},cs.all okW=true→a6 n cs=true
 | [],_=>rfl
 | c::cs,h=>by
  simp only[List.all_cons,Bool.and_eq_true] at h;rw[a6,uT hn h.2,Bool.and_true];have h1:=h.1
  cases c with
  | aq q f=>
   cases f with
   | zero=>
    simp only[okW,beq_iff_eq] at h1;subst h1
    simpa [ba] using hn
   | succ f=>simp[okW,tree] at h1
  | _=>exact a9 _ _ h1
theorem JA (m:Nat)(h:4<m):JC [0,3,4] m=true:=by
 simp only[JC,List.all_cons,List.all_nil,Bool.and_true,Bool.and_eq_true,decide_eq_true_eq];refine⟨⟨by omega,by omega,by omega⟩,by decide⟩
theorem Hf (m:Nat):dC [0,3,4] m 0=0:=rfl
theorem mapN1 (m:Nat):dC [0,3,4] m 1=3:=rfl
theorem mapN2 (m:Nat):dC [0,3,4] m 2=4:=rfl
theorem mapN3 (m:Nat):dC [0,3,4] m 3=m:=by simp[dC]
theorem mapN4 (m:Nat):dC [0,3,4] m 4=m+1:=by simp[dC];omega
def hO (H:List (Nat×Ob))(ks:List Nat)(nx:Nat):Bool:=H.all fun x=>!ks.contains x.1 && decide (x.1<nx)
theorem qG:∀ (ks:List Nat) (H:List (Nat×Ob)) (nx:Nat),hO H ks nx=true→eB H ks=H
 | [],_,_,_=>rfl
 | k::ks,H,nx,h=>by
  have h1:j5 H k=H:=by
   have:∀ H:List (Nat×Ob),hO H (k::ks) nx=true→j5 H k=H:=by
    intro H
    induction H with
    | nil=>intro _;rfl
    | cons x r ih=>
     intro h;obtain⟨q,ob⟩:=x;have h':=h;simp only[hO,List.all_cons,Bool.and_eq_true] at h';have h2:=h'.1.1;simp only[Bool.not_eq_true',List.contains_eq_mem,decide_eq_false_iff_not,List.mem_cons,not_or] at h2;rw[j5,if_neg h2.1,ih h'.2]
   exact this H h
  rw[eB,h1];refine qG ks H nx ?_;simp only[hO,List.all_eq_true,Bool.and_eq_true,Bool.not_eq_true',List.contains_eq_mem,decide_eq_false_iff_not,List.mem_cons,not_or] at h ⊢;exact fun x hx=>⟨(h x hx).1.2,(h x hx).2⟩
theorem KQ {H:List (Nat×Ob)}{ks:List Nat}{nx:Nat}(h:hO H ks nx=true):(H.all fun x=>decide (x.1<nx))=true:=by
 simp only[hO,List.all_eq_true,Bool.and_eq_true] at h ⊢;exact fun x hx=>(h x hx).2
section
variable {C:Cx}{p:Pg}{ops:Array Oper}{e:List (Nat×CV)}{H:List (Nat×Ob)}{nx:Nat}
theorem EJ (E:List En)(k st cl sl nx:Nat):cu (dC [0,3,4] nx) [(0,de p E k st cl sl)]=[(0,fO p E k st 3 cl 4 sl)]:=by
 rw[cu,cu,yc,rB];rfl
theorem TL.gJ {o:Oper}{l:List Oper}{c:Call}{g:FuncId}{args:List CV}{K:St→Prop}{r0:CV}{E:List En}{k st cl sl:Nat}(hb:Body Tryz.prog av g args [(0,de p E k st cl sl)] 3 (jA r0 [(0,de p E k st cl sl)] 3))(OV:4<nx)(hH:hO H [0] nx=true)
  (hd:bt C.nt o.dst=true) (hg:b9 ops ⟨e,(0,fO p E k st 3 cl 4 sl)::H,nx⟩ o=Option.some true) (ho:o.op=.call c) (OG:bB ⟨e,(0,fO p E k st 3 cl 4 sl)::H,nx⟩ c=Option.some (g,args)) (Of:args.all okW=true) (ht:tree r0=true)
  (hK:TL Tryz.prog C ops l (St.put ⟨e,(0,fO p E k st 3 cl 4 sl)::H,nx⟩ o.dst r0) K):TL Tryz.prog C ops (o::l) ⟨e,(0,fO p E k st 3 cl 4 sl)::H,nx⟩ K:=by
 have N7:eB ((0,fO p E k st 3 cl 4 sl)::H) [0]=H:=qG [0] H nx hH;refine TL.vB af [0,3,4] [0] 3 0 hb rfl (JA nx OV) hd hg ho ZV (by simp only[EJ];rfl) (uT yA Of) (by simp only[dD,yc,yd p E k st 1 cl 2 sl 3 yA yA];rfl) ht ?_ ?_
 ·simp only[EJ,N7,sr,List.all_cons,List.all_nil,Bool.and_true,Bool.and_eq_true];exact⟨rfl,KQ hH⟩
 ·simp only[EJ,N7];exact hK
theorem RX.gJ {o:Oper}{cl:Call}{g:FuncId}{args:List CV}{r0:CV}{W:List rh}{nt N:Nat}{dyn:List (Nat×Nat)}{K:St→Prop}{i:Nat}{r:List Nat}{res:Nat→Er}{E:List En}{k st cn sn:Nat}(hb:Body Tryz.prog av g args [(0,de p E k st cn sn)] 3 (jA r0 [(0,de p E k st cn sn)] 3))(OV:4<nx)(hH:hO H [0] nx=true)
  (hi:ops[i]? = Option.some o) (hd:bt nt o.dst=true) (hg:b9 ops ⟨e,(0,fO p E k st 3 cn 4 sn)::H,nx⟩ o=Option.some true) (hu:cg o=Option.some cl) (OG:bB ⟨e,(0,fO p E k st 3 cn 4 sn)::H,nx⟩ cl=Option.some (g,args)) (Of:args.all okW=true) (ht:tree r0=true) (hv:Bh dyn res i [0]=true)
  (hK:vu W dyn res i (jh r0 [0] [] 0 [(0,fO p E k st 3 cn 4 sn)])∧mK av W nt ops N dyn (C7 Tryz.prog av W nt ops N dyn K) r (note dyn res i (jh r0 [0] [] 0 [(0,fO p E k st 3 cn 4 sn)])) (St.put ⟨e,(0,fO p E k st 3 cn 4 sn)::H,nx⟩ o.dst r0)):RX Tryz.prog av W nt ops N dyn K (i::r) res ⟨e,(0,fO p E k st 3 cn 4 sn)::H,nx⟩:=by
 have N7:eB ((0,fO p E k st 3 cn 4 sn)::H) [0]=H:=qG [0] H nx hH;refine RX.vB [0,3,4] [0] [] 3 0 hb rfl (JA nx OV) hi hd hg hu ZV (by simp only[EJ];rfl) (uT yA Of) (by simp only[dD,yc,yd p E k st 1 cn 2 sn 3 yA yA];rfl) ht hv (by simp only[EJ];rfl) (fun _ _ _=>rfl) ?_;simp only[EJ,N7];exact hK
def T3 (p:Pg)(E:List En)(k st cl sl:Nat)(o1 o2:Ob):List (Nat×Ob):=[(0,fO p E k st 1 cl 2 sl),(1,o1),(2,o2)]
theorem rn_T {E:List En}{k st cl sl nx:Nat}{o1 o2:Ob}(h1:trees o1.cells=true)(h2:trees o2.cells=true):cu (dC [0,3,4] nx) (T3 p E k st cl sl o1 o2)=[(0,fO p E k st 3 cl 4 sl),(3,o1),(4,o2)]:=by
 simp only[T3,cu,rB,Hf,mapN1,mapN2];rw[show cc (dC [0,3,4] nx) o1=o1 from cP _ _ _ h1,show cc (dC [0,3,4] nx) o2=o2 from cP _ _ _ h2]
def T4 (p:Pg)(E:List En)(k st cl sl:Nat)(o1 o2:Ob):List (Nat×Ob):=[(0,fO p E k st 3 cl 4 sl),(3,o1),(4,o2)]
theorem Db {E:List En}{k st cl sl nx:Nat}{o1 o2:Ob}(h1:trees o1.cells=true)(h2:trees o2.cells=true):cu (dC [0,3,4] nx) (T4 p E k st cl sl o1 o2)=[(0,fO p E k st nx cl (nx+1) sl),(nx,o1),(nx+1,o2)]:=by
 simp only[T4,cu,rB,Hf,mapN3,mapN4];rw[show cc (dC [0,3,4] nx) o1=o1 from cP _ _ _ h1,show cc (dC [0,3,4] nx) o2=o2 from cP _ _ _ h2]
theorem K6 {E:List En}{k st cl sl:Nat}{o1 o2:Ob}(h1:trees o1.cells=true)(h2:trees o2.cells=true):dD 3 (T3 p E k st cl sl o1 o2)=true:=by
 simp only[T3,dD,yd p E k st 1 cl 2 sl 3 yA yA,gy 3 _ h1,gy 3 _ h2];rfl
variable {E E':List En}{k k' st Xx cn XS sn Xy:Nat}{o1 o2 o3 o4:Ob}{args:List CV}{r0:CV}{g:FuncId}
theorem TL.hU {o:Oper}{l:List Oper}{c:Call}{K:St→Prop}(hb:Body Tryz.prog av g args (T3 p E k st cn sn o1 o2) 3 (jA r0 (T4 p E' k' Xx XS Xy o3 o4) (3+2)))(h1:trees o1.cells=true)(h2:trees o2.cells=true)(h3:trees o3.cells=true)(h4:trees o4.cells=true)(OV:4<nx)(hH:hO H [0,3,4] nx=true)
  (hd:bt C.nt o.dst=true) (hg:b9 ops ⟨e,(0,fO p E k st 3 cn 4 sn)::(3,o1)::(4,o2)::H,nx⟩ o=Option.some true) (ho:o.op=.call c) (OG:bB ⟨e,(0,fO p E k st 3 cn 4 sn)::(3,o1)::(4,o2)::H,nx⟩ c=Option.some (g,args)) (Of:args.all okW=true) (ht:tree r0=true)
  (hK:TL Tryz.prog C ops l (St.put ⟨e,(0,fO p E' k' Xx nx XS (nx+1) Xy)::(nx,o3)::(nx+1,o4)::H,nx+2⟩ o.dst r0) K):TL Tryz.prog C ops (o::l) ⟨e,(0,fO p E k st 3 cn 4 sn)::(3,o1)::(4,o2)::H,nx⟩ K:=by
 have N7:eB ((0,fO p E k st 3 cn 4 sn)::(3,o1)::(4,o2)::H) [0,3,4]=H:=qG [0,3,4] H nx hH;refine TL.vB af [0,3,4] [0,3,4] 3 2 hb rfl (JA nx OV) hd hg ho ZV (by simp only[rn_T h1 h2];rfl) (uT yA Of) (K6 h1 h2) ht ?_ ?_
 ·simp only[Db h3 h4,N7,sr,Bool.and_eq_true];exact⟨by simp,KQ hH⟩
 ·simp only[Db h3 h4,N7];exact hK
theorem RX.hU {o:Oper}{cl:Call}{W:List rh}{nt N:Nat}{dyn:List (Nat×Nat)}{K:St→Prop}{i:Nat}{r:List Nat}{res:Nat→Er}(hb:Body Tryz.prog av g args (T3 p E k st cn sn o1 o2) 3 (jA r0 (T4 p E' k' Xx XS Xy o3 o4) (3+2)))(h1:trees o1.cells=true)(h2:trees o2.cells=true)(h3:trees o3.cells=true)(h4:trees o4.cells=true)(OV:4<nx)(hH:hO H [0,3,4] nx=true)
  (hi:ops[i]? = Option.some o) (hd:bt nt o.dst=true) (hg:b9 ops ⟨e,(0,fO p E k st 3 cn 4 sn)::(3,o1)::(4,o2)::H,nx⟩ o=Option.some true) (hu:cg o=Option.some cl) (OG:bB ⟨e,(0,fO p E k st 3 cn 4 sn)::(3,o1)::(4,o2)::H,nx⟩ cl=Option.some (g,args)) (Of:args.all okW=true) (ht:tree r0=true) (hv:Bh dyn res i [0,3,4]=true)
  (hK:vu W dyn res i (jh r0 [0,3,4] [0,3,4,nx,nx+1] 2 [(0,fO p E' k' Xx nx XS (nx+1) Xy),(nx,o3),(nx+1,o4)])∧mK av W nt ops N dyn (C7 Tryz.prog av W nt ops N dyn K) r (note dyn res i (jh r0 [0,3,4] [0,3,4,nx,nx+1] 2 [(0,fO p E' k' Xx nx XS (nx+1) Xy),(nx,o3),(nx+1,o4)])) (St.put ⟨e,(0,fO p E' k' Xx nx XS (nx+1) Xy)::(nx,o3)::(nx+1,o4)::H,nx+2⟩ o.dst r0)) :
  RX Tryz.prog av W nt ops N dyn K (i::r) res ⟨e,(0,fO p E k st 3 cn 4 sn)::(3,o1)::(4,o2)::H,nx⟩:=by
 have N7:eB ((0,fO p E k st 3 cn 4 sn)::(3,o1)::(4,o2)::H) [0,3,4]=H:=qG [0,3,4] H nx hH;refine RX.vB [0,3,4] [0,3,4] [0,3,4,nx,nx+1] 3 2 hb rfl (JA nx OV) hi hd hg hu ZV (by simp only[rn_T h1 h2];rfl) (uT yA Of) (K6 h1 h2) ht hv ?_ (fun q hq hn=>(hn (List.mem_append_left [nx,nx+1] hq)).elim) ?_
 ·simp only[Db h3 h4];have e1:¬ 0=nx:=by omega
  have e2:¬ 3=nx:=by omega
  simp[assoc,e1]
 ·simp only[Db h3 h4,N7];exact hK
def NX (c:List In)(cs:List CV):Ob:=⟨136,12,c.flatMap cU++cs⟩
theorem wG (c:List In){cs:List CV}(h:trees cs=true):trees (NX c cs).cells=true:=by simp only[NX,aZ,cb,h];rfl
theorem uK (p:Pg)(E:List En)(k st:Nat)(c:List In)(s:List Nat)(cs:List CV)(OJ:cs.length=12)(Ql:trees cs=true)(n:Nat)(hN:c.length≤10000)(hM:s.length≤10000) :
  Body Tryz.prog av 85 [.aq 0 0,.agg cs,I n] (T3 p E k st c.length s.length (eW c) (fW s)) 3 (jA (I c.length) (T4 p E k st (c.length+1) (s.length+1) (NX c cs) (fW (s++[n]))) (3+2)):=by
 have:=LP p E k st (c.flatMap cU) c.length (yX c) (cb c) (s.map fun n:Nat=>I n) s.length N3 (aW s) hN hM cs OJ Ql n
 simpa only[T3,T4,NX,fW,eW,List.map_append,List.map_cons,List.map_nil] using this
theorem LQ (p:Pg)(E:List En)(k st:Nat)(c:List In)(s:List Nat)(N M:Nat)(h1:N=c.length)(h2:M=s.length)(cs:List CV)(OJ:cs.length=12)(Ql:trees cs=true)(n:Nat)(hN:N≤10000)(hM:M≤10000) :
  Body Tryz.prog av 85 [.aq 0 0,.agg cs,I n] (T3 p E k st N M (eW c) (fW s)) 3 (jA (I N) (T4 p E k st (N+1) (M+1) (NX c cs) (fW (s++[n]))) (3+2)):=by
 subst h1 h2;exact uK p E k st c s cs OJ Ql n hN hM
theorem jf (c:List In)(cs:List CV)(x:In)(h:cs.map nz=cU x):(c.flatMap cU++cs).map nz=(c++[x]).flatMap cU:=by simp[qt,h]
end
theorem pb (E0:List En)(l:List Sm)(i:Nat):((bE E0 l i).all fun x=>Ck x.2)=true:=by
 simp[bE,Ck,tree]
theorem pd (E0:List En)(l:List Sm)(i:Nat):∀ x∈bE E0 l i,x.2≠CV.aq 5 0:=by
 simp[bE]
@[simp] theorem Jf (p:Pg)(E:List En)(k st a cl b sl n:Nat):(fO p E k st a cl b sl).cells.all (ba n)=(decide (a<n) && decide (b<n)):=by
 obtain⟨t1,t2,t3⟩:=iO p;have t4:tree (.az (E.flatMap ic) E.length)=true:=by simp only[tree]
 simp only[fO,List.all_cons,List.all_nil,a9 n _ t1,a9 n _ t2,a9 n _ t3,a9 n _ t4,Bool.true_and];simp[ba]
@[simp] theorem scO_ltS (p:Pg)(E:List En)(k st a cl b sl n:Nat):a6 n (fO p E k st a cl b sl).cells=(decide (a<n) && decide (b<n)):=by rw[ch];exact Jf p E k st a cl b sl n
@[simp] theorem Ic (c:List In)(n:Nat):(eW c).cells.all (ba n)=true:=ah (cb c) n
@[simp] theorem Gw (s:List Nat)(n:Nat):(fW s).cells.all (ba n)=true:=ah (aW s) n
@[simp] theorem coOb_ltS (c:List In)(n:Nat):a6 n (eW c).cells=true:=by rw[ch];exact Ic c n
@[simp] theorem siOb_ltS (s:List Nat)(n:Nat):a6 n (fW s).cells=true:=by rw[ch];exact Gw s n
@[simp] theorem coOb_frz (c:List In)(o:Nat)(cs:List CV)(n:Nat):(eW c).cells.map (bQ o cs n)=(eW c).cells:=dk (cb c) o cs n
@[simp] theorem siOb_frz (s:List Nat)(o:Nat)(cs:List CV)(n:Nat):(fW s).cells.map (bQ o cs n)=(fW s).cells:=dk (aW s) o cs n
@[simp] theorem coOb_eta (c:List In):(⟨(eW c).elem,(eW c).sz,(eW c).cells⟩:Ob)=eW c:=rfl
@[simp] theorem siOb_eta (s:List Nat):(⟨(fW s).elem,(fW s).sz,(fW s).cells⟩:Ob)=fW s:=rfl
def MZ (p:Pg)(E0:List En)(l:List Sm)(i:Nat)(E:List En)(k st:Nat)(c:List In)(s:List Nat)(cs:List CV)(n:Nat):St:=
 ⟨mE E0 l i n,[(0,fO p E k st 3 c.length 4 s.length),(3,eW c),(4,fW s),(5,⟨170,0,cs⟩)],6⟩
set_option maxHeartbeats 4000000 in
theorem J8 {C:Cx}{Q:Exit→St→Prop}(hC:C.nt=253)(N8:C.n0=3)(p:Pg)(E0:List En)(l:List Sm)(i:Nat){g:Nat}{fs:List (ByteArray×List Pm)}{ps:List Pm}{V:List ByteArray}(E:List En)(k st:Nat)(c:List In)(s:List Nat)(n:Nat)
  (hE:EW g p.ms fs ps V E k) (hl:E.length≤100000) (hm:p.ms.length≤1000) (hc:c.length≤9000) (hs:s.length≤9000) (u:Bool) (r:Rf) (hr:FR p.ms ps V r) :
  T Tryz.prog C (jI Tryz.f84 2) (MS p E0 l i E k st c s (.dx u r) n) (fw (aa C (fun z=>z=NS p E0 l i E k st (c++[.lock u (yh E r)]) (s++[n]))) Q):=by
 have hb:=Dy p E k st c.length s.length hE hl hm n r hr;obtain⟨b1,b2,b3,b4,hp,ht⟩:=GQ (yh E r);obtain⟨a1,a2,a3,YN,Yu⟩:=LD r;have Oo:cU (.lock u (yh E r))=[I (if u then 5 else 4),I 0,.bool false,I 0,I 0,.str eS,.az [] 0,.bool b1,I b2,.az b3 b4,.az [] 0,.az [] 0]:=by simp[cU,hp,bM]
 rw[hp,YN] at hb;apply T.block;have QC:ib (.dx u r)=[I (if u then 6 else 5),.str eS,I 0,I 0,.str eS,.az [] 0,.str a1,.az a2 a3,.az [] 0,.az [] 0,.az [] 0]:=by simp[ib,YN,bM]
 simp only[MS,mE,mH,Hl,QC]
 cases u with
 | false=>
  apply ai;simp[hC];refine aX ?_;simp;apply ai;simp[hC];refine aX ?_;simp;apply aL;simp[hC];refine aX ?_;simp;apply aY;simp[hC];refine aX ?_;simp;apply ai;simp[hC];refine cB ?_;simp;apply aY;simp[hC];refine TL.gJ (hb) yA rfl Oc rfl rfl QX QZ QY (TL.go' af ?_);simp[hC];refine TL.hU (uK p E k st c s [I 4,I 0,.bool false,I 0,I 0,.str eS,.aj,.bool b1,I b2,.az b3 b4,.aj,.aj] rfl (by simp[trees,tree]) n yA yA) QB (aW _) QB (aW _) yA rfl Oc rfl rfl QX QZ QY (TL.go' af ?_);simp;refine aa.le (kR N8 [5,4,0,1] 6 7 (e:=bE E0 l i) rfl (pb _ _ _) (pd _ _ _) rfl rfl rfl rfl (jf _ _ (.lock false (yh E r)) (by simp[Oo])) rfl N3 N3) (aa.here rfl)
 | true=>
  apply ai;simp[hC];refine aX ?_;simp;apply ai;simp[hC];refine aX ?_;simp;apply aL;simp[hC];refine aX ?_;simp;apply aY;simp[hC];refine aX ?_;simp;apply ai;simp[hC];refine aX ?_;simp;apply ai;simp[hC];refine cB ?_;simp;apply aY;simp[hC];refine TL.gJ (hb) yA rfl Oc rfl rfl QX QZ QY (TL.go' af ?_);simp[hC];refine TL.hU (uK p E k st c s [I 5,I 0,.bool false,I 0,I 0,.str eS,.aj,.bool b1,I b2,.az b3 b4,.aj,.aj] rfl (by simp[trees,tree]) n yA yA) QB (aW _) QB (aW _) yA rfl Oc rfl rfl QX QZ QY (TL.go' af ?_);simp;refine aa.le (kR N8 [5,4,0,1] 6 7 (e:=bE E0 l i) rfl (pb _ _ _) (pd _ _ _) rfl rfl rfl rfl (jf _ _ (.lock true (yh E r)) (by simp[Oo])) rfl N3 N3) (aa.here rfl)
set_option maxHeartbeats 4000000 in
theorem MA {C:Cx}{Q:Exit→St→Prop}(hC:C.nt=253)(N8:C.n0=3)(p:Pg)(E0:List En)(l:List Sm)(i:Nat)(E:List En)(k st:Nat)(c:List In)(s:List Nat)(n:Nat)
  (hc:c.length≤9000) (hs:s.length≤9000) :
  T Tryz.prog C (jI Tryz.f84 2) (MS p E0 l i E k st c s .jm n) (fw (aa C (fun z=>z=NS p E0 l i E k st (c++[.ret]) (s++[n]))) Q):=by
 apply T.block;simp only[MS,mE,mH,Hl,ib];apply ai;simp[hC];refine aX ?_;simp;apply ai;simp[hC];refine aX ?_;simp;apply aL;simp[hC];refine aX ?_;simp;apply aY;simp[hC];refine aX ?_;simp;apply ai;simp[hC];refine aX ?_;simp;apply ai;simp[hC];refine aX ?_;simp;apply ai;simp[hC];refine aX ?_;simp;apply ai;simp[hC];refine aX ?_;simp;apply aY;simp[hC];refine TL.hU (uK p E k st c s [I 8,I 0,.bool false,I 0,I 0,.str eS,.aj,.bool false,I 0,.aj,.aj,.aj] rfl rfl n yA yA) QB (aW _) QB (aW _) yA rfl Oc rfl rfl QX QZ QY (TL.go' af ?_);simp;refine aa.le (kR N8 [5,4,0,1] 6 7 (e:=bE E0 l i) rfl (pb _ _ _) (pd _ _ _) rfl rfl rfl rfl (jf _ _ (.ret) (by simp[cU,bM,sF])) rfl N3 N3) (aa.here rfl)
set_option maxHeartbeats 4000000 in
theorem J9 {C:Cx}{Q:Exit→St→Prop}(hC:C.nt=253)(N8:C.n0=3)(p:Pg)(E0:List En)(l:List Sm)(i:Nat){g:Nat}{ps:List Pm}{V:List ByteArray}(E:List En)(k st:Nat)(c:List In)(s:List Nat)(n:Nat)
  (hE:EW g p.ms (p.fs.map fun f=>(f.name,f.params)) ps V E k) (hl:E.length≤100000) (hm:p.ms.length≤1000) (O8:p.fs.length≤1000) (hc:c.length≤9000) (hs:s.length≤9000) (go:Bool) (nm:ByteArray) (gp:List Pm) (al:List Ar)
  (hg:(nm,gp)∈p.fs.map fun f=>(f.name,f.params)) (hw:ja p.ms ps V gp al) (Sk:gp.length≤1000) :
  T Tryz.prog C (jI Tryz.f84 2) (MS p E0 l i E k st c s (.dU go nm al) n) (fw (aa C (fun z=>z=NS p E0 l i E k st (c++[.call go (lP E nm).n (cZ E al) (eR E al)]) (s++[n]))) Q):=by
 have hb:=Hk p E k st c.length s.length hE hl hm O8 n go nm gp al hg hw Sk;have SR:=iu (.call go (lP E nm).n (cZ E al) (eR E al));have lin:=eg (.call go (lP E nm).n (cZ E al) (eR E al));have nin:=G1 (.call go (lP E nm).n (cZ E al) (eR E al));have tsm:=ir (.dU go nm al);have lsm:=kp (.dU go nm al);generalize hX:cU (.call go (lP E nm).n (cZ E al) (eR E al))=X at hb SR lin nin;have hS:ib (.dU go nm al)=pg (if go=true then 4 else 3) nm al:=rfl;rw[hS] at hb;apply T.block;simp only[MS,mE,mH,Hl,hS,pg];simp only[pg] at hb
 cases go with
 | false=>
  apply ai;simp[hC];refine aX ?_;simp;apply ai;simp[hC];refine aX ?_;simp;apply aL;simp[hC];refine fh ?_;simp;refine cB ?_;simp;apply aY;simp[hC];refine TL.gJ (hb) yA rfl Oc rfl rfl QX QZ QY (TL.go' af ?_);simp[hC];refine TL.hU (uK p E k st c s X lin SR n yA yA) QB (aW _) QB (aW _) yA rfl Oc rfl rfl QX QZ QY (TL.go' af ?_);simp;refine aa.le (kR N8 [5,4,0,1] 6 7 (e:=bE E0 l i) rfl (pb _ _ _) (pd _ _ _) rfl rfl rfl rfl (jf _ _ (.call false (lP E nm).n (cZ E al) (eR E al)) (by simp[nin,hX])) rfl N3 N3) (aa.here rfl)
 | true=>
  apply ai;simp[hC];refine aX ?_;simp;apply ai;simp[hC];refine aX ?_;simp;apply aL;simp[hC];refine aX ?_;simp;apply aY;simp[hC];refine cB ?_;simp;apply aY;simp[hC];refine TL.gJ (hb) yA rfl Oc rfl rfl QX QZ QY (TL.go' af ?_);simp[hC];refine TL.hU (uK p E k st c s X lin SR n yA yA) QB (aW _) QB (aW _) yA rfl Oc rfl rfl QX QZ QY (TL.go' af ?_);simp;refine aa.le (kR N8 [5,4,0,1] 6 7 (e:=bE E0 l i) rfl (pb _ _ _) (pd _ _ _) rfl rfl rfl rfl (jf _ _ (.call true (lP E nm).n (cZ E al) (eR E al)) (by simp[nin,hX])) rfl N3 N3) (aa.here rfl)
set_option maxHeartbeats 4000000 in
theorem MC {C:Cx}{Q:Exit→St→Prop}(hC:C.nt=253)(N8:C.n0=3)(p:Pg)(E0:List En)(l:List Sm)(i:Nat){g:Nat}{fs:List (ByteArray×List Pm)}{ps:List Pm}{V:List ByteArray}(E:List En)(k st:Nat)(c:List In)(s:List Nat)(n:Nat)
  (hE:EW g p.ms fs ps V E k) (hl:E.length≤100000) (hc:c.length≤9000) (hs:s.length≤9000) (nm:ByteArray) (x:Ex) (hn:nm∈V) (hx:fK V 2 x) :
  T Tryz.prog C (jI Tryz.f84 2) (MS p E0 l i E k st c s (.iy nm x) n) (fw (aa C (fun z=>z=NS p E0 l i E k st (c++[.set (lP E nm).n (decide ((lP E nm).kind=1)) (dP E x)]) (s++[n]))) Q):=by
 obtain⟨kd,j,hf,hkd⟩:=hE.v nm hn;have hv:=sw p E k st c.length s.length hl nm _ hf (by simp only;omega) n;rw[gV hf];have hb:=jU p E k st c.length s.length hE hl n 2 x hx;obtain⟨a1,a2,a3,a4,a5,ha,Yu⟩:=k9 x;obtain⟨b1,b2,b3,b4,b5,Oy,Vc⟩:=k9 (dP E x);have Oo:cU (.set j (decide (kd=1)) (dP E x))=[I 1,I j,.bool (decide (kd=1)),I b1,I b2,.str b3,.az b4 b5,.bool false,I 0,.az [] 0,.az [] 0,.az [] 0]:=by simp[cU,Oy,sF]
 have QC:ib (.iy nm x)=[I 2,.str nm,I a1,I a2,.str a3,.az a4 a5,.str eS,.az [] 0,.az [] 0,.az [] 0,.az [] 0]:=by simp[ib,ha,kQ]
 rw[ha,Oy] at hb;have SK:((kd:Int) == 1)=decide (kd=1):=by rcases hkd with ⟨rfl,_⟩ | ⟨rfl,_⟩<;>rfl
 apply T.block;simp only[MS,mE,mH,Hl,QC];apply ai;simp[hC];refine aX ?_;simp;apply ai;simp[hC];refine cB ?_;simp;apply ai;simp[hC];refine TL.gJ (hv) yA rfl Oc rfl rfl QX QZ QY (TL.go' af ?_);simp[hC,ic];refine T.le (Le.trim [6,7,5,4,0,1,11] [0,3,4,5,6] 7 Qt yA) ?_;simp;refine T.rx af follows [0,1,2,3,4,5,6,7,8,9,12,10,11,13] [(2,10),(4,10)] N4 ?_;simp[hC];refine RX.gJ (hb) yA rfl rfl N3 rfl rfl QX QZ QY N3 ?_;simp;refine RX.hU (uK p E k st c s [I 1,I j,.bool (decide (kd=1)),I b1,I b2,.str b3,.az b4 b5,.bool false,I 0,.aj,.aj,.aj] rfl yB n yA yA) QB (aW _) QB (aW _) yA rfl rfl N3 rfl rfl QX QZ QY N3 ?_;simp;refine aa.le (kR N8 [5,4,0,1] 21 22 (e:=bE E0 l i) rfl (pb _ _ _) (pd _ _ _) rfl rfl rfl rfl (jf _ _ (.set j (decide (kd=1)) (dP E x)) (by simp[Oo])) rfl N3 N3) (aa.here rfl)
end Go.Proofs.YtlkmbdfhdknlgaaGreatDoor
