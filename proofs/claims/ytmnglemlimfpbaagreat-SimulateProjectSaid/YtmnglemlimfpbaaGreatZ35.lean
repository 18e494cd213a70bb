/- ref. -/
import Derived.Test.YtmnglemlimfpbaaGreatZ34
namespace Go.Proofs.YtmnglemlimfpbaaGreat
open Go.Can Go.aX
def wX (o:Option Ex):List Ex:=match o with
 | none=>[]
 | some e=>[e]
theorem nL (o:Option Ex):mZ o=.av ((wX o).flatMap aZ) (wX o).length:=by cases o<;>simp[mZ,wX]
def J134 (p:Pg)(E:List En)(k st cl sl:Nat)(nm:ByteArray)(il:List Ex)(b:Bool)(j:Nat)(n:Int)(m:Nat)(s:St):Prop:=∃ i:Nat,m=il.length-i∧i≤il.length∧
 s=⟨[(11,I i),(9,.aw 18 0),(6,.aw 4 0),(4,.aw 3 0),(0,.aw 0 0),(2,I n)],[(0,di p E k st cl sl),(3,⟨185,0,[.str nm,.av (il.flatMap aZ) il.length]⟩),(4,⟨66,0,[.bool false,I 0,.ah]⟩),(18,⟨66,0,[.bool b,I j,.bx 19 0 i]⟩),(19,lp ((il.take i).map (dR E)))],20⟩
set_option maxHeartbeats 4000000 in
theorem C0 (p:Pg){g:Nat}{fs:List (ByteArray×List Pm)}{ps:List Pm}{V:List ByteArray}(E:List En)(k st cl sl:Nat)(hE:EW g p.ms fs ps V E k)(hl:E.length≤100000)(_hm:p.ms.length≤1000)(n:Int)(r:Rf)(hr:EX p.ms ps V r) :
  Body Tryz.prog aq 134 [.aw 0 0,.agg (kZ r),I n] [(0,di p E k st cl sl)] 3 (kk (.agg (gz (yd E r))) [(0,di p E k st cl sl)] 3):=by
 obtain⟨c,j,hf,hcase,he⟩:∃ c j,iZ E r.name=some ⟨r.name,c,j⟩∧((c=2∧∃ m,p.ms[j]? = some m∧((0:Int)<m.size↔0<(wX r.index).length))∨(c=5∧(wX r.index).length=0))∧∀ e∈wX r.index,fM V 1 e:=by
  rcases hr with ⟨m,h1,h2,h3⟩ | ⟨q,h1,h2,h3,h4⟩
  ·obtain⟨j,h4,h5⟩:=hE.m m h1
   rw[← h2] at h4
   refine⟨2,j,h4,.inl ⟨rfl,m,h5,?_⟩,fun e he=>?_⟩
   ·rcases h3 with ⟨h6,h7⟩ | ⟨e,h6,h7,_⟩
    ·simp[h6,wX,h7]
    ·simp[h6,wX,h7]
   ·rcases h3 with ⟨h6,h7⟩ | ⟨e',h6,h7,h8⟩
    ·simp[h6,wX] at he
    ·simp only[h6,wX,List.mem_singleton] at he
     subst he
     exact h8
  ·obtain⟨j,h5,h6⟩:=hE.p q h1 h2
   rw[← h3] at h5
   exact⟨5,j,h5,.inr ⟨rfl,by simp[h4,wX]⟩,fun e he=>by simp[h4,wX] at he⟩
 have hfd:=qt E r.name hl
 rw[hf] at hfd
 have hres:gz (yd E r)=[.bool (decide (c=5)),I j,.av (((wX r.index).map (dR E)).flatMap aZ) ((wX r.index).map (dR E)).length]:=by
  simp only[yd,gz,ia hf,nL]
  cases r.index<;>simp[wX]
 have hfl:=fun (i:Nat) (x:Ex) (h:(wX r.index)[i]? = some x)=>aE (f:=aZ) (n:=4) bk (m:=wX r.index) h
 have hil2:(wX r.index).length≤1:=by cases r.index<;>simp[wX]
 rw[hres]
 simp only[kZ,nL]
 generalize wX r.index=il at hcase he hfl hil2
 generalize r.name=nm at hf hfd
 clear hres hr
 refine Body.j5 Tryz.func134 rfl yAb (by simp[Tryz.ntmps134]) fun C hC hC0=>?_
 rw[Tryz.ntmps134] at hC
 apply au
 simp[hC]
 apply T.seq
 refine T.rx ag follows [0,1,2,3,4,5,10,6,7,8,9,11,12] [(3,10),(5,10),(10,6)] yAb ?_
 simp[hC,di,oO]
 refine RX.call rfl yAa rfl rfl rfl yAd (hfd) ?_
 simp[qp,iu]
 have hc5:((c:Int) == 5)=decide (c=5):=by rcases hcase with ⟨rfl,_⟩ | ⟨rfl,_⟩<;>rfl
 apply au
 simp[hC,hc5]
 refine T.cut (fun s=>s=⟨[(9,.aw 18 0),(6,.aw 4 0),(4,.aw 3 0),(0,.aw 0 0),(2,I n)],[(0,di p E k st cl sl),(3,⟨185,0,[.str nm,.av (il.flatMap aZ) il.length]⟩),(4,⟨66,0,[.bool false,I 0,.ah]⟩),(18,⟨66,0,[.bool (decide (c=5)),I j,.ah]⟩)],19⟩) ?_ ?_
 ·rcases hcase with ⟨rfl,m,hmj,hiff⟩ | ⟨rfl,hl0⟩
  ·have hmd:=cB (f:=cq) (n:=3) (fun _=>rfl) hmj 2 yA
   have hjl:=(List.getElem?_eq_some_iff.1 hmj).1
   apply T.block
   apply au
   simp[hC]
   refine bj ?_
   simp
   apply au
   simp[hC]
   refine bj ?_
   simp
   apply T.seq
   refine T.rx ag follows [0,1,2,3,4,5,6,7,8,9,10,11,12,13,14,15,16] [] yAb ?_
   simp[hC,hjl,hmd,cq]
   by_cases hz:0<il.length
   ·have hz2:0<m.size:=by omega
    apply au
    simp[hC,hz,hz2]
    refine e9 ?_
    simp
    refine aa.trim [9,6,4,0,2] [0,3,4,18] 19 yAa yA ?_
    simp[di,oO]
   ·have hz2:¬ 0<m.size:=by omega
    apply au
    simp[hC,hz,hz2]
    refine e9 ?_
    simp
    refine aa.trim [9,6,4,0,2] [0,3,4,18] 19 yAa yA ?_
    simp[di,oO]
  ·apply T.block
   apply au
   simp[hC]
   refine bj ?_
   simp
   apply au
   simp[hC]
   refine bj ?_
   simp
   apply T.seq
   refine T.rx ag follows [0,1,2,3,4,5,6,7,8,9,10,11,12,13,14,15,16] [] yAb ?_
   simp[hC]
   apply au
   simp[hC,hl0]
   refine e9 ?_
   simp
   refine aa.trim [9,6,4,0,2] [0,3,4,18] 19 yAa yA ?_
   simp[di,oO]
 rintro s rfl
 apply aJ
 simp[hC]
 apply T.block
 refine T.aL (J134 p E k st cl sl nm il (decide (c=5)) j n) (n:=il.length) ?_ ?_
 ·refine aa.le (Le.kz 18 2 64 4 rfl rfl) ?_
  simp
  refine aa.trim [11,9,6,4,0,2] [0,3,4,18,19] 20 (by simp[di,oO]) yA ⟨0,by omega,by omega,?_⟩
  simp[lp]
 ·rintro m s ⟨i,rfl,hi,rfl⟩
  by_cases hil:i<il.length
  ·obtain⟨a,hia⟩:∃ a,il[i]? = some a:=⟨il[i],List.getElem?_eq_getElem hil⟩
   have hdr:=hfl i a hia
   have hb:=j8 p E k st cl sl hE hl n 1 a (he a (List.mem_of_getElem? hia))
   have wi:=ct ((i:Int)+1) yA yA
   apply aJ
   simp[hC,hil]
   refine iv ?_
   simp
   apply fq
   refine T.rx ag follows [0,1,2,3,4,5,6,7,8,9,10,11,12,13] [(1,9),(1,10)] yAb ?_
   simp[hC,hil,hdr]
   have htk:List.take (i+1) (List.map (dR E) il)=List.take i (List.map (dR E) il)++[dR E a]:=by
    rw[List.take_add_one,List.getElem?_map,hia]
    rfl
   have hNl:(List.take i (List.map (dR E) il)).length=i:=by simp;omega
   generalize hN:List.take i (List.map (dR E) il)=N at htk hNl
   have hfl2:=aD (f:=aZ) (n:=4) bk N
   rw[hNl] at hfl2
   have hbd:(i+1)*56≤140737488355328:=by omega
   have hbd2:(i+1)*64≤140737488355328:=by omega
   refine RX.cO [0] [] 3 (hb) rfl yAa rfl rfl rfl rfl yAa yAi yAj rfl rfl rfl yAa ?_
   simp[lp,bk,hfl2,hbd,aI,-List.length_flatMap]
   apply aO
   simp[hC,wi]
   refine⟨il.length-(i+1),by omega,?_⟩
   have hN3:(N++[dR E a]).flatMap aZ=N.flatMap aZ++aZ (dR E a):=by simp
   have htr:trees (N.flatMap aZ++aZ (dR E a))=true:=by rw[← hN3];exact ai aN _
   refine aa.le (Le.trim [11,9,6,4,0,2] [0,3,4,18,34] 35 yCq yA) ?_
   simp
   refine aa.le (Le.oP 34 19 rfl rfl yA yAa yAa yCp) ?_
   simp only[di,oO]
   simp[aY (ai aN N)]
   have htk':(il.take (i+1)).map (dR E)=N++[dR E a]:=by rw[List.map_take];exact htk
   refine aa.trim [11,9,6,4,0,2] [0,3,4,18,19] 20 yCw yA ⟨i+1,rfl,by omega,?_⟩
   rw[htk']
   simp[lp,di,oO]
  ·have hie:i=il.length:=by omega
   apply aJ
   simp[hC,hil]
   refine bj ?_
   simp
   apply T.exit
   simp
   apply au
   simp[hC]
   apply T.ret
   subst hie
   have htk:List.take il.length (List.map (dR E) il)=il.map (dR E):=List.take_of_length_le yAa
   have hxl:(((il.map (dR E)).flatMap aZ).take (il.length*4))=(il.map (dR E)).flatMap aZ:=List.take_of_length_le (by rw[aD (f:=aZ) (n:=4) bk];simp)
   refine aa.le (Le.trim [6] [0,4,19] 20 yCr yA) ?_
   simp
   refine aa.le (Le.cG (o:=19) rfl (ai aN _)) ?_
   simp[lp,htk,hxl]
   refine aa.le (Le.cG (o:=4) rfl (by simp[trees,tree])) ?_
   simp[di,oO]
   refine aa.trim [6] [0] 3 yAa yA ⟨_,?_,rfl,?_,rfl⟩
   ·simp
   ·simp
theorem ry (E:List En):∀ a b:List Ar,dc E (a++b)=dc E a++dc E b
 | [],b=>rfl
 | .exp e::a,b=>by simp[dc,ry E a b]
 | .uJ r::a,b=>by simp[dc,ry E a b]
theorem uy (E:List En):∀ a b:List Ar,eY E (a++b)=eY E a++eY E b
 | [],b=>rfl
 | .exp e::a,b=>by simp[eY,uy E a b]
 | .uJ r::a,b=>by simp[eY,uy E a b]
theorem rv (E:List En):∀ a:List Ar,(dc E a).length≤a.length
 | []=>Nat.le_refl _
 | .exp e::a=>by have:=rv E a;simp[dc];omega
 | .uJ r::a=>by have:=rv E a;simp[dc];omega
theorem ux (E:List En):∀ a:List Ar,(eY E a).length≤a.length
 | []=>Nat.le_refl _
 | .exp e::a=>by have:=ux E a;simp[eY];omega
 | .uJ r::a=>by have:=ux E a;simp[eY];omega
theorem Hy {ms:List Mx}{ps:List Pm}{V:List ByteArray}:∀ {gp:List Pm} {al:List Ar} {i:Nat} {a:Ar},jr ms ps V gp al→al[i]? = some a→∃ q,gp[i]? = some q∧ArW ms ps V q a
 | [],[],_,_,_,h=>by simp at h
 | q::gp,b::al,0,a,hw,h=>by
  simp only[jr] at hw
  simp only[List.getElem?_cons_zero,Option.some.injEq] at h
  subst h
  exact⟨q,rfl,hw.1⟩
 | q::gp,b::al,i+1,a,hw,h=>by
  simp only[jr] at hw
  simp only[List.getElem?_cons_succ] at h
  obtain⟨q',h1,h2⟩:=Hy hw.2 h
  exact⟨q',by simpa using h1,h2⟩
 | [],_::_,_,_,hw,_=>hw.elim
 | _::_,[],_,_,hw,_=>hw.elim
theorem kK (x:Pl):(gz x).length=3:=rfl
theorem cV (x:Pl):trees (gz x)=true:=by
 rcases x with ⟨_,_,_ | e⟩
 ·rfl
 ·simp only[gz,mZ,trees,tree,Bool.and_self]
def vO (l:List Pl):Ob:=⟨66,3,l.flatMap gz⟩
def Bk:List CV:=[I 0,I 0,.bool false,I 0,I 0,.str ⟨#[]⟩,.ah,.bool false,I 0,.ah,.ah,.ah]
def pw (kd:Int)(nm:ByteArray)(al:List Ar):List CV:=[I kd,.str nm,I 0,I 0,.str ⟨#[]⟩,.av [] 0,.str ⟨#[]⟩,.av [] 0,.av (al.flatMap oX) al.length,.av [] 0,.av [] 0]
def J133 (p:Pg)(E:List En)(k st cl sl:Nat)(n:Int)(kd op:Int)(nm:ByteArray)(j:Nat)(gp:List Pm)(al:List Ar)(m:Nat)(s:St):Prop:=∃ i:Nat,m=al.length-i∧i≤al.length∧
 s=⟨[(11,I i),(10,.av (gp.flatMap ld) gp.length),(7,.aw 5 0),(6,.aw 4 0),(4,.aw 3 0),(0,.aw 0 0),(2,I n)],[(0,di p E k st cl sl),(3,⟨188,0,pw kd nm al⟩),(4,⟨69,0,Bk⟩),
  (5,⟨69,0,[I op,I j,.bool false,I 0,I 0,.str ⟨#[]⟩,.ah,.bool false,I 0,.ah,.bx 6 0 (dc E (al.take i)).length,.bx 7 0 (eY E (al.take i)).length]⟩),(6,lp (dc E (al.take i))),(7,vO (eY E (al.take i)))],8⟩
set_option maxHeartbeats 4000000 in
theorem Gq (p:Pg){g:Nat}{ps:List Pm}{V:List ByteArray}(E:List En)(k st cl sl:Nat)(hE:EW g p.ms (p.fs.map fun f=>(f.name,f.params)) ps V E k)(hl:E.length≤100000)(hm:p.ms.length≤1000)(_hfl:p.fs.length≤1000)(n:Int)(go:Bool)(nm:ByteArray)(gp:List Pm)(al:List Ar)
  (hg:(nm,gp)∈p.fs.map fun f=>(f.name,f.params)) (hw:jr p.ms ps V gp al) (hgl:gp.length≤1000) :
  Body Tryz.prog aq 133 [.aw 0 0,.agg (ir (.dY go nm al)),I n] [(0,di p E k st cl sl)] 3 (kk (.agg (dv (.call go (lT E nm).n (dc E al) (eY E al)))) [(0,di p E k st cl sl)] 3):=by
 obtain⟨j,hf,hfs⟩:=hE.f _ hg
 have hgl2:=hw.len
 have hfd:=qt E nm hl
 rw[hf] at hfd
 rw[ia hf]
 have hs:ir (.dY go nm al)=pw (if go=true then 4 else 3) nm al:=rfl
 rw[hs]
 obtain⟨f,hfj,hfn⟩:∃ f,p.fs[j]? = some f∧f.params=gp:=by
  rw[List.getElem?_map,Option.map_eq_some_iff] at hfs
  obtain⟨f,h1,h2⟩:=hfs
  exact⟨f,h1,by injection h2⟩
 have hfd1:=cB (f:=fk) (n:=3) (fun _=>rfl) hfj 1 yA
 have hjl:=(List.getElem?_eq_some_iff.1 hfj).1
 refine Body.j5 Tryz.func133 rfl yAb (by simp[Tryz.ntmps133]) fun C hC hC0=>?_
 rw[Tryz.ntmps133] at hC
 apply au
 simp[hC]
 apply au
 simp[hC]
 simp only[di,oO,pw]
 refine T.cut (fun s=>s=⟨[(7,.aw 5 0),(6,.aw 4 0),(4,.aw 3 0),(0,.aw 0 0),(2,I n)],[(0,di p E k st cl sl),(3,⟨188,0,pw (if go=true then 4 else 3) nm al⟩),(4,⟨69,0,Bk⟩),(5,⟨69,0,[I (if go=true then 3 else 2),I 0,.bool false,I 0,I 0,.str ⟨#[]⟩,.ah,.bool false,I 0,.ah,.ah,.ah]⟩)],6⟩) ?_ ?_
 ·cases go with
  | true=>
   apply au
   simp[hC]
   refine dN ?_
   simp
   apply aO
   simp[hC]
   refine aa.trim [7,6,4,0,2] [0,3,4,5] 6 yAa yA ?_
   simp[di,oO,pw,Bk]
  | false=>
   apply au
   simp[hC]
   refine e9 ?_
   simp
   refine aa.trim [7,6,4,0,2] [0,3,4,5] 6 yAa yA ?_
   simp[di,oO,pw,Bk]
 rintro s rfl
 apply T.seq
 refine T.rx ag follows [0,1,2,3,4,5,10,6,7,8,9,11,12] [(3,10),(5,10),(10,6)] yAb ?_
 simp[hC,di,oO,pw,Bk]
 refine RX.call rfl yAa rfl rfl rfl yAd (hfd) ?_
 simp[qp,iu]
 apply fq
 apply au
 simp[hC]
 refine bj ?_
 simp
 apply au
 simp[hC]
 refine e9 ?_
 simp
 apply au
 simp[hC]
 apply T.seq
 refine T.rx ag follows [0,1,2,3,4,5,6,7,8,9,10] [] yAb ?_
 simp[hC,hjl,hfd1,fk,hfn]
 apply aJ
 simp[hC,hgl2]
 refine e9 ?_
 simp
 refine T.le (Le.trim [10,7,6,4,0,2] [0,3,4,5] 6 yAa yA) ?_
 simp
 generalize (if go=true then (4:Int) else 3)=kd
 have hop:(if go=true then (3:Int) else 2)=(if go then 3 else 2:Int):=rfl
 generalize hopg:(if go=true then (3:Int) else 2)=op
 apply aJ
 simp[hC]
 apply T.block
 refine T.aL (J133 p E k st cl sl n kd op nm j gp al) (n:=al.length) ?_ ?_
 ·refine aa.le (Le.kz 5 10 64 4 rfl rfl) ?_
  simp
  refine aa.le (Le.kz 5 11 66 3 rfl rfl) ?_
  simp
  refine aa.trim [11,10,7,6,4,0,2] [0,3,4,5,6,7] 8 yAa yA ⟨0,by omega,by omega,?_⟩
  simp[lp,vO,dc,eY,di,oO,pw,Bk,hgl2]
 ·rintro m s ⟨i,rfl,hi,rfl⟩
  by_cases hil:i<al.length
  ·obtain⟨a,hia⟩:∃ a,al[i]? = some a:=⟨al[i],List.getElem?_eq_getElem hil⟩
   obtain⟨q,hiq,haw⟩:=Hy hw hia
   have hdr:=aE (f:=oX) (n:=7) tu hia
   have hdq:=cB (f:=ld) (n:=2) (fun _=>rfl) hiq 1 yA
   have hil2:i<gp.length:=by omega
   have wi:=ct ((i:Int)+1) yA yA
   have htk:al.take (i+1)=al.take i++[a]:=by rw[List.take_add_one,hia];rfl
   have hn1:=rv E (al.take i)
   have hn2:=ux E (al.take i)
   rw[List.length_take] at hn1 hn2
   have hI:dc E (al.take (i+1))=dc E (al.take i)++dc E [a]:=by rw[htk,ry]
   have hP:eY E (al.take (i+1))=eY E (al.take i)++eY E [a]:=by rw[htk,uy]
   generalize dc E (al.take i)=NI at hn1 hI
   generalize eY E (al.take i)=NP at hn2 hP
   have f1:=aD (f:=aZ) (n:=4) bk NI
   have f2:=aD (f:=gz) (n:=3) kK NP
   have b1:(NI.length+1)*56≤140737488355328:=by omega
   have b2:(NP.length+1)*48≤140737488355328:=by omega
   have b3:(NP.length+1)*40≤140737488355328:=by omega
   have htp:∀ x:Pl,List.take 3 (gz x)=gz x:=fun _=>rfl
   have hte:∀ x:Ex,List.take 4 (aZ x)=aZ x:=fun x=>List.take_of_length_le (by rw[bk];exact Nat.le_refl _)
   have tE:=ai aN NI
   have tP:=ai cV NP
   apply aJ
   simp[hC,hil2]
   refine iv ?_
   simp
   apply fq
   cases a with
   | uJ r=>
    have hb:=C0 p E k st cl sl hE hl hm n r haw.2
    have hqm:q.mutex=true:=haw.1
    obtain⟨rn,ri⟩:=r
    obtain⟨q1,q2,hq⟩:∃ cs n,mZ ri=.av cs n:=by cases ri<;>exact⟨_,_,rfl⟩
    simp only[kZ,hq] at hb
    simp only[oX,kZ,aZ,hq,List.cons_append,List.nil_append] at hdr
    apply au
    simp[hC,hil,hdr,pw]
    refine T.seq (T.seq ?_)
    refine T.rx ag follows [0,1,2,3,4,5,6,7] [] yAb ?_
    simp[hC,hil2,hdq,ld,hqm]
    refine e9 ?_
    simp
    apply au
    simp[hC]
    refine dN ?_
    simp
    refine T.rx ag follows [0,1,2,3,4,5,6,7,8,9,10] [(1,6),(1,7)] yAb ?_
    simp[hC]
    refine RX.cO [0] [] 3 (hb) rfl yAa rfl rfl rfl rfl yAa yAi yAj rfl rfl rfl yAa ?_
    simp[vO,kK,f2,b3,htp,aI,-List.length_flatMap]
    apply aO
    simp[hC,wi]
    refine⟨al.length-(i+1),by omega,?_⟩
    have tQ:=cV (yd E ⟨rn,ri⟩)
    refine aa.le (Le.trim [11,10,7,6,4,0,2] [0,3,4,5,6,28] 29 (by simp only[di,oO,Bk,lp];simp[-List.all_eq_true,-List.all_flatMap,aj tE,aj tP,aj tQ]) yA) ?_
    simp
    refine aa.le (Le.oP 28 7 rfl rfl yA yAa yAa (by simp only[di,oO,Bk,lp];simp[-List.all_eq_true,-List.all_flatMap,bh tE,bh tP,bh tQ])) ?_
    simp only[di,oO,Bk,lp]
    simp[aY tE,aY tP,aY tQ]
    refine aa.trim [11,10,7,6,4,0,2] [0,3,4,5,6,7] 8 (by simp[-List.all_eq_true,-List.all_flatMap,aj tE,aj tP,aj tQ]) yA ⟨i+1,rfl,by omega,?_⟩
    rw[hI,hP]
    simp[lp,vO,dc,eY,di,oO,pw,Bk]
   | exp e=>
    have hb:=j8 p E k st cl sl hE hl n 2 e haw.2
    have hqm:q.mutex=false:=haw.1
    simp only[oX,bL e,k8,List.cons_append,List.nil_append] at hdr
    rw[bL e] at hb
    apply au
    simp[hC,hil,hdr,pw]
    refine T.seq (T.seq ?_)
    refine T.rx ag follows [0,1,2,3,4,5,6,7] [] yAb ?_
    simp[hC,hil2,hdq,ld,hqm]
    refine e9 ?_
    simp
    apply au
    simp[hC]
    refine bj ?_
    simp
    refine T.rx ag follows [0,1,2,3,4,5,6,7,8,9,10] [(1,6),(1,7)] yAb ?_
    simp[hC]
    refine RX.cO [0] [] 3 (hb) rfl yAa rfl rfl rfl rfl yAa yAi yAj rfl rfl rfl yAa ?_
    simp[lp,bk,f1,b1,hte,aI,-List.length_flatMap]
    apply aO
    simp[hC,wi]
    refine⟨al.length-(i+1),by omega,?_⟩
    have tQ:=aN (dR E e)
    refine aa.le (Le.trim [11,10,7,6,4,0,2] [0,3,4,5,28,7] 29 (by simp only[di,oO,Bk,vO];simp[-List.all_eq_true,-List.all_flatMap,aj tE,aj tP,aj tQ]) yA) ?_
    simp
    refine aa.le (Le.oP 28 6 rfl rfl yA yAa yAa (by simp only[di,oO,Bk,vO];simp[-List.all_eq_true,-List.all_flatMap,bh tE,bh tP,bh tQ])) ?_
    simp only[di,oO,Bk,vO]
    simp[aY tE,aY tP,aY tQ]
    refine aa.trim [11,10,7,6,4,0,2] [0,3,4,5,6,7] 8 (by simp[-List.all_eq_true,-List.all_flatMap,aj tE,aj tP,aj tQ]) yA ⟨i+1,rfl,by omega,?_⟩
    rw[hI,hP]
    simp[lp,vO,dc,eY,di,oO,pw,Bk]
  ·have hie:i=al.length:=by omega
   have hil2:¬ i<gp.length:=by omega
   apply aJ
   simp[hC,hil2]
   refine bj ?_
   simp
   apply T.exit
   simp
   apply au
   simp[hC]
   apply T.ret
   rw[hie,List.take_length]
   have tE:=ai aN (dc E al)
   have tP:=ai cV (eY E al)
   have x1:((dc E al).flatMap aZ).take ((dc E al).length*4)=(dc E al).flatMap aZ:=List.take_of_length_le (by rw[aD (f:=aZ) (n:=4) bk];exact Nat.le_refl _)
   have x2:((eY E al).flatMap gz).take ((eY E al).length*3)=(eY E al).flatMap gz:=List.take_of_length_le (by rw[aD (f:=gz) (n:=3) kK];exact Nat.le_refl _)
   generalize dc E al=NI at tE x1
   generalize eY E al=NP at tP x2
   refine aa.le (Le.trim [6] [0,4,6,7] 8 (by simp only[di,oO,lp,vO];simp[-List.all_eq_true,-List.all_flatMap,aj tE,aj tP,Bk]) yA) ?_
   simp
   refine aa.le (Le.cG (o:=6) rfl tE) ?_
   simp[lp,vO,x1,ak tP]
   refine aa.le (Le.cG (o:=7) rfl tP) ?_
   simp[x2]
   refine aa.le (Le.nz [] [4]) ?_
   simp[Bk]
   refine aa.le (Le.cG (o:=4) rfl (by simp[trees,tree])) ?_
   simp[di,oO]
   refine aa.trim [6] [0] 3 yAa yA ⟨_,?_,rfl,?_,rfl⟩
   ·simp[dv,aZ,eS,oz,hopg]
   ·simp
def fQ (p:Pg)(E:List En)(k st a cl b sl:Nat):Ob:=⟨196,0,[.av (p.gs.flatMap pd) p.gs.length,.av (p.ms.flatMap cq) p.ms.length,.av (p.fs.flatMap fk) p.fs.length,.av (E.flatMap iu) E.length,I k,I st,I 0,I 0,.bx a 0 cl,.bx b 0 sl]⟩
theorem yb (p:Pg)(E:List En)(k st cl sl:Nat):di p E k st cl sl=fQ p E k st 1 cl 2 sl:=rfl
set_option maxHeartbeats 4000000 in
theorem Kv (p:Pg)(E:List En)(k st:Nat)(X:List CV)(N:Nat)(hX:X.length=N*12)(tX:trees X=true)(S:List CV)(M:Nat)(hS:S.length=M)(tS:trees S=true)(hN:N≤10000)(hM:M≤10000)
  (cs:List CV) (hcs:cs.length=12) (tcs:trees cs=true) (n:Int) :
  Body Tryz.prog aq 93 [.aw 0 0,.agg cs,I n] [(0,fQ p E k st 1 N 2 M),(1,⟨69,12,X⟩),(2,⟨3,1,S⟩)] 3 (kk (I N) [(0,fQ p E k st 3 (N+1) 4 (M+1)),(3,⟨69,12,X++cs⟩),(4,⟨3,1,S++[I n]⟩)] (3+2)):=by
 refine Body.j5 Tryz.func93 rfl yAb (by simp[Tryz.ntmps93]) fun C hC hC0=>?_
 rw[Tryz.ntmps93] at hC
 apply au
 simp[hC]
 have hb1:(N+1)*168≤140737488355328:=by omega
 have hb2:(M+1)*8≤140737488355328:=by omega
 have htc:List.take 12 cs=cs:=List.take_of_length_le yA
 apply T.seq
 refine T.rx ag follows [0,1,2,3,4,5,6,7,8,9,10,11,12,13,14,15,16,17,18,19,20,21] [(5,7),(5,14),(6,14),(7,12),(7,14),(8,12),(8,14),(12,14)] yAb ?_
 simp[hC,fQ,hX,hS,hcs,htc,hb1,hb2,aI]
 have w1:=ct (N:Int) yA yA
 apply au
 simp[hC,w1]
 apply T.ret
 have tXc:trees (X++cs)=true:=by rw[aC,tX,tcs];rfl
 have tSn:trees (S++[I n])=true:=by rw[aC,tS];rfl
 refine aa.le (Le.trim [6] [0,26,27] 28 (by simp[-List.all_eq_true,-List.all_flatMap,aj tX,aj tcs,aj tS]) yA) ?_
 simp
 refine aa.le (Le.oP 26 3 rfl rfl yA yAa yAa (by simp[-List.all_eq_true,-List.all_flatMap,bh tX,bh tcs,bh tS])) ?_
 simp[aY tX,aY tcs,aY tS]
 refine aa.le (Le.oP 27 4 rfl rfl yA yAa yAa (by simp[-List.all_eq_true,-List.all_flatMap,bh tX,bh tcs,bh tS])) ?_
 simp[aY tX,aY tcs,aY tS]
 refine aa.trim [6] [0,3,4] 5 (by simp[-List.all_eq_true,-List.all_flatMap,aj tX,aj tcs,aj tS]) yA ⟨_,?_,rfl,?_,rfl⟩
 ·simp
 ·simp
end Go.Proofs.YtmnglemlimfpbaaGreat
