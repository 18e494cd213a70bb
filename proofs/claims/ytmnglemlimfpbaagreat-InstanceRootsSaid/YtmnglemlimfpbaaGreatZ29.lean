/- lockordermade.Program. -/
import Derived.Test.YtmnglemlimfpbaaGreatZ28
import Derived.Test.YtmnglemlimfpbaaGreatZ23
import Derived.Test.YtmnglemlimfpbaaGreatZ20
namespace Go.Proofs.YtmnglemlimfpbaaGreat
open Go.Can Go.bg
def fC (l:List Mx):Ob:=⟨95,3,l.flatMap js⟩
def gm (l:List Gl):Ob:=⟨133,2,l.flatMap ny⟩
def fB:List CV:=[.ai,.ai,.ai]
def cG (ng nm nf left:Nat)(ar:Bool):Ob:=⟨129,0,[.aq 0 0,.bw 5 0 ng,.bw 4 0 nm,.bw 2 0 nf,I left,.bool ar]⟩
def J34 (L:List Int)(ar:Bool)(MS:List Mx×Nat)(N:Nat)(m:Nat)(s:St):Prop:=∃ (out:List Mx) (i:Nat),MS=(out++(pD L m out.length i).1,(pD L m out.length i).2)∧m+out.length=N∧i≤L.length∧
 s=⟨[(4,I out.length),(5,I N),(3,.aq 1 0),(2,.aq 19 0)],[(0,au L i),(1,cG 0 out.length 0 24 ar),(2,⟨137,3,[]⟩),(4,fC out),(5,⟨133,2,[]⟩),(19,⟨27,0,fB⟩)],20⟩
def J34b (L:List Int)(ar:Bool)(ms:List Mx)(MS:List Gl×Nat)(N:Nat)(m:Nat)(s:St):Prop:=∃ (out:List Gl) (i:Nat),MS=(out++(uj L m out.length i).1,(uj L m out.length i).2)∧m+out.length=N∧i≤L.length∧
 s=⟨[(8,I out.length),(9,I N),(7,.bw 6 0 out.length),(3,.aq 1 0),(2,.aq 19 0)],[(0,au L i),(1,cG out.length ms.length 0 24 ar),(2,⟨137,3,[]⟩),(4,fC ms),(5,gm out),(6,ba (out.map (·.name))),(19,⟨27,0,fB⟩)],20⟩
def J34c (L:List Int)(ar:Bool)(ms:List Mx)(gs:List Gl)(MS:List Fu×Nat)(N:Nat)(m:Nat)(s:St):Prop:=∃ (out:List Fu) (i:Nat),MS=(out++(sP L m out.length i).1,(sP L m out.length i).2)∧m+out.length=N+1∧i≤L.length∧
 s=⟨[(12,I out.length),(11,I N),(7,.bw 6 0 gs.length),(3,.aq 1 0),(2,.aq 19 0)],[(0,au L i),(1,cG gs.length ms.length out.length 24 ar),(2,cI out),(4,fC ms),(5,gm gs),(6,ba (gs.map (·.name))),(19,⟨27,0,fB⟩)],20⟩
theorem mW (c:Nat)(hc:c≤10)(k:Int)(m:Nat)(hm:k=m)(hk2:m≤100):IntKind.i64.wrap (k+c)=k+c∧IntKind.u8.wrap (k+c)=k+c∧(0≤k+c∧k+c<256)∧(k+c).toNat=m+c:=by
 refine⟨db _ (by omega) (by omega),IntWalk.u8_in _ (by omega),by omega,by omega⟩
theorem ay {α:Type}{f:α→List CV}(hf:∀ x,trees (f x)=true)(l:List α):trees (l.flatMap f)=true:=by
 induction l with
 | nil=>rfl
 | cons a r ih=>rw[List.flatMap_cons,bh,hf,ih];rfl
mutual
theorem fK (o:Nat)(ds:List CV)(n:Nat):∀ c:CV,tree c=true→cm o ds n c=c
 | .bw _ _ _,h=>by simp[tree] at h
 | .aq _ _,h=>by simp[tree] at h
 | .iter _ _ _,h=>by simp[tree] at h
 | .mp _ _,h=>by simp[tree] at h
 | .agg cs,h=>by
  simp only[tree] at h
  rw[cm,kI o ds n cs h]
 | .fn _ cs,h=>by
  simp only[tree] at h
  rw[cm,kI o ds n cs h]
 | .iface _ cs,h=>by
  simp only[tree] at h
  rw[cm,kI o ds n cs h]
 | .df cs,h=>by
  simp only[tree] at h
  rw[cm,kI o ds n cs h]
 | .int _ _,_=>rfl
 | .bool _,_=>rfl
 | .str _,_=>rfl
 | .ax _ _,_=>rfl
 | .ai,_=>rfl
 | .cq _,_=>rfl
 | .br,_=>rfl
 | .b9,_=>rfl
 | .any,_=>rfl
theorem kI (o:Nat)(ds:List CV)(n:Nat):∀ cs:List CV,trees cs=true→gP o ds n cs=cs
 | [],_=>rfl
 | c::cs,h=>by
  simp only[trees,Bool.and_eq_true] at h
  rw[gP,fK o ds n c h.1,kI o ds n cs h.2]
end
theorem cw {cs:List CV}(h:trees cs=true)(o:Nat)(ds:List CV)(n:Nat):cs.map (cm o ds n)=cs:=by
 rw[List.map_congr_left (g:=id) fun c hc=>fK o ds n c (fX h c hc),List.map_id]
theorem eJ (l:List Mx):trees (l.flatMap js)=true:=ay (fun _=>rfl) l
theorem iu (l:List Gl):trees (l.flatMap ny)=true:=ay (fun _=>rfl) l
@[simp] theorem mxOb_lt (l:List Mx)(n:Nat):(fC l).cells.all (aG n)=true:=af (eJ l) n
@[simp] theorem mxOb_lts (l:List Mx)(n:Nat):aC n (fC l).cells=true:=by rw[aD];exact af (eJ l) n
@[simp] theorem mxOb_ok1 (l:List Mx)(o q:Nat):(fC l).cells.all (lL o q)=true:=a6 (eJ l) o q
@[simp] theorem JR (l:List Mx)(o q:Nat):(fC l).cells.map (cH o q)=(fC l).cells:=aY (eJ l) o q
@[simp] theorem mxOb_frz (l:List Mx)(o:Nat)(cs:List CV)(n:Nat):(⟨(fC l).elem,(fC l).sz,(fC l).cells.map (cm o cs n)⟩:Ob)=fC l:=by rw[cw (cs:=(fC l).cells) (eJ l)]
@[simp] theorem glOb_frz (l:List Gl)(o:Nat)(cs:List CV)(n:Nat):(⟨(gm l).elem,(gm l).sz,(gm l).cells.map (cm o cs n)⟩:Ob)=gm l:=by rw[cw (cs:=(gm l).cells) (iu l)]
@[simp] theorem mxOb_eta (l:List Mx):(⟨(fC l).elem,(fC l).sz,(fC l).cells⟩:Ob)=fC l:=rfl
@[simp] theorem glOb_lt (l:List Gl)(n:Nat):(gm l).cells.all (aG n)=true:=af (iu l) n
@[simp] theorem glOb_lts (l:List Gl)(n:Nat):aC n (gm l).cells=true:=by rw[aD];exact af (iu l) n
@[simp] theorem glOb_ok1 (l:List Gl)(o q:Nat):(gm l).cells.all (lL o q)=true:=a6 (iu l) o q
@[simp] theorem JV (l:List Gl)(o q:Nat):(gm l).cells.map (cH o q)=(gm l).cells:=aY (iu l) o q
@[simp] theorem glOb_eta (l:List Gl):(⟨(gm l).elem,(gm l).sz,(gm l).cells⟩:Ob)=gm l:=rfl
def lJ (l:List Pm):Ob:=⟨139,2,l.flatMap jL⟩
theorem lX (l:List Pm):trees (l.flatMap jL)=true:=ay (fun _=>rfl) l
@[simp] theorem pmOb_lt (l:List Pm)(n:Nat):(lJ l).cells.all (aG n)=true:=af (lX l) n
@[simp] theorem pmOb_lts (l:List Pm)(n:Nat):aC n (lJ l).cells=true:=by rw[aD];exact af (lX l) n
@[simp] theorem pmOb_ok1 (l:List Pm)(o q:Nat):(lJ l).cells.all (lL o q)=true:=a6 (lX l) o q
@[simp] theorem Jt (l:List Pm)(o q:Nat):(lJ l).cells.map (cH o q)=(lJ l).cells:=aY (lX l) o q
@[simp] theorem pmOb_eta (l:List Pm):(⟨(lJ l).elem,(lJ l).sz,(lJ l).cells⟩:Ob)=lJ l:=rfl
def J34d (L:List Int)(ar:Bool)(ms:List Mx)(gs:List Gl)(out:List Fu)(j N:Nat)(nm1:ByteArray)(PM:List Pm×Nat)(n:Nat)(s:St):Prop:=∃ (m:Nat) (po:List Pm) (i:Nat),PM=(po++(Au L n i).1,(Au L n i).2)∧n=(if j=0 then 0 else m)∧m+po.length≤2∧i≤L.length∧
 s=⟨[(14,I m),(13,.aq 21 0),(12,I j),(11,I N),(7,.bw 6 0 gs.length),(3,.aq 1 0),(2,.aq 19 0)],[(0,au L i),(1,cG gs.length ms.length j 24 ar),(2,cI out),(4,fC ms),(5,gm gs),(6,ba (gs.map (·.name))),(19,⟨27,0,fB⟩),(21,⟨137,0,[.str nm1,.bw 22 0 po.length,.ai]⟩),(22,lJ po)],23⟩
def J34e (L:List Int)(ar:Bool)(ms:List Mx)(gs:List Gl)(fs0:List Fu)(N:Nat)(RF:List Fu)(n:Nat)(s:St):Prop:=∃ (j:Nat) (fl:List Fu) (i left:Nat),RF=GQ ⟨L,ar,ms,fs0.map fun f=>(f.name,f.params)⟩ gs n j fl i left∧n+j=N∧fl.length=N∧fl.map sg=fs0.map sg∧(∀ f∈fl,f.params.length≤2)∧left≤24∧i≤L.length∧
 s=⟨[(16,I j),(7,.bw 6 0 gs.length),(3,.aq 1 0),(2,.aq 19 0)],[(0,au L i),(1,bp gs ms fl.length left ar),(2,cI fl),(6,ba (gs.map (·.name))),(19,⟨27,0,fB⟩)],20⟩
theorem Aw (l:List Pm):(l.flatMap fun p=>if p.mutex=true then [] else [p.name]).length≤l.length:=by
 induction l with
 | nil=>exact Nat.le_refl _
 | cons x r ih=>
  rw[List.flatMap_cons,List.length_append,List.length_cons]
  split
  ·simp only[List.length_nil];omega
  ·simp only[List.length_cons,List.length_nil];omega
theorem IE {fl:List Fu}{j:Nat}{f:Fu}(h:fl[j]? = some f)(b:List Sm):eA (cI fl).cells (j*3+2) [.ax (bt b) b.length]=(cI (fl.set j ⟨f.name,f.params,b⟩)).cells:=by
 induction fl generalizing j with
 | nil=>simp at h
 | cons a r ih=>
  cases j with
  | zero=>
   simp only[List.getElem?_cons_zero,Option.some.injEq] at h
   subst h
   simp[cI,eP,eA]
  | succ j=>
   simp only[List.getElem?_cons_succ] at h
   have e:=ih h
   simp only[cI,eA,List.flatMap_cons,List.set_cons_succ] at e ⊢
   rw[show (j+1)*3+2=(eP a).length+(j*3+2) by simp[eP];omega,List.take_append,List.take_of_length_le (by omega),Nat.add_sub_cancel_left,show (eP a).length+(j*3+2)+[CV.ax (bt b) b.length].length=(eP a).length+(j*3+2+[CV.ax (bt b) b.length].length) by omega,List.drop_append,List.drop_of_length_le (by omega),Nat.add_sub_cancel_left,List.nil_append,List.append_assoc,List.append_assoc,← List.append_assoc (List.take _ _),e]
def J34f (L:List Int)(ar:Bool)(ms:List Mx)(gs:List Gl)(fl:List Fu)(f:Fu)(i left j:Nat)(n:Nat)(s:St):Prop:=∃ q:Nat,n=f.params.length-q∧q≤f.params.length∧
 s=⟨[(18,I q),(17,.bw 21 0 (gs.map (·.name)++(f.params.take q).flatMap (fun p=>if p.mutex=true then [] else [p.name])).length),(16,I j),(7,.bw 6 0 gs.length),(3,.aq 1 0),(2,.aq 19 0)],[(0,au L i),(1,bp gs ms fl.length left ar),(2,cI fl),(6,ba (gs.map (·.name))),(19,⟨27,0,fB⟩),(21,ba (gs.map (·.name)++(f.params.take q).flatMap (fun p=>if p.mutex=true then [] else [p.name])))],22⟩
set_option maxHeartbeats 8000000 in
theorem zr (l:List Int)(hl:l.length≤9223372036854775807):ah Tryz.prog 34 [ints l] (qX (ss l)):=by
 generalize hR:ss l=R
 refine ah.bl aa Tryz.func34 rfl (by kernel_rfl) (by simp[Tryz.ntmps34]) rfl fun C hC hC0=>?_
 rw[Tryz.ntmps34] at hC
 refine T.seq (T.go' aa ?_)
 simp[hC]
 refine T.seq (T.go' aa ?_)
 simp[hC]
 refine TL.call (by simp[hC]) rfl rfl (aI.of rfl (by first | rfl | simp only[List.cons_append,List.nil_append,List.append_nil,trees,tree,ag,ak,Bool.and_self,Bool.and_true,Bool.true_and]) (IN l 400 hl)) (TL.go' aa ?_)
 simp[hC]
 have hL:(l.take 400).length≤1000:=by simp;omega
 simp only[ss] at hR
 generalize l.take 400=L at hL hR
 refine T.le (Le.up 20 (by simp)) ?_
 simp
 refine T.le (Le.trim [3,2] [0,1,2] 20 (by simp) (by omega)) ?_
 simp
 refine T.le (Le.na 0 19 rfl rfl (by omega) (by simp) (by simp) (by simp[ints])) ?_
 simp[ints]
 refine T.le (Le.na 1 0 rfl rfl (by omega) (by simp) (by simp) (by simp)) ?_
 simp
 refine T.le (Le.na 2 1 rfl rfl (by omega) (by simp) (by simp) (by simp)) ?_
 simp
 refine T.le (Le.lK 1 3 137 3 rfl rfl) ?_
 simp
 refine T.le (Le.lK 1 2 95 3 rfl rfl) ?_
 simp
 refine T.le (Le.lK 1 1 133 2 rfl rfl) ?_
 simp
 refine T.le (Le.na 20 2 rfl rfl (by omega) (by simp) (by simp) (by simp)) ?_
 simp
 refine T.le (Le.na 21 4 rfl rfl (by omega) (by simp) (by simp) (by simp)) ?_
 simp
 refine T.le (Le.na 22 5 rfl rfl (by omega) (by simp) (by simp) (by simp)) ?_
 simp
 refine T.le (Le.trim [3,2] [0,1,2,4,5,19] 20 (by simp) (by omega)) ?_
 simp
 have es:(⟨127,0,[CV.ax (L.map qP) L.length,.int .i64 0]⟩:Ob)=au L 0:=rfl
 rw[es]
 have hi0:=a8 L 3 (Nat.zero_le L.length)
 have hn0:=cc L 0 3 (Nat.zero_le _) hL (by omega) (by omega)
 obtain⟨a,ha⟩:∃ a,bS L 0 3=a:=⟨_,rfl⟩
 rw[ha] at hi0 hn0
 simp only[ha] at hR
 refine T.seq (T.go' aa ?_)
 simp[hC]
 refine TL.cr aa [0] 1 (hn0) (by simp[hC]) rfl rfl rfl rfl (by simp) (by first | rfl | simp[aC,aG,aD,aT,-List.all_eq_true]) (by first | rfl | simp[au,ints]) rfl (TL.go' aa ?_)
 simp[hC]
 have hi1:=a8 L 4 hi0
 have hn1:=cc L a.2 4 hi0 hL (by omega) (by omega)
 have hlt1:=cX L a.2 (show 0<4 by omega)
 obtain⟨nm,hnm⟩:∃ nm,bS L a.2 4=nm:=⟨_,rfl⟩
 rw[hnm] at hi1 hn1 hlt1
 simp only[hnm] at hR
 have w1:=db (1+(nm.1:Int)) (by omega) (by omega)
 refine T.cut (fun s=>s=⟨[(3,.aq 1 0),(2,.aq 19 0)],[(0,au L (pD L (1+nm.1) 0 nm.2).2),(1,cG 0 (pD L (1+nm.1) 0 nm.2).1.length 0 24 (decide (a.1=1))),(2,⟨137,3,[]⟩),(4,fC (pD L (1+nm.1) 0 nm.2).1),(5,⟨133,2,[]⟩),(19,⟨27,0,fB⟩)],20⟩) ?_ ?_
 ·clear hR
  refine T.seq (T.go' aa ?_)
  simp[hC]
  refine TL.cr aa [0] 1 (hn1) (by simp[hC]) rfl rfl rfl rfl (by simp) (by first | rfl | simp[aC,aG,aD,aT,-List.all_eq_true]) (by first | rfl | simp[au,ints]) rfl (TL.go' aa ?_)
  simp[hC,w1]
  refine T.block ?_
  generalize hMS:pD L (1+nm.1) 0 nm.2=MS
  refine T.aS (J34 L (decide (a.1=1)) MS (1+nm.1)) (n:=1+nm.1) ?_ ?_
  ·refine ae.trim [4,5,3,2] [0,1,2,4,5,19] 20 (by simp[au]) (by omega) ⟨[],nm.2,by simp[hMS],by simp,hi1,?_⟩
   simp[cG,fC,fB]
  ·rintro n s ⟨out,i,hM,hno,hi,rfl⟩
   cases n with
   | zero=>
    have ho:out.length=1+nm.1:=by omega
    have hlt:¬ ((out.length:Int)<1+nm.1):=by omega
    refine T.seq (T.seq (T.go' aa ?_))
    simp[hC,hlt]
    refine T.cond (b:=false) rfl ?_
    simp
    refine T.exit ?_
    simp
    refine ae.trim [3,2] [0,1,2,4,5,19] 20 (by simp[au,cG,fB]) (by omega) ?_
    rw[hM]
    simp[pD]
   | succ n=>
    have ho:out.length≤3:=by omega
    obtain⟨c1,c2,c3,c4⟩:=mW out.length (by omega) 97 97 rfl (by omega)
    have hlt:(out.length:Int)<1+nm.1:=by omega
    refine T.seq (T.seq (T.go' aa ?_))
    simp[hC,hlt]
    refine T.cond (b:=true) rfl (T.skip ?_)
    simp
    refine T.seq (T.block ?_)
    refine T.seq (T.yX aa ?_)
    simp[hC,c1,c2,c3,c4]
    refine T.le (Le.trim [6,4,5,3,2] [0,1,2,4,5,19,21] 22 (by simp[au,cG,fB]) (by omega)) ?_
    simp
    have hch:(⟨#[97+UInt8.ofNat out.length]⟩:ByteArray)=dK (97+out.length):=by simp[dK]
    rw[hch]
    refine T.cut (fun s=>∃ (m:Mx) (i2:Nat),pD L (n+1) out.length i=(m::(pD L n (out.length+1) i2).1,(pD L n (out.length+1) i2).2)∧i2≤L.length∧
     s=⟨[(6,.aq 21 0),(4,I out.length),(5,I (1+nm.1)),(3,.aq 1 0),(2,.aq 19 0)],[(21,⟨95,0,js m⟩),(0,au L i2),(1,cG 0 out.length 0 24 (decide (a.1=1))),(2,⟨137,3,[]⟩),(4,fC out),(5,⟨133,2,[]⟩),(19,⟨27,0,fB⟩)],22⟩) ?_ ?_
    ·have hnx:=cc L i 5 hi hL (by omega) (by omega)
     have hi2:=a8 L 5 hi
     rw[pD]
     obtain⟨k,hk⟩:∃ k,bS L i 5=k:=⟨_,rfl⟩
     simp only[hk] at hnx hi2 ⊢
     refine T.seq (T.go' aa ?_)
     simp[hC,cG]
     refine TL.cr aa [0] 1 (hnx) (by simp[hC]) rfl rfl rfl rfl (by simp) (by first | rfl | simp[aC,aG,aD,aT,-List.all_eq_true]) (by first | rfl | simp[au,ints]) rfl (TL.go' aa ?_)
     simp
     refine T.block ?_
     refine T.seq (T.go' aa ?_)
     simp[hC]
     refine T.bf rfl (fun h=>?_) (fun h=>?_)
     ·have h1:k.1=1:=by simpa using h
      refine T.go' aa ?_
      simp[hC]
      refine ae.trim [6,4,5,3,2] [21,0,1,2,4,5,19] 22 (by simp[au,fB]) (by omega) ⟨⟨dK (97+out.length),true,0⟩,k.2,by rw[if_pos h1],hi2,?_⟩
      simp[js]
     have h1:¬ k.1=1:=by simpa using h
     refine T.seq (T.go' aa ?_)
     simp[hC]
     refine T.bf rfl (fun h=>?_) (fun h=>?_)
     ·have h2:k.1=2:=by simpa using h
      have hn3:=cc L k.2 3 hi2 hL (by omega) (by omega)
      have hi3:=a8 L 3 hi2
      have hlt3:=cX L k.2 (show 0<3 by omega)
      obtain⟨q,hq⟩:∃ q,bS L k.2 3=q:=⟨_,rfl⟩
      simp only[hq] at hn3 hi3 hlt3 ⊢
      have wq:=db (1+(q.1:Int)) (by omega) (by omega)
      refine T.go' aa ?_
      simp[hC]
      refine TL.cr aa [0] 1 (hn3) (by simp[hC]) rfl rfl rfl rfl (by simp) (by first | rfl | simp[aC,aG,aD,aT,-List.all_eq_true]) (by first | rfl | simp[au,ints]) rfl (TL.go' aa ?_)
      simp[hC,wq]
      refine ae.trim [6,4,5,3,2] [21,0,1,2,4,5,19] 22 (by simp[au,fB]) (by omega) ⟨⟨dK (97+out.length),false,1+q.1⟩,q.2,by rw[if_neg h1,if_pos h2],hi3,?_⟩
      simp[js]
     ·have h2:¬ k.1=2:=by simpa using h
      refine T.skip ?_
      simp
      refine ae.trim [6,4,5,3,2] [21,0,1,2,4,5,19] 22 (by simp[au,fB]) (by omega) ⟨⟨dK (97+out.length),false,0⟩,k.2,by rw[if_neg h1,if_neg h2],hi2,?_⟩
      simp[js]
    rintro s ⟨m,i2,hm,hi2,rfl⟩
    have hb:(out.length+1)*32≤140737488355328:=by omega
    have hml:(fC out).cells.length=out.length*3:=bu (f:=js) (n:=3) (fun _=>rfl) out
    have hms:(fC out).sz=3:=rfl
    have hme:(fC out).elem=95:=rfl
    have wo:=db ((out.length:Int)+1) (by omega) (by omega)
    refine T.rx aa follows [0,1,2,3,4,5,6,7,8,9,10,11,12] [(5,7)] (by kernel_rfl) ?_
    simp[hC,cG,js,hml,hms,hme,hb,aX]
    refine T.go' aa ?_
    simp[hC,wo]
    refine⟨n,by omega,?_⟩
    refine ae.le (Le.trim [4,5,3,2] [0,1,2,5,19,35] 36 (by simp[au,fB,-List.all_eq_true,-List.all_flatMap]) (by omega)) ?_
    simp
    refine ae.le (Le.na 35 4 rfl rfl (by omega) (by simp) (by simp) (by simp[au,ints,fB,-List.all_eq_true,-List.all_flatMap])) ?_
    simp[au,ints]
    refine ae.trim [4,5,3,2] [0,1,2,4,5,19] 20 (by simp[fB,cH,-List.all_eq_true,-List.all_flatMap]) (by omega) ⟨out++[m],i2,?_,?_,hi2,?_⟩
    ·rw[hM,hm];simp
    ·simp;omega
    ·simp[au,ints,cG,fC,js,fB,cH]
 ·rintro s rfl
  obtain⟨_,hml,hmz,hmi⟩:=xS L (1+nm.1) 0 nm.2 (by omega)
  have hi2:=hmi hi1
  obtain⟨ms,hms⟩:∃ ms,pD L (1+nm.1) 0 nm.2=ms:=⟨_,rfl⟩
  simp only[hms] at hR hml hmz hi2 ⊢
  clear hmi
  have hn2:=cc L ms.2 3 hi2 hL (by omega) (by omega)
  have hi3:=a8 L 3 hi2
  have hlt2:=cX L ms.2 (show 0<3 by omega)
  obtain⟨ng,hng⟩:∃ ng,bS L ms.2 3=ng:=⟨_,rfl⟩
  rw[hng] at hn2 hi3 hlt2
  simp only[hng] at hR
  refine T.seq (T.go' aa ?_)
  simp[hC]
  refine T.cut (fun s=>s=⟨[(7,.bw 6 0 ng.1),(3,.aq 1 0),(2,.aq 19 0)],[(0,au L (uj L ng.1 0 ng.2).2),(1,cG ng.1 ms.1.length 0 24 (decide (a.1=1))),(2,⟨137,3,[]⟩),(4,fC ms.1),(5,gm (uj L ng.1 0 ng.2).1),(6,ba ((uj L ng.1 0 ng.2).1.map (·.name))),(19,⟨27,0,fB⟩)],20⟩) ?_ ?_
  ·clear hR
   refine T.seq (T.go' aa ?_)
   simp[hC,cG]
   refine TL.cr aa [0] 1 (hn2) (by simp[hC]) rfl rfl rfl rfl (by simp) (by first | rfl | simp[aC,aG,aD,aT,-List.all_eq_true]) (by first | rfl | simp[au,ints]) rfl (TL.go' aa ?_)
   simp[hC]
   refine T.block ?_
   generalize hMS:uj L ng.1 0 ng.2=MS
   have ew:(⟨129,0,[CV.aq 0 0,CV.bw 5 0 0,CV.bw 4 0 ms.1.length,CV.bw 2 0 0,I 24,CV.bool (decide (a.1=1))]⟩:Ob)=cG 0 ms.1.length 0 24 (decide (a.1=1)):=rfl
   refine T.aS (J34b L (decide (a.1=1)) ms.1 MS ng.1) (n:=ng.1) ?_ ?_
   ·refine ae.le (Le.own 7 9 1 rfl) ?_
    simp
    refine ae.le (Le.na 20 6 rfl rfl (by omega) (by simp) (by simp) (by simp[au,ints,fB,-List.all_eq_true,-List.all_flatMap])) ?_
    simp[au,ints]
    refine ae.trim [8,9,7,3,2] [0,1,2,4,5,6,19] 20 (by simp[fB,cH,-List.all_eq_true,-List.all_flatMap]) (by omega) ⟨[],ng.2,?_,by simp,hi3,?_⟩
    ·simp[hMS]
    ·simp[au,ints,cG,gm,ba,fB,cH]
   ·rintro n s ⟨out,i,hM,hno,hi,rfl⟩
    cases n with
    | zero=>
     have ho:out.length=ng.1:=by omega
     have hlt:¬ ((out.length:Int)<ng.1):=by omega
     refine T.seq (T.seq (T.go' aa ?_))
     simp[hC,hlt]
     refine T.cond (b:=false) rfl ?_
     simp
     refine T.exit ?_
     simp
     refine ae.trim [7,3,2] [0,1,2,4,5,6,19] 20 (by simp[au,cG,fB]) (by omega) ?_
     rw[hM]
     simp[uj,ho,cG]
    | succ n=>
     have ho:out.length≤1:=by omega
     obtain⟨c1,c2,c3,c4⟩:=mW out.length (by omega) 48 48 rfl (by omega)
     have hlt:(out.length:Int)<ng.1:=by omega
     have hnx:=cc L i 5 hi hL (by omega) (by omega)
     have hi2:=a8 L 5 hi
     have hlt5:=cX L i (show 0<5 by omega)
     rw[uj] at hM
     obtain⟨k,hk⟩:∃ k,bS L i 5=k:=⟨_,rfl⟩
     simp only[hk] at hnx hi2 hlt5 hM
     have wk:=db ((k.1:Int)-2) (by omega) (by omega)
     have hch:(⟨#[48+UInt8.ofNat out.length]⟩:ByteArray)=dK (48+out.length):=by simp[dK]
     have so:kC BinOp.add ⟨#[103]⟩ (dK (48+out.length))=some (.str (⟨#[103]⟩++dK (48+out.length))):=rfl
     refine T.seq (T.seq (T.go' aa ?_))
     simp[hC,hlt]
     refine T.cond (b:=true) rfl (T.skip ?_)
     simp
     refine T.seq (T.block ?_)
     refine T.seq ?_
     refine T.rx aa follows [0,1,2,3,4,5,6,7,8,9,13,10,11,12,14] [(2,13),(2,10),(3,9),(3,13),(3,10),(4,13),(4,10),(9,13),(13,10)] (by kernel_rfl) ?_
     simp[hC,cG,c1,c2,c3,c4,hch,so]
     refine RX.cr [0] [0] 1 (hnx) rfl (by simp) rfl rfl rfl rfl (by simp) (by first | rfl | simp[aC,aG,aD,aT,-List.all_eq_true]) (by first | rfl | simp[au,ints]) rfl rfl rfl (by simp) ?_
     simp[wk]
     refine T.le (Le.trim [10,8,9,7,3,2] [0,1,2,4,5,6,19,33] 34 (by simp[au,fB]) (by omega)) ?_
     simp
     have hb:(out.length+1)*24≤140737488355328:=by omega
     have hb2:(out.length+1)*16≤140737488355328:=by omega
     have hgl:(gm out).cells.length=out.length*2:=bu (f:=ny) (n:=2) (fun _=>rfl) out
     have hgs:(gm out).sz=2:=rfl
     have hge:(gm out).elem=133:=rfl
     have hnl:(ba (out.map (·.name))).cells.length=out.length:=by simp[ba]
     have hns:(ba (out.map (·.name))).sz=1:=rfl
     have hne:(ba (out.map (·.name))).elem=9:=rfl
     have wo:=db ((out.length:Int)+1) (by omega) (by omega)
     refine T.rx aa follows [0,1,2,3,4,5,6,7,8,9,10,11,12,13,14,15,16,17,18] [(5,7),(5,12),(6,12),(7,11),(7,12),(8,11),(8,12)] (by kernel_rfl) ?_
     simp[hC,hb,hb2,hgl,hgs,hge,hnl,hns,hne,aX]
     refine T.go' aa ?_
     simp[hC,wo]
     refine⟨n,by omega,?_⟩
     refine ae.le (Le.trim [8,9,7,3,2] [0,1,2,4,19,53,54] 55 (by simp[au,fB,-List.all_eq_true,-List.all_flatMap]) (by omega)) ?_
     simp
     refine ae.le (Le.na 53 5 rfl rfl (by omega) (by simp) (by simp) (by simp[au,ints,fB,-List.all_eq_true,-List.all_flatMap])) ?_
     simp[au,ints]
     refine ae.le (Le.na 54 6 rfl rfl (by omega) (by simp) (by simp) (by simp[fB,cH,-List.all_eq_true,-List.all_flatMap])) ?_
     simp
     refine ae.trim [8,9,7,3,2] [0,1,2,4,5,6,19] 20 (by simp[fB,cH,-List.all_eq_true,-List.all_flatMap]) (by omega) ⟨out++[⟨⟨#[103]⟩++dK (48+out.length),(k.1:Int)-2⟩],k.2,?_,?_,hi2,?_⟩
     ·rw[hM];simp
     ·simp;omega
     ·simp[au,ints,cG,gm,ny,ba,fB,cH]
  ·rintro s rfl
   obtain⟨_,hgl,hgz,hgi⟩:=Ey L ng.1 0 ng.2 (by omega)
   have hi4:=hgi hi3
   obtain⟨gs,hgs⟩:∃ gs,uj L ng.1 0 ng.2=gs:=⟨_,rfl⟩
   simp only[hgs] at hR hgl hgz hi4 ⊢
   clear hgi
   rw[← hgl]
   have hn3:=cc L gs.2 4 hi4 hL (by omega) (by omega)
   have hi5:=a8 L 4 hi4
   have hlt3:=cX L gs.2 (show 0<4 by omega)
   obtain⟨nf,hnf⟩:∃ nf,bS L gs.2 4=nf:=⟨_,rfl⟩
   rw[hnf] at hn3 hi5 hlt3
   simp only[hnf] at hR
   refine T.seq (T.go' aa ?_)
   simp[hC,cG]
   refine TL.cr aa [0] 1 (hn3) (by simp[hC]) rfl rfl rfl rfl (by simp) (by first | rfl | simp[aC,aG,aD,aT,-List.all_eq_true]) (by first | rfl | simp[au,ints]) rfl (TL.go' aa ?_)
   simp[hC]
   refine T.cut (fun s=>s=⟨[(7,.bw 6 0 gs.1.length),(3,.aq 1 0),(2,.aq 19 0)],[(0,au L (sP L (nf.1+1) 0 nf.2).2),(1,cG gs.1.length ms.1.length (sP L (nf.1+1) 0 nf.2).1.length 24 (decide (a.1=1))),(2,cI (sP L (nf.1+1) 0 nf.2).1),(4,fC ms.1),(5,gm gs.1),(6,ba (gs.1.map (·.name))),(19,⟨27,0,fB⟩)],20⟩) ?_ ?_
   ·clear hR
    refine T.seq (T.go' aa ?_)
    simp[hC]
    refine T.block ?_
    generalize hMS:sP L (nf.1+1) 0 nf.2=MS
    refine T.aS (J34c L (decide (a.1=1)) ms.1 gs.1 MS nf.1) (n:=nf.1+1) ?_ ?_
    ·refine ae.trim [12,11,7,3,2] [0,1,2,4,5,6,19] 20 (by simp[au,fB]) (by omega) ⟨[],nf.2,by simp[hMS],by simp,hi5,?_⟩
     simp[cG,cI]
    ·rintro n s ⟨out,i,hM,hno,hi,rfl⟩
     cases n with
     | zero=>
      have ho:out.length=nf.1+1:=by omega
      have hlt:¬ ((out.length:Int)≤nf.1):=by omega
      refine T.seq (T.seq (T.go' aa ?_))
      simp[hC,hlt]
      refine T.cond (b:=false) rfl ?_
      simp
      refine T.exit ?_
      simp
      refine ae.trim [7,3,2] [0,1,2,4,5,6,19] 20 (by simp[au,cG,fB]) (by omega) ?_
      rw[hM]
      simp[sP,ho,cG]
     | succ n=>
      obtain⟨j,hj⟩:∃ j,out.length=j:=⟨_,rfl⟩
      simp only[hj] at hM hno ⊢
      have ho:j≤3:=by omega
      obtain⟨c1,c2,c3,c4⟩:=mW j (by omega) 48 48 rfl (by omega)
      have hlt:(j:Int)≤nf.1:=by omega
      have hch:(⟨#[48+UInt8.ofNat j]⟩:ByteArray)=dK (48+j):=by simp[dK]
      have so:kC BinOp.add ⟨#[102]⟩ (dK (48+j))=some (.str (⟨#[102]⟩++dK (48+j))):=rfl
      refine T.seq (T.seq (T.go' aa ?_))
      simp[hC,hlt]
      refine T.cond (b:=true) rfl (T.skip ?_)
      simp
      refine T.seq (T.block ?_)
      refine T.seq (T.yX aa ?_)
      simp[hC,c1,c2,c3,c4,hch,so]
      refine T.le (Le.trim [13,12,11,7,3,2] [0,1,2,4,5,6,19,21] 22 (by simp[au,cG,fB]) (by omega)) ?_
      simp
      rw[sP] at hM
      simp only at hM
      obtain⟨nm1,hnm1⟩:∃ x,(if j=0 then (⟨#[109,97,105,110]⟩:ByteArray) else ⟨#[102]⟩++dK (48+j))=x:=⟨_,rfl⟩
      rw[hnm1] at hM
      refine T.cut (fun s=>s=⟨[(13,.aq 21 0),(12,I j),(11,I nf.1),(7,.bw 6 0 gs.1.length),(3,.aq 1 0),(2,.aq 19 0)],[(0,au L i),(1,cG gs.1.length ms.1.length j 24 (decide (a.1=1))),(2,cI out),(4,fC ms.1),(5,gm gs.1),(6,ba (gs.1.map (·.name))),(19,⟨27,0,fB⟩),(21,⟨137,0,[.str nm1,.ai,.ai]⟩)],22⟩) ?_ ?_
      ·refine T.seq (T.go' aa ?_)
       simp[hC]
       refine T.bf rfl (fun h=>?_) (fun h=>?_)
       ·have h0:j=0:=by
         simp at h
         omega
        rw[if_pos h0] at hnm1
        refine T.go' aa ?_
        simp[hC]
        refine ae.trim [13,12,11,7,3,2] [0,1,2,4,5,6,19,21] 22 (by simp[au,cG,fB]) (by omega) ?_
        simp[hnm1]
       ·have h0:¬ j=0:=by
         simp at h
         omega
        rw[if_neg h0] at hnm1
        refine T.skip ?_
        simp
        refine ae.trim [13,12,11,7,3,2] [0,1,2,4,5,6,19,21] 22 (by simp[au,cG,fB]) (by omega) ?_
        simp[hnm1]
      rintro s rfl
      have hnx:=cc L i 3 hi hL (by omega) (by omega)
      have hi6:=a8 L 3 hi
      have hlt6:=cX L i (show 0<3 by omega)
      obtain⟨k,hk⟩:∃ k,bS L i 3=k:=⟨_,rfl⟩
      rw[hk] at hnx hi6 hlt6
      simp only[hk] at hM
      obtain⟨PM,hPM⟩:∃ x,Au L (if j=0 then 0 else k.1) k.2=x:=⟨_,rfl⟩
      rw[hPM] at hM
      have hpi:PM.2≤L.length∧PM.1.length≤2:=by
       rw[← hPM]
       have h1:(if j=0 then 0 else k.1)≤2:=by split<;>omega
       obtain⟨_,p2,p3⟩:=DF L (if j=0 then 0 else k.1) k.2 h1
       exact⟨p3 hi6,by omega⟩
      refine T.cut (fun s=>s=⟨[(13,.aq 21 0),(12,I j),(11,I nf.1),(7,.bw 6 0 gs.1.length),(3,.aq 1 0),(2,.aq 19 0)],[(0,au L PM.2),(1,cG gs.1.length ms.1.length j 24 (decide (a.1=1))),(2,cI out),(4,fC ms.1),(5,gm gs.1),(6,ba (gs.1.map (·.name))),(19,⟨27,0,fB⟩),(21,⟨137,0,[.str nm1,.bw 22 0 PM.1.length,.ai]⟩),(22,lJ PM.1)],23⟩) ?_ ?_
      ·refine T.seq (T.go' aa ?_)
       simp[hC,cG]
       refine TL.cr aa [0] 1 (hnx) (by simp[hC]) rfl rfl rfl rfl (by simp) (by first | rfl | simp[aC,aG,aD,aT,-List.all_eq_true]) (by first | rfl | simp[au,ints]) rfl (TL.go' aa ?_)
       simp[hC]
       refine T.block ?_
       refine T.aS (J34d L (decide (a.1=1)) ms.1 gs.1 out j nf.1 nm1 PM) (n:=if j=0 then 0 else k.1) ?_ ?_
       ·refine ae.le (Le.lK 21 1 139 2 rfl rfl) ?_
        simp
        refine ae.trim [14,13,12,11,7,3,2] [0,1,2,4,5,6,19,21,22] 23 (by simp[au,fB]) (by omega) ⟨k.1,[],k.2,?_,rfl,?_,hi6,?_⟩
        ·simp[hPM]
        ·simp;omega
        ·simp[cG,lJ]
       ·rintro n1 s ⟨m,po,i1,hP,hn1,hpo,hi7,rfl⟩
        by_cases hg:0<n1
        ·have h0:¬ j=0:=by
          intro h
          rw[if_pos h] at hn1
          omega
         rw[if_neg h0] at hn1
         subst hn1
         obtain⟨m,rfl⟩:∃ q,n1=q+1:=⟨n1-1,by omega⟩
         have g1:0<j:=by omega
         rw[Au] at hP
         have hnx1:=cc L i1 3 hi7 hL (by omega) (by omega)
         have hi8:=a8 L 3 hi7
         obtain⟨q,hq⟩:∃ q,bS L i1 3=q:=⟨_,rfl⟩
         simp only[hq] at hnx1 hi8 hP
         obtain⟨mm,hmm⟩:∃ mm,m+1=mm:=⟨_,rfl⟩
         simp only[hmm] at hP ⊢
         obtain⟨d1,d2,d3,d4⟩:=mW mm (by omega) 48 48 rfl (by omega)
         have hch1:(⟨#[48+UInt8.ofNat mm]⟩:ByteArray)=dK (48+mm):=by simp[dK]
         have so1:kC BinOp.add ⟨#[112]⟩ (dK (48+mm))=some (.str (⟨#[112]⟩++dK (48+mm))):=rfl
         have hmp:0<mm:=by omega
         refine T.seq (T.seq (T.go' aa ?_))
         simp[hC,g1,hmp]
         refine T.cond (b:=true) rfl (T.skip ?_)
         simp
         refine T.seq (T.block (T.seq ?_))
         refine T.rx aa follows [0,1,2,3,4,5,6,7,8,9,13,10,11,12,14] [(2,13),(2,10),(3,9),(3,13),(3,10),(4,13),(4,10),(9,13),(13,10)] (by kernel_rfl) ?_
         simp[hC,cG,d1,d2,d3,d4,hch1,so1]
         refine RX.cr [0] [0] 1 (hnx1) rfl (by simp) rfl rfl rfl rfl (by simp) (by first | rfl | simp[aC,aG,aD,aT,-List.all_eq_true]) (by first | rfl | simp[au,ints]) rfl rfl rfl (by simp) ?_
         simp
         have hb:(po.length+1)*24≤140737488355328:=by omega
         have hgl:(lJ po).cells.length=po.length*2:=bu (f:=jL) (n:=2) (fun _=>rfl) po
         have hgs:(lJ po).sz=2:=rfl
         have hge:(lJ po).elem=139:=rfl
         have wo:=db (m:Int) (by omega) (by omega)
         have wm:(mm:Int)-1=(m:Int):=by omega
         refine T.go' aa ?_
         simp[hC,hb,hgl,hgs,hge,aX]
         refine T.go' aa ?_
         simp[hC,wm,wo]
         refine⟨m,by omega,?_⟩
         refine ae.le (Le.trim [14,13,12,11,7,3,2] [0,1,2,4,5,6,19,21,39] 40 (by simp[au,fB,-List.all_eq_true,-List.all_flatMap]) (by omega)) ?_
         simp
         refine ae.le (Le.na 39 22 rfl rfl (by omega) (by simp) (by simp) (by simp[au,ints,fB,cI,-List.all_eq_true,-List.all_flatMap,a6 (cu out)])) ?_
         simp[au,ints]
         refine ae.trim [14,13,12,11,7,3,2] [0,1,2,4,5,6,19,21,22] 23 (by simp[fB,cH,-List.all_eq_true,-List.all_flatMap]) (by omega) ⟨m,po++[⟨⟨#[112]⟩++dK (48+mm),decide (0<q.1)⟩],q.2,?_,?_,?_,hi8,?_⟩
         ·rw[hP];simp
         ·rw[if_neg h0]
         ·simp;omega
         ·simp[au,ints,cG,lJ,jL,fB,cH]
        ·have hn0:n1=0:=by omega
         have hPM2:PM=(po,i1):=by
          rw[hP,hn0]
          simp[Au]
         by_cases hm0:0<m
         ·have g1:¬ 0<j:=by
           intro h
           rw[if_neg (by omega)] at hn1
           omega
          refine T.seq (T.seq (T.go' aa ?_))
          simp[hC,hm0,g1]
          refine T.cond (b:=false) rfl ?_
          simp
          refine T.exit ?_
          simp
          refine ae.trim [13,12,11,7,3,2] [0,1,2,4,5,6,19,21,22] 23 (by simp[au,cG,fB]) (by omega) ?_
          simp[hPM2,cG]
         ·refine T.seq (T.seq (T.go' aa ?_))
          simp[hC,hm0]
          refine T.cond (b:=false) rfl ?_
          simp
          refine T.exit ?_
          simp
          refine ae.trim [13,12,11,7,3,2] [0,1,2,4,5,6,19,21,22] 23 (by simp[au,cG,fB]) (by omega) ?_
          simp[hPM2,cG]
      rintro s rfl
      refine T.le (Le.nz [] [21]) ?_
      simp[nz]
      refine T.le (Le.eM (o:=22) rfl (lX PM.1)) ?_
      have htk:List.take (PM.1.length*(lJ PM.1).sz) (lJ PM.1).cells=PM.1.flatMap jL:=List.take_of_length_le (Nat.le_of_eq (bu (f:=jL) (n:=2) (fun _=>rfl) PM.1))
      simp[cm,htk,cG]
      have hb:(j+1)*64≤140737488355328:=by omega
      have hgl:(cI out).cells.length=j*3:=by rw[← hj];exact bu (f:=eP) (n:=3) (fun _=>rfl) out
      have hgs:(cI out).sz=3:=rfl
      have hge:(cI out).elem=137:=rfl
      have wo:=db ((j:Int)+1) (by omega) (by omega)
      refine T.rx aa follows [0,1,2,3,4,5,6,7,8,9,10,11,12] [(5,7)] (by kernel_rfl) ?_
      simp[hC,hgl,hgs,hge,hb,aX]
      refine T.go' aa ?_
      simp[hC,wo]
      refine⟨n,by omega,?_⟩
      refine ae.le (Le.trim [12,11,7,3,2] [0,1,4,5,6,19,36] 37 (by simp[au,fB,cm,-List.all_eq_true,-List.all_flatMap]) (by omega)) ?_
      simp
      refine ae.le (Le.na 36 2 rfl rfl (by omega) (by simp) (by simp) (by simp[au,ints,fB,cm,-List.all_eq_true,-List.all_flatMap])) ?_
      simp[au,ints]
      refine ae.trim [12,11,7,3,2] [0,1,2,4,5,6,19] 20 (by simp[fB,cH,cm,-List.all_eq_true,-List.all_flatMap]) (by omega) ⟨out++[⟨nm1,PM.1,[]⟩],PM.2,?_,?_,hpi.1,?_⟩
      ·rw[hM];simp[hj]
      ·simp;omega
      ·simp[au,ints,cG,cI,eP,bt,fB,cH,cm,hj]
   ·rintro s rfl
    obtain⟨_,hfl,hfz,hf0,hfi⟩:=Ez L (nf.1+1) 0 nf.2 (by omega)
    have hi6:=hfi hi5
    obtain⟨fs,hfs⟩:∃ fs,sP L (nf.1+1) 0 nf.2=fs:=⟨_,rfl⟩
    simp only[hfs] at hR hfl hfz hf0 hi6 ⊢
    clear hfi
    refine T.le (Le.eM (o:=5) rfl (iu gs.1)) ?_
    have htk:List.take (gs.1.length*(gm gs.1).sz) (gm gs.1).cells=gs.1.flatMap ny:=List.take_of_length_le (Nat.le_of_eq (bu (f:=ny) (n:=2) (fun _=>rfl) gs.1))
    simp[cm,htk,cG]
    refine T.le (Le.eM (o:=4) rfl (eJ ms.1)) ?_
    have htk2:List.take (ms.1.length*(fC ms.1).sz) (fC ms.1).cells=ms.1.flatMap js:=List.take_of_length_le (Nat.le_of_eq (bu (f:=js) (n:=3) (fun _=>rfl) ms.1))
    simp[cm,htk2]
    refine T.le (Le.trim [7,3,2] [0,1,2,6,19] 20 (by simp[au,fB,cm,-List.all_eq_true,-List.all_flatMap]) (by omega)) ?_
    simp
    have ew:(⟨129,0,[CV.aq 0 0,CV.ax (gs.1.flatMap ny) gs.1.length,CV.ax (ms.1.flatMap js) ms.1.length,CV.bw 2 0 fs.1.length,.int .i64 24,CV.bool (decide (a.1=1))]⟩:Ob)=bp gs.1 ms.1 fs.1.length 24 (decide (a.1=1)):=rfl
    rw[ew]
    clear ew htk htk2
    have h19:(fB.map (cm 4 (fC ms.1).cells (fC ms.1).sz∘cm 5 (gm gs.1).cells (gm gs.1).sz))=fB:=rfl
    rw[h19]
    clear h19
    have hmp:0<ms.1.length:=by omega
    have hsz:∀ m∈ms.1,m.size≤1000:=fun m hm=>by have:=(hmz m hm).1;omega
    have hpl:∀ f∈fs.1,f.params.length≤2:=fun f hf=>by
     obtain⟨_,k,h1,h2⟩:=hfz f hf
     have:=congrArg List.length h2
     simp[nP] at this
     omega
    refine T.cut (fun s=>∃ (i left:Nat),s=⟨[(3,.aq 1 0),(2,.aq 19 0)],[(0,au L i),(1,bp gs.1 ms.1 R.fs.length left (decide (a.1=1))),(2,cI R.fs),(19,⟨27,0,fB⟩)],20⟩) ?_ ?_
    ·refine T.seq (T.go' aa ?_)
     simp[hC]
     refine T.block ?_
     refine T.aS (J34e L (decide (a.1=1)) ms.1 gs.1 fs.1 (nf.1+1) R.fs) (n:=nf.1+1) ?_ ?_
     ·refine ae.trim [16,7,3,2] [0,1,2,6,19] 20 (by simp[au,fB,bp]) (by omega) ⟨0,fs.1,fs.2,24,?_,by omega,by omega,rfl,hpl,by omega,hi6,?_⟩
      ·rw[← hR]
      ·simp
     ·rintro n s ⟨j,fl,i,left,hM,hjn,hll,hsg,hpl1,hlt24,hi,rfl⟩
      cases n with
      | zero=>
       have hj:¬ j<fl.length:=by omega
       have hfin:R.fs=fl:=by rw[hM];rfl
       refine T.seq (T.seq (T.go' aa ?_))
       simp[hC,bp,hj]
       refine T.cond (b:=false) rfl ?_
       simp
       refine T.exit ?_
       simp
       refine ae.trim [3,2] [0,1,2,19] 20 (by simp[au,fB]) (by omega) ⟨i,left,?_⟩
       simp[hfin]
      | succ n=>
       have hj:j<fl.length:=by omega
       obtain⟨f,hf⟩:∃ f,fl[j]? = some f:=⟨fl[j],List.getElem?_eq_getElem hj⟩
       have hfp:=hpl1 f (List.mem_of_getElem? hf)
       refine T.seq (T.seq (T.go' aa ?_))
       simp[hC,bp,hj]
       refine T.cond (b:=true) rfl (T.skip ?_)
       simp
       have hobl:(iY gs.1 f.params).length≤10:=by
        have h2:=Aw f.params
        unfold iY
        rw[List.length_append,List.length_map]
        omega
       have hbok:=Bu L hL gs.1 ms.1 hmp (by omega) hsz (decide (a.1=1)) fl (by omega) (by omega) (fun f hf=>by have:=hpl1 f hf;omega) f.name f.params (by omega) (bt f.body) f.body.length left left (iY gs.1 f.params) 2 6 i (Nat.le_refl _) (by omega) (by omega) (by omega) (by omega) hi
       have hM2:=hM
       rw[GQ,hf] at hM2
       simp only at hM2
       have hwr:oq L (decide (a.1=1)) ms.1 fl=⟨L,decide (a.1=1),ms.1,fs.1.map fun f=>(f.name,f.params)⟩:=by
        have h2:fl.map (fun f=>(f.name,f.params))=fs.1.map fun f=>(f.name,f.params):=hsg
        simp only[oq,h2]
       obtain⟨hbi,hbl⟩:=ry (oq L (decide (a.1=1)) ms.1 fl) f.params left (iY gs.1 f.params) 2 6 i left hi
       rw[hwr] at hbok hbi hbl
       obtain⟨b,hb⟩:∃ b,lQ ⟨L,decide (a.1=1),ms.1,fs.1.map fun f=>(f.name,f.params)⟩ f.params left (iY gs.1 f.params) 2 6 i left=b:=⟨_,rfl⟩
       rw[hb] at hbok hbi hbl
       rw[hb] at hM2
       have hcl:(cI fl).cells.length=fl.length*3:=bu (f:=eP) (n:=3) (fun _=>rfl) fl
       have hs1:j*3+2<fl.length*3:=by omega
       have hs2:j*3+2+1≤fl.length*3:=by omega
       have hs3:j*3+3≤fl.length*3:=by omega
       have ew:(⟨129,0,[CV.aq 0 0,CV.ax (gs.1.flatMap ny) gs.1.length,CV.ax (ms.1.flatMap js) ms.1.length,CV.bw 2 0 fl.length,I left,CV.bool (decide (a.1=1))]⟩:Ob)=bp gs.1 ms.1 fl.length left (decide (a.1=1)):=rfl
       have hfc:eV f.name f.params (bt f.body) f.body.length=[.str f.name,.ax (f.params.flatMap jL) f.params.length,.ax (bt f.body) f.body.length]:=rfl
       rw[hfc] at hbok
       have hset:=IE hf b.1
       refine T.cut (fun s=>s=⟨[(16,I j),(7,.bw 6 0 gs.1.length),(3,.aq 1 0),(2,.aq 19 0)],[(0,au L b.2.1),(1,bp gs.1 ms.1 fl.length b.2.2 (decide (a.1=1))),(2,cI (fl.set j ⟨f.name,f.params,b.1⟩)),(6,ba (gs.1.map (·.name))),(19,⟨27,0,fB⟩)],20⟩) ?_ ?_
       rotate_left
       ·rintro s rfl
        have wj:=db ((j:Int)+1) (by omega) (by omega)
        refine T.go' aa ?_
        simp[hC,wj]
        refine⟨n,by omega,ae.trim [16,7,3,2] [0,1,2,6,19] 20 (by simp[au,fB,bp]) (by omega) ⟨j+1,fl.set j ⟨f.name,f.params,b.1⟩,b.2.1,b.2.2,hM2,by omega,by simp[hll],?_,?_,by omega,hbi,?_⟩⟩
        ·rw[Dq (f':=⟨f.name,f.params,b.1⟩) hf rfl]
         exact hsg
        ·intro f' hf'
         rcases List.mem_or_eq_of_mem_set hf' with h | h
         ·exact hpl1 f' h
         ·rw[h];exact hfp
        ·simp
       refine T.block ?_
       have hb0:gs.1.length*16≤140737488355328:=by omega
       have hnl:(ba (gs.1.map (·.name))).cells.length=gs.1.length:=by simp[ba]
       have hns:(ba (gs.1.map (·.name))).sz=1:=rfl
       have hne:(ba (gs.1.map (·.name))).elem=9:=rfl
       refine T.seq (T.go' aa ?_)
       simp[hC,hb0,hnl,hns]
       have htk:List.take gs.1.length (ba (gs.1.map (·.name))).cells=(ba (gs.1.map (·.name))).cells:=List.take_of_length_le (Nat.le_of_eq hnl)
       simp only[htk,ew]
       have hdr:(cI fl).cells.drop (j*3)=eP f++(fl.drop (j+1)).flatMap eP:=aV (f:=eP) (n:=3) (fun _=>rfl) hf
       have hdr1:(cI fl).cells.drop (j*3+1)=(eP f).drop 1++(fl.drop (j+1)).flatMap eP:=bG (f:=eP) (n:=3) (fun _=>rfl) hf 1 (by omega)
       have hsz1:(cI fl).sz=3:=rfl
       refine T.cut (fun s=>s=⟨[(17,.bw 21 0 (iY gs.1 f.params).length),(16,I j),(7,.bw 6 0 gs.1.length),(3,.aq 1 0),(2,.aq 19 0)],[(0,au L i),(1,bp gs.1 ms.1 fl.length left (decide (a.1=1))),(2,cI fl),(6,ba (gs.1.map (·.name))),(19,⟨27,0,fB⟩),(21,ba (iY gs.1 f.params))],22⟩) ?_ ?_
       ·refine T.seq (T.go' aa ?_)
        simp[hC]
        refine T.block ?_
        refine T.aS (J34f L (decide (a.1=1)) ms.1 gs.1 fl f i left j) (n:=f.params.length) ?_ ?_
        ·refine ae.trim [18,17,16,7,3,2] [0,1,2,6,19,21] 22 (by simp[au,fB,bp]) (by omega) ⟨0,by simp,by omega,?_⟩
         simp[ba]
        ·rintro n1 s ⟨q,hq,hql,rfl⟩
         obtain⟨ow,how⟩:∃ ow,gs.1.map (·.name)++(f.params.take q).flatMap (fun p=>if p.mutex=true then [] else [p.name])=ow:=⟨_,rfl⟩
         have hol:ow.length≤10:=by
          have h2:=Aw (f.params.take q)
          rw[List.length_take] at h2
          rw[← how,List.length_append,List.length_map]
          omega
         rw[how]
         by_cases hqn:q<f.params.length
         ·obtain⟨p,hp⟩:∃ p,f.params[q]? = some p:=⟨f.params[q],List.getElem?_eq_getElem hqn⟩
          have hpd:(f.params.flatMap jL).drop (q*2)=jL p++(f.params.drop (q+1)).flatMap jL:=aV (f:=jL) (n:=2) (fun _=>rfl) hp
          have hpd1:(f.params.flatMap jL).drop (q*2+1)=(jL p).drop 1++(f.params.drop (q+1)).flatMap jL:=bG (f:=jL) (n:=2) (fun _=>rfl) hp 1 (by omega)
          refine T.seq (T.seq (T.go' aa ?_))
          simp[hC,bp,hj,hdr1,eP,hqn]
          refine T.cond (b:=true) rfl (T.skip ?_)
          simp
          refine T.seq (T.block ?_)
          have htake:f.params.take (q+1)=f.params.take q++[p]:=by rw[List.take_add_one,hp];rfl
          have wq:=db ((q:Int)+1) (by omega) (by omega)
          obtain⟨pn,pmx⟩:=p
          cases pmx with
          | true=>
           refine T.seq (T.go' aa ?_)
           simp[hC,hj,hdr1,eP,hqn,hpd,jL]
           refine T.cond (b:=false) rfl ?_
           simp
           refine T.skip ?_
           simp
           refine T.go' aa ?_
           simp[hC,wq]
           refine⟨f.params.length-(q+1),by omega,?_⟩
           refine ae.trim [18,17,16,7,3,2] [0,1,2,6,19,21] 22 (by simp[au,fB]) (by omega) ⟨q+1,rfl,by omega,?_⟩
           rw[htake,List.flatMap_append,← List.append_assoc,how]
           simp[bp]
          | false=>
           refine T.seq (T.go' aa ?_)
           simp[hC,hj,hdr1,eP,hqn,hpd,jL]
           refine T.cond (b:=true) rfl ?_
           simp
           have hb1:(ow.length+1)*16≤140737488355328:=by omega
           have hwl:(ba ow).cells.length=ow.length:=by simp[ba]
           have hws:(ba ow).sz=1:=rfl
           have hwe:(ba ow).elem=9:=rfl
           refine T.go' aa ?_
           simp[hC,hj,hdr1,eP,hqn,hpd,jL,hb1,hwl,hws,hwe,aX]
           refine T.go' aa ?_
           simp[hC,wq]
           refine⟨f.params.length-(q+1),by omega,?_⟩
           refine ae.le (Le.trim [18,17,16,7,3,2] [0,1,2,6,19,23] 24 (by simp[au,fB,-List.all_eq_true,-List.all_flatMap]) (by omega)) ?_
           simp
           refine ae.le (Le.na 23 21 rfl rfl (by omega) (by simp) (by simp) (by simp[au,ints,fB,cI,-List.all_eq_true,-List.all_flatMap,a6 (cu fl)])) ?_
           simp[au,ints]
           refine ae.trim [18,17,16,7,3,2] [0,1,2,6,19,21] 22 (by simp[fB,cH,-List.all_eq_true,-List.all_flatMap]) (by omega) ⟨q+1,rfl,by omega,?_⟩
           rw[htake,List.flatMap_append,← List.append_assoc,how]
           simp[au,ints,bp,ba,fB,cH]
         ·have hqe:q=f.params.length:=by omega
          refine T.seq (T.seq (T.go' aa ?_))
          simp[hC,bp,hj,hdr1,eP,hqn]
          refine T.cond (b:=false) rfl ?_
          simp
          refine T.exit ?_
          simp
          refine ae.trim [17,16,7,3,2] [0,1,2,6,19,21] 22 (by simp[au,fB]) (by omega) ?_
          have how2:ow=iY gs.1 f.params:=by
           rw[← how,hqe,List.take_length]
           rfl
          rw[← how2]
          simp
       rintro s rfl
       refine T.mo aa follows [0,1,2,3,5,6,7,8,9,10,12,15] 8 (by kernel_rfl) (by kernel_rfl) (by simp) rfl ?_
       simp[hC]
       refine XZ.read (i:=11) (by kernel_rfl) rfl ?_
       simp[bQ,iK,dW,cA,hC,bp]
       refine XZ.read (i:=13) (by kernel_rfl) rfl ?_
       simp[bQ,iK,dW,cA,hC,hj]
       refine XZ.read (i:=14) (by kernel_rfl) rfl ?_
       simp[bQ,iK,dW,cA,hC,hdr,eP]
       rw[ew]
       refine XZ.two (i:=4) (j:=16) (by kernel_rfl) ?_ ?_
       ·refine kr.op (i:=4) rfl ?_
        simp[bp,bQ,iK,dW,cA,hC,-eA]
        rw[ew]
        refine XZ.one (i:=16) (by kernel_rfl) ?_
        refine kr.call (i:=16) rfl rfl (TL.iF aa 3 21 [0,1,2,21] 4 hbok (by simp[hC]) rfl rfl rfl (by simp) (by omega) (by simp) (by simp) rfl (by simp) rfl rfl (by simp) (by simp) (TL.nil ?_))
        simp
        refine XZ.one (i:=17) (by kernel_rfl) ?_
        refine kr.op (i:=17) rfl ?_
        simp[bQ,iK,dW,cA,hC,hj,-eA]
        refine XZ.one (i:=18) (by kernel_rfl) ?_
        refine kr.op (i:=18) rfl ?_
        simp[bQ,iK,dW,cA,hC,-eA]
        refine XZ.one (i:=19) (by kernel_rfl) ?_
        refine kr.op (i:=19) rfl ?_
        simp[bQ,iK,sV,cA,hsz1,hcl,hs2,-eA]
        refine XZ.end (by kernel_rfl) ?_
        simp only[oc,thenS]
        refine ae.trim [16,7,3,2] [0,1,2,6,19] 20 (by simp[au,fB,bp,-List.all_eq_true,-List.all_flatMap,-eA,hset]) (by omega) ?_
        simp[bp,hset,-eA]
        rfl
       ·refine kr.call (i:=16) rfl rfl (TL.iF aa 3 21 [0,1,2,21] 4 hbok (by simp[hC]) rfl rfl rfl (by simp) (by omega) (by simp) (by simp) rfl (by simp) rfl rfl (by simp) (by simp) (TL.nil ?_))
        simp
        refine XZ.one (i:=4) (by kernel_rfl) ?_
        refine kr.op (i:=4) rfl ?_
        simp[bp,bQ,iK,dW,cA,hC,-eA]
        refine XZ.one (i:=17) (by kernel_rfl) ?_
        refine kr.op (i:=17) rfl ?_
        simp[bQ,iK,dW,cA,hC,hj,-eA]
        refine XZ.one (i:=18) (by kernel_rfl) ?_
        refine kr.op (i:=18) rfl ?_
        simp[bQ,iK,dW,cA,hC,-eA]
        refine XZ.one (i:=19) (by kernel_rfl) ?_
        refine kr.op (i:=19) rfl ?_
        simp[bQ,iK,sV,cA,hsz1,hcl,hs2,-eA]
        refine XZ.end (by kernel_rfl) ?_
        simp only[oc,thenS]
        refine ae.trim [16,7,3,2] [0,1,2,6,19] 20 (by simp[au,fB,-List.all_eq_true,-List.all_flatMap,-eA,hset]) (by omega) ?_
        simp[hset,-eA]
        rfl
    ·rintro s ⟨i,left,rfl⟩
     refine T.seq (T.go' aa ?_)
     simp[hC,bp,fB]
     refine T.ret ?_
     refine ae.le (Le.trim [2] [2,19] 20 (by simp[-List.all_eq_true,-List.all_flatMap]) (by omega)) ?_
     simp
     refine ae.le (Le.eM (o:=2) rfl (cu R.fs)) ?_
     have htk3:List.take (R.fs.length*(cI R.fs).sz) (cI R.fs).cells=R.fs.flatMap eP:=List.take_of_length_le (Nat.le_of_eq (bu (f:=eP) (n:=3) (fun _=>rfl) R.fs))
     simp[cm,htk3]
     refine ae.here ?_
     simp[qX,dq]
     rw[← hR]
     exact⟨⟨rfl,rfl⟩,⟨rfl,rfl⟩⟩
end Go.Proofs.YtmnglemlimfpbaaGreat
