/- lines. -/
import Derived.Test.YtmnglemlimfpbaaGreatZ33
namespace Go.Proofs.YtmnglemlimfpbaaGreat
open Go.Can Go.bg
def TxS (tabs:ByteArray)(s:Sm):Prop:=match s with
 | .gr nm e=>nm.size≤100∧I7 e
 | .gV nm e=>nm.size≤100∧I7 e
 | .dI _ nm al=>nm.size≤100∧al.length≤1000∧∀ a∈al,TxA a
 | .dg _ r=>I6 r
 | .ku e th el=>I7 e∧ah Tryz.prog 129 [.ax (bt th) th.length,.str (tabs++⟨#[9]⟩)] (.str (ic (tabs++⟨#[9]⟩) th))∧ah Tryz.prog 129 [.ax (bt el) el.length,.str (tabs++⟨#[9]⟩)] (.str (ic (tabs++⟨#[9]⟩) el))
 | .cj e th=>I7 e∧ah Tryz.prog 129 [.ax (bt th) th.length,.str (tabs++⟨#[9]⟩)] (.str (ic (tabs++⟨#[9]⟩) th))
 | .iU=>True
def J129 (l:List Sm)(tabs X:ByteArray)(n:Nat)(s:St):Prop:=∃ (i:Nat) (x:ByteArray),n=l.length-i∧i≤l.length∧x++ic tabs (l.drop i)=X∧s=⟨[(6,I i),(5,.str x),(0,.ax (bt l) l.length),(1,.str tabs)],[],0⟩
set_option maxHeartbeats 8000000 in
theorem sD (l:List Sm)(tabs:ByteArray)(ht:tabs.size≤100)(hl:l.length≤100000)(hX:(ic tabs l).size≤1000000)(h:∀ s∈l,TxS tabs s):ah Tryz.prog 129 [.ax (bt l) l.length,.str tabs] (.str (ic tabs l)):=by
 have hflat:=fun (i:Nat) (x:Sm) (h:l[i]? = some x)=>aV (f:=gI) (n:=11) jK (m:=l) h
 rw[← mO] at hflat
 obtain⟨X,hXe⟩:∃ X,ic tabs l=X:=⟨_,rfl⟩
 rw[hXe] at hX ⊢
 refine ah.bl aa Tryz.func129 rfl (by kernel_rfl) (by simp[Tryz.ntmps129]) rfl fun C hC hC0=>?_
 rw[Tryz.ntmps129] at hC
 refine T.seq (T.go' aa ?_)
 simp[hC]
 refine T.seq (T.go' aa ?_)
 simp[hC]
 refine T.seq (T.seq (T.go' aa ?_))
 simp[hC]
 refine T.block ?_
 refine T.aS (J129 l tabs X) (n:=l.length) ?_ ?_
 ·refine ae.le (Le.env [6,5,0,1]) (ae.here ⟨0,⟨#[]⟩,by omega,by omega,?_,?_⟩)
  ·rw[List.drop_zero,hXe]
   exact ByteArray.empty_append
  ·simp
 ·rintro n s ⟨i,x,rfl,hil,hx,rfl⟩
  by_cases hi:i<l.length
  ·obtain⟨a,hia⟩:∃ a,l[i]? = some a:=⟨l[i],List.getElem?_eq_getElem hi⟩
   have hdr:=hflat i a hia
   have hao:=h a (List.mem_of_getElem? hia)
   have wi:=db ((i:Int)+1) (by omega) (by omega)
   have hd:l.drop i=a::l.drop (i+1):=by
    rw[List.drop_eq_getElem_cons hi,(List.getElem?_eq_some_iff.1 hia).2]
   rw[hd,ic] at hx
   have hz:x.size+(tabs.size+(jY tabs a).size+tNl.size+(ic tabs (l.drop (i+1))).size)=X.size:=by
    rw[← hx]
    simp only[ByteArray.size_append]
   have hq:tNl.size=1:=rfl
   refine T.seq (T.seq (T.go' aa ?_))
   simp[hC,hi]
   refine T.cond (b:=true) rfl (T.skip ?_)
   simp
   refine T.seq (T.block ?_)
   have st:=av x tabs (by omega)
   obtain⟨y,hy⟩:∃ y,x++tabs=y:=⟨_,rfl⟩
   have hys:y.size=x.size+tabs.size:=by rw[← hy,ByteArray.size_append]
   rw[hy] at st
   obtain⟨Y,hY⟩:∃ Y,y++jY tabs a=Y:=⟨_,rfl⟩
   have hYs:Y.size=y.size+(jY tabs a).size:=by rw[← hY,ByteArray.size_append]
   have snl:=av Y ⟨#[10]⟩ (by have:(⟨#[10]⟩:ByteArray).size=1:=rfl;omega)
   have hx2:Y++⟨#[10]⟩++ic tabs (l.drop (i+1))=X:=by
    rw[← hx,← hY,← hy]
    simp only[ByteArray.append_assoc]
    rfl
   have hz2:y.size+(jY tabs a).size≤1000000:=by omega
   clear hz hx hys hYs
   match a,hdr,hao,hY,hz2 with
   | .gr nm e,hdr,hao,hY,hz2=>
    obtain⟨h1,h2,h2z⟩:=hao
    simp only[gI,bP e,j5,List.cons_append,List.nil_append] at hdr
    rw[bP e] at h2
    refine T.seq (T.go' aa ?_)
    simp[hC,hi,hdr]
    refine T.seq (T.go' aa ?_)
    simp[hC,st]
    refine T.cut (fun s=>s=⟨[(6,I i),(5,.str Y),(0,.ax (bt l) l.length),(1,.str tabs)],[],0⟩) ?_ ?_
    ·refine T.seq (T.go' aa ?_)
     simp[hC]
     refine T.block ?_
     refine T.seq (T.go' aa ?_)
     simp[hC]
     refine T.cond (b:=true) rfl ?_
     simp
     simp only[jY,xo,Da,iv,ByteArray.size_append] at hz2
     have s0:=av (y) (⟨#[118,97,114,32]⟩) (by (try simp only[ByteArray.size_append]);omega)
     have s1:=av (y++⟨#[118,97,114,32]⟩) (nm) (by (try simp only[ByteArray.size_append]);omega)
     have s2:=av (y++⟨#[118,97,114,32]⟩++nm) (⟨#[32,61,32]⟩) (by (try simp only[ByteArray.size_append]);omega)
     have s3:=av (y++⟨#[118,97,114,32]⟩++nm++⟨#[32,61,32]⟩) (ij e) (by (try simp only[ByteArray.size_append]);omega)
     have s4:=av (y++⟨#[118,97,114,32]⟩++nm++⟨#[32,61,32]⟩++ij e) (⟨#[59]⟩) (by (try simp only[ByteArray.size_append]);omega)
     refine T.rx aa follows [0,1,2,3,4,5,6,7,8,9,10,11] [(3,8)] (by kernel_rfl) ?_
     simp[hC,s0,s1,s2]
     refine RX.call rfl (by simp) rfl rfl rfl (by first | rfl | simp only[List.cons_append,List.nil_append,List.append_nil,trees,tree,ag,ak,Bool.and_self,Bool.and_true,Bool.true_and]) (h2) ?_
     simp[s3,s4]
     refine ae.trim [6,5,0,1] [] 0 (by simp) (by omega) ?_
     simp[← hY,jY,xo,Da,iv,ByteArray.append_assoc]
    rintro s rfl
    refine T.go' aa ?_
    simp[hC,snl]
    refine T.go' aa ?_
    simp[hC,wi]
    refine⟨l.length-(i+1),by omega,?_⟩
    refine ae.trim [6,5,0,1] [] 0 (by simp) (by omega) ⟨i+1,Y++⟨#[10]⟩,rfl,by omega,hx2,?_⟩
    simp
   | .gV nm e,hdr,hao,hY,hz2=>
    obtain⟨h1,h2,h2z⟩:=hao
    simp only[gI,bP e,j5,List.cons_append,List.nil_append] at hdr
    rw[bP e] at h2
    refine T.seq (T.go' aa ?_)
    simp[hC,hi,hdr]
    refine T.seq (T.go' aa ?_)
    simp[hC,st]
    refine T.cut (fun s=>s=⟨[(6,I i),(5,.str Y),(0,.ax (bt l) l.length),(1,.str tabs)],[],0⟩) ?_ ?_
    ·refine T.seq (T.go' aa ?_)
     simp[hC]
     refine T.block ?_
     refine T.seq (T.go' aa ?_)
     simp[hC]
     refine T.cond (b:=false) rfl ?_
     simp
     refine T.seq (T.go' aa ?_)
     simp[hC]
     refine T.cond (b:=true) rfl ?_
     simp
     simp only[jY,Da,iv,ByteArray.size_append] at hz2
     have s0:=av (y) (nm) (by (try simp only[ByteArray.size_append]);omega)
     have s1:=av (y++nm) (⟨#[32,61,32]⟩) (by (try simp only[ByteArray.size_append]);omega)
     have s2:=av (y++nm++⟨#[32,61,32]⟩) (ij e) (by (try simp only[ByteArray.size_append]);omega)
     have s3:=av (y++nm++⟨#[32,61,32]⟩++ij e) (⟨#[59]⟩) (by (try simp only[ByteArray.size_append]);omega)
     refine T.rx aa follows [0,1,2,3,4,5,6,7,8,9,10] [(2,7)] (by kernel_rfl) ?_
     simp[hC,s0,s1]
     refine RX.call rfl (by simp) rfl rfl rfl (by first | rfl | simp only[List.cons_append,List.nil_append,List.append_nil,trees,tree,ag,ak,Bool.and_self,Bool.and_true,Bool.true_and]) (h2) ?_
     simp[s2,s3]
     refine ae.trim [6,5,0,1] [] 0 (by simp) (by omega) ?_
     simp[← hY,jY,Da,iv,ByteArray.append_assoc]
    rintro s rfl
    refine T.go' aa ?_
    simp[hC,snl]
    refine T.go' aa ?_
    simp[hC,wi]
    refine⟨l.length-(i+1),by omega,?_⟩
    refine ae.trim [6,5,0,1] [] 0 (by simp) (by omega) ⟨i+1,Y++⟨#[10]⟩,rfl,by omega,hx2,?_⟩
    simp
   | .dI false nm al,hdr,hao,hY,hz2=>
    obtain⟨h1,h2,h3⟩:=hao
    have hca:=qC al h2 h3
    simp only[gI,bB,j5,List.cons_append,List.nil_append] at hdr
    have e5:(if false=true then (4:Int) else 3)=3:=rfl
    try rw[e5] at hdr
    refine T.seq (T.go' aa ?_)
    simp[hC,hi,hdr]
    refine T.seq (T.go' aa ?_)
    simp[hC,st]
    refine T.cut (fun s=>s=⟨[(6,I i),(5,.str Y),(0,.ax (bt l) l.length),(1,.str tabs)],[],0⟩) ?_ ?_
    ·refine T.seq (T.go' aa ?_)
     simp[hC]
     refine T.block ?_
     refine T.seq (T.go' aa ?_)
     simp[hC]
     refine T.cond (b:=false) rfl ?_
     simp
     refine T.seq (T.go' aa ?_)
     simp[hC]
     refine T.cond (b:=false) rfl ?_
     simp
     refine T.seq (T.go' aa ?_)
     simp[hC]
     refine T.cond (b:=true) rfl ?_
     simp
     simp only[jY,iv,Je,ByteArray.size_append] at hz2
     try simp only[Bool.false_eq_true,if_false] at hz2
     have s0:=av (y) (nm) (by (try simp only[ByteArray.size_append]);omega)
     have s1:=av (y++nm) (qO al) (by (try simp only[ByteArray.size_append]);omega)
     have s2:=av (y++nm++qO al) (⟨#[59]⟩) (by (try simp only[ByteArray.size_append]);omega)
     refine T.rx aa follows [0,1,2,3,4,5,6,7,8,9] [(2,6)] (by kernel_rfl) ?_
     simp[hC,s0]
     refine RX.call rfl (by simp) rfl rfl rfl (by first | rfl | simp only[List.cons_append,List.nil_append,List.append_nil,trees,tree,ag,ak,Bool.and_self,Bool.and_true,Bool.true_and]) (hca) ?_
     simp[s1,s2]
     refine ae.trim [6,5,0,1] [] 0 (by simp) (by omega) ?_
     simp[← hY,jY,iv,qO,ByteArray.append_assoc]
    rintro s rfl
    refine T.go' aa ?_
    simp[hC,snl]
    refine T.go' aa ?_
    simp[hC,wi]
    refine⟨l.length-(i+1),by omega,?_⟩
    refine ae.trim [6,5,0,1] [] 0 (by simp) (by omega) ⟨i+1,Y++⟨#[10]⟩,rfl,by omega,hx2,?_⟩
    simp
   | .dI true nm al,hdr,hao,hY,hz2=>
    obtain⟨h1,h2,h3⟩:=hao
    have hca:=qC al h2 h3
    simp only[gI,bB,j5,List.cons_append,List.nil_append] at hdr
    have e5:(if true=true then (4:Int) else 3)=4:=rfl
    try rw[e5] at hdr
    refine T.seq (T.go' aa ?_)
    simp[hC,hi,hdr]
    refine T.seq (T.go' aa ?_)
    simp[hC,st]
    refine T.cut (fun s=>s=⟨[(6,I i),(5,.str Y),(0,.ax (bt l) l.length),(1,.str tabs)],[],0⟩) ?_ ?_
    ·refine T.seq (T.go' aa ?_)
     simp[hC]
     refine T.block ?_
     refine T.seq (T.go' aa ?_)
     simp[hC]
     refine T.cond (b:=false) rfl ?_
     simp
     refine T.seq (T.go' aa ?_)
     simp[hC]
     refine T.cond (b:=false) rfl ?_
     simp
     refine T.seq (T.go' aa ?_)
     simp[hC]
     refine T.cond (b:=false) rfl ?_
     simp
     refine T.seq (T.go' aa ?_)
     simp[hC]
     refine T.cond (b:=true) rfl ?_
     simp
     simp only[jY,iv,Je,ByteArray.size_append,if_true] at hz2
     have s0:=av (y) (⟨#[103,111,32]⟩) (by (try simp only[ByteArray.size_append]);omega)
     have s1:=av (y++⟨#[103,111,32]⟩) (nm) (by (try simp only[ByteArray.size_append]);omega)
     have s2:=av (y++⟨#[103,111,32]⟩++nm) (qO al) (by (try simp only[ByteArray.size_append]);omega)
     have s3:=av (y++⟨#[103,111,32]⟩++nm++qO al) (⟨#[59]⟩) (by (try simp only[ByteArray.size_append]);omega)
     refine T.rx aa follows [0,1,2,3,4,5,6,7,8,9,10] [(3,7)] (by kernel_rfl) ?_
     simp[hC,s0,s1]
     refine RX.call rfl (by simp) rfl rfl rfl (by first | rfl | simp only[List.cons_append,List.nil_append,List.append_nil,trees,tree,ag,ak,Bool.and_self,Bool.and_true,Bool.true_and]) (hca) ?_
     simp[s2,s3]
     refine ae.trim [6,5,0,1] [] 0 (by simp) (by omega) ?_
     simp[← hY,jY,iv,Je,qO,ByteArray.append_assoc]
    rintro s rfl
    refine T.go' aa ?_
    simp[hC,snl]
    refine T.go' aa ?_
    simp[hC,wi]
    refine⟨l.length-(i+1),by omega,?_⟩
    refine ae.trim [6,5,0,1] [] 0 (by simp) (by omega) ⟨i+1,Y++⟨#[10]⟩,rfl,by omega,hx2,?_⟩
    simp
   | .dg false r,hdr,hao,hY,hz2=>
    have hcr:=nK r (show I6 r from hao)
    obtain⟨rn,ri⟩:=r
    obtain⟨q1,q2,hq⟩:∃ cs n,nu ri=.ax cs n:=by cases ri<;>exact⟨_,_,rfl⟩
    simp only[j3,hq] at hcr
    simp only[gI,bB,j3,hq,List.cons_append,List.nil_append] at hdr
    have e5:(if false=true then (6:Int) else 5)=5:=rfl
    try rw[e5] at hdr
    refine T.seq (T.go' aa ?_)
    simp[hC,hi,hdr]
    refine T.seq (T.go' aa ?_)
    simp[hC,st]
    refine T.cut (fun s=>s=⟨[(6,I i),(5,.str Y),(0,.ax (bt l) l.length),(1,.str tabs)],[],0⟩) ?_ ?_
    ·refine T.seq (T.go' aa ?_)
     simp[hC]
     refine T.block ?_
     refine T.seq (T.go' aa ?_)
     simp[hC]
     refine T.cond (b:=false) rfl ?_
     simp
     refine T.seq (T.go' aa ?_)
     simp[hC]
     refine T.cond (b:=false) rfl ?_
     simp
     refine T.seq (T.go' aa ?_)
     simp[hC]
     refine T.cond (b:=false) rfl ?_
     simp
     refine T.seq (T.go' aa ?_)
     simp[hC]
     refine T.cond (b:=false) rfl ?_
     simp
     refine T.seq (T.go' aa ?_)
     simp[hC]
     refine T.cond (b:=true) rfl ?_
     simp
     simp only[jY,iv,uB,mN,ByteArray.size_append] at hz2
     try simp only[Bool.false_eq_true,if_false] at hz2
     have s0:=av (y) (⟨#[108,111,99,107,32]⟩) (by (try simp only[ByteArray.size_append]);omega)
     have s1:=av (y++⟨#[108,111,99,107,32]⟩) (zq ⟨rn,ri⟩) (by (try simp only[ByteArray.size_append]);omega)
     have s2:=av (y++⟨#[108,111,99,107,32]⟩++zq ⟨rn,ri⟩) (⟨#[59]⟩) (by (try simp only[ByteArray.size_append]);omega)
     refine T.go' aa ?_
     simp[hC,s0]
     refine TL.call (by simp[hC]) rfl rfl (aI.of rfl (by first | rfl | simp only[List.cons_append,List.nil_append,List.append_nil,trees,tree,ag,ak,Bool.and_self,Bool.and_true,Bool.true_and]) (hcr)) (TL.go' aa ?_)
     simp[hC,s1,s2]
     refine ae.trim [6,5,0,1] [] 0 (by simp) (by omega) ?_
     simp[← hY,jY,iv,uB,ByteArray.append_assoc]
    rintro s rfl
    refine T.go' aa ?_
    simp[hC,snl]
    refine T.go' aa ?_
    simp[hC,wi]
    refine⟨l.length-(i+1),by omega,?_⟩
    refine ae.trim [6,5,0,1] [] 0 (by simp) (by omega) ⟨i+1,Y++⟨#[10]⟩,rfl,by omega,hx2,?_⟩
    simp
   | .dg true r,hdr,hao,hY,hz2=>
    have hcr:=nK r (show I6 r from hao)
    obtain⟨rn,ri⟩:=r
    obtain⟨q1,q2,hq⟩:∃ cs n,nu ri=.ax cs n:=by cases ri<;>exact⟨_,_,rfl⟩
    simp only[j3,hq] at hcr
    simp only[gI,bB,j3,hq,List.cons_append,List.nil_append] at hdr
    have e5:(if true=true then (6:Int) else 5)=6:=rfl
    try rw[e5] at hdr
    refine T.seq (T.go' aa ?_)
    simp[hC,hi,hdr]
    refine T.seq (T.go' aa ?_)
    simp[hC,st]
    refine T.cut (fun s=>s=⟨[(6,I i),(5,.str Y),(0,.ax (bt l) l.length),(1,.str tabs)],[],0⟩) ?_ ?_
    ·refine T.seq (T.go' aa ?_)
     simp[hC]
     refine T.block ?_
     refine T.seq (T.go' aa ?_)
     simp[hC]
     refine T.cond (b:=false) rfl ?_
     simp
     refine T.seq (T.go' aa ?_)
     simp[hC]
     refine T.cond (b:=false) rfl ?_
     simp
     refine T.seq (T.go' aa ?_)
     simp[hC]
     refine T.cond (b:=false) rfl ?_
     simp
     refine T.seq (T.go' aa ?_)
     simp[hC]
     refine T.cond (b:=false) rfl ?_
     simp
     refine T.seq (T.go' aa ?_)
     simp[hC]
     refine T.cond (b:=false) rfl ?_
     simp
     refine T.seq (T.go' aa ?_)
     simp[hC]
     refine T.cond (b:=true) rfl ?_
     simp
     simp only[jY,iv,uB,mN,ByteArray.size_append] at hz2
     try simp only[if_true] at hz2
     have s0:=av (y) (⟨#[117,110,108,111,99,107,32]⟩) (by (try simp only[ByteArray.size_append]);omega)
     have s1:=av (y++⟨#[117,110,108,111,99,107,32]⟩) (zq ⟨rn,ri⟩) (by (try simp only[ByteArray.size_append]);omega)
     have s2:=av (y++⟨#[117,110,108,111,99,107,32]⟩++zq ⟨rn,ri⟩) (⟨#[59]⟩) (by (try simp only[ByteArray.size_append]);omega)
     refine T.go' aa ?_
     simp[hC,s0]
     refine TL.call (by simp[hC]) rfl rfl (aI.of rfl (by first | rfl | simp only[List.cons_append,List.nil_append,List.append_nil,trees,tree,ag,ak,Bool.and_self,Bool.and_true,Bool.true_and]) (hcr)) (TL.go' aa ?_)
     simp[hC,s1,s2]
     refine ae.trim [6,5,0,1] [] 0 (by simp) (by omega) ?_
     simp[← hY,jY,iv,mN,ByteArray.append_assoc]
    rintro s rfl
    refine T.go' aa ?_
    simp[hC,snl]
    refine T.go' aa ?_
    simp[hC,wi]
    refine⟨l.length-(i+1),by omega,?_⟩
    refine ae.trim [6,5,0,1] [] 0 (by simp) (by omega) ⟨i+1,Y++⟨#[10]⟩,rfl,by omega,hx2,?_⟩
    simp
   | .ku e th el,hdr,hao,hY,hz2=>
    obtain⟨⟨h2,h2z⟩,h3,h4⟩:=hao
    simp only[gI,bP e,j5,eS,List.cons_append,List.nil_append] at hdr
    rw[bP e] at h2
    refine T.seq (T.go' aa ?_)
    simp[hC,hi,hdr]
    refine T.seq (T.go' aa ?_)
    simp[hC,st]
    refine T.cut (fun s=>s=⟨[(6,I i),(5,.str Y),(0,.ax (bt l) l.length),(1,.str tabs)],[],0⟩) ?_ ?_
    ·refine T.seq (T.go' aa ?_)
     simp[hC]
     refine T.block ?_
     by_cases hel:el.length=0
     ·simp only[jY,Jd,oE,jW,xq,nH,ByteArray.size_append,hel,if_true] at hz2
      refine T.seq (T.go' aa ?_)
      simp[hC]
      refine T.cond (b:=false) rfl ?_
      simp
      refine T.seq (T.go' aa ?_)
      simp[hC]
      refine T.cond (b:=false) rfl ?_
      simp
      refine T.seq (T.go' aa ?_)
      simp[hC]
      refine T.cond (b:=false) rfl ?_
      simp
      refine T.seq (T.go' aa ?_)
      simp[hC]
      refine T.cond (b:=false) rfl ?_
      simp
      refine T.seq (T.go' aa ?_)
      simp[hC]
      refine T.cond (b:=false) rfl ?_
      simp
      refine T.seq (T.go' aa ?_)
      simp[hC]
      refine T.cond (b:=false) rfl ?_
      simp
      refine T.seq (T.seq (T.go' aa ?_))
      simp[hC]
      refine T.cond (b:=true) rfl ?_
      simp
      refine T.skip ?_
      simp
      refine T.cond (b:=true) rfl ?_
      simp
      refine T.seq (T.go' aa ?_)
      simp[hC]
      refine T.cut (fun s=>s=⟨[(8,.str ⟨#[105,102,32]⟩),(7,.aq 0 0),(6,I i),(5,.str y),(0,.ax (bt l) l.length),(1,.str tabs)],[(0,⟨188,0,[I 7,.str ⟨#[]⟩,I e.op,I e.n,.str e.name,.ax (e.args.flatMap bB) e.args.length,.str ⟨#[]⟩,.ax [] 0,.ax [] 0,.ax (bt th) th.length,.ax (bt el) el.length]⟩)],1⟩) ?_ ?_
      ·refine T.seq (T.go' aa ?_)
       simp[hC]
       refine T.cond (b:=false) rfl ?_
       simp
       refine T.skip ?_
       simp
       refine ae.trim [8,7,6,5,0,1] [0] 1 (by simp) (by omega) ?_
       simp
      rintro s rfl
      have s0:=av (y) (⟨#[105,102,32]⟩) (by (try simp only[ByteArray.size_append]);omega)
      have s1:=av (y++⟨#[105,102,32]⟩) (ij e) (by (try simp only[ByteArray.size_append]);omega)
      have s2:=av (y++⟨#[105,102,32]⟩++ij e) (⟨#[32,123,10]⟩) (by (try simp only[ByteArray.size_append]);omega)
      have s3:=av (y++⟨#[105,102,32]⟩++ij e++⟨#[32,123,10]⟩) (ic (tabs++⟨#[9]⟩) th) (by (try simp only[ByteArray.size_append]);omega)
      have s4:=av (y++⟨#[105,102,32]⟩++ij e++⟨#[32,123,10]⟩++ic (tabs++⟨#[9]⟩) th) (tabs) (by (try simp only[ByteArray.size_append]);omega)
      have s5:=av (y++⟨#[105,102,32]⟩++ij e++⟨#[32,123,10]⟩++ic (tabs++⟨#[9]⟩) th++tabs) (⟨#[125]⟩) (by (try simp only[ByteArray.size_append]);omega)
      have s9:=av tabs ⟨#[9]⟩ (by have:(⟨#[9]⟩:ByteArray).size=1:=rfl;omega)
      refine T.seq ?_
      refine T.rx aa follows [0,1,2,3,4,8,9,10,11,14,5,6,7,12,13,15,16,17] [(9,5)] (by kernel_rfl) ?_
      simp[hC,s0,s9]
      refine RX.call rfl (by simp) rfl rfl rfl (by first | rfl | simp only[List.cons_append,List.nil_append,List.append_nil,trees,tree,ag,ak,Bool.and_self,Bool.and_true,Bool.true_and]) (h2) ?_
      simp[s1,s2]
      refine RX.call rfl (by simp) rfl rfl rfl (by first | rfl | simp only[List.cons_append,List.nil_append,List.append_nil,trees,tree,ag,ak,Bool.and_self,Bool.and_true,Bool.true_and]) (h3) ?_
      simp[s3,s4,s5]
      have helb:¬ 0<el.length:=by omega
      refine T.seq (T.go' aa ?_)
      simp[hC,hel]
      refine T.cond (b:=false) rfl ?_
      simp
      refine T.skip ?_
      simp
      refine ae.trim [6,5,0,1] [] 0 (by simp) (by omega) ?_
      simp[← hY,jY,Jd,oE,jW,nH,ByteArray.append_assoc,hel]
      exact (ByteArray.append_empty (b:=⟨#[125]⟩)).symm
     ·simp only[jY,Jd,oE,jW,xq,nH,ByteArray.size_append,hel,if_false] at hz2
      refine T.seq (T.go' aa ?_)
      simp[hC]
      refine T.cond (b:=false) rfl ?_
      simp
      refine T.seq (T.go' aa ?_)
      simp[hC]
      refine T.cond (b:=false) rfl ?_
      simp
      refine T.seq (T.go' aa ?_)
      simp[hC]
      refine T.cond (b:=false) rfl ?_
      simp
      refine T.seq (T.go' aa ?_)
      simp[hC]
      refine T.cond (b:=false) rfl ?_
      simp
      refine T.seq (T.go' aa ?_)
      simp[hC]
      refine T.cond (b:=false) rfl ?_
      simp
      refine T.seq (T.go' aa ?_)
      simp[hC]
      refine T.cond (b:=false) rfl ?_
      simp
      refine T.seq (T.seq (T.go' aa ?_))
      simp[hC]
      refine T.cond (b:=true) rfl ?_
      simp
      refine T.skip ?_
      simp
      refine T.cond (b:=true) rfl ?_
      simp
      refine T.seq (T.go' aa ?_)
      simp[hC]
      refine T.cut (fun s=>s=⟨[(8,.str ⟨#[105,102,32]⟩),(7,.aq 0 0),(6,I i),(5,.str y),(0,.ax (bt l) l.length),(1,.str tabs)],[(0,⟨188,0,[I 7,.str ⟨#[]⟩,I e.op,I e.n,.str e.name,.ax (e.args.flatMap bB) e.args.length,.str ⟨#[]⟩,.ax [] 0,.ax [] 0,.ax (bt th) th.length,.ax (bt el) el.length]⟩)],1⟩) ?_ ?_
      ·refine T.seq (T.go' aa ?_)
       simp[hC]
       refine T.cond (b:=false) rfl ?_
       simp
       refine T.skip ?_
       simp
       refine ae.trim [8,7,6,5,0,1] [0] 1 (by simp) (by omega) ?_
       simp
      rintro s rfl
      have s0:=av (y) (⟨#[105,102,32]⟩) (by (try simp only[ByteArray.size_append]);omega)
      have s1:=av (y++⟨#[105,102,32]⟩) (ij e) (by (try simp only[ByteArray.size_append]);omega)
      have s2:=av (y++⟨#[105,102,32]⟩++ij e) (⟨#[32,123,10]⟩) (by (try simp only[ByteArray.size_append]);omega)
      have s3:=av (y++⟨#[105,102,32]⟩++ij e++⟨#[32,123,10]⟩) (ic (tabs++⟨#[9]⟩) th) (by (try simp only[ByteArray.size_append]);omega)
      have s4:=av (y++⟨#[105,102,32]⟩++ij e++⟨#[32,123,10]⟩++ic (tabs++⟨#[9]⟩) th) (tabs) (by (try simp only[ByteArray.size_append]);omega)
      have s5:=av (y++⟨#[105,102,32]⟩++ij e++⟨#[32,123,10]⟩++ic (tabs++⟨#[9]⟩) th++tabs) (⟨#[125]⟩) (by (try simp only[ByteArray.size_append]);omega)
      have s9:=av tabs ⟨#[9]⟩ (by have:(⟨#[9]⟩:ByteArray).size=1:=rfl;omega)
      refine T.seq ?_
      refine T.rx aa follows [0,1,2,3,4,8,9,10,11,14,5,6,7,12,13,15,16,17] [(9,5)] (by kernel_rfl) ?_
      simp[hC,s0,s9]
      refine RX.call rfl (by simp) rfl rfl rfl (by first | rfl | simp only[List.cons_append,List.nil_append,List.append_nil,trees,tree,ag,ak,Bool.and_self,Bool.and_true,Bool.true_and]) (h2) ?_
      simp[s1,s2]
      refine RX.call rfl (by simp) rfl rfl rfl (by first | rfl | simp only[List.cons_append,List.nil_append,List.append_nil,trees,tree,ag,ak,Bool.and_self,Bool.and_true,Bool.true_and]) (h3) ?_
      simp[s3,s4,s5]
      have r0:=av (y++⟨#[105,102,32]⟩++ij e++⟨#[32,123,10]⟩++ic (tabs++⟨#[9]⟩) th++tabs++⟨#[125]⟩) (⟨#[32,101,108,115,101,32,123,10]⟩) (by (try simp only[ByteArray.size_append]);omega)
      have r1:=av (y++⟨#[105,102,32]⟩++ij e++⟨#[32,123,10]⟩++ic (tabs++⟨#[9]⟩) th++tabs++⟨#[125]⟩++⟨#[32,101,108,115,101,32,123,10]⟩) (ic (tabs++⟨#[9]⟩) el) (by (try simp only[ByteArray.size_append]);omega)
      have r2:=av (y++⟨#[105,102,32]⟩++ij e++⟨#[32,123,10]⟩++ic (tabs++⟨#[9]⟩) th++tabs++⟨#[125]⟩++⟨#[32,101,108,115,101,32,123,10]⟩++ic (tabs++⟨#[9]⟩) el) (tabs) (by (try simp only[ByteArray.size_append]);omega)
      have r3:=av (y++⟨#[105,102,32]⟩++ij e++⟨#[32,123,10]⟩++ic (tabs++⟨#[9]⟩) th++tabs++⟨#[125]⟩++⟨#[32,101,108,115,101,32,123,10]⟩++ic (tabs++⟨#[9]⟩) el++tabs) (⟨#[125]⟩) (by (try simp only[ByteArray.size_append]);omega)
      have helb:0<el.length:=by omega
      refine T.seq (T.go' aa ?_)
      simp[hC,helb]
      refine T.cond (b:=true) rfl ?_
      simp
      refine T.go' aa ?_
      simp[hC,r0,s9]
      refine TL.call (by simp[hC]) rfl rfl (aI.of rfl (by first | rfl | simp only[List.cons_append,List.nil_append,List.append_nil,trees,tree,ag,ak,Bool.and_self,Bool.and_true,Bool.true_and]) (h4)) (TL.go' aa ?_)
      simp[hC,r1,r2,r3]
      refine ae.trim [6,5,0,1] [] 0 (by simp) (by omega) ?_
      simp[← hY,jY,Jd,oE,jW,xq,nH,ByteArray.append_assoc,hel]
    rintro s rfl
    refine T.go' aa ?_
    simp[hC,snl]
    refine T.go' aa ?_
    simp[hC,wi]
    refine⟨l.length-(i+1),by omega,?_⟩
    refine ae.trim [6,5,0,1] [] 0 (by simp) (by omega) ⟨i+1,Y++⟨#[10]⟩,rfl,by omega,hx2,?_⟩
    simp
   | .cj e th,hdr,hao,hY,hz2=>
    obtain⟨⟨h2,h2z⟩,h3⟩:=hao
    simp only[gI,bP e,j5,eS,List.cons_append,List.nil_append] at hdr
    rw[bP e] at h2
    refine T.seq (T.go' aa ?_)
    simp[hC,hi,hdr]
    refine T.seq (T.go' aa ?_)
    simp[hC,st]
    refine T.cut (fun s=>s=⟨[(6,I i),(5,.str Y),(0,.ax (bt l) l.length),(1,.str tabs)],[],0⟩) ?_ ?_
    ·refine T.seq (T.go' aa ?_)
     simp[hC]
     refine T.block ?_
     simp only[jY,vr,oE,jW,nH,ByteArray.size_append] at hz2
     refine T.seq (T.go' aa ?_)
     simp[hC]
     refine T.cond (b:=false) rfl ?_
     simp
     refine T.seq (T.go' aa ?_)
     simp[hC]
     refine T.cond (b:=false) rfl ?_
     simp
     refine T.seq (T.go' aa ?_)
     simp[hC]
     refine T.cond (b:=false) rfl ?_
     simp
     refine T.seq (T.go' aa ?_)
     simp[hC]
     refine T.cond (b:=false) rfl ?_
     simp
     refine T.seq (T.go' aa ?_)
     simp[hC]
     refine T.cond (b:=false) rfl ?_
     simp
     refine T.seq (T.go' aa ?_)
     simp[hC]
     refine T.cond (b:=false) rfl ?_
     simp
     refine T.seq (T.seq (T.go' aa ?_))
     simp[hC]
     refine T.cond (b:=false) rfl ?_
     simp
     refine T.go' aa ?_
     simp[hC]
     refine T.cond (b:=true) rfl ?_
     simp
     refine T.seq (T.go' aa ?_)
     simp[hC]
     refine T.cut (fun s=>s=⟨[(8,.str ⟨#[119,104,105,108,101,32]⟩),(7,.aq 0 0),(6,I i),(5,.str y),(0,.ax (bt l) l.length),(1,.str tabs)],[(0,⟨188,0,[I 8,.str ⟨#[]⟩,I e.op,I e.n,.str e.name,.ax (e.args.flatMap bB) e.args.length,.str ⟨#[]⟩,.ax [] 0,.ax [] 0,.ax (bt th) th.length,.ax [] 0]⟩)],1⟩) ?_ ?_
     ·refine T.seq (T.go' aa ?_)
      simp[hC]
      refine T.cond (b:=true) rfl ?_
      simp
      refine T.go' aa ?_
      simp[hC]
      refine ae.trim [8,7,6,5,0,1] [0] 1 (by simp) (by omega) ?_
      simp
     rintro s rfl
     have s0:=av (y) (⟨#[119,104,105,108,101,32]⟩) (by (try simp only[ByteArray.size_append]);omega)
     have s1:=av (y++⟨#[119,104,105,108,101,32]⟩) (ij e) (by (try simp only[ByteArray.size_append]);omega)
     have s2:=av (y++⟨#[119,104,105,108,101,32]⟩++ij e) (⟨#[32,123,10]⟩) (by (try simp only[ByteArray.size_append]);omega)
     have s3:=av (y++⟨#[119,104,105,108,101,32]⟩++ij e++⟨#[32,123,10]⟩) (ic (tabs++⟨#[9]⟩) th) (by (try simp only[ByteArray.size_append]);omega)
     have s4:=av (y++⟨#[119,104,105,108,101,32]⟩++ij e++⟨#[32,123,10]⟩++ic (tabs++⟨#[9]⟩) th) (tabs) (by (try simp only[ByteArray.size_append]);omega)
     have s5:=av (y++⟨#[119,104,105,108,101,32]⟩++ij e++⟨#[32,123,10]⟩++ic (tabs++⟨#[9]⟩) th++tabs) (⟨#[125]⟩) (by (try simp only[ByteArray.size_append]);omega)
     have s9:=av tabs ⟨#[9]⟩ (by have:(⟨#[9]⟩:ByteArray).size=1:=rfl;omega)
     refine T.seq ?_
     refine T.rx aa follows [0,1,2,3,4,8,9,10,11,14,5,6,7,12,13,15,16,17] [(9,5)] (by kernel_rfl) ?_
     simp[hC,s0,s9]
     refine RX.call rfl (by simp) rfl rfl rfl (by first | rfl | simp only[List.cons_append,List.nil_append,List.append_nil,trees,tree,ag,ak,Bool.and_self,Bool.and_true,Bool.true_and]) (h2) ?_
     simp[s1,s2]
     refine RX.call rfl (by simp) rfl rfl rfl (by first | rfl | simp only[List.cons_append,List.nil_append,List.append_nil,trees,tree,ag,ak,Bool.and_self,Bool.and_true,Bool.true_and]) (h3) ?_
     simp[s3,s4,s5]
     refine T.seq (T.go' aa ?_)
     simp[hC]
     refine T.cond (b:=false) rfl ?_
     simp
     refine T.skip ?_
     simp
     refine ae.trim [6,5,0,1] [] 0 (by simp) (by omega) ?_
     simp[← hY,jY,vr,oE,jW,nH,ByteArray.append_assoc]
    rintro s rfl
    refine T.go' aa ?_
    simp[hC,snl]
    refine T.go' aa ?_
    simp[hC,wi]
    refine⟨l.length-(i+1),by omega,?_⟩
    refine ae.trim [6,5,0,1] [] 0 (by simp) (by omega) ⟨i+1,Y++⟨#[10]⟩,rfl,by omega,hx2,?_⟩
    simp
   | .iU,hdr,hao,hY,hz2=>
    simp only[gI,bB,j5,eS,List.cons_append,List.nil_append] at hdr
    refine T.seq (T.go' aa ?_)
    simp[hC,hi,hdr]
    refine T.seq (T.go' aa ?_)
    simp[hC,st]
    refine T.cut (fun s=>s=⟨[(6,I i),(5,.str Y),(0,.ax (bt l) l.length),(1,.str tabs)],[],0⟩) ?_ ?_
    ·refine T.seq (T.go' aa ?_)
     simp[hC]
     refine T.block ?_
     simp only[jY,FM] at hz2
     have s0:=av (y) (⟨#[114,101,116,117,114,110,59]⟩) (by (try simp only[ByteArray.size_append]);omega)
     refine T.seq (T.go' aa ?_)
     simp[hC]
     refine T.cond (b:=false) rfl ?_
     simp
     refine T.seq (T.go' aa ?_)
     simp[hC]
     refine T.cond (b:=false) rfl ?_
     simp
     refine T.seq (T.go' aa ?_)
     simp[hC]
     refine T.cond (b:=false) rfl ?_
     simp
     refine T.seq (T.go' aa ?_)
     simp[hC]
     refine T.cond (b:=false) rfl ?_
     simp
     refine T.seq (T.go' aa ?_)
     simp[hC]
     refine T.cond (b:=false) rfl ?_
     simp
     refine T.seq (T.go' aa ?_)
     simp[hC]
     refine T.cond (b:=false) rfl ?_
     simp
     refine T.seq (T.seq (T.go' aa ?_))
     simp[hC]
     refine T.cond (b:=false) rfl ?_
     simp
     refine T.go' aa ?_
     simp[hC]
     refine T.cond (b:=false) rfl ?_
     simp
     refine T.go' aa ?_
     simp[hC,s0]
     refine ae.trim [6,5,0,1] [] 0 (by simp) (by omega) ?_
     simp[← hY,jY,FM]
    rintro s rfl
    refine T.go' aa ?_
    simp[hC,snl]
    refine T.go' aa ?_
    simp[hC,wi]
    refine⟨l.length-(i+1),by omega,?_⟩
    refine ae.trim [6,5,0,1] [] 0 (by simp) (by omega) ⟨i+1,Y++⟨#[10]⟩,rfl,by omega,hx2,?_⟩
    simp
  ·have hie:i=l.length:=by omega
   rw[hie,List.drop_length,ic] at hx
   have hxX:x=X:=by rw[← hx];exact (ByteArray.append_empty (b:=x)).symm
   subst hxX
   refine T.seq (T.seq (T.go' aa ?_))
   simp[hC,hi]
   refine T.cond (b:=false) rfl ?_
   simp
   refine T.exit ?_
   simp
   refine T.seq (T.go' aa ?_)
   simp[hC]
   refine T.ret ?_
   refine ae.here ?_
   simp[Tryz.results129]
end Go.Proofs.YtmnglemlimfpbaaGreat
