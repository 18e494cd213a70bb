/- lines. -/
import Derived.Test.YtmnglemlimfpbaaGreatZ31
namespace Go.Proofs.YtmnglemlimfpbaaGreat
open Go.Can Go.aX
def TxS (tabs:ByteArray)(s:Sm):Prop:=match s with
 | .gZ nm e=>nm.size≤100∧Lw e
 | .iF nm e=>nm.size≤100∧Lw e
 | .dY _ nm al=>nm.size≤100∧al.length≤1000∧∀ a∈al,TxA a
 | .dB _ r=>Lv r
 | .lG e th el=>Lw e∧ae Tryz.prog 129 [.av (bA th) th.length,.str (tabs++⟨#[9]⟩)] (.str (js (tabs++⟨#[9]⟩) th))∧ae Tryz.prog 129 [.av (bA el) el.length,.str (tabs++⟨#[9]⟩)] (.str (js (tabs++⟨#[9]⟩) el))
 | .cJ e th=>Lw e∧ae Tryz.prog 129 [.av (bA th) th.length,.str (tabs++⟨#[9]⟩)] (.str (js (tabs++⟨#[9]⟩) th))
 | .jC=>True
def J129 (l:List Sm)(tabs X:ByteArray)(n:Nat)(s:St):Prop:=∃ (i:Nat) (x:ByteArray),n=l.length-i∧i≤l.length∧x++js tabs (l.drop i)=X∧s=⟨[(6,I i),(5,.str x),(0,.av (bA l) l.length),(1,.str tabs)],[],0⟩
set_option maxHeartbeats 8000000 in
theorem uS (l:List Sm)(tabs:ByteArray)(ht:tabs.size≤100)(hl:l.length≤100000)(hX:(js tabs l).size≤1000000)(h:∀ s∈l,TxS tabs s):ae Tryz.prog 129 [.av (bA l) l.length,.str tabs] (.str (js tabs l)):=by
 have hflat:=fun (i:Nat) (x:Sm) (h:l[i]? = some x)=>aE (f:=ir) (n:=11) kI (m:=l) h
 rw[← ov] at hflat
 obtain⟨X,hXe⟩:∃ X,js tabs l=X:=⟨_,rfl⟩
 rw[hXe] at hX ⊢
 refine ae.aB ag Tryz.func129 rfl yAb (by simp[Tryz.ntmps129]) rfl fun C hC hC0=>?_
 rw[Tryz.ntmps129] at hC
 apply au
 simp[hC]
 apply au
 simp[hC]
 apply aJ
 simp[hC]
 apply T.block
 refine T.aL (J129 l tabs X) (n:=l.length) ?_ ?_
 ·refine aa.le (Le.env [6,5,0,1]) (aa.here ⟨0,⟨#[]⟩,by omega,by omega,?_,?_⟩)
  ·rw[List.drop_zero,hXe]
   exact ByteArray.empty_append
  ·simp
 ·rintro n s ⟨i,x,rfl,hil,hx,rfl⟩
  by_cases hi:i<l.length
  ·obtain⟨a,hia⟩:∃ a,l[i]? = some a:=⟨l[i],List.getElem?_eq_getElem hi⟩
   have hdr:=hflat i a hia
   have hao:=h a (List.mem_of_getElem? hia)
   have wi:=ct ((i:Int)+1) yA yA
   have hd:l.drop i=a::l.drop (i+1):=by
    rw[List.drop_eq_getElem_cons hi,(List.getElem?_eq_some_iff.1 hia).2]
   rw[hd,js] at hx
   have hz:x.size+(tabs.size+(kX tabs a).size+tNl.size+(js tabs (l.drop (i+1))).size)=X.size:=by
    rw[← hx]
    simp only[ByteArray.size_append]
   have hq:tNl.size=1:=rfl
   apply aJ
   simp[hC,hi]
   refine iv ?_
   simp
   apply fq
   have st:=ax x tabs yA
   obtain⟨y,hy⟩:∃ y,x++tabs=y:=⟨_,rfl⟩
   have hys:y.size=x.size+tabs.size:=by rw[← hy,ByteArray.size_append]
   rw[hy] at st
   obtain⟨Y,hY⟩:∃ Y,y++kX tabs a=Y:=⟨_,rfl⟩
   have hYs:Y.size=y.size+(kX tabs a).size:=by rw[← hY,ByteArray.size_append]
   have snl:=ax Y ⟨#[10]⟩ (by have:(⟨#[10]⟩:ByteArray).size=1:=rfl;omega)
   have hx2:Y++⟨#[10]⟩++js tabs (l.drop (i+1))=X:=by
    rw[← hx,← hY,← hy]
    simp only[ByteArray.append_assoc]
    rfl
   have hz2:y.size+(kX tabs a).size≤1000000:=by omega
   clear hz hx hys hYs
   match a,hdr,hao,hY,hz2 with
   | .gZ nm e,hdr,hao,hY,hz2=>
    obtain⟨h1,h2,h2z⟩:=hao
    simp only[ir,bL e,k8,List.cons_append,List.nil_append] at hdr
    rw[bL e] at h2
    apply au
    simp[hC,hi,hdr]
    apply au
    simp[hC,st]
    refine T.cut (fun s=>s=⟨[(6,I i),(5,.str Y),(0,.av (bA l) l.length),(1,.str tabs)],[],0⟩) ?_ ?_
    ·apply au
     simp[hC]
     apply T.block
     apply au
     simp[hC]
     refine dN ?_
     simp
     simp only[kX,zq,Fk,jf,ByteArray.size_append] at hz2
     have s0:=ax (y) (⟨#[118,97,114,32]⟩) yAh
     have s1:=ax (y++⟨#[118,97,114,32]⟩) (nm) yAh
     have s2:=ax (y++⟨#[118,97,114,32]⟩++nm) (⟨#[32,61,32]⟩) yAh
     have s3:=ax (y++⟨#[118,97,114,32]⟩++nm++⟨#[32,61,32]⟩) (ja e) yAh
     have s4:=ax (y++⟨#[118,97,114,32]⟩++nm++⟨#[32,61,32]⟩++ja e) (⟨#[59]⟩) yAh
     refine T.rx ag follows [0,1,2,3,4,5,6,7,8,9,10,11] [(3,8)] yAb ?_
     simp[hC,s0,s1,s2]
     refine RX.call rfl yAa rfl rfl rfl yAd (h2) ?_
     simp[s3,s4]
     refine aa.trim [6,5,0,1] [] 0 yAa yA ?_
     simp[← hY,kX,zq,Fk,jf,ByteArray.append_assoc]
    rintro s rfl
    apply aO
    simp[hC,snl]
    apply aO
    simp[hC,wi]
    refine⟨l.length-(i+1),by omega,?_⟩
    refine aa.trim [6,5,0,1] [] 0 yAa yA ⟨i+1,Y++⟨#[10]⟩,rfl,by omega,hx2,?_⟩
    simp
   | .iF nm e,hdr,hao,hY,hz2=>
    obtain⟨h1,h2,h2z⟩:=hao
    simp only[ir,bL e,k8,List.cons_append,List.nil_append] at hdr
    rw[bL e] at h2
    apply au
    simp[hC,hi,hdr]
    apply au
    simp[hC,st]
    refine T.cut (fun s=>s=⟨[(6,I i),(5,.str Y),(0,.av (bA l) l.length),(1,.str tabs)],[],0⟩) ?_ ?_
    ·apply au
     simp[hC]
     apply T.block
     apply au
     simp[hC]
     refine bj ?_
     simp
     apply au
     simp[hC]
     refine dN ?_
     simp
     simp only[kX,Fk,jf,ByteArray.size_append] at hz2
     have s0:=ax (y) (nm) yAh
     have s1:=ax (y++nm) (⟨#[32,61,32]⟩) yAh
     have s2:=ax (y++nm++⟨#[32,61,32]⟩) (ja e) yAh
     have s3:=ax (y++nm++⟨#[32,61,32]⟩++ja e) (⟨#[59]⟩) yAh
     refine T.rx ag follows [0,1,2,3,4,5,6,7,8,9,10] [(2,7)] yAb ?_
     simp[hC,s0,s1]
     refine RX.call rfl yAa rfl rfl rfl yAd (h2) ?_
     simp[s2,s3]
     refine aa.trim [6,5,0,1] [] 0 yAa yA ?_
     simp[← hY,kX,Fk,jf,ByteArray.append_assoc]
    rintro s rfl
    apply aO
    simp[hC,snl]
    apply aO
    simp[hC,wi]
    refine⟨l.length-(i+1),by omega,?_⟩
    refine aa.trim [6,5,0,1] [] 0 yAa yA ⟨i+1,Y++⟨#[10]⟩,rfl,by omega,hx2,?_⟩
    simp
   | .dY false nm al,hdr,hao,hY,hz2=>
    obtain⟨h1,h2,h3⟩:=hao
    have hca:=sv al h2 h3
    simp only[ir,aZ,k8,List.cons_append,List.nil_append] at hdr
    have e5:(if false=true then (4:Int) else 3)=3:=rfl
    try rw[e5] at hdr
    apply au
    simp[hC,hi,hdr]
    apply au
    simp[hC,st]
    refine T.cut (fun s=>s=⟨[(6,I i),(5,.str Y),(0,.av (bA l) l.length),(1,.str tabs)],[],0⟩) ?_ ?_
    ·apply au
     simp[hC]
     apply T.block
     apply au
     simp[hC]
     refine bj ?_
     simp
     apply au
     simp[hC]
     refine bj ?_
     simp
     apply au
     simp[hC]
     refine dN ?_
     simp
     simp only[kX,jf,LF,ByteArray.size_append] at hz2
     try simp only[Bool.false_eq_true,if_false] at hz2
     have s0:=ax (y) (nm) yAh
     have s1:=ax (y++nm) (sM al) yAh
     have s2:=ax (y++nm++sM al) (⟨#[59]⟩) yAh
     refine T.rx ag follows [0,1,2,3,4,5,6,7,8,9] [(2,6)] yAb ?_
     simp[hC,s0]
     refine RX.call rfl yAa rfl rfl rfl yAd (hca) ?_
     simp[s1,s2]
     refine aa.trim [6,5,0,1] [] 0 yAa yA ?_
     simp[← hY,kX,jf,sM,ByteArray.append_assoc]
    rintro s rfl
    apply aO
    simp[hC,snl]
    apply aO
    simp[hC,wi]
    refine⟨l.length-(i+1),by omega,?_⟩
    refine aa.trim [6,5,0,1] [] 0 yAa yA ⟨i+1,Y++⟨#[10]⟩,rfl,by omega,hx2,?_⟩
    simp
   | .dY true nm al,hdr,hao,hY,hz2=>
    obtain⟨h1,h2,h3⟩:=hao
    have hca:=sv al h2 h3
    simp only[ir,aZ,k8,List.cons_append,List.nil_append] at hdr
    have e5:(if true=true then (4:Int) else 3)=4:=rfl
    try rw[e5] at hdr
    apply au
    simp[hC,hi,hdr]
    apply au
    simp[hC,st]
    refine T.cut (fun s=>s=⟨[(6,I i),(5,.str Y),(0,.av (bA l) l.length),(1,.str tabs)],[],0⟩) ?_ ?_
    ·apply au
     simp[hC]
     apply T.block
     apply au
     simp[hC]
     refine bj ?_
     simp
     apply au
     simp[hC]
     refine bj ?_
     simp
     apply au
     simp[hC]
     refine bj ?_
     simp
     apply au
     simp[hC]
     refine dN ?_
     simp
     simp only[kX,jf,LF,ByteArray.size_append,if_true] at hz2
     have s0:=ax (y) (⟨#[103,111,32]⟩) yAh
     have s1:=ax (y++⟨#[103,111,32]⟩) (nm) yAh
     have s2:=ax (y++⟨#[103,111,32]⟩++nm) (sM al) yAh
     have s3:=ax (y++⟨#[103,111,32]⟩++nm++sM al) (⟨#[59]⟩) yAh
     refine T.rx ag follows [0,1,2,3,4,5,6,7,8,9,10] [(3,7)] yAb ?_
     simp[hC,s0,s1]
     refine RX.call rfl yAa rfl rfl rfl yAd (hca) ?_
     simp[s2,s3]
     refine aa.trim [6,5,0,1] [] 0 yAa yA ?_
     simp[← hY,kX,jf,LF,sM,ByteArray.append_assoc]
    rintro s rfl
    apply aO
    simp[hC,snl]
    apply aO
    simp[hC,wi]
    refine⟨l.length-(i+1),by omega,?_⟩
    refine aa.trim [6,5,0,1] [] 0 yAa yA ⟨i+1,Y++⟨#[10]⟩,rfl,by omega,hx2,?_⟩
    simp
   | .dB false r,hdr,hao,hY,hz2=>
    have hcr:=py r (show Lv r from hao)
    obtain⟨rn,ri⟩:=r
    obtain⟨q1,q2,hq⟩:∃ cs n,mZ ri=.av cs n:=by cases ri<;>exact⟨_,_,rfl⟩
    simp only[kZ,hq] at hcr
    simp only[ir,aZ,kZ,hq,List.cons_append,List.nil_append] at hdr
    have e5:(if false=true then (6:Int) else 5)=5:=rfl
    try rw[e5] at hdr
    apply au
    simp[hC,hi,hdr]
    apply au
    simp[hC,st]
    refine T.cut (fun s=>s=⟨[(6,I i),(5,.str Y),(0,.av (bA l) l.length),(1,.str tabs)],[],0⟩) ?_ ?_
    ·apply au
     simp[hC]
     apply T.block
     apply au
     simp[hC]
     refine bj ?_
     simp
     apply au
     simp[hC]
     refine bj ?_
     simp
     apply au
     simp[hC]
     refine bj ?_
     simp
     apply au
     simp[hC]
     refine bj ?_
     simp
     apply au
     simp[hC]
     refine dN ?_
     simp
     simp only[kX,jf,wC,ou,ByteArray.size_append] at hz2
     try simp only[Bool.false_eq_true,if_false] at hz2
     have s0:=ax (y) (⟨#[108,111,99,107,32]⟩) yAh
     have s1:=ax (y++⟨#[108,111,99,107,32]⟩) (BK ⟨rn,ri⟩) yAh
     have s2:=ax (y++⟨#[108,111,99,107,32]⟩++BK ⟨rn,ri⟩) (⟨#[59]⟩) yAh
     apply aO
     simp[hC,s0]
     refine cH yAd (hcr) ?_
     simp[hC,s1,s2]
     refine aa.trim [6,5,0,1] [] 0 yAa yA ?_
     simp[← hY,kX,jf,wC,ByteArray.append_assoc]
    rintro s rfl
    apply aO
    simp[hC,snl]
    apply aO
    simp[hC,wi]
    refine⟨l.length-(i+1),by omega,?_⟩
    refine aa.trim [6,5,0,1] [] 0 yAa yA ⟨i+1,Y++⟨#[10]⟩,rfl,by omega,hx2,?_⟩
    simp
   | .dB true r,hdr,hao,hY,hz2=>
    have hcr:=py r (show Lv r from hao)
    obtain⟨rn,ri⟩:=r
    obtain⟨q1,q2,hq⟩:∃ cs n,mZ ri=.av cs n:=by cases ri<;>exact⟨_,_,rfl⟩
    simp only[kZ,hq] at hcr
    simp only[ir,aZ,kZ,hq,List.cons_append,List.nil_append] at hdr
    have e5:(if true=true then (6:Int) else 5)=6:=rfl
    try rw[e5] at hdr
    apply au
    simp[hC,hi,hdr]
    apply au
    simp[hC,st]
    refine T.cut (fun s=>s=⟨[(6,I i),(5,.str Y),(0,.av (bA l) l.length),(1,.str tabs)],[],0⟩) ?_ ?_
    ·apply au
     simp[hC]
     apply T.block
     apply au
     simp[hC]
     refine bj ?_
     simp
     apply au
     simp[hC]
     refine bj ?_
     simp
     apply au
     simp[hC]
     refine bj ?_
     simp
     apply au
     simp[hC]
     refine bj ?_
     simp
     apply au
     simp[hC]
     refine bj ?_
     simp
     apply au
     simp[hC]
     refine dN ?_
     simp
     simp only[kX,jf,wC,ou,ByteArray.size_append] at hz2
     try simp only[if_true] at hz2
     have s0:=ax (y) (⟨#[117,110,108,111,99,107,32]⟩) yAh
     have s1:=ax (y++⟨#[117,110,108,111,99,107,32]⟩) (BK ⟨rn,ri⟩) yAh
     have s2:=ax (y++⟨#[117,110,108,111,99,107,32]⟩++BK ⟨rn,ri⟩) (⟨#[59]⟩) yAh
     apply aO
     simp[hC,s0]
     refine cH yAd (hcr) ?_
     simp[hC,s1,s2]
     refine aa.trim [6,5,0,1] [] 0 yAa yA ?_
     simp[← hY,kX,jf,ou,ByteArray.append_assoc]
    rintro s rfl
    apply aO
    simp[hC,snl]
    apply aO
    simp[hC,wi]
    refine⟨l.length-(i+1),by omega,?_⟩
    refine aa.trim [6,5,0,1] [] 0 yAa yA ⟨i+1,Y++⟨#[10]⟩,rfl,by omega,hx2,?_⟩
    simp
   | .lG e th el,hdr,hao,hY,hz2=>
    obtain⟨⟨h2,h2z⟩,h3,h4⟩:=hao
    simp only[ir,bL e,k8,eS,List.cons_append,List.nil_append] at hdr
    rw[bL e] at h2
    apply au
    simp[hC,hi,hdr]
    apply au
    simp[hC,st]
    refine T.cut (fun s=>s=⟨[(6,I i),(5,.str Y),(0,.av (bA l) l.length),(1,.str tabs)],[],0⟩) ?_ ?_
    ·apply au
     simp[hC]
     apply T.block
     by_cases hel:el.length=0
     ·simp only[kX,LD,p8,kU,zt,p6,ByteArray.size_append,hel,if_true] at hz2
      apply au
      simp[hC]
      refine bj ?_
      simp
      apply au
      simp[hC]
      refine bj ?_
      simp
      apply au
      simp[hC]
      refine bj ?_
      simp
      apply au
      simp[hC]
      refine bj ?_
      simp
      apply au
      simp[hC]
      refine bj ?_
      simp
      apply au
      simp[hC]
      refine bj ?_
      simp
      apply aJ
      simp[hC]
      refine dN ?_
      simp
      apply T.skip
      simp
      refine dN ?_
      simp
      apply au
      simp[hC]
      refine T.cut (fun s=>s=⟨[(8,.str ⟨#[105,102,32]⟩),(7,.aw 0 0),(6,I i),(5,.str y),(0,.av (bA l) l.length),(1,.str tabs)],[(0,⟨188,0,[I 7,.str ⟨#[]⟩,I e.op,I e.n,.str e.name,.av (e.args.flatMap aZ) e.args.length,.str ⟨#[]⟩,.av [] 0,.av [] 0,.av (bA th) th.length,.av (bA el) el.length]⟩)],1⟩) ?_ ?_
      ·apply au
       simp[hC]
       refine bj ?_
       simp
       apply T.skip
       simp
       refine aa.trim [8,7,6,5,0,1] [0] 1 yAa yA ?_
       simp
      rintro s rfl
      have s0:=ax (y) (⟨#[105,102,32]⟩) yAh
      have s1:=ax (y++⟨#[105,102,32]⟩) (ja e) yAh
      have s2:=ax (y++⟨#[105,102,32]⟩++ja e) (⟨#[32,123,10]⟩) yAh
      have s3:=ax (y++⟨#[105,102,32]⟩++ja e++⟨#[32,123,10]⟩) (js (tabs++⟨#[9]⟩) th) yAh
      have s4:=ax (y++⟨#[105,102,32]⟩++ja e++⟨#[32,123,10]⟩++js (tabs++⟨#[9]⟩) th) (tabs) yAh
      have s5:=ax (y++⟨#[105,102,32]⟩++ja e++⟨#[32,123,10]⟩++js (tabs++⟨#[9]⟩) th++tabs) (⟨#[125]⟩) yAh
      have s9:=ax tabs ⟨#[9]⟩ yCj
      apply T.seq
      refine T.rx ag follows [0,1,2,3,4,8,9,10,11,14,5,6,7,12,13,15,16,17] [(9,5)] yAb ?_
      simp[hC,s0,s9]
      refine RX.call rfl yAa rfl rfl rfl yAd (h2) ?_
      simp[s1,s2]
      refine RX.call rfl yAa rfl rfl rfl yAd (h3) ?_
      simp[s3,s4,s5]
      have helb:¬ 0<el.length:=by omega
      apply au
      simp[hC,hel]
      refine bj ?_
      simp
      apply T.skip
      simp
      refine aa.trim [6,5,0,1] [] 0 yAa yA ?_
      simp[← hY,kX,LD,p8,kU,p6,ByteArray.append_assoc,hel]
      exact (ByteArray.append_empty (b:=⟨#[125]⟩)).symm
     ·simp only[kX,LD,p8,kU,zt,p6,ByteArray.size_append,hel,if_false] at hz2
      apply au
      simp[hC]
      refine bj ?_
      simp
      apply au
      simp[hC]
      refine bj ?_
      simp
      apply au
      simp[hC]
      refine bj ?_
      simp
      apply au
      simp[hC]
      refine bj ?_
      simp
      apply au
      simp[hC]
      refine bj ?_
      simp
      apply au
      simp[hC]
      refine bj ?_
      simp
      apply aJ
      simp[hC]
      refine dN ?_
      simp
      apply T.skip
      simp
      refine dN ?_
      simp
      apply au
      simp[hC]
      refine T.cut (fun s=>s=⟨[(8,.str ⟨#[105,102,32]⟩),(7,.aw 0 0),(6,I i),(5,.str y),(0,.av (bA l) l.length),(1,.str tabs)],[(0,⟨188,0,[I 7,.str ⟨#[]⟩,I e.op,I e.n,.str e.name,.av (e.args.flatMap aZ) e.args.length,.str ⟨#[]⟩,.av [] 0,.av [] 0,.av (bA th) th.length,.av (bA el) el.length]⟩)],1⟩) ?_ ?_
      ·apply au
       simp[hC]
       refine bj ?_
       simp
       apply T.skip
       simp
       refine aa.trim [8,7,6,5,0,1] [0] 1 yAa yA ?_
       simp
      rintro s rfl
      have s0:=ax (y) (⟨#[105,102,32]⟩) yAh
      have s1:=ax (y++⟨#[105,102,32]⟩) (ja e) yAh
      have s2:=ax (y++⟨#[105,102,32]⟩++ja e) (⟨#[32,123,10]⟩) yAh
      have s3:=ax (y++⟨#[105,102,32]⟩++ja e++⟨#[32,123,10]⟩) (js (tabs++⟨#[9]⟩) th) yAh
      have s4:=ax (y++⟨#[105,102,32]⟩++ja e++⟨#[32,123,10]⟩++js (tabs++⟨#[9]⟩) th) (tabs) yAh
      have s5:=ax (y++⟨#[105,102,32]⟩++ja e++⟨#[32,123,10]⟩++js (tabs++⟨#[9]⟩) th++tabs) (⟨#[125]⟩) yAh
      have s9:=ax tabs ⟨#[9]⟩ yCj
      apply T.seq
      refine T.rx ag follows [0,1,2,3,4,8,9,10,11,14,5,6,7,12,13,15,16,17] [(9,5)] yAb ?_
      simp[hC,s0,s9]
      refine RX.call rfl yAa rfl rfl rfl yAd (h2) ?_
      simp[s1,s2]
      refine RX.call rfl yAa rfl rfl rfl yAd (h3) ?_
      simp[s3,s4,s5]
      have r0:=ax (y++⟨#[105,102,32]⟩++ja e++⟨#[32,123,10]⟩++js (tabs++⟨#[9]⟩) th++tabs++⟨#[125]⟩) (⟨#[32,101,108,115,101,32,123,10]⟩) yAh
      have r1:=ax (y++⟨#[105,102,32]⟩++ja e++⟨#[32,123,10]⟩++js (tabs++⟨#[9]⟩) th++tabs++⟨#[125]⟩++⟨#[32,101,108,115,101,32,123,10]⟩) (js (tabs++⟨#[9]⟩) el) yAh
      have r2:=ax (y++⟨#[105,102,32]⟩++ja e++⟨#[32,123,10]⟩++js (tabs++⟨#[9]⟩) th++tabs++⟨#[125]⟩++⟨#[32,101,108,115,101,32,123,10]⟩++js (tabs++⟨#[9]⟩) el) (tabs) yAh
      have r3:=ax (y++⟨#[105,102,32]⟩++ja e++⟨#[32,123,10]⟩++js (tabs++⟨#[9]⟩) th++tabs++⟨#[125]⟩++⟨#[32,101,108,115,101,32,123,10]⟩++js (tabs++⟨#[9]⟩) el++tabs) (⟨#[125]⟩) yAh
      have helb:0<el.length:=by omega
      apply au
      simp[hC,helb]
      refine dN ?_
      simp
      apply aO
      simp[hC,r0,s9]
      refine cH yAd (h4) ?_
      simp[hC,r1,r2,r3]
      refine aa.trim [6,5,0,1] [] 0 yAa yA ?_
      simp[← hY,kX,LD,p8,kU,zt,p6,ByteArray.append_assoc,hel]
    rintro s rfl
    apply aO
    simp[hC,snl]
    apply aO
    simp[hC,wi]
    refine⟨l.length-(i+1),by omega,?_⟩
    refine aa.trim [6,5,0,1] [] 0 yAa yA ⟨i+1,Y++⟨#[10]⟩,rfl,by omega,hx2,?_⟩
    simp
   | .cJ e th,hdr,hao,hY,hz2=>
    obtain⟨⟨h2,h2z⟩,h3⟩:=hao
    simp only[ir,bL e,k8,eS,List.cons_append,List.nil_append] at hdr
    rw[bL e] at h2
    apply au
    simp[hC,hi,hdr]
    apply au
    simp[hC,st]
    refine T.cut (fun s=>s=⟨[(6,I i),(5,.str Y),(0,.av (bA l) l.length),(1,.str tabs)],[],0⟩) ?_ ?_
    ·apply au
     simp[hC]
     apply T.block
     simp only[kX,xY,p8,kU,p6,ByteArray.size_append] at hz2
     apply au
     simp[hC]
     refine bj ?_
     simp
     apply au
     simp[hC]
     refine bj ?_
     simp
     apply au
     simp[hC]
     refine bj ?_
     simp
     apply au
     simp[hC]
     refine bj ?_
     simp
     apply au
     simp[hC]
     refine bj ?_
     simp
     apply au
     simp[hC]
     refine bj ?_
     simp
     apply aJ
     simp[hC]
     refine bj ?_
     simp
     apply aO
     simp[hC]
     refine dN ?_
     simp
     apply au
     simp[hC]
     refine T.cut (fun s=>s=⟨[(8,.str ⟨#[119,104,105,108,101,32]⟩),(7,.aw 0 0),(6,I i),(5,.str y),(0,.av (bA l) l.length),(1,.str tabs)],[(0,⟨188,0,[I 8,.str ⟨#[]⟩,I e.op,I e.n,.str e.name,.av (e.args.flatMap aZ) e.args.length,.str ⟨#[]⟩,.av [] 0,.av [] 0,.av (bA th) th.length,.av [] 0]⟩)],1⟩) ?_ ?_
     ·apply au
      simp[hC]
      refine dN ?_
      simp
      apply aO
      simp[hC]
      refine aa.trim [8,7,6,5,0,1] [0] 1 yAa yA ?_
      simp
     rintro s rfl
     have s0:=ax (y) (⟨#[119,104,105,108,101,32]⟩) yAh
     have s1:=ax (y++⟨#[119,104,105,108,101,32]⟩) (ja e) yAh
     have s2:=ax (y++⟨#[119,104,105,108,101,32]⟩++ja e) (⟨#[32,123,10]⟩) yAh
     have s3:=ax (y++⟨#[119,104,105,108,101,32]⟩++ja e++⟨#[32,123,10]⟩) (js (tabs++⟨#[9]⟩) th) yAh
     have s4:=ax (y++⟨#[119,104,105,108,101,32]⟩++ja e++⟨#[32,123,10]⟩++js (tabs++⟨#[9]⟩) th) (tabs) yAh
     have s5:=ax (y++⟨#[119,104,105,108,101,32]⟩++ja e++⟨#[32,123,10]⟩++js (tabs++⟨#[9]⟩) th++tabs) (⟨#[125]⟩) yAh
     have s9:=ax tabs ⟨#[9]⟩ yCj
     apply T.seq
     refine T.rx ag follows [0,1,2,3,4,8,9,10,11,14,5,6,7,12,13,15,16,17] [(9,5)] yAb ?_
     simp[hC,s0,s9]
     refine RX.call rfl yAa rfl rfl rfl yAd (h2) ?_
     simp[s1,s2]
     refine RX.call rfl yAa rfl rfl rfl yAd (h3) ?_
     simp[s3,s4,s5]
     apply au
     simp[hC]
     refine bj ?_
     simp
     apply T.skip
     simp
     refine aa.trim [6,5,0,1] [] 0 yAa yA ?_
     simp[← hY,kX,xY,p8,kU,p6,ByteArray.append_assoc]
    rintro s rfl
    apply aO
    simp[hC,snl]
    apply aO
    simp[hC,wi]
    refine⟨l.length-(i+1),by omega,?_⟩
    refine aa.trim [6,5,0,1] [] 0 yAa yA ⟨i+1,Y++⟨#[10]⟩,rfl,by omega,hx2,?_⟩
    simp
   | .jC,hdr,hao,hY,hz2=>
    simp only[ir,aZ,k8,eS,List.cons_append,List.nil_append] at hdr
    apply au
    simp[hC,hi,hdr]
    apply au
    simp[hC,st]
    refine T.cut (fun s=>s=⟨[(6,I i),(5,.str Y),(0,.av (bA l) l.length),(1,.str tabs)],[],0⟩) ?_ ?_
    ·apply au
     simp[hC]
     apply T.block
     simp only[kX,H0] at hz2
     have s0:=ax (y) (⟨#[114,101,116,117,114,110,59]⟩) yAh
     apply au
     simp[hC]
     refine bj ?_
     simp
     apply au
     simp[hC]
     refine bj ?_
     simp
     apply au
     simp[hC]
     refine bj ?_
     simp
     apply au
     simp[hC]
     refine bj ?_
     simp
     apply au
     simp[hC]
     refine bj ?_
     simp
     apply au
     simp[hC]
     refine bj ?_
     simp
     apply aJ
     simp[hC]
     refine bj ?_
     simp
     apply aO
     simp[hC]
     refine bj ?_
     simp
     apply aO
     simp[hC,s0]
     refine aa.trim [6,5,0,1] [] 0 yAa yA ?_
     simp[← hY,kX,H0]
    rintro s rfl
    apply aO
    simp[hC,snl]
    apply aO
    simp[hC,wi]
    refine⟨l.length-(i+1),by omega,?_⟩
    refine aa.trim [6,5,0,1] [] 0 yAa yA ⟨i+1,Y++⟨#[10]⟩,rfl,by omega,hx2,?_⟩
    simp
  ·have hie:i=l.length:=by omega
   rw[hie,List.drop_length,js] at hx
   have hxX:x=X:=by rw[← hx];exact (ByteArray.append_empty (b:=x)).symm
   subst hxX
   apply aJ
   simp[hC,hi]
   refine bj ?_
   simp
   apply T.exit
   simp
   apply au
   simp[hC]
   apply T.ret
   apply aa.here
   simp[Tryz.results129]
end Go.Proofs.YtmnglemlimfpbaaGreat
