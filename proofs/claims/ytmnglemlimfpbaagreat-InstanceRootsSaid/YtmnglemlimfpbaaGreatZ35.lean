/- program: the text of a program. | The facts about the bodies of a made program: right statements, and their text. -/
import Derived.Test.YtmnglemlimfpbaaGreatZ34
namespace Go.Proofs.YtmnglemlimfpbaaGreat
open Go.Can Go.bg
def J91a (p:Pg)(X:ByteArray)(n:Nat)(s:St):Prop:=∃ (i:Nat) (x:ByteArray),n=p.gs.length-i∧i≤p.gs.length∧x++(jf Hi (p.gs.drop i)++jf Gg p.ms++jf CH p.fs)=X∧s=⟨[(4,I i),(3,.str x),(1,.aq 0 0)],[(0,⟨27,0,dq p⟩)],1⟩
def J91b (p:Pg)(X:ByteArray)(n:Nat)(s:St):Prop:=∃ (i:Nat) (x:ByteArray),n=p.ms.length-i∧i≤p.ms.length∧x++(jf Gg (p.ms.drop i)++jf CH p.fs)=X∧s=⟨[(5,I i),(3,.str x),(1,.aq 0 0)],[(0,⟨27,0,dq p⟩)],1⟩
def J91c (p:Pg)(X:ByteArray)(n:Nat)(s:St):Prop:=∃ (i:Nat) (x:ByteArray),n=p.fs.length-i∧i≤p.fs.length∧x++jf CH (p.fs.drop i)=X∧s=⟨[(7,I i),(3,.str x),(1,.aq 0 0)],[(0,⟨27,0,dq p⟩)],1⟩
def J91d (p:Pg)(i:Nat)(nm:ByteArray)(ps:List Pm)(bd:List Sm)(Y:ByteArray)(n:Nat)(s:St):Prop:=∃ (q:Nat) (z:ByteArray),n=ps.length-q∧q≤ps.length∧z++r8 (decide (q=0)) (ps.drop q)=Y∧s=⟨[(9,I q),(8,.aq 1 0),(7,I i),(3,.str z),(1,.aq 0 0)],[(0,⟨27,0,dq p⟩),(1,⟨137,0,eP ⟨nm,ps,bd⟩⟩)],2⟩
theorem wC (b:ByteArray):(⟨#[]⟩:ByteArray)++b=b:=ByteArray.empty_append
theorem lB (b:ByteArray):b++(⟨#[]⟩:ByteArray)=b:=ByteArray.append_empty
set_option maxHeartbeats 8000000 in
theorem xI (p:Pg)(hsz:(BS p).size≤1000000)(h1:p.gs.length≤100)(h2:p.ms.length≤100)(h3:p.fs.length≤100)(hg:∀ g∈p.gs,-1000≤g.init∧g.init≤1000)(hm:∀ m∈p.ms,m.size≤1000)
  (hf:∀ f∈p.fs,f.params.length≤100∧ah Tryz.prog 129 [.ax (bt f.body) f.body.length,.str ⟨#[9]⟩] (.str (ic ⟨#[9]⟩ f.body))):ah Tryz.prog 91 [qX p] (.str (BS p)):=by
 obtain⟨X,hX⟩:∃ X,BS p=X:=⟨_,rfl⟩
 rw[hX] at hsz ⊢
 unfold BS at hX
 have fg:=fun (k:Nat) (a:Gl) (h:p.gs[k]? = some a)=>aV (f:=ny) (n:=2) (fun _=>rfl) h
 have fg1:=fun (k:Nat) (a:Gl) (h:p.gs[k]? = some a)=>bG (f:=ny) (n:=2) (fun _=>rfl) h 1 (by omega)
 have fm:=fun (k:Nat) (a:Mx) (h:p.ms[k]? = some a)=>aV (f:=js) (n:=3) (fun _=>rfl) h
 have ff:=fun (k:Nat) (a:Fu) (h:p.fs[k]? = some a)=>aV (f:=eP) (n:=3) (fun _=>rfl) h
 refine ah.bl aa Tryz.func91 rfl (by kernel_rfl) (by simp[Tryz.ntmps91]) rfl fun C hC hC0=>?_
 rw[Tryz.ntmps91] at hC
 refine T.seq (T.go' aa ?_)
 simp[hC,qX,dq]
 refine T.seq (T.go' aa ?_)
 simp[hC]
 refine T.cut (fun s=>∃ x,x++(jf Gg p.ms++jf CH p.fs)=X∧s=⟨[(3,.str x),(1,.aq 0 0)],[(0,⟨27,0,dq p⟩)],1⟩) ?_ ?_
 ·refine T.seq (T.go' aa ?_)
  simp[hC]
  refine T.block ?_
  refine T.aS (J91a p X) (n:=p.gs.length) ?_ ?_
  ·refine ae.trim [4,3,1] [0] 1 (by simp) (by omega) ⟨0,⟨#[]⟩,by omega,by omega,?_,?_⟩
   ·rw[wC];exact hX
   ·simp[dq]
  ·rintro n s ⟨i,x,rfl,hi,hx,rfl⟩
   by_cases hil:i<p.gs.length
   ·obtain⟨a,hia⟩:∃ a,p.gs[i]? = some a:=⟨p.gs[i],List.getElem?_eq_getElem hil⟩
    have hdr:=fg i a hia
    have hdr1:=fg1 i a hia
    have hin:=hg a (List.mem_of_getElem? hia)
    have wi:=db ((i:Int)+1) (by omega) (by omega)
    have hd:p.gs.drop i=a::p.gs.drop (i+1):=by
     rw[List.drop_eq_getElem_cons hil,(List.getElem?_eq_some_iff.1 hia).2]
    rw[hd,jf] at hx
    have hz:=congrArg ByteArray.size hx
    simp only[Hi,xo,ByteArray.size_append] at hz
    have s0:=av x ⟨#[118,97,114,32]⟩ (by omega)
    have s1:=av (x++⟨#[118,97,114,32]⟩) a.name (by simp only[ByteArray.size_append];omega)
    refine T.seq (T.seq (T.go' aa ?_))
    simp[hC,hil,dq]
    refine T.cond (b:=true) rfl (T.skip ?_)
    simp
    refine T.seq (T.block ?_)
    refine T.seq (T.go' aa ?_)
    simp[hC,hil,hdr,ny,s0,s1]
    by_cases h0:a.init=0
    ·rw[if_pos h0] at hz
     have s2:=av (x++⟨#[118,97,114,32]⟩++a.name) ⟨#[59,10]⟩ (by simp only[ByteArray.size_append];omega)
     refine T.seq (T.seq (T.go' aa ?_))
     simp[hC,hil,hdr,ny,h0]
     refine T.cond (b:=false) rfl (T.skip ?_)
     simp
     refine T.go' aa ?_
     simp[hC,s2]
     refine T.go' aa ?_
     simp[hC,wi]
     refine⟨p.gs.length-(i+1),by omega,?_⟩
     refine ae.trim [4,3,1] [0] 1 (by simp) (by omega) ⟨i+1,x++⟨#[118,97,114,32]⟩++a.name++⟨#[59,10]⟩,rfl,by omega,?_,?_⟩
     ·rw[← hx,Hi,if_pos h0,lB]
      simp only[xo,ByteArray.append_assoc]
     ·simp[dq]
    ·rw[if_neg h0] at hz
     simp only[Da,ByteArray.size_append] at hz
     have h0b:(a.init != 0)=true:=by simp[h0]
     have s2:=av (x++⟨#[118,97,114,32]⟩++a.name) ⟨#[32,61,32]⟩ (by simp only[ByteArray.size_append];omega)
     have s3:=av (x++⟨#[118,97,114,32]⟩++a.name++⟨#[32,61,32]⟩) (j9 a.init) (by simp only[ByteArray.size_append];omega)
     have s4:=av (x++⟨#[118,97,114,32]⟩++a.name++⟨#[32,61,32]⟩++j9 a.init) ⟨#[59,10]⟩ (by simp only[ByteArray.size_append];omega)
     refine T.seq (T.seq (T.go' aa ?_))
     simp[hC,hil,hdr,ny,h0b]
     refine T.cond (b:=true) rfl ?_
     simp
     refine T.go' aa ?_
     simp[hC,hil,hdr,ny,s2]
     refine TL.call (by simp[hC]) rfl rfl (aI.of rfl (by first | rfl | simp only[List.cons_append,List.nil_append,List.append_nil,trees,tree,ag,ak,Bool.and_self,Bool.and_true,Bool.true_and]) (nR a.init (by omega) (by omega))) (TL.go' aa ?_)
     simp[hC,s3]
     refine T.go' aa ?_
     simp[hC,s4]
     refine T.go' aa ?_
     simp[hC,wi]
     refine⟨p.gs.length-(i+1),by omega,?_⟩
     refine ae.trim [4,3,1] [0] 1 (by simp) (by omega) ⟨i+1,x++⟨#[118,97,114,32]⟩++a.name++⟨#[32,61,32]⟩++j9 a.init++⟨#[59,10]⟩,rfl,by omega,?_,?_⟩
     ·rw[← hx,Hi,if_neg h0]
      simp only[xo,Da,ByteArray.append_assoc]
     ·simp[dq]
   ·have hie:i=p.gs.length:=by omega
    rw[hie,List.drop_length,jf,wC] at hx
    refine T.seq (T.seq (T.go' aa ?_))
    simp[hC,hil,dq]
    refine T.cond (b:=false) rfl ?_
    simp
    refine T.exit ?_
    simp
    refine ae.trim [3,1] [0] 1 (by simp) (by omega) ⟨x,hx,?_⟩
    simp
 rintro s ⟨x0,hx0,rfl⟩
 clear hX
 refine T.cut (fun s=>∃ x,x++jf CH p.fs=X∧s=⟨[(3,.str x),(1,.aq 0 0)],[(0,⟨27,0,dq p⟩)],1⟩) ?_ ?_
 ·refine T.seq (T.go' aa ?_)
  simp[hC]
  refine T.block ?_
  refine T.aS (J91b p X) (n:=p.ms.length) ?_ ?_
  ·refine ae.trim [5,3,1] [0] 1 (by simp[dq]) (by omega) ⟨0,x0,by omega,by omega,hx0,?_⟩
   simp
  ·rintro n s ⟨i,x,rfl,hi,hx,rfl⟩
   by_cases hil:i<p.ms.length
   ·obtain⟨a,hia⟩:∃ a,p.ms[i]? = some a:=⟨p.ms[i],List.getElem?_eq_getElem hil⟩
    have hdr:=fm i a hia
    have hin:=hm a (List.mem_of_getElem? hia)
    have wi:=db ((i:Int)+1) (by omega) (by omega)
    have hd:p.ms.drop i=a::p.ms.drop (i+1):=by
     rw[List.drop_eq_getElem_cons hil,(List.getElem?_eq_some_iff.1 hia).2]
    rw[hd,jf,Gg] at hx
    have hz:=congrArg ByteArray.size hx
    simp only[ByteArray.size_append] at hz
    refine T.seq (T.seq (T.go' aa ?_))
    simp[hC,hil,dq]
    refine T.cond (b:=true) rfl (T.skip ?_)
    simp
    refine T.seq (T.block ?_)
    refine T.seq (T.go' aa ?_)
    simp[hC,hil,hdr,js]
    obtain⟨y,hy⟩:∃ y,x++(if a.re=true then ⟨#[114]⟩ else ⟨#[]⟩)=y:=⟨_,rfl⟩
    have hys:y.size=x.size+(if a.re=true then (⟨#[114]⟩:ByteArray) else ⟨#[]⟩).size:=by rw[← hy,ByteArray.size_append]
    have hyX:y.size≤1000000:=by omega
    refine T.cut (fun s=>s=⟨[(6,.aq 1 0),(5,I i),(3,.str y),(1,.aq 0 0)],[(0,⟨27,0,dq p⟩),(1,⟨95,0,js a⟩)],2⟩) ?_ ?_
    ·refine T.seq (T.go' aa ?_)
     simp[hC]
     refine T.cond (b:=a.re) rfl ?_
     cases hre:a.re with
     | true=>
      rw[hre,if_pos rfl] at hy hys
      have s0:=av x ⟨#[114]⟩ (by omega)
      simp
      refine T.go' aa ?_
      simp[hC,s0]
      refine ae.trim [6,5,3,1] [0,1] 2 (by simp) (by omega) ?_
      simp[← hy,js,hre,dq]
     | false=>
      rw[hre,if_neg (by simp),lB] at hy
      simp
      refine T.skip ?_
      simp
      refine ae.trim [6,5,3,1] [0,1] 2 (by simp) (by omega) ?_
      simp[← hy,js,hre,dq]
    rintro s rfl
    have s1:=av y ⟨#[109,117,116,101,120,32]⟩ (by omega)
    have s2:=av (y++⟨#[109,117,116,101,120,32]⟩) a.name (by simp only[ByteArray.size_append];omega)
    refine T.seq (T.go' aa ?_)
    simp[hC,s1,s2,js]
    have hx2:y++(⟨#[109,117,116,101,120,32]⟩++a.name++(if a.size=0 then ⟨#[]⟩ else ⟨#[91]⟩++j9 a.size++⟨#[93]⟩)++⟨#[59,10]⟩++(jf Gg (p.ms.drop (i+1))++jf CH p.fs))=X:=by
     rw[← hx,← hy]
     simp only[ByteArray.append_assoc]
    by_cases h0:a.size=0
    ·rw[if_pos h0] at hz hx2
     have s3:=av (y++⟨#[109,117,116,101,120,32]⟩++a.name) ⟨#[59,10]⟩ (by simp only[ByteArray.size_append];omega)
     refine T.seq (T.seq (T.go' aa ?_))
     simp[hC,h0]
     refine T.cond (b:=false) rfl (T.skip ?_)
     simp
     refine T.go' aa ?_
     simp[hC,s3]
     refine T.go' aa ?_
     simp[hC,wi]
     refine⟨p.ms.length-(i+1),by omega,?_⟩
     refine ae.trim [5,3,1] [0] 1 (by simp[dq]) (by omega) ⟨i+1,y++⟨#[109,117,116,101,120,32]⟩++a.name++⟨#[59,10]⟩,rfl,by omega,?_,?_⟩
     ·rw[← hx2,lB]
      simp only[ByteArray.append_assoc]
     ·simp[dq]
    ·rw[if_neg h0] at hz hx2
     simp only[ByteArray.size_append] at hz
     have h0b:0<a.size:=by omega
     have s3:=av (y++⟨#[109,117,116,101,120,32]⟩++a.name) ⟨#[91]⟩ (by simp only[ByteArray.size_append];omega)
     have s4:=av (y++⟨#[109,117,116,101,120,32]⟩++a.name++⟨#[91]⟩) (j9 a.size) (by simp only[ByteArray.size_append];omega)
     have s5:=av (y++⟨#[109,117,116,101,120,32]⟩++a.name++⟨#[91]⟩++j9 a.size) ⟨#[93]⟩ (by simp only[ByteArray.size_append];omega)
     have s6:=av (y++⟨#[109,117,116,101,120,32]⟩++a.name++⟨#[91]⟩++j9 a.size++⟨#[93]⟩) ⟨#[59,10]⟩ (by simp only[ByteArray.size_append];omega)
     refine T.seq (T.seq (T.go' aa ?_))
     simp[hC,h0b]
     refine T.cond (b:=true) rfl ?_
     simp
     refine T.go' aa ?_
     simp[hC,s3]
     refine TL.call (by simp[hC]) rfl rfl (aI.of rfl (by first | rfl | simp only[List.cons_append,List.nil_append,List.append_nil,trees,tree,ag,ak,Bool.and_self,Bool.and_true,Bool.true_and]) (nR (a.size:Int) (by omega) (by omega))) (TL.go' aa ?_)
     simp[hC,s4,s5]
     refine T.go' aa ?_
     simp[hC,s6]
     refine T.go' aa ?_
     simp[hC,wi]
     refine⟨p.ms.length-(i+1),by omega,?_⟩
     refine ae.trim [5,3,1] [0] 1 (by simp[dq]) (by omega) ⟨i+1,y++⟨#[109,117,116,101,120,32]⟩++a.name++⟨#[91]⟩++j9 a.size++⟨#[93]⟩++⟨#[59,10]⟩,rfl,by omega,?_,?_⟩
     ·rw[← hx2]
      simp only[ByteArray.append_assoc]
     ·simp[dq]
   ·have hie:i=p.ms.length:=by omega
    rw[hie,List.drop_length,jf,wC] at hx
    refine T.seq (T.seq (T.go' aa ?_))
    simp[hC,hil,dq]
    refine T.cond (b:=false) rfl ?_
    simp
    refine T.exit ?_
    simp
    refine ae.trim [3,1] [0] 1 (by simp) (by omega) ⟨x,hx,?_⟩
    simp
 rintro s ⟨x1,hx1,rfl⟩
 clear hx0
 refine T.cut (fun s=>s=⟨[(3,.str X),(1,.aq 0 0)],[(0,⟨27,0,dq p⟩)],1⟩) ?_ ?_
 ·refine T.seq (T.go' aa ?_)
  simp[hC]
  refine T.block ?_
  refine T.aS (J91c p X) (n:=p.fs.length) ?_ ?_
  ·refine ae.trim [7,3,1] [0] 1 (by simp[dq]) (by omega) ⟨0,x1,by omega,by omega,hx1,?_⟩
   simp
  ·rintro n s ⟨i,x,rfl,hi,hx,rfl⟩
   by_cases hil:i<p.fs.length
   ·obtain⟨a,hia⟩:∃ a,p.fs[i]? = some a:=⟨p.fs[i],List.getElem?_eq_getElem hil⟩
    have hdr:=ff i a hia
    obtain⟨hpl,hcl⟩:=hf a (List.mem_of_getElem? hia)
    have wi:=db ((i:Int)+1) (by omega) (by omega)
    have hd:p.fs.drop i=a::p.fs.drop (i+1):=by
     rw[List.drop_eq_getElem_cons hil,(List.getElem?_eq_some_iff.1 hia).2]
    rw[hd,jf,CH] at hx
    obtain⟨nm,ps,bd⟩:=a
    simp only at hx hpl hcl
    have hz:=congrArg ByteArray.size hx
    simp only[ByteArray.size_append] at hz
    obtain⟨y,hy⟩:∃ y,x++⟨#[102,117,110,99,32]⟩++nm++⟨#[40]⟩=y:=⟨_,rfl⟩
    have hys:y.size=x.size+(⟨#[102,117,110,99,32]⟩:ByteArray).size+nm.size+(⟨#[40]⟩:ByteArray).size:=by rw[← hy];simp only[ByteArray.size_append]
    obtain⟨Y,hY⟩:∃ Y,y++r8 true ps=Y:=⟨_,rfl⟩
    have hYs:Y.size=y.size+(r8 true ps).size:=by rw[← hY,ByteArray.size_append]
    have hx2:Y++(⟨#[41,32,123,10]⟩++ic nH bd++⟨#[125,10]⟩++jf CH (p.fs.drop (i+1)))=X:=by
     rw[← hx,← hY,← hy]
     simp only[ByteArray.append_assoc]
    have s0:=av x ⟨#[102,117,110,99,32]⟩ (by omega)
    have s1:=av (x++⟨#[102,117,110,99,32]⟩) nm (by simp only[ByteArray.size_append];omega)
    have s2:=av (x++⟨#[102,117,110,99,32]⟩++nm) ⟨#[40]⟩ (by simp only[ByteArray.size_append];omega)
    rw[hy] at s2
    refine T.seq (T.seq (T.go' aa ?_))
    simp[hC,hil,dq]
    refine T.cond (b:=true) rfl (T.skip ?_)
    simp
    refine T.seq (T.block ?_)
    refine T.seq (T.go' aa ?_)
    simp[hC,hil,hdr,eP]
    refine T.seq (T.go' aa ?_)
    simp[hC,s0,s1,s2]
    refine T.cut (fun s=>s=⟨[(8,.aq 1 0),(7,I i),(3,.str Y),(1,.aq 0 0)],[(0,⟨27,0,dq p⟩),(1,⟨137,0,eP ⟨nm,ps,bd⟩⟩)],2⟩) ?_ ?_
    ·refine T.seq (T.go' aa ?_)
     simp[hC]
     refine T.block ?_
     refine T.aS (J91d p i nm ps bd Y) (n:=ps.length) ?_ ?_
     ·refine ae.trim [9,8,7,3,1] [0,1] 2 (by simp) (by omega) ⟨0,y,by omega,by omega,hY,?_⟩
      simp[eP,dq]
     ·rintro n s ⟨q,z,rfl,hq,hzY,rfl⟩
      by_cases hql:q<ps.length
      ·obtain⟨b,hqb⟩:∃ b,ps[q]? = some b:=⟨ps[q],List.getElem?_eq_getElem hql⟩
       have hp0:=aV (f:=jL) (n:=2) (fun _=>rfl) hqb
       have hp1:=bG (f:=jL) (n:=2) (fun _=>rfl) hqb 1 (by omega)
       have wq:=db ((q:Int)+1) (by omega) (by omega)
       have hd2:ps.drop q=b::ps.drop (q+1):=by
        rw[List.drop_eq_getElem_cons hql,(List.getElem?_eq_some_iff.1 hqb).2]
       rw[hd2,r8] at hzY
       have hz3:=congrArg ByteArray.size hzY
       simp only[ByteArray.size_append] at hz3
       refine T.seq (T.seq (T.go' aa ?_))
       simp[hC,hql,eP]
       refine T.cond (b:=true) rfl (T.skip ?_)
       simp
       refine T.seq (T.block ?_)
       obtain⟨u,hu⟩:∃ u,z++(if decide (q=0)=true then ⟨#[]⟩ else ⟨#[44,32]⟩)=u:=⟨_,rfl⟩
       have hus:u.size=z.size+(if decide (q=0)=true then (⟨#[]⟩:ByteArray) else ⟨#[44,32]⟩).size:=by rw[← hu,ByteArray.size_append]
       obtain⟨v,hv⟩:∃ v,u++(if b.mutex=true then ⟨#[109,117,116,101,120,32]⟩ else ⟨#[]⟩)=v:=⟨_,rfl⟩
       have hvs:v.size=u.size+(if b.mutex=true then (⟨#[109,117,116,101,120,32]⟩:ByteArray) else ⟨#[]⟩).size:=by rw[← hv,ByteArray.size_append]
       have hvX:v.size≤1000000:=by omega
       have huX:u.size≤1000000:=by omega
       refine T.cut (fun s=>s=⟨[(9,I q),(8,.aq 1 0),(7,I i),(3,.str u),(1,.aq 0 0)],[(0,⟨27,0,dq p⟩),(1,⟨137,0,eP ⟨nm,ps,bd⟩⟩)],2⟩) ?_ ?_
       ·refine T.seq (T.go' aa ?_)
        simp[hC]
        by_cases hq0:q=0
        ·have hqb:¬ 0<q:=by omega
         simp only[hq0,decide_true,if_true,lB] at hu
         simp only[hqb,decide_false]
         refine T.cond (b:=false) rfl (T.skip ?_)
         simp
         refine ae.trim [9,8,7,3,1] [0,1] 2 (by simp[dq]) (by omega) ?_
         simp[hu,eP,dq]
        ·have hqb:0<q:=by omega
         have e0:decide (q=0)=false:=by simp[hq0]
         rw[e0] at hu hus
         simp only[Bool.false_eq_true,if_false] at hu hus
         have t0:=av z ⟨#[44,32]⟩ (by omega)
         rw[hu] at t0
         simp only[hqb,decide_true]
         refine T.cond (b:=true) rfl ?_
         simp
         refine T.go' aa ?_
         simp[hC,t0]
         refine ae.trim [9,8,7,3,1] [0,1] 2 (by simp[dq]) (by omega) ?_
         simp[eP,dq]
       rintro s rfl
       refine T.cut (fun s=>s=⟨[(9,I q),(8,.aq 1 0),(7,I i),(3,.str v),(1,.aq 0 0)],[(0,⟨27,0,dq p⟩),(1,⟨137,0,eP ⟨nm,ps,bd⟩⟩)],2⟩) ?_ ?_
       ·refine T.seq (T.go' aa ?_)
        simp[hC,hql,hp1,jL,eP]
        refine T.cond (b:=b.mutex) rfl ?_
        cases hbm:b.mutex with
        | true=>
         rw[hbm,if_pos rfl] at hv hvs
         have t0:=av u ⟨#[109,117,116,101,120,32]⟩ (by omega)
         rw[hv] at t0
         simp
         refine T.go' aa ?_
         simp[hC,t0]
         refine ae.trim [9,8,7,3,1] [0,1] 2 (by simp[dq]) (by omega) ?_
         simp[dq]
        | false=>
         rw[hbm,if_neg (by simp),lB] at hv
         simp
         refine T.skip ?_
         simp
         refine ae.trim [9,8,7,3,1] [0,1] 2 (by simp[dq]) (by omega) ?_
         simp[hv,dq]
       rintro s rfl
       have t1:=av v b.name (by omega)
       refine T.go' aa ?_
       simp[hC,hql,hp0,jL,eP,t1]
       refine T.go' aa ?_
       simp[hC,wq]
       refine⟨ps.length-(q+1),by omega,?_⟩
       refine ae.trim [9,8,7,3,1] [0,1] 2 (by simp[dq]) (by omega) ⟨q+1,v++b.name,rfl,by omega,?_,?_⟩
       ·rw[← hzY,← hv,← hu]
        simp only[ByteArray.append_assoc]
        simp
       ·simp[eP,dq]
      ·have hie:q=ps.length:=by omega
       rw[hie,List.drop_length,r8,lB] at hzY
       subst hzY
       refine T.seq (T.seq (T.go' aa ?_))
       simp[hC,hql,eP]
       refine T.cond (b:=false) rfl ?_
       simp
       refine T.exit ?_
       simp
       refine ae.trim [8,7,3,1] [0,1] 2 (by simp[dq]) (by omega) ?_
       simp[dq]
    rintro s rfl
    have t0:=av Y ⟨#[41,32,123,10]⟩ (by omega)
    have t1:=av (Y++⟨#[41,32,123,10]⟩) (ic ⟨#[9]⟩ bd) (by have:(ic ⟨#[9]⟩ bd).size=(ic nH bd).size:=rfl;simp only[ByteArray.size_append];omega)
    have t2:=av (Y++⟨#[41,32,123,10]⟩++ic ⟨#[9]⟩ bd) ⟨#[125,10]⟩ (by have:(ic ⟨#[9]⟩ bd).size=(ic nH bd).size:=rfl;simp only[ByteArray.size_append];omega)
    refine T.go' aa ?_
    simp[hC,t0,eP]
    refine TL.call (by simp[hC]) rfl rfl (aI.of rfl (by first | rfl | simp only[List.cons_append,List.nil_append,List.append_nil,trees,tree,ag,ak,Bool.and_self,Bool.and_true,Bool.true_and]) (hcl)) (TL.go' aa ?_)
    simp[hC,t1,t2]
    refine T.go' aa ?_
    simp[hC,wi]
    refine⟨p.fs.length-(i+1),by omega,?_⟩
    refine ae.trim [7,3,1] [0] 1 (by simp[dq]) (by omega) ⟨i+1,Y++⟨#[41,32,123,10]⟩++ic ⟨#[9]⟩ bd++⟨#[125,10]⟩,rfl,by omega,?_,?_⟩
    ·rw[← hx2]
     simp only[ByteArray.append_assoc]
     rfl
    ·simp[dq]
   ·have hie:i=p.fs.length:=by omega
    rw[hie,List.drop_length,jf,lB] at hx
    subst hx
    refine T.seq (T.seq (T.go' aa ?_))
    simp[hC,hil,dq]
    refine T.cond (b:=false) rfl ?_
    simp
    refine T.exit ?_
    simp
    refine ae.trim [3,1] [0] 1 (by simp) (by omega) ?_
    simp
 rintro s rfl
 refine T.seq (T.go' aa ?_)
 simp[hC]
 refine T.ret ?_
 refine ae.here ?_
 simp[Tryz.results91]
end Go.Proofs.YtmnglemlimfpbaaGreat
namespace Go.Proofs.YtmnglemlimfpbaaGreat
open Go.Can Go.bg
theorem qW:∀ s∈nG++nM++nF++nP,bs s∉pP:=by decide
theorem HV (k:Nat)(hk:k<24):bs (eY k)∉pP:=by
 rw[fG]
 exact (by decide:∀ k,k<24→[118,UInt8.ofNat (97+k % 26),UInt8.ofNat (97+k / 26 % 26)]∉pP) k hk
theorem xf (k:Nat)(hk:k<24):lD (eY k):=by
 refine⟨⟨⟨118,_,fG k,by decide⟩,?_,by rw[fG];simp⟩,HV k hk⟩
 rw[fG]
 exact (by decide:∀ k,k<24→List.all [118,UInt8.ofNat (97+k % 26),UInt8.ofNat (97+k / 26 % 26)] fc=true) k hk
theorem _root_.Go.bg.jJ.gR {p:Pg}(h:jJ p):∀ g∈p.gs,lD g.name:=fun g hg=>⟨h.ng g hg,by
 obtain⟨k,_,hk⟩:=h.gn
 have:=List.mem_map_of_mem (f:=(·.name)) hg
 rw[hk] at this
 exact qW _ (by simp only[List.mem_append];exact .inl (.inl (.inl (List.mem_of_mem_take this))))⟩
theorem _root_.Go.bg.jJ.mR {p:Pg}(h:jJ p):∀ g∈p.ms,lD g.name:=fun g hg=>⟨h.nm g hg,by
 obtain⟨k,_,_,hk⟩:=h.mn
 have:=List.mem_map_of_mem (f:=(·.name)) hg
 rw[hk] at this
 exact qW _ (by simp only[List.mem_append];exact .inl (.inl (.inr (List.mem_of_mem_take this))))⟩
theorem _root_.Go.bg.jJ.fR {p:Pg}(h:jJ p):∀ g∈p.fs,lD g.name:=fun g hg=>⟨h.nf g hg,by
 obtain⟨k,_,_,hk⟩:=h.fn
 have:=List.mem_map_of_mem (f:=(·.name)) hg
 rw[hk] at this
 exact qW _ (by simp only[List.mem_append];exact .inl (.inr (List.mem_of_mem_take this)))⟩
theorem _root_.Go.bg.jJ.pR {p:Pg}(h:jJ p):∀ f∈p.fs,∀ q∈f.params,lD q.name:=fun f hf q hq=>⟨h.np f hf q hq,by
 obtain⟨k,_,hk⟩:=h.pn f hf
 have:=List.mem_map_of_mem (f:=(·.name)) hq
 rw[hk,List.mem_reverse] at this
 exact qW _ (by simp only[List.mem_append];exact .inr (List.mem_of_mem_take this))⟩
theorem _root_.Go.bg.jJ.vR {p:Pg}(h:jJ p):∀ f∈p.fs,∀ s∈iY p.gs f.params,lD s:=fun f hf s hs=>by
 rcases sd hs with hs | hs
 ·rw[List.mem_map] at hs
  obtain⟨g,hg,rfl⟩:=hs
  exact h.gR g hg
 ·rw[List.mem_map] at hs
  obtain⟨g,hg,rfl⟩:=hs
  exact h.pR f hf g hg
theorem _root_.Go.bg.jJ.pl {p:Pg}(h:jJ p):∀ f∈p.fs,f.params.length≤2:=fun f hf=>by
 obtain⟨k,hk,hpk⟩:=h.pn f hf
 have:=congrArg List.length hpk
 simp[nP] at this
 omega
theorem FQ (s:Sm):2≤dT s:=by cases s<;>simp only[dT]<;>omega
theorem jn:∀ l:List Sm,2*l.length≤bz l
 | []=>by simp[bz]
 | s::r=>by
  have:=jn r
  have:=FQ s
  simp only[bz,List.length_cons]
  omega
def OkF (deep:Nat)(s:Sm):Prop:=match s with
 | .gr nm e=>lD nm∧ah Tryz.prog 124 [.agg (bB e)] (.bool true)
 | .gV nm e=>lD nm∧ah Tryz.prog 124 [.agg (bB e)] (.bool true)
 | .dI _ nm al=>lD nm∧al.length≤1000∧∀ a∈al,okA a
 | .dg _ r=>RfR r
 | .ku e th el=>ah Tryz.prog 124 [.agg (bB e)] (.bool true)∧ah Tryz.prog 90 [.ax (bt th) th.length,I ((deep+1:Nat))] (.bool true)∧ah Tryz.prog 90 [.ax (bt el) el.length,I ((deep+1:Nat))] (.bool true)
 | .cj e th=>ah Tryz.prog 124 [.agg (bB e)] (.bool true)∧ah Tryz.prog 90 [.ax (bt th) th.length,I ((deep+1:Nat))] (.bool true)
 | .iU=>True
theorem kZ {l:List Sm}{deep:Nat}(hd:deep<20)(hl:l.length≤100000)(h:∀ s∈l,OkF deep s):ah Tryz.prog 90 [.ax (bt l) l.length,I deep] (.bool true):=
 vQ l deep hd hl fun s hs=>by
  have:=h s hs
  cases s<;>exact this
section
variable {ms:List Mx}{fs:List (ByteArray×List Pm)}{ps:List Pm}(hms:∀ m∈ms,lD m.name)(hfs:∀ x∈fs,lD x.1)(hfl:∀ x∈fs,x.2.length≤2)(hps:∀ q∈ps,lD q.name)
include hms hps
theorem rf_R {V:List ByteArray}(hV:∀ x∈V,lD x){r:Rf}(h:CL ms ps V r):RfR r:=by
 rcases h with ⟨m,hm,hn,hi⟩ | ⟨q,hq,_,hn,hi⟩
 ·refine⟨by rw[hn];exact hms m hm,fun e he=>?_⟩
  rcases hi with ⟨hi,_⟩ | ⟨e',hi,_,hw⟩
  ·rw[hi] at he;cases he
  ·rw[hi] at he
   cases he
   exact fq hV 1 _ (by omega) hw
 ·exact⟨by rw[hn];exact hps q hq,fun e he=>by rw[hi] at he;cases he⟩
theorem Hx {V:List ByteArray}(hV:∀ x∈V,lD x):∀ {gp:List Pm} {l:List Ar},iJ ms ps V gp l→∀ a∈l,okA a
 | [],[],_=>by simp
 | q::gp,a::l,h=>by
  simp only[iJ] at h
  intro x hx
  rcases List.mem_cons.1 hx with rfl | hx
  ·cases x with
   | sr r=>exact rf_R hms hps hV h.1.2
   | exp e=>exact fq hV 2 _ (by omega) h.1.2
  ·exact Hx hV h.2 x hx
 | [],_::_,h=>h.elim
 | _::_,[],h=>h.elim
theorem rf_T {V:List ByteArray}(hV:∀ x∈V,lD x){r:Rf}(h:CL ms ps V r):I6 r:=by
 have hV':∀ x∈V,cY x:=fun x hx=>(hV x hx).1
 have hz:∀ s:ByteArray,cY s→s.size≤100:=fun s hs=>by
  have:=hs.2.2
  rw[kq] at this
  omega
 rcases h with ⟨m,hm,hn,hi⟩ | ⟨q,hq,_,hn,hi⟩
 ·refine⟨by rw[hn];exact hz _ (hms m hm).1,fun e he=>?_⟩
  rcases hi with ⟨hi,_⟩ | ⟨e',hi,_,hw⟩
  ·rw[hi] at he;cases he
  ·rw[hi] at he
   cases he
   exact⟨mM hV' 1 _ (by omega) hw,kL hV' (d:=1) (by omega) hw⟩
 ·exact⟨by rw[hn];exact hz _ (hps q hq).1,fun e he=>by rw[hi] at he;cases he⟩
theorem Hw {V:List ByteArray}(hV:∀ x∈V,lD x):∀ {gp:List Pm} {l:List Ar},iJ ms ps V gp l→∀ a∈l,TxA a
 | [],[],_=>by simp
 | q::gp,a::l,h=>by
  simp only[iJ] at h
  intro x hx
  rcases List.mem_cons.1 hx with rfl | hx
  ·cases x with
   | sr r=>exact rf_T hms hps hV h.1.2
   | exp e=>
    have hV':∀ x∈V,cY x:=fun x hx=>(hV x hx).1
    exact⟨mM hV' 2 _ (by omega) h.1.2,kL hV' (d:=2) (by omega) h.1.2⟩
  ·exact Hw hV h.2 x hx
 | [],_::_,h=>h.elim
 | _::_,[],h=>h.elim
include hfs hfl
theorem xO:(∀ s:Sm,∀ d V deep,(∀ x∈V,lD x)→deep+d<20→dC ms fs ps d V s→dT s≤2000→OkF deep s)∧
  (∀ l:List Sm,∀ d V deep,(∀ x∈V,lD x)→deep+d<20→cB ms fs ps d V l→bz l≤2000→∀ s∈l,OkF deep s):=by
 let M1:Sm→Prop:=fun s=>∀ d V deep,(∀ x∈V,lD x)→deep+d<20→dC ms fs ps d V s→dT s≤2000→OkF deep s
 let M2:List Sm→Prop:=fun l=>∀ d V deep,(∀ x∈V,lD x)→deep+d<20→cB ms fs ps d V l→bz l≤2000→∀ s∈l,OkF deep s
 have hvn:∀ k,k<24→lD (eY k):=xf
 have A1:∀ (s:ByteArray) (e:Ex),M1 (.gr s e):=by
  intro s e d V deep hV _ hw _
  simp only[dC] at hw
  obtain⟨⟨k,hk,rfl⟩,_,he⟩:=hw
  exact⟨hvn k hk,fq hV 2 _ (by omega) he⟩
 have A2:∀ (s:ByteArray) (e:Ex),M1 (.gV s e):=by
  intro s e d V deep hV _ hw _
  simp only[dC] at hw
  exact⟨hV s hw.1,fq hV 2 _ (by omega) hw.2⟩
 have A3:∀ (g:Bool) (s:ByteArray) (l:List Ar),M1 (.dI g s l):=by
  intro g s l d V deep hV _ hw hk
  simp only[dC] at hw
  obtain⟨gp,h1,h2⟩:=hw
  have:=h2.len
  have:=hfl _ h1
  simp only at this
  exact⟨hfs _ h1,by omega,Hx hms hps hV h2⟩
 have A4:∀ (u:Bool) (r:Rf),M1 (.dg u r):=by
  intro u r d V deep hV _ hw _
  simp only[dC] at hw
  exact rf_R hms hps hV hw
 have A5:∀ (e:Ex) (th el:List Sm),M2 th→M2 el→M1 (.ku e th el):=by
  intro e th el i1 i2 d V deep hV hd hw hk
  cases d with
  | zero=>simp[dC] at hw
  | succ d=>
   simp only[dC] at hw
   simp only[dT] at hk
   have l1:=jn th
   have l2:=jn el
   exact⟨fq hV 2 _ (by omega) hw.1,kZ (by omega) (by omega) (i1 d V _ hV (by omega) hw.2.1 (by omega)),kZ (by omega) (by omega) (i2 d V _ hV (by omega) hw.2.2 (by omega))⟩
 have A6:∀ (e:Ex) (th:List Sm),M2 th→M1 (.cj e th):=by
  intro e th i1 d V deep hV hd hw hk
  cases d with
  | zero=>simp[dC] at hw
  | succ d=>
   simp only[dC] at hw
   simp only[dT] at hk
   have l1:=jn th
   exact⟨fq hV 2 _ (by omega) hw.1,kZ (by omega) (by omega) (i1 d V _ hV (by omega) hw.2 (by omega))⟩
 have A7:M1 .iU:=fun _ _ _ _ _ _ _=>trivial
 have A0:M2 []:=fun _ _ _ _ _ _ _ s hs=>by simp at hs
 have A8:∀ (s:Sm) (r:List Sm),M1 s→M2 r→M2 (s::r):=by
  intro s r i1 i2 d V deep hV hd hw hk x hx
  simp only[cB] at hw
  simp only[bz] at hk
  have hV2:∀ x∈V++dH s,lD x:=by
   intro x hx
   rcases List.mem_append.1 hx with hx | hx
   ·exact hV x hx
   ·cases s<;>simp only[dH,List.mem_singleton,List.not_mem_nil] at hx
    subst hx
    have:=hw.1
    simp only[dC] at this
    obtain⟨⟨j,hj,rfl⟩,_⟩:=this
    exact hvn j hj
  rcases List.mem_cons.1 hx with rfl | hx
  ·exact i1 d V deep hV hd hw.1 (by omega)
  ·exact i2 d _ deep hV2 hd hw.2 (by omega) x hx
 exact⟨fun s=>Sm.rec (motive_1:=M1) (motive_2:=M2) A1 A2 A3 A4 A5 A6 A7 A0 A8 s,fun l=>Sm.rec_1 (motive_1:=M1) (motive_2:=M2) A1 A2 A3 A4 A5 A6 A7 A0 A8 l⟩
theorem B7:(∀ s:Sm,∀ d V tabs,(∀ x∈V,lD x)→fV d tabs→dC ms fs ps d V s→dT s≤2000→TxS tabs s)∧
  (∀ l:List Sm,∀ d V tabs,(∀ x∈V,lD x)→fV d tabs→cB ms fs ps d V l→bz l≤2000→∀ s∈l,TxS tabs s):=by
 let M1:Sm→Prop:=fun s=>∀ d V tabs,(∀ x∈V,lD x)→fV d tabs→dC ms fs ps d V s→dT s≤2000→TxS tabs s
 let M2:List Sm→Prop:=fun l=>∀ d V tabs,(∀ x∈V,lD x)→fV d tabs→cB ms fs ps d V l→bz l≤2000→∀ s∈l,TxS tabs s
 have hvn:∀ k,k<24→lD (eY k):=xf
 have hz:∀ s:ByteArray,lD s→s.size≤100:=fun s hs=>by
  have:=hs.1.2.2
  rw[kq] at this
  omega
 have tx:∀ {V:List ByteArray} (_:∀ x∈V,lD x) {e:Ex},fp V 2 e→I7 e:=fun {V} hV {e} he=>⟨mM (fun x hx=>(hV x hx).1) 2 _ (by omega) he,kL (fun x hx=>(hV x hx).1) (d:=2) (by omega) he⟩
 have gK:∀ (l:List Sm) (d:Nat) (V:List ByteArray) (tabs:ByteArray),M2 l→(∀ x∈V,lD x)→fV d tabs→cB ms fs ps d V l→bz l≤2000→ah Tryz.prog 129 [.ax (bt l) l.length,.str tabs] (.str (ic tabs l)):=by
  intro l d V tabs i1 hV ht hw hk
  have hs:=((bR.lines (ms:=ms) (fs:=fs) (ps:=ps) (fun m hm=>(hms m hm).1) (fun x hx=>(hfs x hx).1) (fun q hq=>(hps q hq).1)).2 l d V tabs (fun x hx=>(hV x hx).1) ht hw).1
  rw[kq] at hs
  have h2:=ht.2
  rw[kq] at h2
  have h3:=jn l
  exact sD l tabs (by omega) (by omega) (by omega) (i1 d V tabs hV ht hw hk)
 have A1:∀ (s:ByteArray) (e:Ex),M1 (.gr s e):=by
  intro s e d V tabs hV _ hw _
  simp only[dC] at hw
  obtain⟨⟨k,hk,rfl⟩,_,he⟩:=hw
  exact⟨hz _ (hvn k hk),tx hV he⟩
 have A2:∀ (s:ByteArray) (e:Ex),M1 (.gV s e):=by
  intro s e d V tabs hV _ hw _
  simp only[dC] at hw
  exact⟨hz _ (hV s hw.1),tx hV hw.2⟩
 have A3:∀ (g:Bool) (s:ByteArray) (l:List Ar),M1 (.dI g s l):=by
  intro g s l d V tabs hV _ hw hk
  simp only[dC] at hw
  obtain⟨gp,h1,h2⟩:=hw
  have:=h2.len
  have:=hfl _ h1
  simp only at this
  exact⟨hz _ (hfs _ h1),by omega,Hw hms hps hV h2⟩
 have A4:∀ (u:Bool) (r:Rf),M1 (.dg u r):=by
  intro u r d V tabs hV _ hw _
  simp only[dC] at hw
  exact rf_T hms hps hV hw
 have A5:∀ (e:Ex) (th el:List Sm),M2 th→M2 el→M1 (.ku e th el):=by
  intro e th el i1 i2 d V tabs hV ht hw hk
  cases d with
  | zero=>simp[dC] at hw
  | succ d=>
   simp only[dC] at hw
   simp only[dT] at hk
   exact⟨tx hV hw.1,gK th d V _ i1 hV ht.more hw.2.1 (by omega),gK el d V _ i2 hV ht.more hw.2.2 (by omega)⟩
 have A6:∀ (e:Ex) (th:List Sm),M2 th→M1 (.cj e th):=by
  intro e th i1 d V tabs hV ht hw hk
  cases d with
  | zero=>simp[dC] at hw
  | succ d=>
   simp only[dC] at hw
   simp only[dT] at hk
   exact⟨tx hV hw.1,gK th d V _ i1 hV ht.more hw.2 (by omega)⟩
 have A7:M1 .iU:=fun _ _ _ _ _ _ _=>trivial
 have A0:M2 []:=fun _ _ _ _ _ _ _ s hs=>by simp at hs
 have A8:∀ (s:Sm) (r:List Sm),M1 s→M2 r→M2 (s::r):=by
  intro s r i1 i2 d V tabs hV hd hw hk x hx
  simp only[cB] at hw
  simp only[bz] at hk
  have hV2:∀ x∈V++dH s,lD x:=by
   intro x hx
   rcases List.mem_append.1 hx with hx | hx
   ·exact hV x hx
   ·cases s<;>simp only[dH,List.mem_singleton,List.not_mem_nil] at hx
    subst hx
    have:=hw.1
    simp only[dC] at this
    obtain⟨⟨j,hj,rfl⟩,_⟩:=this
    exact hvn j hj
  rcases List.mem_cons.1 hx with rfl | hx
  ·exact i1 d V tabs hV hd hw.1 (by omega)
  ·exact i2 d _ tabs hV2 hd hw.2 (by omega) x hx
 exact⟨fun s=>Sm.rec (motive_1:=M1) (motive_2:=M2) A1 A2 A3 A4 A5 A6 A7 A0 A8 s,fun l=>Sm.rec_1 (motive_1:=M1) (motive_2:=M2) A1 A2 A3 A4 A5 A6 A7 A0 A8 l⟩
end
section
variable {p:Pg}(h:jJ p)
include h
theorem _root_.Go.bg.jJ.Al (f:Fu)(hf:f∈p.fs):bz f.body≤1152:=by
 have hw:=h.wt
 have:bz f.body∈p.fs.map fun f=>bz f.body:=List.mem_map_of_mem (f:=fun f=>bz f.body) hf
 have h2:∀ {l:List Nat} {a:Nat},a∈l→a≤l.sum:=fun {l a} ha=>by
  induction l with
  | nil=>simp at ha
  | cons b r ih=>
   rcases List.mem_cons.1 ha with rfl | ha
   ·simp
   ·have:=ih ha
    simp only[List.sum_cons]
    omega
 have:=h2 this
 omega
theorem _root_.Go.bg.jJ.Fv:(∀ x∈p.fs.map fun f=>(f.name,f.params),lD x.1)∧(∀ x∈p.fs.map fun f=>(f.name,f.params),x.2.length≤2):=by
 refine⟨fun x hx=>?_,fun x hx=>?_⟩
 ·rw[List.mem_map] at hx
  obtain⟨f,hf,rfl⟩:=hx
  exact h.fR f hf
 ·rw[List.mem_map] at hx
  obtain⟨f,hf,rfl⟩:=hx
  exact h.pl f hf
theorem _root_.Go.bg.jJ.okb (f:Fu)(hf:f∈p.fs):ah Tryz.prog 90 [.ax (bt f.body) f.body.length,I (0:Nat)] (.bool true):=by
 have hk:=h.Al f hf
 have hl:=jn f.body
 exact kZ (by omega) (by omega) ((xO h.mR h.Fv.1 h.Fv.2 (h.pR f hf)).2 f.body 2 _ 0 (h.vR f hf) (by omega) (h.bd f hf) (by omega))
theorem _root_.Go.bg.jJ.lnb (f:Fu)(hf:f∈p.fs):ah Tryz.prog 129 [.ax (bt f.body) f.body.length,.str ⟨#[9]⟩] (.str (ic ⟨#[9]⟩ f.body)):=by
 have hk:=h.Al f hf
 have hl:=jn f.body
 have ht:fV 2 ⟨#[9]⟩:=⟨by decide,by decide⟩
 have hs:=((bR.lines (ms:=p.ms) (fs:=p.fs.map fun f=>(f.name,f.params)) (ps:=f.params) (fun m hm=>(h.mR m hm).1) (fun x hx=>(h.Fv.1 x hx).1) (fun q hq=>(h.pR f hf q hq).1)).2 f.body 2 _ ⟨#[9]⟩ (fun x hx=>(h.vR f hf x hx).1) ht (h.bd f hf)).1
 rw[kq] at hs
 exact sD f.body ⟨#[9]⟩ (by decide) (by omega) (by omega) ((B7 h.mR h.Fv.1 h.Fv.2 (h.pR f hf)).2 f.body 2 _ _ (h.vR f hf) ht (h.bd f hf) (by omega))
end
end Go.Proofs.YtmnglemlimfpbaaGreat
