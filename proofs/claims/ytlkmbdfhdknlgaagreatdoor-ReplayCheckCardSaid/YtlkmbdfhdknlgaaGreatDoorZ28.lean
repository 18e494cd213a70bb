/- noExpr, noRef, okRef, okStmts. -/
import Derived.Test.YtlkmbdfhdknlgaaGreatDoorZ27
namespace Go.Proofs.YtlkmbdfhdknlgaaGreatDoor
open Go.Can Go.aT
theorem ph:ae Tryz.prog 105 [.agg (bC .zero)] (.bool true):=by
 refine ae.aD af Tryz.func105 rfl lz (by simp[Tryz.ntmps105]) rfl fun C hC xJ=>?_;rw[Tryz.ntmps105] at hC;apply ah;simp[hC,bC,eS];apply ah;simp[hC,gx];apply T.ret;apply aa.here;simp[Tryz.results105]
theorem fQ:ae Tryz.prog 107 [.agg jy] (.bool true):=by
 refine ae.aD af Tryz.func107 rfl lz (by simp[Tryz.ntmps107]) rfl fun C hC xJ=>?_;rw[Tryz.ntmps107] at hC;apply ah;simp[hC,jy,eS];apply ah;simp[hC,gx];apply T.ret;apply aa.here;simp[Tryz.results107]
def RfR (r:Rf):Prop:=kO r.name∧∀ e,r.index=some e→ae Tryz.prog 104 [.agg (bC e)] (.bool true)
theorem rq (r:Rf)(h:RfR r):ae Tryz.prog 106 [.agg (jw r)] (.bool true):=by
 obtain⟨nm,ix⟩:=r;obtain⟨h1,h2⟩:=h;have hn:=im nm h1.1 h1.2;refine ae.aD af Tryz.func106 rfl lz (by simp[Tryz.ntmps106]) rfl fun C hC xJ=>?_;rw[Tryz.ntmps106] at hC
 cases ix with
 | none=>
  apply ah;simp[hC,jw,mK];apply ah;simp[hC];refine dk zK (hn) ?_;simp[hC];apply T.ret;apply aa.here;simp[Tryz.results106]
 | some e=>
  have hv:=h2 e rfl;apply ah;simp[hC,jw,mK];apply ah;simp[hC];refine dk zK (hn) ?_;simp[hC];refine TL.bG yI rfl rfl rfl rfl (bm.of rfl QR (hv)) (TL.go' af ?_);simp[hC];apply T.ret;apply aa.here;simp[Tryz.results106]
def okA (a:Ar):Prop:=match a with
 | .ru r=>RfR r
 | .exp e=>ae Tryz.prog 104 [.agg (bC e)] (.bool true)
def J90 (l:List Sm)(deep:Nat)(n:Nat)(s:St):Prop:=∃ i:Nat,n=l.length-i∧i≤l.length∧s=⟨[(5,I i),(0,.au (bh l) l.length),(1,I deep)],[],0⟩
set_option maxHeartbeats 8000000 in
theorem uV (l:List Sm)(deep:Nat)(hd:deep<20)(hl:l.length≤100000)
  (h:∀ s∈l,(match s with
   | .fN nm e=>kO nm∧ae Tryz.prog 104 [.agg (bC e)] (.bool true)
   | .gz nm e=>kO nm∧ae Tryz.prog 104 [.agg (bC e)] (.bool true)
   | .dm _ nm al=>kO nm∧al.length≤1000∧∀ a∈al,okA a
   | .cR _ r=>RfR r
   | .jS e th el=>ae Tryz.prog 104 [.agg (bC e)] (.bool true)∧ae Tryz.prog 82 [.au (bh th) th.length,I ((deep+1:Nat))] (.bool true)∧ae Tryz.prog 82 [.au (bh el) el.length,I ((deep+1:Nat))] (.bool true)
   | .cb e th=>ae Tryz.prog 104 [.agg (bC e)] (.bool true)∧ae Tryz.prog 82 [.au (bh th) th.length,I ((deep+1:Nat))] (.bool true)
   | .ia=>True)):ae Tryz.prog 82 [.au (bh l) l.length,I deep] (.bool true):=by
 have K8:=fun (i:Nat) (x:Sm) (h:l[i]? = some x)=>az (f:=gk) (n:=11) jh (m:=l) h;rw[← lS] at K8;have WN:¬ (24:Int)≤deep:=by omega
 have wd:=cm ((deep:Int)+1) yA yA;refine ae.aD af Tryz.func82 rfl lz (by simp[Tryz.ntmps82]) rfl fun C hC xJ=>?_;rw[Tryz.ntmps82] at hC;apply ah;simp[hC];apply aL;simp[hC,WN];refine aU ?_;simp;apply T.skip;simp;apply aL;simp[hC];apply T.block;refine T.aI (J90 l deep) (n:=l.length) ?_ ?_
 ·refine aa.le (Le.env [5,0,1]) (aa.here ⟨0,by omega,by omega,?_⟩);simp
 ·rintro n s ⟨i,rfl,hi,rfl⟩;by_cases nr:i<l.length
  ·obtain⟨x,hx⟩:∃ x,l[i]? = some x:=⟨l[i],List.getElem?_eq_getElem nr⟩;have oy:=K8 i x hx;have hh:=h x (List.mem_of_getElem? hx);have wi:=cm ((i:Int)+1) yA yA;apply aL;simp[hC,nr];refine gF ?_;simp;apply fw
   cases x with
   | fN nm e=>
    obtain⟨h1,h2⟩:=hh;have hn:=im nm h1.1 h1.2;simp only[gk,bJ e,jy,List.cons_append,List.nil_append] at oy;rw[bJ e] at h2;apply ah;simp[hC,nr,oy];apply ah;simp[hC];apply ah;simp[hC];apply ah;simp[hC];apply ah;simp[hC];refine T.le (Le.trim [11,10,9,8,7,6,5,0,1] [0] 1 j5 yA) ?_;simp;apply aL;simp[hC];refine TL.bG yI rfl rfl rfl rfl (bm.of rfl zK (hn)) (TL.go' af ?_);simp[hC];refine TL.bG yI rfl rfl rfl rfl (bm.of rfl zK (h2)) (TL.go' af ?_);simp[hC];refine TL.bG yI rfl rfl rfl rfl (bm.of rfl zK (fQ)) (TL.go' af ?_);simp[hC];refine aU ?_;simp;apply T.skip;simp;refine T.cut (fun s=>s=⟨[(7,I 1),(6,.ai 0 0),(5,I i),(0,.au (bh l) l.length),(1,I deep)],[(0,⟨170,0,[I 1,.str nm,I e.op,I e.n,.str e.name,.au (e.args.flatMap bC) e.args.length,.str eS,.au [] 0,.au [] 0,.au [] 0,.au [] 0]⟩)],1⟩) ?_ ?_
    ·apply ah;simp[hC];apply T.block;refine T.aI (fun m s=>s=⟨[(12,.int .i64 0),(7,I 1),(6,.ai 0 0),(5,I i),(0,.au (bh l) l.length),(1,I deep)],[(0,⟨170,0,[I 1,.str nm,I e.op,I e.n,.str e.name,.au (e.args.flatMap bC) e.args.length,.str eS,.au [] 0,.au [] 0,.au [] 0,.au [] 0]⟩)],1⟩) (n:=0) ?_ ?_
     ·refine aa.trim [12,7,6,5,0,1] [0] 1 j5 yA ?_;simp
     ·rintro m s rfl;apply aL;simp[hC];refine aU ?_;simp;apply T.exit;simp;refine aa.trim [7,6,5,0,1] [0] 1 j5 yA ?_;simp
    rintro s rfl;apply ah;simp[hC];apply ah;simp[hC];refine aU ?_;simp;apply T.skip;simp;apply a8;simp[hC,wi];refine⟨l.length-(i+1),by omega,?_⟩;refine aa.trim [5,0,1] [] 0 j5 yA ⟨i+1,rfl,by omega,?_⟩;simp
   | gz nm e=>
    obtain⟨h1,h2⟩:=hh;have hn:=im nm h1.1 h1.2;simp only[gk,bJ e,jy,List.cons_append,List.nil_append] at oy;rw[bJ e] at h2;apply ah;simp[hC,nr,oy];apply ah;simp[hC];apply ah;simp[hC];apply ah;simp[hC];apply ah;simp[hC];refine T.le (Le.trim [11,10,9,8,7,6,5,0,1] [0] 1 j5 yA) ?_;simp;apply aL;simp[hC];refine TL.bG yI rfl rfl rfl rfl (bm.of rfl zK (hn)) (TL.go' af ?_);simp[hC];refine TL.bG yI rfl rfl rfl rfl (bm.of rfl zK (h2)) (TL.go' af ?_);simp[hC];refine TL.bG yI rfl rfl rfl rfl (bm.of rfl zK (fQ)) (TL.go' af ?_);simp[hC];refine aU ?_;simp;apply T.skip;simp;refine T.cut (fun s=>s=⟨[(7,I 2),(6,.ai 0 0),(5,I i),(0,.au (bh l) l.length),(1,I deep)],[(0,⟨170,0,[I 2,.str nm,I e.op,I e.n,.str e.name,.au (e.args.flatMap bC) e.args.length,.str eS,.au [] 0,.au [] 0,.au [] 0,.au [] 0]⟩)],1⟩) ?_ ?_
    ·apply ah;simp[hC];apply T.block;refine T.aI (fun m s=>s=⟨[(12,.int .i64 0),(7,I 2),(6,.ai 0 0),(5,I i),(0,.au (bh l) l.length),(1,I deep)],[(0,⟨170,0,[I 2,.str nm,I e.op,I e.n,.str e.name,.au (e.args.flatMap bC) e.args.length,.str eS,.au [] 0,.au [] 0,.au [] 0,.au [] 0]⟩)],1⟩) (n:=0) ?_ ?_
     ·refine aa.trim [12,7,6,5,0,1] [0] 1 j5 yA ?_;simp
     ·rintro m s rfl;apply aL;simp[hC];refine aU ?_;simp;apply T.exit;simp;refine aa.trim [7,6,5,0,1] [0] 1 j5 yA ?_;simp
    rintro s rfl;apply ah;simp[hC];apply ah;simp[hC];refine aU ?_;simp;apply T.skip;simp;apply a8;simp[hC,wi];refine⟨l.length-(i+1),by omega,?_⟩;refine aa.trim [5,0,1] [] 0 j5 yA ⟨i+1,rfl,by omega,?_⟩;simp
   | ia=>
    have KD:=ph;simp only[gk,bC,jy,List.cons_append,List.nil_append] at oy KD;apply ah;simp[hC,nr,oy];apply ah;simp[hC];apply ah;simp[hC];apply ah;simp[hC];apply ah;simp[hC];refine T.le (Le.trim [11,10,9,8,7,6,5,0,1] [0] 1 j5 yA) ?_;simp;apply aL;simp[hC,iF,eS];refine TL.bG yI rfl rfl rfl rfl (bm.of rfl zK (KD)) (TL.go' af ?_);simp[hC];refine TL.bG yI rfl rfl rfl rfl (bm.of rfl zK (fQ)) (TL.go' af ?_);simp[hC];refine aU ?_;simp;apply T.skip;simp;refine T.cut (fun s=>s=⟨[(7,I 9),(6,.ai 0 0),(5,I i),(0,.au (bh l) l.length),(1,I deep)],[(0,⟨170,0,[I 9,.str ⟨#[]⟩,I 0,I 0,.str ⟨#[]⟩,.au [] 0,.str ⟨#[]⟩,.au [] 0,.au [] 0,.au [] 0,.au [] 0]⟩)],1⟩) ?_ ?_
    ·apply ah;simp[hC];apply T.block;refine T.aI (fun m s=>s=⟨[(12,.int .i64 0),(7,I 9),(6,.ai 0 0),(5,I i),(0,.au (bh l) l.length),(1,I deep)],[(0,⟨170,0,[I 9,.str ⟨#[]⟩,I 0,I 0,.str ⟨#[]⟩,.au [] 0,.str ⟨#[]⟩,.au [] 0,.au [] 0,.au [] 0,.au [] 0]⟩)],1⟩) (n:=0) ?_ ?_
     ·refine aa.trim [12,7,6,5,0,1] [0] 1 j5 yA ?_;simp
     ·rintro m s rfl;apply aL;simp[hC];refine aU ?_;simp;apply T.exit;simp;refine aa.trim [7,6,5,0,1] [0] 1 j5 yA ?_;simp
    rintro s rfl;apply ah;simp[hC];apply ah;simp[hC];refine aU ?_;simp;apply T.skip;simp;apply a8;simp[hC,wi];refine⟨l.length-(i+1),by omega,?_⟩;refine aa.trim [5,0,1] [] 0 j5 yA ⟨i+1,rfl,by omega,?_⟩;simp
   | cR u r=>
    have KD:=ph;have Kb:=rq r hh;obtain⟨rn,ri⟩:=r;obtain⟨q1,q2,hq⟩:∃ cs n,mK ri=.au cs n:=by cases ri<;>exact⟨_,_,rfl⟩
    simp only[jw,hq] at Kb;simp only[gk,bC,jw,hq,List.cons_append,List.nil_append] at oy KD
    cases u with
    | false=>
     have e5:(if false=true then (6:Int) else 5)=5:=rfl;rw[e5] at oy;apply ah;simp[hC,nr,oy];apply ah;simp[hC];apply ah;simp[hC];apply ah;simp[hC];apply ah;simp[hC];refine T.le (Le.trim [11,10,9,8,7,6,5,0,1] [0] 1 j5 yA) ?_;simp;apply aL;simp[hC,iF,eS];refine TL.bG yI rfl rfl rfl rfl (bm.of rfl zK (KD)) (TL.go' af ?_);simp[hC];refine TL.bG yI rfl rfl rfl rfl (bm.of rfl zK (Kb)) (TL.go' af ?_);simp[hC];refine aU ?_;simp;apply T.skip;simp;refine T.cut (fun s=>s=⟨[(7,I 5),(6,.ai 0 0),(5,I i),(0,.au (bh l) l.length),(1,I deep)],[(0,⟨170,0,[I 5,.str ⟨#[]⟩,I 0,I 0,.str ⟨#[]⟩,.au [] 0,.str rn,.au q1 q2,.au [] 0,.au [] 0,.au [] 0]⟩)],1⟩) ?_ ?_
     ·apply ah;simp[hC];apply T.block;refine T.aI (fun m s=>s=⟨[(12,.int .i64 0),(7,I 5),(6,.ai 0 0),(5,I i),(0,.au (bh l) l.length),(1,I deep)],[(0,⟨170,0,[I 5,.str ⟨#[]⟩,I 0,I 0,.str ⟨#[]⟩,.au [] 0,.str rn,.au q1 q2,.au [] 0,.au [] 0,.au [] 0]⟩)],1⟩) (n:=0) ?_ ?_
      ·refine aa.trim [12,7,6,5,0,1] [0] 1 j5 yA ?_;simp
      ·rintro m s rfl;apply aL;simp[hC];refine aU ?_;simp;apply T.exit;simp;refine aa.trim [7,6,5,0,1] [0] 1 j5 yA ?_;simp
     rintro s rfl;apply ah;simp[hC];apply ah;simp[hC];refine aU ?_;simp;apply T.skip;simp;apply a8;simp[hC,wi];refine⟨l.length-(i+1),by omega,?_⟩;refine aa.trim [5,0,1] [] 0 j5 yA ⟨i+1,rfl,by omega,?_⟩;simp
    | true=>
     have e5:(if true=true then (6:Int) else 5)=6:=rfl;rw[e5] at oy;apply ah;simp[hC,nr,oy];apply ah;simp[hC];apply ah;simp[hC];apply ah;simp[hC];apply ah;simp[hC];refine T.le (Le.trim [11,10,9,8,7,6,5,0,1] [0] 1 j5 yA) ?_;simp;apply aL;simp[hC,iF,eS];refine TL.bG yI rfl rfl rfl rfl (bm.of rfl zK (KD)) (TL.go' af ?_);simp[hC];refine TL.bG yI rfl rfl rfl rfl (bm.of rfl zK (Kb)) (TL.go' af ?_);simp[hC];refine aU ?_;simp;apply T.skip;simp;refine T.cut (fun s=>s=⟨[(7,I 6),(6,.ai 0 0),(5,I i),(0,.au (bh l) l.length),(1,I deep)],[(0,⟨170,0,[I 6,.str ⟨#[]⟩,I 0,I 0,.str ⟨#[]⟩,.au [] 0,.str rn,.au q1 q2,.au [] 0,.au [] 0,.au [] 0]⟩)],1⟩) ?_ ?_
     ·apply ah;simp[hC];apply T.block;refine T.aI (fun m s=>s=⟨[(12,.int .i64 0),(7,I 6),(6,.ai 0 0),(5,I i),(0,.au (bh l) l.length),(1,I deep)],[(0,⟨170,0,[I 6,.str ⟨#[]⟩,I 0,I 0,.str ⟨#[]⟩,.au [] 0,.str rn,.au q1 q2,.au [] 0,.au [] 0,.au [] 0]⟩)],1⟩) (n:=0) ?_ ?_
      ·refine aa.trim [12,7,6,5,0,1] [0] 1 j5 yA ?_;simp
      ·rintro m s rfl;apply aL;simp[hC];refine aU ?_;simp;apply T.exit;simp;refine aa.trim [7,6,5,0,1] [0] 1 j5 yA ?_;simp
     rintro s rfl;apply ah;simp[hC];apply ah;simp[hC];refine aU ?_;simp;apply T.skip;simp;apply a8;simp[hC,wi];refine⟨l.length-(i+1),by omega,?_⟩;refine aa.trim [5,0,1] [] 0 j5 yA ⟨i+1,rfl,by omega,?_⟩;simp
   | jS e th el=>
    obtain⟨h2,h3,h4⟩:=hh;simp only[gk,bJ e,jy,List.cons_append,List.nil_append] at oy;rw[bJ e] at h2;have c1:(((deep+1:Nat)):Int)=deep+1:=by omega
    rw[c1] at h3 h4;apply ah;simp[hC,nr,oy];apply ah;simp[hC];apply ah;simp[hC];apply ah;simp[hC];apply ah;simp[hC];refine T.le (Le.trim [11,10,9,8,7,6,5,0,1] [0] 1 j5 yA) ?_;simp;apply aL;simp[hC,iF,eS];refine TL.bG yI rfl rfl rfl rfl (bm.of rfl zK (h2)) (TL.go' af ?_);simp[hC];refine TL.bG yI rfl rfl rfl rfl (bm.of rfl zK (fQ)) (TL.go' af ?_);simp[hC];refine aU ?_;simp;apply T.skip;simp;refine T.cut (fun s=>s=⟨[(7,I 7),(6,.ai 0 0),(5,I i),(0,.au (bh l) l.length),(1,I deep)],[(0,⟨170,0,[I 7,.str ⟨#[]⟩,I e.op,I e.n,.str e.name,.au (e.args.flatMap bC) e.args.length,.str ⟨#[]⟩,.au [] 0,.au [] 0,.au (bh th) th.length,.au (bh el) el.length]⟩)],1⟩) ?_ ?_
    ·apply ah;simp[hC];apply T.block;refine T.aI (fun m s=>s=⟨[(12,.int .i64 0),(7,I 7),(6,.ai 0 0),(5,I i),(0,.au (bh l) l.length),(1,I deep)],[(0,⟨170,0,[I 7,.str ⟨#[]⟩,I e.op,I e.n,.str e.name,.au (e.args.flatMap bC) e.args.length,.str ⟨#[]⟩,.au [] 0,.au [] 0,.au (bh th) th.length,.au (bh el) el.length]⟩)],1⟩) (n:=0) ?_ ?_
     ·refine aa.trim [12,7,6,5,0,1] [0] 1 j5 yA ?_;simp
     ·rintro m s rfl;apply aL;simp[hC];refine aU ?_;simp;apply T.exit;simp;refine aa.trim [7,6,5,0,1] [0] 1 j5 yA ?_;simp
    rintro s rfl;apply ah;simp[hC];by_cases Ki:0<el.length
    ·apply ah;simp[hC,wd];refine TL.bG yI rfl rfl rfl rfl (bm.of rfl zK (h3)) (TL.go' af ?_);simp[hC,Ki,wd];refine TL.bG yI rfl rfl rfl rfl (bm.of rfl zK (h4)) (TL.go' af ?_);simp[hC];refine aU ?_;simp;apply T.skip;simp;apply a8;simp[hC,wi];refine⟨l.length-(i+1),by omega,?_⟩;refine aa.trim [5,0,1] [] 0 j5 yA ⟨i+1,rfl,by omega,?_⟩;simp
    ·apply ah;simp[hC,wd];refine TL.bG yI rfl rfl rfl rfl (bm.of rfl zK (h3)) (TL.go' af ?_);simp[hC,Ki];refine aU ?_;simp;apply T.skip;simp;apply a8;simp[hC,wi];refine⟨l.length-(i+1),by omega,?_⟩;refine aa.trim [5,0,1] [] 0 j5 yA ⟨i+1,rfl,by omega,?_⟩;simp
   | cb e th=>
    obtain⟨h2,h3⟩:=hh;simp only[gk,bJ e,jy,List.cons_append,List.nil_append] at oy;rw[bJ e] at h2;have c1:(((deep+1:Nat)):Int)=deep+1:=by omega
    rw[c1] at h3;apply ah;simp[hC,nr,oy];apply ah;simp[hC];apply ah;simp[hC];apply ah;simp[hC];apply ah;simp[hC];refine T.le (Le.trim [11,10,9,8,7,6,5,0,1] [0] 1 j5 yA) ?_;simp;apply aL;simp[hC,iF,eS];refine TL.bG yI rfl rfl rfl rfl (bm.of rfl zK (h2)) (TL.go' af ?_);simp[hC];refine TL.bG yI rfl rfl rfl rfl (bm.of rfl zK (fQ)) (TL.go' af ?_);simp[hC];refine aU ?_;simp;apply T.skip;simp;refine T.cut (fun s=>s=⟨[(7,I 8),(6,.ai 0 0),(5,I i),(0,.au (bh l) l.length),(1,I deep)],[(0,⟨170,0,[I 8,.str ⟨#[]⟩,I e.op,I e.n,.str e.name,.au (e.args.flatMap bC) e.args.length,.str ⟨#[]⟩,.au [] 0,.au [] 0,.au (bh th) th.length,.au [] 0]⟩)],1⟩) ?_ ?_
    ·apply ah;simp[hC];apply T.block;refine T.aI (fun m s=>s=⟨[(12,.int .i64 0),(7,I 8),(6,.ai 0 0),(5,I i),(0,.au (bh l) l.length),(1,I deep)],[(0,⟨170,0,[I 8,.str ⟨#[]⟩,I e.op,I e.n,.str e.name,.au (e.args.flatMap bC) e.args.length,.str ⟨#[]⟩,.au [] 0,.au [] 0,.au (bh th) th.length,.au [] 0]⟩)],1⟩) (n:=0) ?_ ?_
     ·refine aa.trim [12,7,6,5,0,1] [0] 1 j5 yA ?_;simp
     ·rintro m s rfl;apply aL;simp[hC];refine aU ?_;simp;apply T.exit;simp;refine aa.trim [7,6,5,0,1] [0] 1 j5 yA ?_;simp
    rintro s rfl;apply ah;simp[hC];apply ah;simp[hC,wd];refine TL.bG yI rfl rfl rfl rfl (bm.of rfl zK (h3)) (TL.go' af ?_);simp[hC];refine aU ?_;simp;apply T.skip;simp;apply a8;simp[hC,wi];refine⟨l.length-(i+1),by omega,?_⟩;refine aa.trim [5,0,1] [] 0 j5 yA ⟨i+1,rfl,by omega,?_⟩;simp
   | dm g nm al=>
    obtain⟨h1,h2,h3⟩:=hh;have hn:=im nm h1.1 h1.2;have KD:=ph;simp only[gk,bC,jy,List.cons_append,List.nil_append] at oy KD;have Qt:=fun (k:Nat) (a:Ar) (h:al[k]? = some a)=>az (f:=mC) (n:=7) qC (m:=al) h;have QN:=fun (k:Nat) (a:Ar) (h:al[k]? = some a)=>h3 a (List.mem_of_getElem? h);clear h3
    cases g with
    | false=>
     have e5:(if false=true then (4:Int) else 3)=3:=rfl;rw[e5] at oy;apply ah;simp[hC,nr,oy];apply ah;simp[hC];apply ah;simp[hC];apply ah;simp[hC];apply ah;simp[hC];refine T.le (Le.trim [11,10,9,8,7,6,5,0,1] [0] 1 j5 yA) ?_;simp;apply aL;simp[hC,eS];refine TL.bG yI rfl rfl rfl rfl (bm.of rfl zK (hn)) (TL.go' af ?_);simp[hC];refine TL.bG yI rfl rfl rfl rfl (bm.of rfl zK (KD)) (TL.go' af ?_);simp[hC];refine TL.bG yI rfl rfl rfl rfl (bm.of rfl zK (fQ)) (TL.go' af ?_);simp[hC];refine aU ?_;simp;apply T.skip;simp;refine T.cut (fun s=>s=⟨[(7,I 3),(6,.ai 0 0),(5,I i),(0,.au (bh l) l.length),(1,I deep)],[(0,⟨170,0,[I 3,.str nm,I 0,I 0,.str ⟨#[]⟩,.au [] 0,.str ⟨#[]⟩,.au [] 0,.au (al.flatMap mC) al.length,.au [] 0,.au [] 0]⟩)],1⟩) ?_ ?_
     ·apply ah;simp[hC];apply T.block;refine T.aI (fun m s=>∃ k:Nat,m=al.length-k∧k≤al.length∧s=⟨[(12,I k),(7,I 3),(6,.ai 0 0),(5,I i),(0,.au (bh l) l.length),(1,I deep)],[(0,⟨170,0,[I 3,.str nm,I 0,I 0,.str ⟨#[]⟩,.au [] 0,.str ⟨#[]⟩,.au [] 0,.au (al.flatMap mC) al.length,.au [] 0,.au [] 0]⟩)],1⟩) (n:=al.length) ?_ ?_
      ·refine aa.trim [12,7,6,5,0,1] [0] 1 j5 yA ⟨0,by omega,by omega,?_⟩;simp
      ·rintro m s ⟨k,rfl,hk,rfl⟩;by_cases Ke:k<al.length
       ·obtain⟨a,Tx⟩:∃ a,al[k]? = some a:=⟨al[k],List.getElem?_eq_getElem Ke⟩;have Lj:=Qt k a Tx;have Ln:=QN k a Tx;have wk:=cm ((k:Int)+1) yA yA;apply aL;simp[hC,Ke];refine gF ?_;simp;apply fw
        cases a with
        | ru r=>
         have Kb:=rq r Ln;obtain⟨rn,ri⟩:=r;obtain⟨q1,q2,hq⟩:∃ cs n,mK ri=.au cs n:=by cases ri<;>exact⟨_,_,rfl⟩
         simp only[jw,hq] at Kb;simp only[mC,bC,jw,hq,List.cons_append,List.nil_append] at Lj;apply ah;simp[hC,Ke,Lj];apply ah;simp[hC];refine TL.bG yI rfl rfl rfl rfl (bm.of rfl zK (Kb)) (TL.go' af ?_);simp[hC];refine TL.bG yI rfl rfl rfl rfl (bm.of rfl zK (KD)) (TL.go' af ?_);simp[hC];refine aU ?_;simp;apply T.skip;simp;apply a8;simp[hC,wk];refine⟨al.length-(k+1),by omega,?_⟩;refine aa.trim [12,7,6,5,0,1] [0] 1 j5 yA ⟨k+1,rfl,by omega,?_⟩;simp
        | exp e=>
         simp only[okA,bJ e] at Ln;simp only[mC,bJ e,jy,List.cons_append,List.nil_append] at Lj;apply ah;simp[hC,Ke,Lj];apply ah;simp[hC];refine TL.bG yI rfl rfl rfl rfl (bm.of rfl zK (fQ)) (TL.go' af ?_);simp[hC];refine TL.bG yI rfl rfl rfl rfl (bm.of rfl zK (Ln)) (TL.go' af ?_);simp[hC];refine aU ?_;simp;apply T.skip;simp;apply a8;simp[hC,wk];refine⟨al.length-(k+1),by omega,?_⟩;refine aa.trim [12,7,6,5,0,1] [0] 1 j5 yA ⟨k+1,rfl,by omega,?_⟩;simp
       ·apply aL;simp[hC,Ke];refine aU ?_;simp;apply T.exit;simp;refine aa.trim [7,6,5,0,1] [0] 1 j5 yA ?_;simp
     rintro s rfl;apply ah;simp[hC];apply ah;simp[hC];refine aU ?_;simp;apply T.skip;simp;apply a8;simp[hC,wi];refine⟨l.length-(i+1),by omega,?_⟩;refine aa.trim [5,0,1] [] 0 j5 yA ⟨i+1,rfl,by omega,?_⟩;simp
    | true=>
     have e5:(if true=true then (4:Int) else 3)=4:=rfl;rw[e5] at oy;apply ah;simp[hC,nr,oy];apply ah;simp[hC];apply ah;simp[hC];apply ah;simp[hC];apply ah;simp[hC];refine T.le (Le.trim [11,10,9,8,7,6,5,0,1] [0] 1 j5 yA) ?_;simp;apply aL;simp[hC,eS];refine TL.bG yI rfl rfl rfl rfl (bm.of rfl zK (hn)) (TL.go' af ?_);simp[hC];refine TL.bG yI rfl rfl rfl rfl (bm.of rfl zK (KD)) (TL.go' af ?_);simp[hC];refine TL.bG yI rfl rfl rfl rfl (bm.of rfl zK (fQ)) (TL.go' af ?_);simp[hC];refine aU ?_;simp;apply T.skip;simp;refine T.cut (fun s=>s=⟨[(7,I 4),(6,.ai 0 0),(5,I i),(0,.au (bh l) l.length),(1,I deep)],[(0,⟨170,0,[I 4,.str nm,I 0,I 0,.str ⟨#[]⟩,.au [] 0,.str ⟨#[]⟩,.au [] 0,.au (al.flatMap mC) al.length,.au [] 0,.au [] 0]⟩)],1⟩) ?_ ?_
     ·apply ah;simp[hC];apply T.block;refine T.aI (fun m s=>∃ k:Nat,m=al.length-k∧k≤al.length∧s=⟨[(12,I k),(7,I 4),(6,.ai 0 0),(5,I i),(0,.au (bh l) l.length),(1,I deep)],[(0,⟨170,0,[I 4,.str nm,I 0,I 0,.str ⟨#[]⟩,.au [] 0,.str ⟨#[]⟩,.au [] 0,.au (al.flatMap mC) al.length,.au [] 0,.au [] 0]⟩)],1⟩) (n:=al.length) ?_ ?_
      ·refine aa.trim [12,7,6,5,0,1] [0] 1 j5 yA ⟨0,by omega,by omega,?_⟩;simp
      ·rintro m s ⟨k,rfl,hk,rfl⟩;by_cases Ke:k<al.length
       ·obtain⟨a,Tx⟩:∃ a,al[k]? = some a:=⟨al[k],List.getElem?_eq_getElem Ke⟩;have Lj:=Qt k a Tx;have Ln:=QN k a Tx;have wk:=cm ((k:Int)+1) yA yA;apply aL;simp[hC,Ke];refine gF ?_;simp;apply fw
        cases a with
        | ru r=>
         have Kb:=rq r Ln;obtain⟨rn,ri⟩:=r;obtain⟨q1,q2,hq⟩:∃ cs n,mK ri=.au cs n:=by cases ri<;>exact⟨_,_,rfl⟩
         simp only[jw,hq] at Kb;simp only[mC,bC,jw,hq,List.cons_append,List.nil_append] at Lj;apply ah;simp[hC,Ke,Lj];apply ah;simp[hC];refine TL.bG yI rfl rfl rfl rfl (bm.of rfl zK (Kb)) (TL.go' af ?_);simp[hC];refine TL.bG yI rfl rfl rfl rfl (bm.of rfl zK (KD)) (TL.go' af ?_);simp[hC];refine aU ?_;simp;apply T.skip;simp;apply a8;simp[hC,wk];refine⟨al.length-(k+1),by omega,?_⟩;refine aa.trim [12,7,6,5,0,1] [0] 1 j5 yA ⟨k+1,rfl,by omega,?_⟩;simp
        | exp e=>
         simp only[okA,bJ e] at Ln;simp only[mC,bJ e,jy,List.cons_append,List.nil_append] at Lj;apply ah;simp[hC,Ke,Lj];apply ah;simp[hC];refine TL.bG yI rfl rfl rfl rfl (bm.of rfl zK (fQ)) (TL.go' af ?_);simp[hC];refine TL.bG yI rfl rfl rfl rfl (bm.of rfl zK (Ln)) (TL.go' af ?_);simp[hC];refine aU ?_;simp;apply T.skip;simp;apply a8;simp[hC,wk];refine⟨al.length-(k+1),by omega,?_⟩;refine aa.trim [12,7,6,5,0,1] [0] 1 j5 yA ⟨k+1,rfl,by omega,?_⟩;simp
       ·apply aL;simp[hC,Ke];refine aU ?_;simp;apply T.exit;simp;refine aa.trim [7,6,5,0,1] [0] 1 j5 yA ?_;simp
     rintro s rfl;apply ah;simp[hC];apply ah;simp[hC];refine aU ?_;simp;apply T.skip;simp;apply a8;simp[hC,wi];refine⟨l.length-(i+1),by omega,?_⟩;refine aa.trim [5,0,1] [] 0 j5 yA ⟨i+1,rfl,by omega,?_⟩;simp
  ·apply aL;simp[hC,nr];refine aU ?_;simp;apply T.exit;simp;apply ah;simp[hC];apply T.ret;apply aa.here;simp[Tryz.results82]
end Go.Proofs.YtlkmbdfhdknlgaaGreatDoor
