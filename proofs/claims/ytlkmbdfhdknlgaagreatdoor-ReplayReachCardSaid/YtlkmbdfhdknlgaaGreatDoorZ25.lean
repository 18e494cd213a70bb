/- noExpr, noRef, okRef, okStmts. -/
import Derived.Test.YtlkmbdfhdknlgaaGreatDoorZ24
namespace Go.Proofs.YtlkmbdfhdknlgaaGreatDoor
open Go.Can Go.aN
theorem rW:ae Tryz.prog 105 [.agg (bM .zero)] (.bool true):=by
 refine ae.aH af Tryz.func105 rfl N4 (by simp[Tryz.ntmps105]) rfl fun C hC N8=>?_;rw[Tryz.ntmps105] at hC;apply ai;simp[hC,bM,eS];apply ai;simp[hC,iv];apply T.ret;apply aa.here;simp[Tryz.results105]
theorem gS:ae Tryz.prog 107 [.agg kQ] (.bool true):=by
 refine ae.aH af Tryz.func107 rfl N4 (by simp[Tryz.ntmps107]) rfl fun C hC N8=>?_;rw[Tryz.ntmps107] at hC;apply ai;simp[hC,kQ,eS];apply ai;simp[hC,iv];apply T.ret;apply aa.here;simp[Tryz.results107]
def RfR (r:Rf):Prop:=mC r.name∧∀ e,r.index=some e→ae Tryz.prog 104 [.agg (bM e)] (.bool true)
theorem uU (r:Rf)(h:RfR r):ae Tryz.prog 106 [.agg (kO r)] (.bool true):=by
 obtain⟨nm,ix⟩:=r;obtain⟨h1,h2⟩:=h;have hn:=js nm h1.1 h1.2;refine ae.aH af Tryz.func106 rfl N4 (by simp[Tryz.ntmps106]) rfl fun C hC N8=>?_;rw[Tryz.ntmps106] at hC
 cases ix with
 | none=>
  apply ai;simp[hC,kO,oZ];apply ai;simp[hC];refine dc Od (hn) ?_;simp[hC];apply T.ret;apply aa.here;simp[Tryz.results106]
 | some e=>
  have hv:=h2 e rfl;apply ai;simp[hC,kO,oZ];apply ai;simp[hC];refine dc Od (hn) ?_;simp[hC];refine TL.bY Oc rfl rfl rfl rfl (bH.of rfl Wc (hv)) (TL.go' af ?_);simp[hC];apply T.ret;apply aa.here;simp[Tryz.results106]
def okA (a:Ar):Prop:=match a with
 | .uX r=>RfR r
 | .exp e=>ae Tryz.prog 104 [.agg (bM e)] (.bool true)
def J90 (l:List Sm)(deep:Nat)(n:Nat)(s:St):Prop:=∃ i:Nat,n=l.length-i∧i≤l.length∧s=⟨[(5,I i),(0,.az (bx l) l.length),(1,I deep)],[],0⟩
set_option maxHeartbeats 8000000 in
theorem yr (l:List Sm)(deep:Nat)(hd:deep<20)(hl:l.length≤100000)
  (h:∀ s∈l,(match s with
   | .gP nm e=>mC nm∧ae Tryz.prog 104 [.agg (bM e)] (.bool true)
   | .iy nm e=>mC nm∧ae Tryz.prog 104 [.agg (bM e)] (.bool true)
   | .dU _ nm al=>mC nm∧al.length≤1000∧∀ a∈al,okA a
   | .dx _ r=>RfR r
   | .lu e th el=>ae Tryz.prog 104 [.agg (bM e)] (.bool true)∧ae Tryz.prog 82 [.az (bx th) th.length,I ((deep+1:Nat))] (.bool true)∧ae Tryz.prog 82 [.az (bx el) el.length,I ((deep+1:Nat))] (.bool true)
   | .cE e th=>ae Tryz.prog 104 [.agg (bM e)] (.bool true)∧ae Tryz.prog 82 [.az (bx th) th.length,I ((deep+1:Nat))] (.bool true)
   | .jm=>True)):ae Tryz.prog 82 [.az (bx l) l.length,I deep] (.bool true):=by
 have PC:=fun (i:Nat) (x:Sm) (h:l[i]? = some x)=>aD (f:=ib) (n:=11) kp (m:=l) h;rw[← nY] at PC;have hd24:¬ (24:Int)≤deep:=by omega
 have wd:=cf ((deep:Int)+1) yA yA;refine ae.aH af Tryz.func82 rfl N4 (by simp[Tryz.ntmps82]) rfl fun C hC N8=>?_;rw[Tryz.ntmps82] at hC;apply ai;simp[hC];apply aL;simp[hC,hd24];refine aX ?_;simp;apply T.skip;simp;apply aL;simp[hC];apply T.block;refine T.aI (J90 l deep) (n:=l.length) ?_ ?_
 ·refine aa.le (Le.env [5,0,1]) (aa.here ⟨0,by omega,by omega,?_⟩);simp
 ·rintro n s ⟨i,rfl,hi,rfl⟩;by_cases N6:i<l.length
  ·obtain⟨x,hx⟩:∃ x,l[i]? = some x:=⟨l[i],List.getElem?_eq_getElem N6⟩;have N7:=PC i x hx;have hh:=h x (List.mem_of_getElem? hx);have wi:=cf ((i:Int)+1) yA yA;apply aL;simp[hC,N6];refine fh ?_;simp;apply eG
   cases x with
   | gP nm e=>
    obtain⟨h1,h2⟩:=hh;have hn:=js nm h1.1 h1.2;simp only[ib,bW e,kQ,List.cons_append,List.nil_append] at N7;rw[bW e] at h2;apply ai;simp[hC,N6,N7];apply ai;simp[hC];apply ai;simp[hC];apply ai;simp[hC];apply ai;simp[hC];refine T.le (Le.trim [11,10,9,8,7,6,5,0,1] [0] 1 N3 yA) ?_;simp;apply aL;simp[hC];refine TL.bY Oc rfl rfl rfl rfl (bH.of rfl Od (hn)) (TL.go' af ?_);simp[hC];refine TL.bY Oc rfl rfl rfl rfl (bH.of rfl Od (h2)) (TL.go' af ?_);simp[hC];refine TL.bY Oc rfl rfl rfl rfl (bH.of rfl Od (gS)) (TL.go' af ?_);simp[hC];refine aX ?_;simp;apply T.skip;simp;refine T.cut (fun s=>s=⟨[(7,I 1),(6,.aq 0 0),(5,I i),(0,.az (bx l) l.length),(1,I deep)],[(0,⟨170,0,[I 1,.str nm,I e.op,I e.n,.str e.name,.az (e.args.flatMap bM) e.args.length,.str eS,.az [] 0,.az [] 0,.az [] 0,.az [] 0]⟩)],1⟩) ?_ ?_
    ·apply ai;simp[hC];apply T.block;refine T.aI (fun m s=>s=⟨[(12,.int .i64 0),(7,I 1),(6,.aq 0 0),(5,I i),(0,.az (bx l) l.length),(1,I deep)],[(0,⟨170,0,[I 1,.str nm,I e.op,I e.n,.str e.name,.az (e.args.flatMap bM) e.args.length,.str eS,.az [] 0,.az [] 0,.az [] 0,.az [] 0]⟩)],1⟩) (n:=0) ?_ ?_
     ·refine aa.trim [12,7,6,5,0,1] [0] 1 N3 yA ?_;simp
     ·rintro m s rfl;apply aL;simp[hC];refine aX ?_;simp;apply T.exit;simp;refine aa.trim [7,6,5,0,1] [0] 1 N3 yA ?_;simp
    rintro s rfl;apply ai;simp[hC];apply ai;simp[hC];refine aX ?_;simp;apply T.skip;simp;apply aY;simp[hC,wi];refine⟨l.length-(i+1),by omega,?_⟩;refine aa.trim [5,0,1] [] 0 N3 yA ⟨i+1,rfl,by omega,?_⟩;simp
   | iy nm e=>
    obtain⟨h1,h2⟩:=hh;have hn:=js nm h1.1 h1.2;simp only[ib,bW e,kQ,List.cons_append,List.nil_append] at N7;rw[bW e] at h2;apply ai;simp[hC,N6,N7];apply ai;simp[hC];apply ai;simp[hC];apply ai;simp[hC];apply ai;simp[hC];refine T.le (Le.trim [11,10,9,8,7,6,5,0,1] [0] 1 N3 yA) ?_;simp;apply aL;simp[hC];refine TL.bY Oc rfl rfl rfl rfl (bH.of rfl Od (hn)) (TL.go' af ?_);simp[hC];refine TL.bY Oc rfl rfl rfl rfl (bH.of rfl Od (h2)) (TL.go' af ?_);simp[hC];refine TL.bY Oc rfl rfl rfl rfl (bH.of rfl Od (gS)) (TL.go' af ?_);simp[hC];refine aX ?_;simp;apply T.skip;simp;refine T.cut (fun s=>s=⟨[(7,I 2),(6,.aq 0 0),(5,I i),(0,.az (bx l) l.length),(1,I deep)],[(0,⟨170,0,[I 2,.str nm,I e.op,I e.n,.str e.name,.az (e.args.flatMap bM) e.args.length,.str eS,.az [] 0,.az [] 0,.az [] 0,.az [] 0]⟩)],1⟩) ?_ ?_
    ·apply ai;simp[hC];apply T.block;refine T.aI (fun m s=>s=⟨[(12,.int .i64 0),(7,I 2),(6,.aq 0 0),(5,I i),(0,.az (bx l) l.length),(1,I deep)],[(0,⟨170,0,[I 2,.str nm,I e.op,I e.n,.str e.name,.az (e.args.flatMap bM) e.args.length,.str eS,.az [] 0,.az [] 0,.az [] 0,.az [] 0]⟩)],1⟩) (n:=0) ?_ ?_
     ·refine aa.trim [12,7,6,5,0,1] [0] 1 N3 yA ?_;simp
     ·rintro m s rfl;apply aL;simp[hC];refine aX ?_;simp;apply T.exit;simp;refine aa.trim [7,6,5,0,1] [0] 1 N3 yA ?_;simp
    rintro s rfl;apply ai;simp[hC];apply ai;simp[hC];refine aX ?_;simp;apply T.skip;simp;apply aY;simp[hC,wi];refine⟨l.length-(i+1),by omega,?_⟩;refine aa.trim [5,0,1] [] 0 N3 yA ⟨i+1,rfl,by omega,?_⟩;simp
   | jm=>
    have OY:=rW;simp only[ib,bM,kQ,List.cons_append,List.nil_append] at N7 OY;apply ai;simp[hC,N6,N7];apply ai;simp[hC];apply ai;simp[hC];apply ai;simp[hC];apply ai;simp[hC];refine T.le (Le.trim [11,10,9,8,7,6,5,0,1] [0] 1 N3 yA) ?_;simp;apply aL;simp[hC,jE,eS];refine TL.bY Oc rfl rfl rfl rfl (bH.of rfl Od (OY)) (TL.go' af ?_);simp[hC];refine TL.bY Oc rfl rfl rfl rfl (bH.of rfl Od (gS)) (TL.go' af ?_);simp[hC];refine aX ?_;simp;apply T.skip;simp;refine T.cut (fun s=>s=⟨[(7,I 9),(6,.aq 0 0),(5,I i),(0,.az (bx l) l.length),(1,I deep)],[(0,⟨170,0,[I 9,.str ⟨#[]⟩,I 0,I 0,.str ⟨#[]⟩,.az [] 0,.str ⟨#[]⟩,.az [] 0,.az [] 0,.az [] 0,.az [] 0]⟩)],1⟩) ?_ ?_
    ·apply ai;simp[hC];apply T.block;refine T.aI (fun m s=>s=⟨[(12,.int .i64 0),(7,I 9),(6,.aq 0 0),(5,I i),(0,.az (bx l) l.length),(1,I deep)],[(0,⟨170,0,[I 9,.str ⟨#[]⟩,I 0,I 0,.str ⟨#[]⟩,.az [] 0,.str ⟨#[]⟩,.az [] 0,.az [] 0,.az [] 0,.az [] 0]⟩)],1⟩) (n:=0) ?_ ?_
     ·refine aa.trim [12,7,6,5,0,1] [0] 1 N3 yA ?_;simp
     ·rintro m s rfl;apply aL;simp[hC];refine aX ?_;simp;apply T.exit;simp;refine aa.trim [7,6,5,0,1] [0] 1 N3 yA ?_;simp
    rintro s rfl;apply ai;simp[hC];apply ai;simp[hC];refine aX ?_;simp;apply T.skip;simp;apply aY;simp[hC,wi];refine⟨l.length-(i+1),by omega,?_⟩;refine aa.trim [5,0,1] [] 0 N3 yA ⟨i+1,rfl,by omega,?_⟩;simp
   | dx u r=>
    have OY:=rW;have Om:=uU r hh;obtain⟨rn,ri⟩:=r;obtain⟨q1,q2,hq⟩:∃ cs n,oZ ri=.az cs n:=by cases ri<;>exact⟨_,_,rfl⟩
    simp only[kO,hq] at Om;simp only[ib,bM,kO,hq,List.cons_append,List.nil_append] at N7 OY
    cases u with
    | false=>
     have e5:(if false=true then (6:Int) else 5)=5:=rfl;rw[e5] at N7;apply ai;simp[hC,N6,N7];apply ai;simp[hC];apply ai;simp[hC];apply ai;simp[hC];apply ai;simp[hC];refine T.le (Le.trim [11,10,9,8,7,6,5,0,1] [0] 1 N3 yA) ?_;simp;apply aL;simp[hC,jE,eS];refine TL.bY Oc rfl rfl rfl rfl (bH.of rfl Od (OY)) (TL.go' af ?_);simp[hC];refine TL.bY Oc rfl rfl rfl rfl (bH.of rfl Od (Om)) (TL.go' af ?_);simp[hC];refine aX ?_;simp;apply T.skip;simp;refine T.cut (fun s=>s=⟨[(7,I 5),(6,.aq 0 0),(5,I i),(0,.az (bx l) l.length),(1,I deep)],[(0,⟨170,0,[I 5,.str ⟨#[]⟩,I 0,I 0,.str ⟨#[]⟩,.az [] 0,.str rn,.az q1 q2,.az [] 0,.az [] 0,.az [] 0]⟩)],1⟩) ?_ ?_
     ·apply ai;simp[hC];apply T.block;refine T.aI (fun m s=>s=⟨[(12,.int .i64 0),(7,I 5),(6,.aq 0 0),(5,I i),(0,.az (bx l) l.length),(1,I deep)],[(0,⟨170,0,[I 5,.str ⟨#[]⟩,I 0,I 0,.str ⟨#[]⟩,.az [] 0,.str rn,.az q1 q2,.az [] 0,.az [] 0,.az [] 0]⟩)],1⟩) (n:=0) ?_ ?_
      ·refine aa.trim [12,7,6,5,0,1] [0] 1 N3 yA ?_;simp
      ·rintro m s rfl;apply aL;simp[hC];refine aX ?_;simp;apply T.exit;simp;refine aa.trim [7,6,5,0,1] [0] 1 N3 yA ?_;simp
     rintro s rfl;apply ai;simp[hC];apply ai;simp[hC];refine aX ?_;simp;apply T.skip;simp;apply aY;simp[hC,wi];refine⟨l.length-(i+1),by omega,?_⟩;refine aa.trim [5,0,1] [] 0 N3 yA ⟨i+1,rfl,by omega,?_⟩;simp
    | true=>
     have e5:(if true=true then (6:Int) else 5)=6:=rfl;rw[e5] at N7;apply ai;simp[hC,N6,N7];apply ai;simp[hC];apply ai;simp[hC];apply ai;simp[hC];apply ai;simp[hC];refine T.le (Le.trim [11,10,9,8,7,6,5,0,1] [0] 1 N3 yA) ?_;simp;apply aL;simp[hC,jE,eS];refine TL.bY Oc rfl rfl rfl rfl (bH.of rfl Od (OY)) (TL.go' af ?_);simp[hC];refine TL.bY Oc rfl rfl rfl rfl (bH.of rfl Od (Om)) (TL.go' af ?_);simp[hC];refine aX ?_;simp;apply T.skip;simp;refine T.cut (fun s=>s=⟨[(7,I 6),(6,.aq 0 0),(5,I i),(0,.az (bx l) l.length),(1,I deep)],[(0,⟨170,0,[I 6,.str ⟨#[]⟩,I 0,I 0,.str ⟨#[]⟩,.az [] 0,.str rn,.az q1 q2,.az [] 0,.az [] 0,.az [] 0]⟩)],1⟩) ?_ ?_
     ·apply ai;simp[hC];apply T.block;refine T.aI (fun m s=>s=⟨[(12,.int .i64 0),(7,I 6),(6,.aq 0 0),(5,I i),(0,.az (bx l) l.length),(1,I deep)],[(0,⟨170,0,[I 6,.str ⟨#[]⟩,I 0,I 0,.str ⟨#[]⟩,.az [] 0,.str rn,.az q1 q2,.az [] 0,.az [] 0,.az [] 0]⟩)],1⟩) (n:=0) ?_ ?_
      ·refine aa.trim [12,7,6,5,0,1] [0] 1 N3 yA ?_;simp
      ·rintro m s rfl;apply aL;simp[hC];refine aX ?_;simp;apply T.exit;simp;refine aa.trim [7,6,5,0,1] [0] 1 N3 yA ?_;simp
     rintro s rfl;apply ai;simp[hC];apply ai;simp[hC];refine aX ?_;simp;apply T.skip;simp;apply aY;simp[hC,wi];refine⟨l.length-(i+1),by omega,?_⟩;refine aa.trim [5,0,1] [] 0 N3 yA ⟨i+1,rfl,by omega,?_⟩;simp
   | lu e th el=>
    obtain⟨h2,h3,h4⟩:=hh;simp only[ib,bW e,kQ,List.cons_append,List.nil_append] at N7;rw[bW e] at h2;have c1:(((deep+1:Nat)):Int)=deep+1:=by omega
    rw[c1] at h3 h4;apply ai;simp[hC,N6,N7];apply ai;simp[hC];apply ai;simp[hC];apply ai;simp[hC];apply ai;simp[hC];refine T.le (Le.trim [11,10,9,8,7,6,5,0,1] [0] 1 N3 yA) ?_;simp;apply aL;simp[hC,jE,eS];refine TL.bY Oc rfl rfl rfl rfl (bH.of rfl Od (h2)) (TL.go' af ?_);simp[hC];refine TL.bY Oc rfl rfl rfl rfl (bH.of rfl Od (gS)) (TL.go' af ?_);simp[hC];refine aX ?_;simp;apply T.skip;simp;refine T.cut (fun s=>s=⟨[(7,I 7),(6,.aq 0 0),(5,I i),(0,.az (bx l) l.length),(1,I deep)],[(0,⟨170,0,[I 7,.str ⟨#[]⟩,I e.op,I e.n,.str e.name,.az (e.args.flatMap bM) e.args.length,.str ⟨#[]⟩,.az [] 0,.az [] 0,.az (bx th) th.length,.az (bx el) el.length]⟩)],1⟩) ?_ ?_
    ·apply ai;simp[hC];apply T.block;refine T.aI (fun m s=>s=⟨[(12,.int .i64 0),(7,I 7),(6,.aq 0 0),(5,I i),(0,.az (bx l) l.length),(1,I deep)],[(0,⟨170,0,[I 7,.str ⟨#[]⟩,I e.op,I e.n,.str e.name,.az (e.args.flatMap bM) e.args.length,.str ⟨#[]⟩,.az [] 0,.az [] 0,.az (bx th) th.length,.az (bx el) el.length]⟩)],1⟩) (n:=0) ?_ ?_
     ·refine aa.trim [12,7,6,5,0,1] [0] 1 N3 yA ?_;simp
     ·rintro m s rfl;apply aL;simp[hC];refine aX ?_;simp;apply T.exit;simp;refine aa.trim [7,6,5,0,1] [0] 1 N3 yA ?_;simp
    rintro s rfl;apply ai;simp[hC];by_cases Ou:0<el.length
    ·apply ai;simp[hC,wd];refine TL.bY Oc rfl rfl rfl rfl (bH.of rfl Od (h3)) (TL.go' af ?_);simp[hC,Ou,wd];refine TL.bY Oc rfl rfl rfl rfl (bH.of rfl Od (h4)) (TL.go' af ?_);simp[hC];refine aX ?_;simp;apply T.skip;simp;apply aY;simp[hC,wi];refine⟨l.length-(i+1),by omega,?_⟩;refine aa.trim [5,0,1] [] 0 N3 yA ⟨i+1,rfl,by omega,?_⟩;simp
    ·apply ai;simp[hC,wd];refine TL.bY Oc rfl rfl rfl rfl (bH.of rfl Od (h3)) (TL.go' af ?_);simp[hC,Ou];refine aX ?_;simp;apply T.skip;simp;apply aY;simp[hC,wi];refine⟨l.length-(i+1),by omega,?_⟩;refine aa.trim [5,0,1] [] 0 N3 yA ⟨i+1,rfl,by omega,?_⟩;simp
   | cE e th=>
    obtain⟨h2,h3⟩:=hh;simp only[ib,bW e,kQ,List.cons_append,List.nil_append] at N7;rw[bW e] at h2;have c1:(((deep+1:Nat)):Int)=deep+1:=by omega
    rw[c1] at h3;apply ai;simp[hC,N6,N7];apply ai;simp[hC];apply ai;simp[hC];apply ai;simp[hC];apply ai;simp[hC];refine T.le (Le.trim [11,10,9,8,7,6,5,0,1] [0] 1 N3 yA) ?_;simp;apply aL;simp[hC,jE,eS];refine TL.bY Oc rfl rfl rfl rfl (bH.of rfl Od (h2)) (TL.go' af ?_);simp[hC];refine TL.bY Oc rfl rfl rfl rfl (bH.of rfl Od (gS)) (TL.go' af ?_);simp[hC];refine aX ?_;simp;apply T.skip;simp;refine T.cut (fun s=>s=⟨[(7,I 8),(6,.aq 0 0),(5,I i),(0,.az (bx l) l.length),(1,I deep)],[(0,⟨170,0,[I 8,.str ⟨#[]⟩,I e.op,I e.n,.str e.name,.az (e.args.flatMap bM) e.args.length,.str ⟨#[]⟩,.az [] 0,.az [] 0,.az (bx th) th.length,.az [] 0]⟩)],1⟩) ?_ ?_
    ·apply ai;simp[hC];apply T.block;refine T.aI (fun m s=>s=⟨[(12,.int .i64 0),(7,I 8),(6,.aq 0 0),(5,I i),(0,.az (bx l) l.length),(1,I deep)],[(0,⟨170,0,[I 8,.str ⟨#[]⟩,I e.op,I e.n,.str e.name,.az (e.args.flatMap bM) e.args.length,.str ⟨#[]⟩,.az [] 0,.az [] 0,.az (bx th) th.length,.az [] 0]⟩)],1⟩) (n:=0) ?_ ?_
     ·refine aa.trim [12,7,6,5,0,1] [0] 1 N3 yA ?_;simp
     ·rintro m s rfl;apply aL;simp[hC];refine aX ?_;simp;apply T.exit;simp;refine aa.trim [7,6,5,0,1] [0] 1 N3 yA ?_;simp
    rintro s rfl;apply ai;simp[hC];apply ai;simp[hC,wd];refine TL.bY Oc rfl rfl rfl rfl (bH.of rfl Od (h3)) (TL.go' af ?_);simp[hC];refine aX ?_;simp;apply T.skip;simp;apply aY;simp[hC,wi];refine⟨l.length-(i+1),by omega,?_⟩;refine aa.trim [5,0,1] [] 0 N3 yA ⟨i+1,rfl,by omega,?_⟩;simp
   | dU g nm al=>
    obtain⟨h1,h2,h3⟩:=hh;have hn:=js nm h1.1 h1.2;have OY:=rW;simp only[ib,bM,kQ,List.cons_append,List.nil_append] at N7 OY;have Vx:=fun (k:Nat) (a:Ar) (h:al[k]? = some a)=>aD (f:=oR) (n:=7) ui (m:=al) h;have V5:=fun (k:Nat) (a:Ar) (h:al[k]? = some a)=>h3 a (List.mem_of_getElem? h);clear h3
    cases g with
    | false=>
     have e5:(if false=true then (4:Int) else 3)=3:=rfl;rw[e5] at N7;apply ai;simp[hC,N6,N7];apply ai;simp[hC];apply ai;simp[hC];apply ai;simp[hC];apply ai;simp[hC];refine T.le (Le.trim [11,10,9,8,7,6,5,0,1] [0] 1 N3 yA) ?_;simp;apply aL;simp[hC,eS];refine TL.bY Oc rfl rfl rfl rfl (bH.of rfl Od (hn)) (TL.go' af ?_);simp[hC];refine TL.bY Oc rfl rfl rfl rfl (bH.of rfl Od (OY)) (TL.go' af ?_);simp[hC];refine TL.bY Oc rfl rfl rfl rfl (bH.of rfl Od (gS)) (TL.go' af ?_);simp[hC];refine aX ?_;simp;apply T.skip;simp;refine T.cut (fun s=>s=⟨[(7,I 3),(6,.aq 0 0),(5,I i),(0,.az (bx l) l.length),(1,I deep)],[(0,⟨170,0,[I 3,.str nm,I 0,I 0,.str ⟨#[]⟩,.az [] 0,.str ⟨#[]⟩,.az [] 0,.az (al.flatMap oR) al.length,.az [] 0,.az [] 0]⟩)],1⟩) ?_ ?_
     ·apply ai;simp[hC];apply T.block;refine T.aI (fun m s=>∃ k:Nat,m=al.length-k∧k≤al.length∧s=⟨[(12,I k),(7,I 3),(6,.aq 0 0),(5,I i),(0,.az (bx l) l.length),(1,I deep)],[(0,⟨170,0,[I 3,.str nm,I 0,I 0,.str ⟨#[]⟩,.az [] 0,.str ⟨#[]⟩,.az [] 0,.az (al.flatMap oR) al.length,.az [] 0,.az [] 0]⟩)],1⟩) (n:=al.length) ?_ ?_
      ·refine aa.trim [12,7,6,5,0,1] [0] 1 N3 yA ⟨0,by omega,by omega,?_⟩;simp
      ·rintro m s ⟨k,rfl,hk,rfl⟩;by_cases Ot:k<al.length
       ·obtain⟨a,Zf⟩:∃ a,al[k]? = some a:=⟨al[k],List.getElem?_eq_getElem Ot⟩;have PN:=Vx k a Zf;have PS:=V5 k a Zf;have wk:=cf ((k:Int)+1) yA yA;apply aL;simp[hC,Ot];refine fh ?_;simp;apply eG
        cases a with
        | uX r=>
         have Om:=uU r PS;obtain⟨rn,ri⟩:=r;obtain⟨q1,q2,hq⟩:∃ cs n,oZ ri=.az cs n:=by cases ri<;>exact⟨_,_,rfl⟩
         simp only[kO,hq] at Om;simp only[oR,bM,kO,hq,List.cons_append,List.nil_append] at PN;apply ai;simp[hC,Ot,PN];apply ai;simp[hC];refine TL.bY Oc rfl rfl rfl rfl (bH.of rfl Od (Om)) (TL.go' af ?_);simp[hC];refine TL.bY Oc rfl rfl rfl rfl (bH.of rfl Od (OY)) (TL.go' af ?_);simp[hC];refine aX ?_;simp;apply T.skip;simp;apply aY;simp[hC,wk];refine⟨al.length-(k+1),by omega,?_⟩;refine aa.trim [12,7,6,5,0,1] [0] 1 N3 yA ⟨k+1,rfl,by omega,?_⟩;simp
        | exp e=>
         simp only[okA,bW e] at PS;simp only[oR,bW e,kQ,List.cons_append,List.nil_append] at PN;apply ai;simp[hC,Ot,PN];apply ai;simp[hC];refine TL.bY Oc rfl rfl rfl rfl (bH.of rfl Od (gS)) (TL.go' af ?_);simp[hC];refine TL.bY Oc rfl rfl rfl rfl (bH.of rfl Od (PS)) (TL.go' af ?_);simp[hC];refine aX ?_;simp;apply T.skip;simp;apply aY;simp[hC,wk];refine⟨al.length-(k+1),by omega,?_⟩;refine aa.trim [12,7,6,5,0,1] [0] 1 N3 yA ⟨k+1,rfl,by omega,?_⟩;simp
       ·apply aL;simp[hC,Ot];refine aX ?_;simp;apply T.exit;simp;refine aa.trim [7,6,5,0,1] [0] 1 N3 yA ?_;simp
     rintro s rfl;apply ai;simp[hC];apply ai;simp[hC];refine aX ?_;simp;apply T.skip;simp;apply aY;simp[hC,wi];refine⟨l.length-(i+1),by omega,?_⟩;refine aa.trim [5,0,1] [] 0 N3 yA ⟨i+1,rfl,by omega,?_⟩;simp
    | true=>
     have e5:(if true=true then (4:Int) else 3)=4:=rfl;rw[e5] at N7;apply ai;simp[hC,N6,N7];apply ai;simp[hC];apply ai;simp[hC];apply ai;simp[hC];apply ai;simp[hC];refine T.le (Le.trim [11,10,9,8,7,6,5,0,1] [0] 1 N3 yA) ?_;simp;apply aL;simp[hC,eS];refine TL.bY Oc rfl rfl rfl rfl (bH.of rfl Od (hn)) (TL.go' af ?_);simp[hC];refine TL.bY Oc rfl rfl rfl rfl (bH.of rfl Od (OY)) (TL.go' af ?_);simp[hC];refine TL.bY Oc rfl rfl rfl rfl (bH.of rfl Od (gS)) (TL.go' af ?_);simp[hC];refine aX ?_;simp;apply T.skip;simp;refine T.cut (fun s=>s=⟨[(7,I 4),(6,.aq 0 0),(5,I i),(0,.az (bx l) l.length),(1,I deep)],[(0,⟨170,0,[I 4,.str nm,I 0,I 0,.str ⟨#[]⟩,.az [] 0,.str ⟨#[]⟩,.az [] 0,.az (al.flatMap oR) al.length,.az [] 0,.az [] 0]⟩)],1⟩) ?_ ?_
     ·apply ai;simp[hC];apply T.block;refine T.aI (fun m s=>∃ k:Nat,m=al.length-k∧k≤al.length∧s=⟨[(12,I k),(7,I 4),(6,.aq 0 0),(5,I i),(0,.az (bx l) l.length),(1,I deep)],[(0,⟨170,0,[I 4,.str nm,I 0,I 0,.str ⟨#[]⟩,.az [] 0,.str ⟨#[]⟩,.az [] 0,.az (al.flatMap oR) al.length,.az [] 0,.az [] 0]⟩)],1⟩) (n:=al.length) ?_ ?_
      ·refine aa.trim [12,7,6,5,0,1] [0] 1 N3 yA ⟨0,by omega,by omega,?_⟩;simp
      ·rintro m s ⟨k,rfl,hk,rfl⟩;by_cases Ot:k<al.length
       ·obtain⟨a,Zf⟩:∃ a,al[k]? = some a:=⟨al[k],List.getElem?_eq_getElem Ot⟩;have PN:=Vx k a Zf;have PS:=V5 k a Zf;have wk:=cf ((k:Int)+1) yA yA;apply aL;simp[hC,Ot];refine fh ?_;simp;apply eG
        cases a with
        | uX r=>
         have Om:=uU r PS;obtain⟨rn,ri⟩:=r;obtain⟨q1,q2,hq⟩:∃ cs n,oZ ri=.az cs n:=by cases ri<;>exact⟨_,_,rfl⟩
         simp only[kO,hq] at Om;simp only[oR,bM,kO,hq,List.cons_append,List.nil_append] at PN;apply ai;simp[hC,Ot,PN];apply ai;simp[hC];refine TL.bY Oc rfl rfl rfl rfl (bH.of rfl Od (Om)) (TL.go' af ?_);simp[hC];refine TL.bY Oc rfl rfl rfl rfl (bH.of rfl Od (OY)) (TL.go' af ?_);simp[hC];refine aX ?_;simp;apply T.skip;simp;apply aY;simp[hC,wk];refine⟨al.length-(k+1),by omega,?_⟩;refine aa.trim [12,7,6,5,0,1] [0] 1 N3 yA ⟨k+1,rfl,by omega,?_⟩;simp
        | exp e=>
         simp only[okA,bW e] at PS;simp only[oR,bW e,kQ,List.cons_append,List.nil_append] at PN;apply ai;simp[hC,Ot,PN];apply ai;simp[hC];refine TL.bY Oc rfl rfl rfl rfl (bH.of rfl Od (gS)) (TL.go' af ?_);simp[hC];refine TL.bY Oc rfl rfl rfl rfl (bH.of rfl Od (PS)) (TL.go' af ?_);simp[hC];refine aX ?_;simp;apply T.skip;simp;apply aY;simp[hC,wk];refine⟨al.length-(k+1),by omega,?_⟩;refine aa.trim [12,7,6,5,0,1] [0] 1 N3 yA ⟨k+1,rfl,by omega,?_⟩;simp
       ·apply aL;simp[hC,Ot];refine aX ?_;simp;apply T.exit;simp;refine aa.trim [7,6,5,0,1] [0] 1 N3 yA ?_;simp
     rintro s rfl;apply ai;simp[hC];apply ai;simp[hC];refine aX ?_;simp;apply T.skip;simp;apply aY;simp[hC,wi];refine⟨l.length-(i+1),by omega,?_⟩;refine aa.trim [5,0,1] [] 0 N3 yA ⟨i+1,rfl,by omega,?_⟩;simp
  ·apply aL;simp[hC,N6];refine aX ?_;simp;apply T.exit;simp;apply ai;simp[hC];apply T.ret;apply aa.here;simp[Tryz.results82]
end Go.Proofs.YtlkmbdfhdknlgaaGreatDoor
