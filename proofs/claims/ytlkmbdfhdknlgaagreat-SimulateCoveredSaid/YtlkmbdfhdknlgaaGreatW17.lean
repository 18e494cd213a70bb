/- Lemmas. -/
import Derived.Test.YtlkmbdfhdknlgaaGreatW16
namespace Go.Proofs.YtlkmbdfhdknlgaaGreat
open Go.Can Go.aK List Tryz
theorem uH:ae prog 161 [.agg (bf .zero)] (.bool true):=by
 refine ae.aD af Tryz.func161 rfl Bw (by simp[Tryz.ntmps161]) rfl λ C hC M0=>?_;rw[Tryz.ntmps161] at hC;apply aq;simp[hC,bf,eS];apply aq;simp[hC,jv];apply T.ret;apply aa.here;simp[Tryz.results161]
theorem ja:ae prog 163 [.agg ml] (.bool true):=by
 refine ae.aD af Tryz.func163 rfl Bw (by simp[Tryz.ntmps163]) rfl λ C hC M0=>?_;rw[Tryz.ntmps163] at hC;apply aq;simp[hC,ml,eS];apply aq;simp[hC,jv];apply T.ret;apply aa.here;simp[Tryz.results163]
def RfR (r:Rf):Prop:=oC r.name/\∀ e,r.index=some e->ae prog 160 [.agg (bf e)] (.bool true)
theorem xD (r:Rf)(h:RfR r):ae prog 162 [.agg (mh r)] (.bool true):=by
 obtain⟨nm,ix⟩:=r;obtain⟨h1,h2⟩:=h;have hn:=kz nm h1.1 h1.2;refine ae.aD af Tryz.func162 rfl Bw (by simp[Tryz.ntmps162]) rfl λ C hC M0=>?_;rw[Tryz.ntmps162] at hC
 cases ix with
 | none=>
  apply aq;simp[hC,mh,oL];apply aq;simp[hC];refine cS SD (hn) ?_;simp[hC];apply T.ret;apply aa.here;simp[Tryz.results162]
 | some e=>
  have hv:=h2 e rfl;apply aq;simp[hC,mh,oL];apply aq;simp[hC];refine cS SD (hn) ?_;simp[hC];refine TL.cN Rg rfl rfl rfl rfl (bW.of rfl yBu (hv)) (TL.go' af ?_);simp[hC];apply T.ret;apply aa.here;simp[Tryz.results162]
def okA (a:Ar):Prop:=match a with
 | .xF r=>RfR r
 | .exp e=>ae prog 160 [.agg (bf e)] (.bool true)
def J90 (l:List Sm)(deep:Nat)(n:Nat)(s:St):Prop:=∃ i:Nat,n=l.length-i/\i<=l.length/\s=⟨[(5,I i),(0,.az (bP l) l.length),(1,I deep)],[],0⟩
set_option maxHeartbeats 8000000 in
theorem AL (l:List Sm)(deep:Nat)(hd:deep<20)(hl:l.length<=100000)
  (h:∀ s∈l,(match s with
   | .iU nm e=>oC nm/\ae prog 160 [.agg (bf e)] (.bool true)
   | .jx nm e=>oC nm/\ae prog 160 [.agg (bf e)] (.bool true)
   | .eM _ nm al=>oC nm/\al.length<=1000/\∀ a∈al,okA a
   | .dS _ r=>RfR r
   | .mL e th el=>ae prog 160 [.agg (bf e)] (.bool true)/\ae prog 127 [.az (bP th) th.length,I ((deep+1:Nat))] (.bool true)/\ae prog 127 [.az (bP el) el.length,I ((deep+1:Nat))] (.bool true)
   | .cX e th=>ae prog 160 [.agg (bf e)] (.bool true)/\ae prog 127 [.az (bP th) th.length,I ((deep+1:Nat))] (.bool true)
   | .kj=>True)):ae prog 127 [.az (bP l) l.length,I deep] (.bool true):=by
 have T2:=λ (i:Nat) (x:Sm) (h:l[i]? = some x)=>aL (f:=ji) (n:=11) lP (m:=l) h;rw[<- pV] at T2;have hd24:¬ (24:Int)<=deep:=by omega
 have wd:=cr ((deep:Int)+1) yA yA;refine ae.aD af Tryz.func127 rfl Bw (by simp[Tryz.ntmps127]) rfl λ C hC M0=>?_;rw[Tryz.ntmps127] at hC;apply aq;simp[hC];apply aW;simp[hC,hd24];refine bg ?_;simp;apply T.skip;simp;apply aW;simp[hC];apply T.block;refine T.aI (J90 l deep) (n:=l.length) ?_ ?_
 .refine aa.le (Le.env [5,0,1]) (aa.here ⟨0,by omega,by omega,?_⟩);simp
 .rintro n s ⟨i,rfl,hi,rfl⟩;by_cases Jz:i<l.length
  .obtain⟨x,hx⟩:∃ x,l[i]? = some x:=⟨l[i],getElem?_eq_getElem Jz⟩;have OZ:=T2 i x hx;have hh:=h x (mem_of_getElem? hx);have wi:=cr ((i:Int)+1) yA yA;apply aW;simp[hC,Jz];refine jk ?_;simp;apply eE
   cases x with
   | iU nm e=>
    obtain⟨h1,h2⟩:=hh;have hn:=kz nm h1.1 h1.2;simp only[ji,bZ e,ml,cons_append,nil_append] at OZ;rw[bZ e] at h2;apply aq;simp[hC,Jz,OZ];apply aq;simp[hC];apply aq;simp[hC];apply aq;simp[hC];apply aq;simp[hC];refine T.le (Le.trim [11,10,9,8,7,6,5,0,1] [0] 1 xr yA) ?_;simp;apply aW;simp[hC];refine TL.cN Rg rfl rfl rfl rfl (bW.of rfl SD (hn)) (TL.go' af ?_);simp[hC];refine TL.cN Rg rfl rfl rfl rfl (bW.of rfl SD (h2)) (TL.go' af ?_);simp[hC];refine TL.cN Rg rfl rfl rfl rfl (bW.of rfl SD (ja)) (TL.go' af ?_);simp[hC];refine bg ?_;simp;apply T.skip;simp;refine T.cut (λ s=>s=⟨[(7,I 1),(6,.ax 0 0),(5,I i),(0,.az (bP l) l.length),(1,I deep)],[(0,⟨207,0,[I 1,.str nm,I e.op,I e.n,.str e.name,.az (e.args.flatMap bf) e.args.length,.str eS,.az [] 0,.az [] 0,.az [] 0,.az [] 0]⟩)],1⟩) ?_ ?_
    .apply aq;simp[hC];apply T.block;refine T.aI (λ m s=>s=⟨[(12,.int .i64 0),(7,I 1),(6,.ax 0 0),(5,I i),(0,.az (bP l) l.length),(1,I deep)],[(0,⟨207,0,[I 1,.str nm,I e.op,I e.n,.str e.name,.az (e.args.flatMap bf) e.args.length,.str eS,.az [] 0,.az [] 0,.az [] 0,.az [] 0]⟩)],1⟩) (n:=0) ?_ ?_
     .refine aa.trim [12,7,6,5,0,1] [0] 1 xr yA ?_;simp
     .rintro m s rfl;apply aW;simp[hC];refine bg ?_;simp;apply T.exit;simp;refine aa.trim [7,6,5,0,1] [0] 1 xr yA ?_;simp
    rintro s rfl;apply aq;simp[hC];apply aq;simp[hC];refine bg ?_;simp;apply T.skip;simp;apply aM;simp[hC,wi];refine⟨l.length-(i+1),by omega,?_⟩;refine aa.trim [5,0,1] [] 0 xr yA ⟨i+1,rfl,by omega,?_⟩;simp
   | jx nm e=>
    obtain⟨h1,h2⟩:=hh;have hn:=kz nm h1.1 h1.2;simp only[ji,bZ e,ml,cons_append,nil_append] at OZ;rw[bZ e] at h2;apply aq;simp[hC,Jz,OZ];apply aq;simp[hC];apply aq;simp[hC];apply aq;simp[hC];apply aq;simp[hC];refine T.le (Le.trim [11,10,9,8,7,6,5,0,1] [0] 1 xr yA) ?_;simp;apply aW;simp[hC];refine TL.cN Rg rfl rfl rfl rfl (bW.of rfl SD (hn)) (TL.go' af ?_);simp[hC];refine TL.cN Rg rfl rfl rfl rfl (bW.of rfl SD (h2)) (TL.go' af ?_);simp[hC];refine TL.cN Rg rfl rfl rfl rfl (bW.of rfl SD (ja)) (TL.go' af ?_);simp[hC];refine bg ?_;simp;apply T.skip;simp;refine T.cut (λ s=>s=⟨[(7,I 2),(6,.ax 0 0),(5,I i),(0,.az (bP l) l.length),(1,I deep)],[(0,⟨207,0,[I 2,.str nm,I e.op,I e.n,.str e.name,.az (e.args.flatMap bf) e.args.length,.str eS,.az [] 0,.az [] 0,.az [] 0,.az [] 0]⟩)],1⟩) ?_ ?_
    .apply aq;simp[hC];apply T.block;refine T.aI (λ m s=>s=⟨[(12,.int .i64 0),(7,I 2),(6,.ax 0 0),(5,I i),(0,.az (bP l) l.length),(1,I deep)],[(0,⟨207,0,[I 2,.str nm,I e.op,I e.n,.str e.name,.az (e.args.flatMap bf) e.args.length,.str eS,.az [] 0,.az [] 0,.az [] 0,.az [] 0]⟩)],1⟩) (n:=0) ?_ ?_
     .refine aa.trim [12,7,6,5,0,1] [0] 1 xr yA ?_;simp
     .rintro m s rfl;apply aW;simp[hC];refine bg ?_;simp;apply T.exit;simp;refine aa.trim [7,6,5,0,1] [0] 1 xr yA ?_;simp
    rintro s rfl;apply aq;simp[hC];apply aq;simp[hC];refine bg ?_;simp;apply T.skip;simp;apply aM;simp[hC,wi];refine⟨l.length-(i+1),by omega,?_⟩;refine aa.trim [5,0,1] [] 0 xr yA ⟨i+1,rfl,by omega,?_⟩;simp
   | kj=>
    have Ty:=uH;simp only[ji,bf,ml,cons_append,nil_append] at OZ Ty;apply aq;simp[hC,Jz,OZ];apply aq;simp[hC];apply aq;simp[hC];apply aq;simp[hC];apply aq;simp[hC];refine T.le (Le.trim [11,10,9,8,7,6,5,0,1] [0] 1 xr yA) ?_;simp;apply aW;simp[hC,kP,eS];refine TL.cN Rg rfl rfl rfl rfl (bW.of rfl SD (Ty)) (TL.go' af ?_);simp[hC];refine TL.cN Rg rfl rfl rfl rfl (bW.of rfl SD (ja)) (TL.go' af ?_);simp[hC];refine bg ?_;simp;apply T.skip;simp;refine T.cut (λ s=>s=⟨[(7,I 9),(6,.ax 0 0),(5,I i),(0,.az (bP l) l.length),(1,I deep)],[(0,⟨207,0,[I 9,.str ⟨#[]⟩,I 0,I 0,.str ⟨#[]⟩,.az [] 0,.str ⟨#[]⟩,.az [] 0,.az [] 0,.az [] 0,.az [] 0]⟩)],1⟩) ?_ ?_
    .apply aq;simp[hC];apply T.block;refine T.aI (λ m s=>s=⟨[(12,.int .i64 0),(7,I 9),(6,.ax 0 0),(5,I i),(0,.az (bP l) l.length),(1,I deep)],[(0,⟨207,0,[I 9,.str ⟨#[]⟩,I 0,I 0,.str ⟨#[]⟩,.az [] 0,.str ⟨#[]⟩,.az [] 0,.az [] 0,.az [] 0,.az [] 0]⟩)],1⟩) (n:=0) ?_ ?_
     .refine aa.trim [12,7,6,5,0,1] [0] 1 xr yA ?_;simp
     .rintro m s rfl;apply aW;simp[hC];refine bg ?_;simp;apply T.exit;simp;refine aa.trim [7,6,5,0,1] [0] 1 xr yA ?_;simp
    rintro s rfl;apply aq;simp[hC];apply aq;simp[hC];refine bg ?_;simp;apply T.skip;simp;apply aM;simp[hC,wi];refine⟨l.length-(i+1),by omega,?_⟩;refine aa.trim [5,0,1] [] 0 xr yA ⟨i+1,rfl,by omega,?_⟩;simp
   | dS u r=>
    have Ty:=uH;have SU:=xD r hh;obtain⟨rn,ri⟩:=r;obtain⟨q1,q2,hq⟩:∃ cs n,oL ri=.az cs n:=by cases ri<;>exact⟨_,_,rfl⟩
    simp only[mh,hq] at SU;simp only[ji,bf,mh,hq,cons_append,nil_append] at OZ Ty
    cases u with
    | false=>
     have e5:(if false=true then (6:Int) else 5)=5:=rfl;rw[e5] at OZ;apply aq;simp[hC,Jz,OZ];apply aq;simp[hC];apply aq;simp[hC];apply aq;simp[hC];apply aq;simp[hC];refine T.le (Le.trim [11,10,9,8,7,6,5,0,1] [0] 1 xr yA) ?_;simp;apply aW;simp[hC,kP,eS];refine TL.cN Rg rfl rfl rfl rfl (bW.of rfl SD (Ty)) (TL.go' af ?_);simp[hC];refine TL.cN Rg rfl rfl rfl rfl (bW.of rfl SD (SU)) (TL.go' af ?_);simp[hC];refine bg ?_;simp;apply T.skip;simp;refine T.cut (λ s=>s=⟨[(7,I 5),(6,.ax 0 0),(5,I i),(0,.az (bP l) l.length),(1,I deep)],[(0,⟨207,0,[I 5,.str ⟨#[]⟩,I 0,I 0,.str ⟨#[]⟩,.az [] 0,.str rn,.az q1 q2,.az [] 0,.az [] 0,.az [] 0]⟩)],1⟩) ?_ ?_
     .apply aq;simp[hC];apply T.block;refine T.aI (λ m s=>s=⟨[(12,.int .i64 0),(7,I 5),(6,.ax 0 0),(5,I i),(0,.az (bP l) l.length),(1,I deep)],[(0,⟨207,0,[I 5,.str ⟨#[]⟩,I 0,I 0,.str ⟨#[]⟩,.az [] 0,.str rn,.az q1 q2,.az [] 0,.az [] 0,.az [] 0]⟩)],1⟩) (n:=0) ?_ ?_
      .refine aa.trim [12,7,6,5,0,1] [0] 1 xr yA ?_;simp
      .rintro m s rfl;apply aW;simp[hC];refine bg ?_;simp;apply T.exit;simp;refine aa.trim [7,6,5,0,1] [0] 1 xr yA ?_;simp
     rintro s rfl;apply aq;simp[hC];apply aq;simp[hC];refine bg ?_;simp;apply T.skip;simp;apply aM;simp[hC,wi];refine⟨l.length-(i+1),by omega,?_⟩;refine aa.trim [5,0,1] [] 0 xr yA ⟨i+1,rfl,by omega,?_⟩;simp
    | true=>
     have e5:(if true=true then (6:Int) else 5)=6:=rfl;rw[e5] at OZ;apply aq;simp[hC,Jz,OZ];apply aq;simp[hC];apply aq;simp[hC];apply aq;simp[hC];apply aq;simp[hC];refine T.le (Le.trim [11,10,9,8,7,6,5,0,1] [0] 1 xr yA) ?_;simp;apply aW;simp[hC,kP,eS];refine TL.cN Rg rfl rfl rfl rfl (bW.of rfl SD (Ty)) (TL.go' af ?_);simp[hC];refine TL.cN Rg rfl rfl rfl rfl (bW.of rfl SD (SU)) (TL.go' af ?_);simp[hC];refine bg ?_;simp;apply T.skip;simp;refine T.cut (λ s=>s=⟨[(7,I 6),(6,.ax 0 0),(5,I i),(0,.az (bP l) l.length),(1,I deep)],[(0,⟨207,0,[I 6,.str ⟨#[]⟩,I 0,I 0,.str ⟨#[]⟩,.az [] 0,.str rn,.az q1 q2,.az [] 0,.az [] 0,.az [] 0]⟩)],1⟩) ?_ ?_
     .apply aq;simp[hC];apply T.block;refine T.aI (λ m s=>s=⟨[(12,.int .i64 0),(7,I 6),(6,.ax 0 0),(5,I i),(0,.az (bP l) l.length),(1,I deep)],[(0,⟨207,0,[I 6,.str ⟨#[]⟩,I 0,I 0,.str ⟨#[]⟩,.az [] 0,.str rn,.az q1 q2,.az [] 0,.az [] 0,.az [] 0]⟩)],1⟩) (n:=0) ?_ ?_
      .refine aa.trim [12,7,6,5,0,1] [0] 1 xr yA ?_;simp
      .rintro m s rfl;apply aW;simp[hC];refine bg ?_;simp;apply T.exit;simp;refine aa.trim [7,6,5,0,1] [0] 1 xr yA ?_;simp
     rintro s rfl;apply aq;simp[hC];apply aq;simp[hC];refine bg ?_;simp;apply T.skip;simp;apply aM;simp[hC,wi];refine⟨l.length-(i+1),by omega,?_⟩;refine aa.trim [5,0,1] [] 0 xr yA ⟨i+1,rfl,by omega,?_⟩;simp
   | mL e th el=>
    obtain⟨h2,h3,h4⟩:=hh;simp only[ji,bZ e,ml,cons_append,nil_append] at OZ;rw[bZ e] at h2;have c1:(((deep+1:Nat)):Int)=deep+1:=by omega
    rw[c1] at h3 h4;apply aq;simp[hC,Jz,OZ];apply aq;simp[hC];apply aq;simp[hC];apply aq;simp[hC];apply aq;simp[hC];refine T.le (Le.trim [11,10,9,8,7,6,5,0,1] [0] 1 xr yA) ?_;simp;apply aW;simp[hC,kP,eS];refine TL.cN Rg rfl rfl rfl rfl (bW.of rfl SD (h2)) (TL.go' af ?_);simp[hC];refine TL.cN Rg rfl rfl rfl rfl (bW.of rfl SD (ja)) (TL.go' af ?_);simp[hC];refine bg ?_;simp;apply T.skip;simp;refine T.cut (λ s=>s=⟨[(7,I 7),(6,.ax 0 0),(5,I i),(0,.az (bP l) l.length),(1,I deep)],[(0,⟨207,0,[I 7,.str ⟨#[]⟩,I e.op,I e.n,.str e.name,.az (e.args.flatMap bf) e.args.length,.str ⟨#[]⟩,.az [] 0,.az [] 0,.az (bP th) th.length,.az (bP el) el.length]⟩)],1⟩) ?_ ?_
    .apply aq;simp[hC];apply T.block;refine T.aI (λ m s=>s=⟨[(12,.int .i64 0),(7,I 7),(6,.ax 0 0),(5,I i),(0,.az (bP l) l.length),(1,I deep)],[(0,⟨207,0,[I 7,.str ⟨#[]⟩,I e.op,I e.n,.str e.name,.az (e.args.flatMap bf) e.args.length,.str ⟨#[]⟩,.az [] 0,.az [] 0,.az (bP th) th.length,.az (bP el) el.length]⟩)],1⟩) (n:=0) ?_ ?_
     .refine aa.trim [12,7,6,5,0,1] [0] 1 xr yA ?_;simp
     .rintro m s rfl;apply aW;simp[hC];refine bg ?_;simp;apply T.exit;simp;refine aa.trim [7,6,5,0,1] [0] 1 xr yA ?_;simp
    rintro s rfl;apply aq;simp[hC];by_cases SK:0<el.length
    .apply aq;simp[hC,wd];refine TL.cN Rg rfl rfl rfl rfl (bW.of rfl SD (h3)) (TL.go' af ?_);simp[hC,SK,wd];refine TL.cN Rg rfl rfl rfl rfl (bW.of rfl SD (h4)) (TL.go' af ?_);simp[hC];refine bg ?_;simp;apply T.skip;simp;apply aM;simp[hC,wi];refine⟨l.length-(i+1),by omega,?_⟩;refine aa.trim [5,0,1] [] 0 xr yA ⟨i+1,rfl,by omega,?_⟩;simp
    .apply aq;simp[hC,wd];refine TL.cN Rg rfl rfl rfl rfl (bW.of rfl SD (h3)) (TL.go' af ?_);simp[hC,SK];refine bg ?_;simp;apply T.skip;simp;apply aM;simp[hC,wi];refine⟨l.length-(i+1),by omega,?_⟩;refine aa.trim [5,0,1] [] 0 xr yA ⟨i+1,rfl,by omega,?_⟩;simp
   | cX e th=>
    obtain⟨h2,h3⟩:=hh;simp only[ji,bZ e,ml,cons_append,nil_append] at OZ;rw[bZ e] at h2;have c1:(((deep+1:Nat)):Int)=deep+1:=by omega
    rw[c1] at h3;apply aq;simp[hC,Jz,OZ];apply aq;simp[hC];apply aq;simp[hC];apply aq;simp[hC];apply aq;simp[hC];refine T.le (Le.trim [11,10,9,8,7,6,5,0,1] [0] 1 xr yA) ?_;simp;apply aW;simp[hC,kP,eS];refine TL.cN Rg rfl rfl rfl rfl (bW.of rfl SD (h2)) (TL.go' af ?_);simp[hC];refine TL.cN Rg rfl rfl rfl rfl (bW.of rfl SD (ja)) (TL.go' af ?_);simp[hC];refine bg ?_;simp;apply T.skip;simp;refine T.cut (λ s=>s=⟨[(7,I 8),(6,.ax 0 0),(5,I i),(0,.az (bP l) l.length),(1,I deep)],[(0,⟨207,0,[I 8,.str ⟨#[]⟩,I e.op,I e.n,.str e.name,.az (e.args.flatMap bf) e.args.length,.str ⟨#[]⟩,.az [] 0,.az [] 0,.az (bP th) th.length,.az [] 0]⟩)],1⟩) ?_ ?_
    .apply aq;simp[hC];apply T.block;refine T.aI (λ m s=>s=⟨[(12,.int .i64 0),(7,I 8),(6,.ax 0 0),(5,I i),(0,.az (bP l) l.length),(1,I deep)],[(0,⟨207,0,[I 8,.str ⟨#[]⟩,I e.op,I e.n,.str e.name,.az (e.args.flatMap bf) e.args.length,.str ⟨#[]⟩,.az [] 0,.az [] 0,.az (bP th) th.length,.az [] 0]⟩)],1⟩) (n:=0) ?_ ?_
     .refine aa.trim [12,7,6,5,0,1] [0] 1 xr yA ?_;simp
     .rintro m s rfl;apply aW;simp[hC];refine bg ?_;simp;apply T.exit;simp;refine aa.trim [7,6,5,0,1] [0] 1 xr yA ?_;simp
    rintro s rfl;apply aq;simp[hC];apply aq;simp[hC,wd];refine TL.cN Rg rfl rfl rfl rfl (bW.of rfl SD (h3)) (TL.go' af ?_);simp[hC];refine bg ?_;simp;apply T.skip;simp;apply aM;simp[hC,wi];refine⟨l.length-(i+1),by omega,?_⟩;refine aa.trim [5,0,1] [] 0 xr yA ⟨i+1,rfl,by omega,?_⟩;simp
   | eM g nm al=>
    obtain⟨h1,h2,h3⟩:=hh;have hn:=kz nm h1.1 h1.2;have Ty:=uH;simp only[ji,bf,ml,cons_append,nil_append] at OZ Ty;have ZG:=λ (k:Nat) (a:Ar) (h:al[k]? = some a)=>aL (f:=qA) (n:=7) wJ (m:=al) h;have hafl1:=λ (k:Nat) (a:Ar) (h:al[k]? = some a)=>h3 a (mem_of_getElem? h);clear h3
    cases g with
    | false=>
     have e5:(if false=true then (4:Int) else 3)=3:=rfl;rw[e5] at OZ;apply aq;simp[hC,Jz,OZ];apply aq;simp[hC];apply aq;simp[hC];apply aq;simp[hC];apply aq;simp[hC];refine T.le (Le.trim [11,10,9,8,7,6,5,0,1] [0] 1 xr yA) ?_;simp;apply aW;simp[hC,eS];refine TL.cN Rg rfl rfl rfl rfl (bW.of rfl SD (hn)) (TL.go' af ?_);simp[hC];refine TL.cN Rg rfl rfl rfl rfl (bW.of rfl SD (Ty)) (TL.go' af ?_);simp[hC];refine TL.cN Rg rfl rfl rfl rfl (bW.of rfl SD (ja)) (TL.go' af ?_);simp[hC];refine bg ?_;simp;apply T.skip;simp;refine T.cut (λ s=>s=⟨[(7,I 3),(6,.ax 0 0),(5,I i),(0,.az (bP l) l.length),(1,I deep)],[(0,⟨207,0,[I 3,.str nm,I 0,I 0,.str ⟨#[]⟩,.az [] 0,.str ⟨#[]⟩,.az [] 0,.az (al.flatMap qA) al.length,.az [] 0,.az [] 0]⟩)],1⟩) ?_ ?_
     .apply aq;simp[hC];apply T.block;refine T.aI (λ m s=>∃ k:Nat,m=al.length-k/\k<=al.length/\s=⟨[(12,I k),(7,I 3),(6,.ax 0 0),(5,I i),(0,.az (bP l) l.length),(1,I deep)],[(0,⟨207,0,[I 3,.str nm,I 0,I 0,.str ⟨#[]⟩,.az [] 0,.str ⟨#[]⟩,.az [] 0,.az (al.flatMap qA) al.length,.az [] 0,.az [] 0]⟩)],1⟩) (n:=al.length) ?_ ?_
      .refine aa.trim [12,7,6,5,0,1] [0] 1 xr yA ⟨0,by omega,by omega,?_⟩;simp
      .rintro m s ⟨k,rfl,hk,rfl⟩;by_cases SO:k<al.length
       .obtain⟨a,hka⟩:∃ a,al[k]? = some a:=⟨al[k],getElem?_eq_getElem SO⟩;have Ud:=ZG k a hka;have Ug:=hafl1 k a hka;have wk:=cr ((k:Int)+1) yA yA;apply aW;simp[hC,SO];refine jk ?_;simp;apply eE
        cases a with
        | xF r=>
         have SU:=xD r Ug;obtain⟨rn,ri⟩:=r;obtain⟨q1,q2,hq⟩:∃ cs n,oL ri=.az cs n:=by cases ri<;>exact⟨_,_,rfl⟩
         simp only[mh,hq] at SU;simp only[qA,bf,mh,hq,cons_append,nil_append] at Ud;apply aq;simp[hC,SO,Ud];apply aq;simp[hC];refine TL.cN Rg rfl rfl rfl rfl (bW.of rfl SD (SU)) (TL.go' af ?_);simp[hC];refine TL.cN Rg rfl rfl rfl rfl (bW.of rfl SD (Ty)) (TL.go' af ?_);simp[hC];refine bg ?_;simp;apply T.skip;simp;apply aM;simp[hC,wk];refine⟨al.length-(k+1),by omega,?_⟩;refine aa.trim [12,7,6,5,0,1] [0] 1 xr yA ⟨k+1,rfl,by omega,?_⟩;simp
        | exp e=>
         simp only[okA,bZ e] at Ug;simp only[qA,bZ e,ml,cons_append,nil_append] at Ud;apply aq;simp[hC,SO,Ud];apply aq;simp[hC];refine TL.cN Rg rfl rfl rfl rfl (bW.of rfl SD (ja)) (TL.go' af ?_);simp[hC];refine TL.cN Rg rfl rfl rfl rfl (bW.of rfl SD (Ug)) (TL.go' af ?_);simp[hC];refine bg ?_;simp;apply T.skip;simp;apply aM;simp[hC,wk];refine⟨al.length-(k+1),by omega,?_⟩;refine aa.trim [12,7,6,5,0,1] [0] 1 xr yA ⟨k+1,rfl,by omega,?_⟩;simp
       .apply aW;simp[hC,SO];refine bg ?_;simp;apply T.exit;simp;refine aa.trim [7,6,5,0,1] [0] 1 xr yA ?_;simp
     rintro s rfl;apply aq;simp[hC];apply aq;simp[hC];refine bg ?_;simp;apply T.skip;simp;apply aM;simp[hC,wi];refine⟨l.length-(i+1),by omega,?_⟩;refine aa.trim [5,0,1] [] 0 xr yA ⟨i+1,rfl,by omega,?_⟩;simp
    | true=>
     have e5:(if true=true then (4:Int) else 3)=4:=rfl;rw[e5] at OZ;apply aq;simp[hC,Jz,OZ];apply aq;simp[hC];apply aq;simp[hC];apply aq;simp[hC];apply aq;simp[hC];refine T.le (Le.trim [11,10,9,8,7,6,5,0,1] [0] 1 xr yA) ?_;simp;apply aW;simp[hC,eS];refine TL.cN Rg rfl rfl rfl rfl (bW.of rfl SD (hn)) (TL.go' af ?_);simp[hC];refine TL.cN Rg rfl rfl rfl rfl (bW.of rfl SD (Ty)) (TL.go' af ?_);simp[hC];refine TL.cN Rg rfl rfl rfl rfl (bW.of rfl SD (ja)) (TL.go' af ?_);simp[hC];refine bg ?_;simp;apply T.skip;simp;refine T.cut (λ s=>s=⟨[(7,I 4),(6,.ax 0 0),(5,I i),(0,.az (bP l) l.length),(1,I deep)],[(0,⟨207,0,[I 4,.str nm,I 0,I 0,.str ⟨#[]⟩,.az [] 0,.str ⟨#[]⟩,.az [] 0,.az (al.flatMap qA) al.length,.az [] 0,.az [] 0]⟩)],1⟩) ?_ ?_
     .apply aq;simp[hC];apply T.block;refine T.aI (λ m s=>∃ k:Nat,m=al.length-k/\k<=al.length/\s=⟨[(12,I k),(7,I 4),(6,.ax 0 0),(5,I i),(0,.az (bP l) l.length),(1,I deep)],[(0,⟨207,0,[I 4,.str nm,I 0,I 0,.str ⟨#[]⟩,.az [] 0,.str ⟨#[]⟩,.az [] 0,.az (al.flatMap qA) al.length,.az [] 0,.az [] 0]⟩)],1⟩) (n:=al.length) ?_ ?_
      .refine aa.trim [12,7,6,5,0,1] [0] 1 xr yA ⟨0,by omega,by omega,?_⟩;simp
      .rintro m s ⟨k,rfl,hk,rfl⟩;by_cases SO:k<al.length
       .obtain⟨a,hka⟩:∃ a,al[k]? = some a:=⟨al[k],getElem?_eq_getElem SO⟩;have Ud:=ZG k a hka;have Ug:=hafl1 k a hka;have wk:=cr ((k:Int)+1) yA yA;apply aW;simp[hC,SO];refine jk ?_;simp;apply eE
        cases a with
        | xF r=>
         have SU:=xD r Ug;obtain⟨rn,ri⟩:=r;obtain⟨q1,q2,hq⟩:∃ cs n,oL ri=.az cs n:=by cases ri<;>exact⟨_,_,rfl⟩
         simp only[mh,hq] at SU;simp only[qA,bf,mh,hq,cons_append,nil_append] at Ud;apply aq;simp[hC,SO,Ud];apply aq;simp[hC];refine TL.cN Rg rfl rfl rfl rfl (bW.of rfl SD (SU)) (TL.go' af ?_);simp[hC];refine TL.cN Rg rfl rfl rfl rfl (bW.of rfl SD (Ty)) (TL.go' af ?_);simp[hC];refine bg ?_;simp;apply T.skip;simp;apply aM;simp[hC,wk];refine⟨al.length-(k+1),by omega,?_⟩;refine aa.trim [12,7,6,5,0,1] [0] 1 xr yA ⟨k+1,rfl,by omega,?_⟩;simp
        | exp e=>
         simp only[okA,bZ e] at Ug;simp only[qA,bZ e,ml,cons_append,nil_append] at Ud;apply aq;simp[hC,SO,Ud];apply aq;simp[hC];refine TL.cN Rg rfl rfl rfl rfl (bW.of rfl SD (ja)) (TL.go' af ?_);simp[hC];refine TL.cN Rg rfl rfl rfl rfl (bW.of rfl SD (Ug)) (TL.go' af ?_);simp[hC];refine bg ?_;simp;apply T.skip;simp;apply aM;simp[hC,wk];refine⟨al.length-(k+1),by omega,?_⟩;refine aa.trim [12,7,6,5,0,1] [0] 1 xr yA ⟨k+1,rfl,by omega,?_⟩;simp
       .apply aW;simp[hC,SO];refine bg ?_;simp;apply T.exit;simp;refine aa.trim [7,6,5,0,1] [0] 1 xr yA ?_;simp
     rintro s rfl;apply aq;simp[hC];apply aq;simp[hC];refine bg ?_;simp;apply T.skip;simp;apply aM;simp[hC,wi];refine⟨l.length-(i+1),by omega,?_⟩;refine aa.trim [5,0,1] [] 0 xr yA ⟨i+1,rfl,by omega,?_⟩;simp
  .apply aW;simp[hC,Jz];refine bg ?_;simp;apply T.exit;simp;apply aq;simp[hC];apply T.ret;apply aa.here;simp[Tryz.results127]
end Go.Proofs.YtlkmbdfhdknlgaaGreat
