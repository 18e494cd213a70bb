/- Values of expressions. -/
import Derived.Test.YtmnglemlimfpbaaGreatZ40
namespace Go.Proofs.YtmnglemlimfpbaaGreat
open Go.Can Go.aX
theorem pY (b:Bool):ae Tryz.prog 135 [.bool b] (I (tw b)):=by
 refine ae.aB ag Tryz.func135 rfl yAb (by simp[Tryz.ntmps135]) rfl fun C hC hC0=>?_
 rw[Tryz.ntmps135] at hC
 apply au
 simp[hC]
 cases b with
 | true=>
  apply aJ
  simp[hC]
  refine dN ?_
  simp
  apply au
  simp[hC]
  apply T.ret
  apply aa.here
  simp[Tryz.results135,tw]
 | false=>
  apply aJ
  simp[hC]
  refine e9 ?_
  simp
  apply au
  simp[hC]
  apply T.ret
  apply aa.here
  simp[Tryz.results135,tw]
theorem zJ (a b:Int)(hb:b≠0):ae Tryz.prog 136 [I a,I b] (I (FT a b)):=by
 refine ae.aB ag Tryz.func136 rfl yAb (by simp[Tryz.ntmps136]) rfl fun C hC hC0=>?_
 rw[Tryz.ntmps136] at hC
 apply au
 simp[hC]
 by_cases h:b=-1
 ·subst h
  apply aJ
  simp[hC]
  refine dN ?_
  simp
  apply au
  simp[hC]
  apply T.ret
  apply aa.here
  simp[Tryz.results136,FT,wr]
 ·have h1:(b == -1)=false:=by simp[h]
  apply aJ
  simp[hC,h1]
  refine e9 ?_
  simp
  apply au
  simp[hC,hb]
  apply T.ret
  apply aa.here
  simp[Tryz.results136,FT,h,wr]
theorem JI {l:List Int}{i:Nat}{n:Int}(h:l[i]? = some n):(l.map bM).drop i=bM n::(l.drop (i+1)).map bM:=by
 obtain⟨h1,h2⟩:=List.getElem?_eq_some_iff.1 h
 rw[← List.map_drop,List.drop_eq_getElem_cons h1,h2,List.map_cons]
set_option maxHeartbeats 4000000 in
set_option maxRecDepth 100000 in
theorem mw (gs ls:List Int):∀ (e:Ex),vH gs.length ls.length e→ae Tryz.prog 96 [.agg (aZ e),ints gs,ints ls] (.cr [I (bI gs ls e).1,I (bI gs ls e).2])
 | .zero,h=>h.elim
 | .nm _,h=>h.elim
 | .num n,_=>by
  refine ae.aB ag Tryz.func96 rfl yAb (by simp[Tryz.ntmps96]) rfl fun C hC hC0=>?_
  rw[Tryz.ntmps96] at hC
  simp only[aZ,ints]
  apply au
  simp[hC]
  apply aJ
  simp[hC]
  apply T.block
  apply au
  simp[hC]
  refine dN ?_
  simp
  apply au
  simp[hC]
  apply T.ret
  apply aa.here
  simp[Tryz.results96,bI]
 | .loc i,h=>by
  have h:i<ls.length:=h
  obtain⟨v,hv⟩:∃ v,ls[i]? = some v:=⟨_,List.getElem?_eq_getElem h⟩
  have hd:=JI hv
  refine ae.aB ag Tryz.func96 rfl yAb (by simp[Tryz.ntmps96]) rfl fun C hC hC0=>?_
  rw[Tryz.ntmps96] at hC
  simp only[aZ,ints]
  apply au
  simp[hC]
  apply aJ
  simp[hC]
  apply T.block
  apply au
  simp[hC]
  refine bj ?_
  simp
  apply au
  simp[hC]
  refine dN ?_
  simp
  apply au
  simp[hC,h,hd]
  apply T.ret
  apply aa.here
  simp[Tryz.results96,bI,List.getD_eq_getElem?_getD,hv]
 | .ji i,h=>by
  have h:i<gs.length:=h
  obtain⟨v,hv⟩:∃ v,gs[i]? = some v:=⟨_,List.getElem?_eq_getElem h⟩
  have hd:=JI hv
  refine ae.aB ag Tryz.func96 rfl yAb (by simp[Tryz.ntmps96]) rfl fun C hC hC0=>?_
  rw[Tryz.ntmps96] at hC
  simp only[aZ,ints]
  apply au
  simp[hC]
  apply aJ
  simp[hC]
  apply T.block
  apply au
  simp[hC]
  refine bj ?_
  simp
  apply au
  simp[hC]
  refine bj ?_
  simp
  apply au
  simp[hC]
  refine dN ?_
  simp
  apply au
  simp[hC,h,hd]
  apply T.ret
  apply aa.here
  simp[Tryz.results96,bI,List.getD_eq_getElem?_getD,hv]
 | .un k e,h=>by
  have iha:=mw gs ls e h.2
  have hk:=h.1
  have hA:bI gs ls (.un k e)=if (bI gs ls e).2=0 then (unZ k (bI gs ls e).1,0) else (0,(bI gs ls e).2):=rfl
  rw[hA]
  generalize bI gs ls e=A at iha
  obtain⟨va,fa⟩:=A
  simp only[aZ]
  rw[bL e] at iha ⊢
  generalize e.op=e1 at iha ⊢
  generalize e.n=e2 at iha ⊢
  generalize e.name=e3 at iha ⊢
  generalize e.args.flatMap aZ=e4 at iha ⊢
  generalize e.args.length=e5 at iha ⊢
  simp only[ints] at iha ⊢
  have targ:trees [.agg [I e1,I e2,.str e3,.av e4 e5],.av (gs.map bM) gs.length,.av (ls.map bM) ls.length]=true:=by simp only[trees,tree,Bool.and_self]
  have htr:=pY (va == 0)
  refine ae.aB ag Tryz.func96 rfl yAb (by simp[Tryz.ntmps96]) rfl fun C hC hC0=>?_
  rw[Tryz.ntmps96] at hC
  obtain rfl | rfl:k=0∨k=1:=by omega
  all_goals
   repeat first
    | apply T.seq
    | (apply aO;simp[hC])
    | (refine T.cond (b:=false) ?_ ?_;rfl;simp)
    | (refine T.cond (b:=true) ?_ ?_;rfl;simp)
    | (apply T.skip;simp)
    | apply T.block
   refine cH targ iha ?_
   simp[hC]
   by_cases hf:fa=0
   ·subst hf
    repeat first
     | apply T.seq
     | (apply aO;simp[hC])
     | (refine T.cond (b:=false) ?_ ?_;rfl;simp)
     | (refine T.cond (b:=true) ?_ ?_;rfl;simp)
     | (apply T.skip;simp)
     | apply T.block
    first
     | (apply T.ret;apply aa.here;simp[Tryz.results96,unZ,wr])
     | (refine cH rfl htr ?_;simp[hC];apply T.ret;apply aa.here;simp[Tryz.results96,unZ])
   ·have hf2:((fa:Int) != 0)=true:=by rw[bne_iff_ne];omega
    repeat first
     | apply T.seq
     | (apply aO;simp[hC,hf2])
     | (refine T.cond (b:=false) ?_ ?_;(first | rfl | (simp[ev,assoc];done));simp)
     | (refine T.cond (b:=true) ?_ ?_;(first | rfl | (simp[ev,assoc,hf2];done));simp)
     | (apply T.skip;simp)
     | apply T.block
    apply T.ret
    apply aa.here
    simp[Tryz.results96,hf]
 | .bin k a b,h=>by
  have iha:=mw gs ls a h.2.1
  have ihb:=mw gs ls b h.2.2
  have hk:=h.1
  have hA:bI gs ls (.bin k a b)=if (bI gs ls a).2=0 then
   (if k=11∧(bI gs ls a).1=0 then (0,0) else if k=12∧(bI gs ls a).1≠0 then (1,0)
    else if (bI gs ls b).2=0 then AZ k (bI gs ls a).1 (bI gs ls b).1 else (0,(bI gs ls b).2))
   else (0,(bI gs ls a).2):=rfl
  rw[hA]
  generalize bI gs ls a=A at iha
  generalize bI gs ls b=B at ihb
  obtain⟨va,fa⟩:=A
  obtain⟨vb,fb⟩:=B
  simp only[aZ]
  rw[bL a] at iha ⊢
  rw[bL b] at ihb ⊢
  generalize a.op=a1 at iha ⊢
  generalize a.n=a2 at iha ⊢
  generalize a.name=a3 at iha ⊢
  generalize a.args.flatMap aZ=a4 at iha ⊢
  generalize a.args.length=a5 at iha ⊢
  generalize b.op=b1 at ihb ⊢
  generalize b.n=b2 at ihb ⊢
  generalize b.name=b3 at ihb ⊢
  generalize b.args.flatMap aZ=b4 at ihb ⊢
  generalize b.args.length=b5 at ihb ⊢
  simp only[ints] at iha ihb ⊢
  have targ:trees [.agg [I a1,I a2,.str a3,.av a4 a5],.av (gs.map bM) gs.length,.av (ls.map bM) ls.length]=true:=by simp only[trees,tree,Bool.and_self]
  have tbrg:trees [.agg [I b1,I b2,.str b3,.av b4 b5],.av (gs.map bM) gs.length,.av (ls.map bM) ls.length]=true:=by simp only[trees,tree,Bool.and_self]
  refine ae.aB ag Tryz.func96 rfl yAb (by simp[Tryz.ntmps96]) rfl fun C hC hC0=>?_
  rw[Tryz.ntmps96] at hC
  rcases (show (k=0∨k=3∨k=4)∨(k=5∨k=6∨k=7∨k=8∨k=9∨k=10)∨(k=1∨k=2)∨k=11∨k=12 by omega) with hk1 | hk1 | hk1 | rfl | rfl
  ·rcases hk1 with rfl | rfl | rfl
   all_goals
    repeat first
     | apply T.seq
     | (apply aO;simp[hC])
     | (refine T.cond (b:=false) ?_ ?_;rfl;simp)
     | (refine T.cond (b:=true) ?_ ?_;rfl;simp)
     | (apply T.skip;simp)
     | apply T.block
    refine cH targ iha ?_
    simp[hC]
    refine T.le (Le.trim [9,8,3,1,2] [0] 1 yAa yA) ?_
    simp
    by_cases hf:fa=0
    rotate_left
    ·have hf2:((fa:Int) != 0)=true:=by rw[bne_iff_ne];omega
     repeat first
      | apply T.seq
      | (apply aO;simp[hC,hf2])
      | (refine T.cond (b:=false) ?_ ?_;(first | rfl | (simp[ev,assoc];done));simp)
      | (refine T.cond (b:=true) ?_ ?_;(first | rfl | (simp[ev,assoc,hf2];done));simp)
      | (apply T.skip;simp)
      | apply T.block
     apply T.ret
     apply aa.here
     simp[Tryz.results96,hf]
    subst hf
    repeat first
     | apply T.seq
     | (apply aO;simp[hC])
     | (refine T.cond (b:=false) ?_ ?_;rfl;simp)
     | (refine T.cond (b:=true) ?_ ?_;rfl;simp)
     | (apply T.skip;simp)
     | apply T.block
    refine cH tbrg ihb ?_
    simp[hC]
    refine T.le (Le.trim [10,9,8,3] [0] 1 yAa yA) ?_
    simp
    by_cases hg:fb=0
    rotate_left
    ·have hg2:((fb:Int) != 0)=true:=by rw[bne_iff_ne];omega
     repeat first
      | apply T.seq
      | (apply aO;simp[hC,hg2])
      | (refine T.cond (b:=false) ?_ ?_;(first | rfl | (simp[ev,assoc];done));simp)
      | (refine T.cond (b:=true) ?_ ?_;(first | rfl | (simp[ev,assoc,hg2];done));simp)
      | (apply T.skip;simp)
      | apply T.block
     apply T.ret
     apply aa.here
     simp[Tryz.results96,hg]
    subst hg
    repeat first
     | apply T.seq
     | (apply aO;simp[hC])
     | (refine T.cond (b:=false) ?_ ?_;rfl;simp)
     | (refine T.cond (b:=true) ?_ ?_;rfl;simp)
     | (apply T.skip;simp)
     | apply T.block
    apply T.ret
    apply aa.here
    simp[Tryz.results96,AZ,wr]
  ·rcases hk1 with rfl | rfl | rfl | rfl | rfl | rfl
   all_goals
    repeat first
     | apply T.seq
     | (apply aO;simp[hC])
     | (refine T.cond (b:=false) ?_ ?_;rfl;simp)
     | (refine T.cond (b:=true) ?_ ?_;rfl;simp)
     | (apply T.skip;simp)
     | apply T.block
    refine cH targ iha ?_
    simp[hC]
    refine T.le (Le.trim [9,8,3,1,2] [0] 1 yAa yA) ?_
    simp
    by_cases hf:fa=0
    rotate_left
    ·have hf2:((fa:Int) != 0)=true:=by rw[bne_iff_ne];omega
     repeat first
      | apply T.seq
      | (apply aO;simp[hC,hf2])
      | (refine T.cond (b:=false) ?_ ?_;(first | rfl | (simp[ev,assoc];done));simp)
      | (refine T.cond (b:=true) ?_ ?_;(first | rfl | (simp[ev,assoc,hf2];done));simp)
      | (apply T.skip;simp)
      | apply T.block
     apply T.ret
     apply aa.here
     simp[Tryz.results96,hf]
    subst hf
    repeat first
     | apply T.seq
     | (apply aO;simp[hC])
     | (refine T.cond (b:=false) ?_ ?_;rfl;simp)
     | (refine T.cond (b:=true) ?_ ?_;rfl;simp)
     | (apply T.skip;simp)
     | apply T.block
    refine cH tbrg ihb ?_
    simp[hC]
    refine T.le (Le.trim [10,9,8,3] [0] 1 yAa yA) ?_
    simp
    by_cases hg:fb=0
    rotate_left
    ·have hg2:((fb:Int) != 0)=true:=by rw[bne_iff_ne];omega
     repeat first
      | apply T.seq
      | (apply aO;simp[hC,hg2])
      | (refine T.cond (b:=false) ?_ ?_;(first | rfl | (simp[ev,assoc];done));simp)
      | (refine T.cond (b:=true) ?_ ?_;(first | rfl | (simp[ev,assoc,hg2];done));simp)
      | (apply T.skip;simp)
      | apply T.block
     apply T.ret
     apply aa.here
     simp[Tryz.results96,hg]
    subst hg
    repeat first
     | apply T.seq
     | (apply aO;simp[hC])
     | (refine T.cond (b:=false) ?_ ?_;rfl;simp)
     | (refine T.cond (b:=true) ?_ ?_;rfl;simp)
     | (apply T.skip;simp)
     | apply T.block
    refine cH rfl (pY _) ?_
    simp[hC]
    apply T.ret
    apply aa.here
    simp[Tryz.results96,AZ]
  ·rcases hk1 with rfl | rfl
   all_goals
    repeat first
     | apply T.seq
     | (apply aO;simp[hC])
     | (refine T.cond (b:=false) ?_ ?_;rfl;simp)
     | (refine T.cond (b:=true) ?_ ?_;rfl;simp)
     | (apply T.skip;simp)
     | apply T.block
    refine cH targ iha ?_
    simp[hC]
    refine T.le (Le.trim [9,8,3,1,2] [0] 1 yAa yA) ?_
    simp
    by_cases hf:fa=0
    rotate_left
    ·have hf2:((fa:Int) != 0)=true:=by rw[bne_iff_ne];omega
     repeat first
      | apply T.seq
      | (apply aO;simp[hC,hf2])
      | (refine T.cond (b:=false) ?_ ?_;(first | rfl | (simp[ev,assoc];done));simp)
      | (refine T.cond (b:=true) ?_ ?_;(first | rfl | (simp[ev,assoc,hf2];done));simp)
      | (apply T.skip;simp)
      | apply T.block
     apply T.ret
     apply aa.here
     simp[Tryz.results96,hf]
    subst hf
    repeat first
     | apply T.seq
     | (apply aO;simp[hC])
     | (refine T.cond (b:=false) ?_ ?_;rfl;simp)
     | (refine T.cond (b:=true) ?_ ?_;rfl;simp)
     | (apply T.skip;simp)
     | apply T.block
    refine cH tbrg ihb ?_
    simp[hC]
    refine T.le (Le.trim [10,9,8,3] [0] 1 yAa yA) ?_
    simp
    by_cases hg:fb=0
    rotate_left
    ·have hg2:((fb:Int) != 0)=true:=by rw[bne_iff_ne];omega
     repeat first
      | apply T.seq
      | (apply aO;simp[hC,hg2])
      | (refine T.cond (b:=false) ?_ ?_;(first | rfl | (simp[ev,assoc];done));simp)
      | (refine T.cond (b:=true) ?_ ?_;(first | rfl | (simp[ev,assoc,hg2];done));simp)
      | (apply T.skip;simp)
      | apply T.block
     apply T.ret
     apply aa.here
     simp[Tryz.results96,hg]
    subst hg
    repeat first
     | apply T.seq
     | (apply aO;simp[hC])
     | (refine T.cond (b:=false) ?_ ?_;rfl;simp)
     | (refine T.cond (b:=true) ?_ ?_;rfl;simp)
     | (apply T.skip;simp)
     | apply T.block
    by_cases hb:vb=0
    ·subst hb
     refine T.cond (b:=true) yAf ?_
     simp
     repeat first
      | apply T.seq
      | (apply aO;simp[hC])
      | (refine T.cond (b:=false) ?_ ?_;rfl;simp)
      | (refine T.cond (b:=true) ?_ ?_;rfl;simp)
      | (apply T.skip;simp)
      | apply T.block
     apply T.ret
     apply aa.here
     simp[Tryz.results96,AZ]
    refine T.cond (b:=false) (by simp[ev,assoc,hb]) (T.skip ?_)
    simp
    repeat first
     | apply T.seq
     | (apply aO;simp[hC])
     | (refine T.cond (b:=false) ?_ ?_;(first | rfl | (simp[ev,assoc];done));simp)
     | (refine T.cond (b:=true) ?_ ?_;(first | rfl | (simp[ev,assoc,hb];done));simp)
     | (apply T.skip;simp)
     | apply T.block
    refine cH rfl (zJ _ _ hb) ?_
    simp[hC]
    apply T.ret
    apply aa.here
    simp[Tryz.results96,AZ,hb,wr]
  ·repeat first
    | apply T.seq
    | (apply aO;simp[hC])
    | (refine T.cond (b:=false) ?_ ?_;rfl;simp)
    | (refine T.cond (b:=true) ?_ ?_;rfl;simp)
    | (apply T.skip;simp)
    | apply T.block
   refine cH targ iha ?_
   simp[hC]
   refine T.le (Le.trim [9,8,3,1,2] [0] 1 yAa yA) ?_
   simp
   by_cases hf:fa=0
   rotate_left
   ·have hf2:((fa:Int) != 0)=true:=by rw[bne_iff_ne];omega
    repeat first
     | apply T.seq
     | (apply aO;simp[hC,hf2])
     | (refine T.cond (b:=false) ?_ ?_;(first | rfl | (simp[ev,assoc];done));simp)
     | (refine T.cond (b:=true) ?_ ?_;(first | rfl | (simp[ev,assoc,hf2];done));simp)
     | (apply T.skip;simp)
     | apply T.block
    apply T.ret
    apply aa.here
    simp[Tryz.results96,hf]
   subst hf
   by_cases hv:va=0
   ·subst hv
    repeat first
     | apply T.seq
     | (apply aO;simp[hC])
     | (refine T.cond (b:=false) ?_ ?_;rfl;simp)
     | (refine T.cond (b:=true) ?_ ?_;rfl;simp)
     | (apply T.skip;simp)
     | apply T.block
    apply T.ret
    apply aa.here
    simp[Tryz.results96]
   have hv1:(va == 0)=false:=by simp[hv]
   have hv2:(va != 0)=true:=by simp[hv]
   repeat first
    | apply T.seq
    | (apply aO;simp[hC,hv,hv1])
    | (refine T.cond (b:=false) ?_ ?_;(first | rfl | (simp[ev,assoc,hv,hv1,hv2];done));simp)
    | (refine T.cond (b:=true) ?_ ?_;(first | rfl | (simp[ev,assoc,hv,hv1,hv2];done));simp)
    | (apply T.skip;simp)
    | apply T.block
   refine cH tbrg ihb ?_
   simp[hC]
   refine T.le (Le.trim [10,9,8,3] [0] 1 yAa yA) ?_
   simp
   by_cases hg:fb=0
   rotate_left
   ·have hg2:((fb:Int) != 0)=true:=by rw[bne_iff_ne];omega
    repeat first
     | apply T.seq
     | (apply aO;simp[hC,hg2])
     | (refine T.cond (b:=false) ?_ ?_;(first | rfl | (simp[ev,assoc];done));simp)
     | (refine T.cond (b:=true) ?_ ?_;(first | rfl | (simp[ev,assoc,hg2];done));simp)
     | (apply T.skip;simp)
     | apply T.block
    apply T.ret
    apply aa.here
    simp[Tryz.results96,hg]
   subst hg
   repeat first
    | apply T.seq
    | (apply aO;simp[hC])
    | (refine T.cond (b:=false) ?_ ?_;rfl;simp)
    | (refine T.cond (b:=true) ?_ ?_;rfl;simp)
    | (apply T.skip;simp)
    | apply T.block
   refine cH rfl (pY _) ?_
   simp[hC]
   apply T.ret
   apply aa.here
   simp[Tryz.results96,AZ]
  ·repeat first
    | apply T.seq
    | (apply aO;simp[hC])
    | (refine T.cond (b:=false) ?_ ?_;rfl;simp)
    | (refine T.cond (b:=true) ?_ ?_;rfl;simp)
    | (apply T.skip;simp)
    | apply T.block
   refine cH targ iha ?_
   simp[hC]
   refine T.le (Le.trim [9,8,3,1,2] [0] 1 yAa yA) ?_
   simp
   by_cases hf:fa=0
   rotate_left
   ·have hf2:((fa:Int) != 0)=true:=by rw[bne_iff_ne];omega
    repeat first
     | apply T.seq
     | (apply aO;simp[hC,hf2])
     | (refine T.cond (b:=false) ?_ ?_;(first | rfl | (simp[ev,assoc];done));simp)
     | (refine T.cond (b:=true) ?_ ?_;(first | rfl | (simp[ev,assoc,hf2];done));simp)
     | (apply T.skip;simp)
     | apply T.block
    apply T.ret
    apply aa.here
    simp[Tryz.results96,hf]
   subst hf
   by_cases hv:va=0
   rotate_left
   ·have hv1:(va == 0)=false:=by simp[hv]
    have hv2:(va != 0)=true:=by simp[hv]
    repeat first
     | apply T.seq
     | (apply aO;simp[hC,hv,hv2])
     | (refine T.cond (b:=false) ?_ ?_;(first | rfl | (simp[ev,assoc];done));simp)
     | (refine T.cond (b:=true) ?_ ?_;(first | rfl | (simp[ev,assoc,hv,hv1,hv2];done));simp)
     | (apply T.skip;simp)
     | apply T.block
    apply T.ret
    apply aa.here
    simp[Tryz.results96]
   subst hv
   repeat first
    | apply T.seq
    | (apply aO;simp[hC])
    | (refine T.cond (b:=false) ?_ ?_;rfl;simp)
    | (refine T.cond (b:=true) ?_ ?_;rfl;simp)
    | (apply T.skip;simp)
    | apply T.block
   refine cH tbrg ihb ?_
   simp[hC]
   refine T.le (Le.trim [10,9,8,3] [0] 1 yAa yA) ?_
   simp
   by_cases hg:fb=0
   rotate_left
   ·have hg2:((fb:Int) != 0)=true:=by rw[bne_iff_ne];omega
    repeat first
     | apply T.seq
     | (apply aO;simp[hC,hg2])
     | (refine T.cond (b:=false) ?_ ?_;(first | rfl | (simp[ev,assoc];done));simp)
     | (refine T.cond (b:=true) ?_ ?_;(first | rfl | (simp[ev,assoc,hg2];done));simp)
     | (apply T.skip;simp)
     | apply T.block
    apply T.ret
    apply aa.here
    simp[Tryz.results96,hg]
   subst hg
   repeat first
    | apply T.seq
    | (apply aO;simp[hC])
    | (refine T.cond (b:=false) ?_ ?_;rfl;simp)
    | (refine T.cond (b:=true) ?_ ?_;rfl;simp)
    | (apply T.skip;simp)
    | apply T.block
   refine cH rfl (pY _) ?_
   simp[hC]
   apply T.ret
   apply aa.here
   simp[Tryz.results96,AZ]
end Go.Proofs.YtmnglemlimfpbaaGreat
