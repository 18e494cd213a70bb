/- Values of expressions, by -/
import Derived.Test.YtlkmbdfhdknlgaaGreatV41
set_option maxHeartbeats 4000000
namespace Go.Proofs.YtlkmbdfhdknlgaaGreat
open Go.Can Go.aV List Tryz
theorem sa (b:Bool):af prog 197 [.bool b] (I (pP b)):=by
 refine af.aC ag Tryz.func197 rfl GK (by simp[Tryz.ntmps197]) rfl λ C hC OR=>?_;rw[Tryz.ntmps197] at hC;cases b
 all_goals
  repeat first
   | apply T.seq
   | (apply aG;simp[hC])
   | (refine bh ?_;simp)
   | (refine cX ?_;simp)
   | (apply T.skip;simp)
   | apply T.block
  apply T.ret;apply aa.here;simp[Tryz.results197,pP]
theorem Kk {l:List Int}{i:Nat}{n:Int}(h:l[i]? = some n):(l.map bj).drop i=bj n::(l.drop (i+1)).map bj:=by
 obtain⟨h1,h2⟩:=List.getElem?_eq_some_iff.1 h;rw[<- map_drop,drop_eq_getElem_cons h1,h2,map_cons]
theorem sV {l:List Int}{i:Nat}{v:Int}(hv:l[i]? = some v):af prog 196 [ints l,I i] (I v):=by
 have h:=(List.getElem?_eq_some_iff.1 hv).1;have hd:=Kk hv;have h0:¬ ((i:Int)<0):=by omega
 have h1:¬ (l.length<=i):=by omega
 refine af.aC ag Tryz.func196 rfl GK (by simp[Tryz.ntmps196]) rfl λ C hC OR=>?_;rw[Tryz.ntmps196] at hC;simp only[ints]
 repeat first
  | apply T.seq
  | (apply aG;simp[hC,h0,h1,h,hd])
  | (refine T.cond (b:=false) ?_ ?_;(first | rfl | (simp[ev,assoc,h0,h1,h,hd];done));simp)
  | (refine T.cond (b:=true) ?_ ?_;(first | rfl | (simp[ev,assoc,h0,h1,h,hd];done));simp)
  | (apply T.skip;simp)
  | apply T.block
 apply T.ret;apply aa.here;simp[Tryz.results196]
theorem yo (n:Int):wr n=(n+9223372036854775808) % 18446744073709551616-9223372036854775808:=by
 simp only[wr];rw[show IntKind.i64.wrap n=(n+9223372036854775808) % 18446744073709551616-9223372036854775808 from by simp[IntKind.wrap,IntKind.bits,IntKind.signed];omega]
theorem LY (a x y:Int)(h:x % 18446744073709551616=y % 18446744073709551616):wr (a-x)=wr (a-y):=by
 rw[yo,yo];omega
theorem KZ (n:Int):wr n % 18446744073709551616=n % 18446744073709551616:=by
 rw[yo];omega
theorem yU (a b:Int):yV a b=wr (a.tdiv b):=by
 unfold yV;split
 .rename_i h;subst h;rw[Int.tdiv_neg,Int.tdiv_one,Int.zero_sub]
 .rfl
def nL (n:Int):Prop:=-9223372036854775808<=n/\n<=9223372036854775807
theorem Cz (n:Int):nL (wr n):=by
 rw[nL,yo];omega
theorem Mp {a:Int}(b:Int)(ha:nL a):IntKind.i64.wrap (a-wr (yV a b*b))=a.tmod b:=by
 have h1:IntKind.i64.wrap (a-wr (yV a b*b))=wr (a.tmod b):=by
  show wr _=_;rw[yU,LY a _ (a.tdiv b*b) (by rw[KZ,Int.mul_emod,KZ,<- Int.mul_emod])];congr 1;have:=Int.tmod_add_mul_tdiv a b;rw[Int.mul_comm];omega
 rw[h1];have h2:(a.tmod b).natAbs<=a.natAbs:=by
  rw[Int.natAbs_tmod];exact Nat.mod_le _ _
 exact cw _ (by unfold nL at ha;omega) (by
  unfold nL at ha;by_cases h:0<=a
  .omega
  .have:=Int.tmod_nonneg b (by omega:0<=-a);rw[Int.neg_tmod] at this;omega)
theorem Fg (k:Nat)(hk:k<11)(a b:Int)(ha:nL a):af prog 198 [I ((5+k:Nat):Int),I a,I b] (.bY [I (lN k a b).1,I (lN k a b).2]):=by
 have hB:=sa;refine af.aC ag Tryz.func198 rfl GK (by simp[Tryz.ntmps198]) rfl λ C hC OR=>?_;rw[Tryz.ntmps198] at hC;rcases (show (k=0\/k=3\/k=4)\/(k=5\/k=6\/k=7\/k=8\/k=9\/k=10)\/k=1\/k=2 by omega) with h | h | rfl | rfl
 .rcases h with rfl | rfl | rfl
  all_goals
   repeat first
    | apply T.seq
    | (apply aG;simp[hC])
    | (refine bh ?_;simp)
    | (refine cX ?_;simp)
    | (apply T.skip;simp)
    | apply T.block
   apply T.ret;apply aa.here;simp[Tryz.results198,lN,wr]
 .rcases h with rfl | rfl | rfl | rfl | rfl | rfl
  all_goals
   repeat first
    | apply T.seq
    | (apply aG;simp[hC])
    | (refine bh ?_;simp)
    | (refine cX ?_;simp)
    | (apply T.skip;simp)
    | apply T.block
   refine ct rfl (hB _) ?_;simp[hC];apply T.ret;apply aa.here;simp[Tryz.results198,lN]
 .by_cases hb:b=0
  .subst hb
   repeat first
    | apply T.seq
    | (apply aG;simp[hC])
    | (refine bh ?_;simp)
    | (refine cX ?_;simp)
    | (apply T.skip;simp)
    | apply T.block
   apply T.ret;apply aa.here;simp[Tryz.results198,lN]
  .repeat first
    | apply T.seq
    | (apply aG;simp[hC])
    | (refine T.cond (b:=false) ?_ ?_;(first | rfl | (simp[ev,assoc,hb];done));simp)
    | (refine T.cond (b:=true) ?_ ?_;(first | rfl | (simp[ev,assoc,hb];done));simp)
    | (apply T.skip;simp)
    | apply T.block
   refine T.cond (b:=false) (by simp[ev,assoc,hb]) (T.skip ?_);simp
   repeat first
    | apply T.seq
    | (apply aG;simp[hC,hb])
    | (refine T.cond (b:=false) ?_ ?_;(first | rfl | (simp[ev,assoc];done));simp)
    | (refine T.cond (b:=true) ?_ ?_;(first | rfl | (simp[ev,assoc,hb];done));simp)
    | (apply T.skip;simp)
    | apply T.block
   apply T.ret;apply aa.here;simp[Tryz.results198,lN,hb,yU,wr]
 .by_cases hb:b=0
  .subst hb
   repeat first
    | apply T.seq
    | (apply aG;simp[hC])
    | (refine bh ?_;simp)
    | (refine cX ?_;simp)
    | (apply T.skip;simp)
    | apply T.block
   apply T.ret;apply aa.here;simp[Tryz.results198,lN]
  .have hr:=Mp b ha
   repeat first
    | apply T.seq
    | (apply aG;simp[hC])
    | (refine T.cond (b:=false) ?_ ?_;(first | rfl | (simp[ev,assoc,hb];done));simp)
    | (refine T.cond (b:=true) ?_ ?_;(first | rfl | (simp[ev,assoc,hb];done));simp)
    | (apply T.skip;simp)
    | apply T.block
   refine T.cond (b:=false) (by simp[ev,assoc,hb]) (T.skip ?_);simp
   repeat first
    | apply T.seq
    | (apply aG;simp[hC,hb])
    | (refine T.cond (b:=false) ?_ ?_;(first | rfl | (simp[ev,assoc,hb];done));simp)
    | (refine T.cond (b:=true) ?_ ?_;(first | rfl | (simp[ev,assoc,hb];done));simp)
    | (apply T.skip;simp)
    | apply T.block
   apply T.ret;apply aa.here;simp only[wr] at hr;simp[Tryz.results198,lN,hb,hr,wr]
def zI (gs ls:List Int):List CV:=[ints gs,ints ls]
theorem lR (gs ls:List Int):trees (zI gs ls)=true:=by simp only[zI,ints,trees,tree,Bool.and_self]
theorem n9 (gs ls:List Int)(e:Ex)(a b:Int)(h1:e.args.length≠2->af prog 171 [.agg (zI gs ls),.agg (a8 e)] (.bY [I a,I b]))(h2:e.args.length=2->af prog 172 [.agg (zI gs ls),.agg (a8 e)] (.bY [I a,I b])):af prog 136 [.agg (zI gs ls),.agg (a8 e)] (.bY [I a,I b]):=by
 have tt:trees [.agg (zI gs ls),.agg (a8 e)]=true:=by simp only[trees,tree,lR,aJ,Bool.and_self]
 refine af.aC ag Tryz.func136 rfl GK (by simp[Tryz.ntmps136]) rfl λ C hC OR=>?_;rw[Tryz.ntmps136] at hC;rw[bV e] at h1 h2 tt |-;generalize e.args.flatMap a8=X at *;simp only[zI,ints] at h1 h2 tt |-;by_cases h:e.args.length=2
 .have hh:=h2 h;rw[h] at hh tt |-
  repeat first
   | apply T.seq
   | (apply aG;simp[hC])
   | (refine bh ?_;simp)
   | (refine cX ?_;simp)
   | (apply T.skip;simp)
   | apply T.block
  refine ct tt hh ?_;simp[hC];apply T.ret;apply aa.here;simp[Tryz.results136]
 .have hh:=h1 h;have h3:((e.args.length:Int) == 2)=false:=by rw[beq_eq_false_iff_ne];omega
  repeat first
   | apply T.seq
   | (apply aG;simp[hC,h3])
   | (refine T.cond (b:=false) ?_ ?_;(first | rfl | (simp[ev,assoc,h3];done));simp)
   | (refine T.cond (b:=true) ?_ ?_;(first | rfl | (simp[ev,assoc,h3];done));simp)
   | (apply T.skip;simp)
   | apply T.block
  refine ct tt hh ?_;simp[hC];apply T.ret;apply aa.here;simp[Tryz.results136]
theorem DD (b:Bool):nL (pP b):=by
 cases b<;>simp[pP,nL]
theorem sw {gs ls:List Int}(hg:∀ n∈gs,nL n)(hl:∀ n∈ls,nL n){e:Ex}(h:px gs.length ls.length e):nL (aW gs ls e).1:=by
 have h0:nL 0:=by simp[nL]
 cases e with
 | num n=>
  have h:n<4611686018427387904:=h;simp only[aW,nL];omega
 | loc i=>
  simp only[aW,getD_eq_getElem?_getD,getElem?_eq_getElem (h:i<ls.length),Option.getD_some];exact hl _ (getElem_mem _)
 | iK i=>
  simp only[aW,getD_eq_getElem?_getD,getElem?_eq_getElem (h:i<gs.length),Option.getD_some];exact hg _ (getElem_mem _)
 | un k e=>
  simp only[aW,K1];split
  .split
   .exact Cz _
   .exact DD _
  .exact h0
 | bin k a b=>
  have hb:∀ x y,nL (lN k x y).1:=λ x y=>by
   unfold lN
   repeat' split
   all_goals first | exact Cz _ | exact DD _ | exact h0 | (rw[yU];exact Cz _)
  simp only[aW]
  repeat' split
  all_goals first | exact hb _ _ | exact h0 | simp[nL]
 | _=>exact h.elim
set_option maxRecDepth 100000 in
theorem qG (gs ls:List Int)(hg:∀ n∈gs,nL n)(hl:∀ n∈ls,nL n):∀ (e:Ex),px gs.length ls.length e->af prog 136 [.agg (zI gs ls),.agg (a8 e)] (.bY [I (aW gs ls e).1,I (aW gs ls e).2])
 | .zero,h=>h.elim
 | .nm _,h=>h.elim
 | .num n,_=>n9 _ _ _ _ _ (λ _=>by
  refine af.aC ag Tryz.func171 rfl GK (by simp[Tryz.ntmps171]) rfl λ C hC OR=>?_;rw[Tryz.ntmps171] at hC;simp only[a8,zI,ints]
  repeat first
   | apply T.seq
   | (apply aG;simp[hC])
   | (refine bh ?_;simp)
   | (refine cX ?_;simp)
   | (apply T.skip;simp)
   | apply T.block
  apply T.ret;apply aa.here;simp[Tryz.results171,aW]) λ h=>by cases h
 | .loc i,h=>n9 _ _ _ _ _ (λ _=>by
  obtain⟨v,hv⟩:∃ v,ls[i]? = some v:=⟨_,getElem?_eq_getElem (h:i<ls.length)⟩;have he:=sV hv;have te:trees [ints ls,I i]=true:=by simp only[ints,trees,tree,Bool.and_self]
  refine af.aC ag Tryz.func171 rfl GK (by simp[Tryz.ntmps171]) rfl λ C hC OR=>?_;rw[Tryz.ntmps171] at hC;simp only[a8,zI,ints] at he te |-
  repeat first
   | apply T.seq
   | (apply aG;simp[hC])
   | (refine bh ?_;simp)
   | (refine cX ?_;simp)
   | (apply T.skip;simp)
   | apply T.block
  refine ct te he ?_;simp[hC];apply T.ret;apply aa.here;simp[Tryz.results171,aW,getD_eq_getElem?_getD,hv]) λ h=>by cases h
 | .iK i,h=>n9 _ _ _ _ _ (λ _=>by
  obtain⟨v,hv⟩:∃ v,gs[i]? = some v:=⟨_,getElem?_eq_getElem (h:i<gs.length)⟩;have he:=sV hv;have te:trees [ints gs,I i]=true:=by simp only[ints,trees,tree,Bool.and_self]
  refine af.aC ag Tryz.func171 rfl GK (by simp[Tryz.ntmps171]) rfl λ C hC OR=>?_;rw[Tryz.ntmps171] at hC;simp only[a8,zI,ints] at he te |-
  repeat first
   | apply T.seq
   | (apply aG;simp[hC])
   | (refine bh ?_;simp)
   | (refine cX ?_;simp)
   | (apply T.skip;simp)
   | apply T.block
  refine ct te he ?_;simp[hC];apply T.ret;apply aa.here;simp[Tryz.results171,aW,getD_eq_getElem?_getD,hv]) λ h=>by cases h
 | .un k e,h=>by
  have Qi:=qG gs ls hg hl e h.2;have hk:=h.1;refine n9 _ _ _ _ _ (λ _=>?_) λ h=>by cases h
  have hA:aW gs ls (.un k e)=if (aW gs ls e).2=0 then (K1 k (aW gs ls e).1,0) else (0,(aW gs ls e).2):=rfl
  rw[hA];generalize aW gs ls e=A at Qi;obtain⟨va,fa⟩:=A;have tt:trees [.agg (zI gs ls),.agg (a8 e)]=true:=by simp only[trees,tree,lR,aJ,Bool.and_self]
  simp only[a8];rw[bV e] at Qi tt |-;generalize e.op=e1 at Qi tt |-;generalize e.n=e2 at Qi tt |-;generalize e.name=e3 at Qi tt |-;generalize e.args.flatMap a8=e4 at Qi tt |-;generalize e.args.length=e5 at Qi tt |-;simp only[zI,ints] at Qi tt |-;have O1:=sa (va == 0);refine af.aC ag Tryz.func171 rfl GK (by simp[Tryz.ntmps171]) rfl λ C hC OR=>?_;rw[Tryz.ntmps171] at hC;obtain rfl | rfl:k=0\/k=1:=by omega
  all_goals
   repeat first
    | apply T.seq
    | (apply aG;simp[hC])
    | (refine bh ?_;simp)
    | (refine cX ?_;simp)
    | (apply T.skip;simp)
    | apply T.block
   refine T.rx ag follows [0,1,2,3,4,5,6,7,8,9,10] [] GK ?_;simp[hC];refine RX.call rfl xr rfl rfl rfl tt Qi ?_;simp;by_cases hf:fa=0
   .subst hf
    repeat first
     | apply T.seq
     | (apply aG;simp[hC])
     | (refine bh ?_;simp)
     | (refine cX ?_;simp)
     | (apply T.skip;simp)
     | apply T.block
    first
     | (apply T.ret;apply aa.here;simp[Tryz.results171,K1,wr])
     | (refine ct rfl O1 ?_;simp[hC];apply T.ret;apply aa.here;simp[Tryz.results171,K1])
   .have O9:((fa:Int) != 0)=true:=by rw[bne_iff_ne];omega
    repeat first
     | apply T.seq
     | (apply aG;simp[hC,O9])
     | (refine T.cond (b:=false) ?_ ?_;(first | rfl | (simp[ev,assoc];done));simp)
     | (refine T.cond (b:=true) ?_ ?_;(first | rfl | (simp[ev,assoc,O9];done));simp)
     | (apply T.skip;simp)
     | apply T.block
    apply T.ret;apply aa.here;simp[Tryz.results171,hf]
 | .bin k a b,h=>by
  have Qi:=qG gs ls hg hl a h.2.1;have R0:=qG gs ls hg hl b h.2.2;have hk:=h.1;have hra:=sw hg hl h.2.1;refine n9 _ _ _ _ _ (λ h=>absurd rfl h) λ _=>?_;have hA:aW gs ls (.bin k a b)=if (aW gs ls a).2=0 then
   (if k=11/\(aW gs ls a).1=0 then (0,0) else if k=12/\(aW gs ls a).1≠0 then (1,0)
    else if (aW gs ls b).2=0 then lN k (aW gs ls a).1 (aW gs ls b).1 else (0,(aW gs ls b).2))
   else (0,(aW gs ls a).2):=rfl
  rw[hA];generalize aW gs ls a=A at Qi hra;generalize aW gs ls b=B at R0;obtain⟨va,fa⟩:=A;obtain⟨vb,fb⟩:=B;have ta:trees [.agg (zI gs ls),.agg (a8 a)]=true:=by simp only[trees,tree,lR,aJ,Bool.and_self]
  have tb:trees [.agg (zI gs ls),.agg (a8 b)]=true:=by simp only[trees,tree,lR,aJ,Bool.and_self]
  simp only[a8];rw[bV a] at Qi ta |-;rw[bV b] at R0 tb |-;generalize a.op=a1 at *;generalize a.n=a2 at *;generalize a.name=a3 at *;generalize a.args.flatMap a8=a4 at *;generalize a.args.length=a5 at *;generalize b.op=b1 at *;generalize b.n=b2 at *;generalize b.name=b3 at *;generalize b.args.flatMap a8=b4 at *;generalize b.args.length=b5 at *;simp only[zI,ints] at Qi R0 ta tb |-;have O1:=sa (vb != 0);refine af.aC ag Tryz.func172 rfl GK (by simp[Tryz.ntmps172]) rfl λ C hC OR=>?_;rw[Tryz.ntmps172] at hC
  repeat first
   | apply T.seq
   | (apply aG;simp[hC])
   | (refine bh ?_;simp)
   | (refine cX ?_;simp)
   | (apply T.skip;simp)
   | apply T.block
  refine T.rx ag follows [0,1,2,3,4,5,6,7,8,9,10] [] GK ?_;simp[hC];refine RX.call rfl xr rfl rfl rfl ta Qi ?_;simp;by_cases hf:fa=0
  rotate_left
  .have O9:((fa:Int) != 0)=true:=by rw[bne_iff_ne];omega
   repeat first
    | apply T.seq
    | (apply aG;simp[hC,O9])
    | (refine T.cond (b:=false) ?_ ?_;(first | rfl | (simp[ev,assoc];done));simp)
    | (refine T.cond (b:=true) ?_ ?_;(first | rfl | (simp[ev,assoc,O9];done));simp)
    | (apply T.skip;simp)
    | apply T.block
   apply T.ret;apply aa.here;simp[Tryz.results172,hf]
  subst hf;by_cases h1:k=11/\va=0
  .obtain⟨rfl,rfl⟩:=h1
   repeat first
    | apply T.seq
    | (apply aG;simp[hC])
    | (refine bh ?_;simp)
    | (refine cX ?_;simp)
    | (apply T.skip;simp)
    | apply T.block
   apply T.ret;apply aa.here;simp[Tryz.results172]
  by_cases h2:k=12/\va≠0
  .obtain⟨rfl,h2⟩:=h2;have h3:(va != 0)=true:=by simp[h2]
   repeat first
    | apply T.seq
    | (apply aG;simp[hC,h3])
    | (refine T.cond (b:=false) ?_ ?_;(first | rfl | (simp[ev,assoc];done));simp)
    | (refine T.cond (b:=true) ?_ ?_;(first | rfl | (simp[ev,assoc,h3];done));simp)
    | (apply T.skip;simp)
    | apply T.block
   apply T.ret;apply aa.here;simp[Tryz.results172,h2]
  by_cases h3:k<11
  .have g1:((5+(k:Int)) == 16)=false:=by rw[beq_eq_false_iff_ne];omega
   have g2:((5+(k:Int)) == 17)=false:=by rw[beq_eq_false_iff_ne];omega
   have U2:=Fg k h3 va vb hra;have n1:k≠11:=by omega
   have n2:k≠12:=by omega
   repeat first
    | apply T.seq
    | (apply aG;simp[hC,g1,g2])
    | (refine T.cond (b:=false) ?_ ?_;(first | rfl | (simp[ev,assoc,g1,g2];done));simp)
    | (refine T.cond (b:=true) ?_ ?_;(first | rfl | (simp[ev,assoc,g1,g2];done));simp)
    | (apply T.skip;simp)
    | apply T.block
   refine T.rx ag follows [0,1,2,3,4,5,6,7,8,9,10] [] GK ?_;simp[hC];refine RX.call rfl xr rfl rfl rfl tb R0 ?_;simp;by_cases hg:fb=0
   rotate_left
   .have QN:((fb:Int) != 0)=true:=by rw[bne_iff_ne];omega
    repeat first
     | apply T.seq
     | (apply aG;simp[hC,QN])
     | (refine T.cond (b:=false) ?_ ?_;(first | rfl | (simp[ev,assoc];done));simp)
     | (refine T.cond (b:=true) ?_ ?_;(first | rfl | (simp[ev,assoc,QN];done));simp)
     | (apply T.skip;simp)
     | apply T.block
    apply T.ret;apply aa.here;simp[Tryz.results172,hg,n1,n2]
   subst hg
   repeat first
    | apply T.seq
    | (apply aG;simp[hC,g1,g2])
    | (refine T.cond (b:=false) ?_ ?_;(first | rfl | (simp[ev,assoc,g1,g2];done));simp)
    | (refine T.cond (b:=true) ?_ ?_;(first | rfl | (simp[ev,assoc,g1,g2];done));simp)
    | (apply T.skip;simp)
    | apply T.block
   refine ct rfl U2 ?_;simp[hC];apply T.ret;apply aa.here;simp[Tryz.results172,n1,n2]
  .have h8:(k=11/\va≠0)\/(k=12/\va=0):=by omega
   rcases h8 with ⟨rfl,WS⟩ | ⟨rfl,WS⟩
   .repeat first
     | apply T.seq
     | (apply aG;simp[hC])
     | (refine bh ?_;simp)
     | (refine cX ?_;simp)
     | (apply T.skip;simp)
     | apply T.block
    refine T.cond (b:=false) (by simp[ev,assoc,WS]) (T.skip ?_);simp
    repeat first
     | apply T.seq
     | (apply aG;simp[hC])
     | (refine bh ?_;simp)
     | (refine cX ?_;simp)
     | (apply T.skip;simp)
     | apply T.block
    refine T.rx ag follows [0,1,2,3,4,5,6,7,8,9,10] [] GK ?_;simp[hC];refine RX.call rfl xr rfl rfl rfl tb R0 ?_;simp;by_cases hg:fb=0
    rotate_left
    .have QN:((fb:Int) != 0)=true:=by rw[bne_iff_ne];omega
     repeat first
      | apply T.seq
      | (apply aG;simp[hC,QN])
      | (refine T.cond (b:=false) ?_ ?_;(first | rfl | (simp[ev,assoc];done));simp)
      | (refine T.cond (b:=true) ?_ ?_;(first | rfl | (simp[ev,assoc,QN];done));simp)
      | (apply T.skip;simp)
      | apply T.block
     apply T.ret;apply aa.here;simp[Tryz.results172,hg,WS]
    subst hg
    repeat first
     | apply T.seq
     | (apply aG;simp[hC])
     | (refine bh ?_;simp)
     | (refine cX ?_;simp)
     | (apply T.skip;simp)
     | apply T.block
    refine ct rfl O1 ?_;simp[hC];apply T.ret;apply aa.here;simp[Tryz.results172,lN,WS]
   .rw[WS]
    repeat first
     | apply T.seq
     | (apply aG;simp[hC])
     | (refine bh ?_;simp)
     | (refine cX ?_;simp)
     | (apply T.skip;simp)
     | apply T.block
    refine T.rx ag follows [0,1,2,3,4,5,6,7,8,9,10] [] GK ?_;simp[hC];refine RX.call rfl xr rfl rfl rfl tb R0 ?_;simp;by_cases hg:fb=0
    rotate_left
    .have QN:((fb:Int) != 0)=true:=by rw[bne_iff_ne];omega
     repeat first
      | apply T.seq
      | (apply aG;simp[hC,QN])
      | (refine T.cond (b:=false) ?_ ?_;(first | rfl | (simp[ev,assoc];done));simp)
      | (refine T.cond (b:=true) ?_ ?_;(first | rfl | (simp[ev,assoc,QN];done));simp)
      | (apply T.skip;simp)
      | apply T.block
     apply T.ret;apply aa.here;simp[Tryz.results172,hg]
    subst hg
    repeat first
     | apply T.seq
     | (apply aG;simp[hC])
     | (refine bh ?_;simp)
     | (refine cX ?_;simp)
     | (apply T.skip;simp)
     | apply T.block
    refine ct rfl O1 ?_;simp[hC];apply T.ret;apply aa.here;simp[Tryz.results172,lN]
theorem qH (gs ls:List Int)(hg:∀ n∈gs,nL n)(hl:∀ n∈ls,nL n)(e:Ex)(h:px gs.length ls.length e):af prog 95 [.agg (a8 e),ints gs,ints ls] (.bY [I (aW gs ls e).1,I (aW gs ls e).2]):=by
 have he:=qG gs ls hg hl e h;have tt:trees [.agg (zI gs ls),.agg (a8 e)]=true:=by simp only[trees,tree,lR,aJ,Bool.and_self]
 refine af.aC ag Tryz.func95 rfl GK (by simp[Tryz.ntmps95]) rfl λ C hC OR=>?_;rw[Tryz.ntmps95] at hC;rw[bV e] at he tt |-;generalize e.args.flatMap a8=X at *;simp only[zI,ints] at he tt |-
 repeat first
  | apply T.seq
  | (apply aG;simp[hC])
  | (refine bh ?_;simp)
  | (refine cX ?_;simp)
  | (apply T.skip;simp)
  | apply T.block
 refine ct tt he ?_;simp[hC];apply T.ret;apply aa.here;simp[Tryz.results95]
end Go.Proofs.YtlkmbdfhdknlgaaGreat
namespace Go.Can
open Go.RowKit List
variable {P:Program}{C:Cx}{s:St}{ops:Array Oper}{av:List (Nat×TI)}
theorem TL.Hl (ht:aD P av){o:Oper}{l:List Oper}{K:St->Prop}{t e:TypeId}{x y:Operand}{q:TypeId}{cs:List CV}{n:Nat}(Q7:bl C.nt o.dst=true)(hg:bW ops s o=Option.some true)(ho:o.op=.binOp .eql t x y q)(hd:dM av t=Option.some (.sl e))(hx:ev s x=Option.some (.au cs n))(hy:ev s y=Option.some .ak)
  (h:∀ b,(b=true->n=0)->TL P C ops l (s.put o.dst (.bool b)) K):TL P C ops (o::l) s K:=by
 refine TL.exec Q7 hg (λ s'=>∃ b,(b=true->n=0)/\s'=s.put o.dst (.bool b)) ?_ (by rintro s' ⟨b,hb,rfl⟩;exact h b hb);rintro a w ⟨σ,hr⟩;obtain⟨it,Ps,hd⟩:=Option.map_eq_some_iff.1 hd;have hu:=dI (ht t it Ps) hd;have hp:=bG hr hx;have hq:=bG hr hy;simp only[VR,cr] at hp hq;obtain⟨A,cap,e1,_,_,h4⟩:=hp;have he:(Op.equal t (.slice A n cap) (.slice none 0 0)).run P w=.ok A.isNone w:=nX 9999 hu A n cap;refine⟨_,w,_,?_,⟨A.isNone,λ hb=>?_,rfl⟩,dX Q7 hr (dL _)⟩
 .simp only[execOp,ho,e1,hq,Sem.run_bind,kO (op:=.eql) (t:=t) (x:=x) (y:=y) (u:=.slice A n cap) (v:=.slice none 0 0) xr xr,Result.andThen_ok,(jA he xr xr xr xr).1];rfl
 .rcases h4 with ⟨h4,_⟩ | ⟨ad,rfl,_⟩
  .exact h4
  .cases hb
theorem TL.Lt (ht:aD P av){o:Oper}{l:List Oper}{K:St->Prop}{cl:Call}{t t' e:TypeId}{x y:Operand}{p f m:Nat}{q:CV}{cs:List CV}{ie:TI}(Q7:bl C.nt o.dst=true)(hg:bW ops s o=Option.some true)(ho:o.op=.call cl)(O2:cl.callee=.builtin .copy)(OX:cl.args=#[x,y])(Qt:cl.argTypes=#[t,t'])
  (hd:dM av t=Option.some (.sl e)) (OV:assoc av e=Option.some ie) (hx:ev s x=Option.some (.bg p f 0)) (hy:ev s y=Option.some q) (PQ:cells? s q=Option.some (cs,m)) (h:TL P C ops l (s.put o.dst (.int .i64 0)) K):TL P C ops (o::l) s K:=by
 refine TL.exec Q7 hg (λ s'=>s'=s.put o.dst (.int .i64 0)) ?_ (by rintro s' rfl;exact h);rintro a w ⟨σ,hr⟩;obtain⟨it,Ps,hd⟩:=Option.map_eq_some_iff.1 hd;have hu:=dI (ht t it Ps) hd;obtain⟨f',z,g1,g2,_⟩:=(ht e ie OV).info;obtain⟨us,u1,u2,u3⟩:=cells?_ok hr (bG hr hy) PQ;have hlen:(Builtin.lenOf (a.eval y)).run P w=.ok m w:=by
  rcases u3 with ⟨c,e,rfl,rfl⟩ | ⟨ad,c,e,Rj⟩<;>simp[e,Builtin.lenOf]
 have Tu:(Builtin.firstCells ie.size 0 (a.eval y)).run P w=.ok #[] w:=by
  rcases u3 with ⟨c,e,rfl,rfl⟩ | ⟨ad,c,e,Rj⟩
  .simp[e,Builtin.firstCells]
  .rw[e];exact run_firstCells_some (P:=P) w ie.size 0 ad m c [] xr λ j x hx=>by simp at hx
 have hp:=bG hr hx;simp only[VR] at hp;obtain⟨B,hB,hp⟩:=hp;have hz:∃ A cap,a.eval x=.slice A 0 cap:=by
  split at hp
  .exact⟨_,_,hp.1⟩
  .obtain⟨cap,h,_⟩:=hp;exact⟨_,_,h⟩
 obtain⟨A,cap,hz⟩:=hz;refine⟨.int .i64 0,w,_,?_,rfl,dX Q7 hr (dT _ _)⟩;have Sh:Nat.min m 0=0:=Nat.min_zero m;simp only[execOp,ho,resolve,O2,OX,Qt,Sem.run_bind,Sem.run_pure,Result.andThen_ok,invoke,builtin,Builtin.copy_,map_toArray,map_cons,map_nil];simp only[getElem?_toArray,getElem?_cons_zero,getElem?_cons_succ,Sem.run_bind,bH hu,hz,Result.andThen_ok,hlen,db g1,g2,Sh,Tu,goInt];cases A<;>rfl
end Go.Can
namespace Go.Proofs.YtlkmbdfhdknlgaaGreat
open Go.Can Go.aV List Tryz
theorem ye (l:List Int)(hl:l.length<=1000000):Body prog av 29 [ints l] [] 0 (jk (.bg 0 0 l.length) [(0,⟨3,1,l.map bj⟩)] 1):=by
 have b1:l.length*8<=140737488355328:=by omega
 have tL:trees (l.map bj)=true:=aB l;refine Body.jb Tryz.func29 rfl GK (by simp[Tryz.ntmps29]) λ C hC OR=>?_;rw[Tryz.ntmps29] at hC;simp only[ints];apply aq;simp[hC];refine T.seq (T.seq (T.region (TL.some ag 1 ?_)));simp[hC];refine TL.Hl ag OU rfl rfl rfl (by simp[ev,assoc];exact⟨rfl,rfl⟩) rfl λ b hb=>TL.nil ?_
 cases b with
 | true=>
  have h0:l=[]:=length_eq_zero_iff.1 (hb rfl);subst h0;simp;refine cX ?_;simp;apply aq;simp[hC];apply T.ret;simp only[fj];refine aa.le (Le.own 2 3 1 rfl) ?_;simp;exact aa.here ⟨_,rfl,rfl,rfl,rfl⟩
 | false=>
  refine eQ ?_;simp;apply aq;simp[hC,b1];apply T.ret;have rL:=λ ρ=>ae ρ _ tL;refine aa.le (Le.norm [2] [(1,0)] 0 1 Px Pw (by simp[cO,nu,lF,assoc,-all_eq_true,-all_flatMap,aw tL]) yA) ?_;simp[cz,bf,cQ,dW,assoc,rL];exact aa.here ⟨_,rfl,rfl,rfl,rfl⟩
theorem sD (l:List Ho)(hl:l.length<=1000000):Body prog av 89 [.au (l.flatMap cg) l.length] [] 0 (jk (.bg 0 0 l.length) [(0,⟨122,2,l.flatMap cg⟩)] 1):=by
 have b1:l.length*16<=140737488355328:=by omega
 have tL:trees (l.flatMap cg)=true:=ah ba l;have hf:=aA cm l;refine Body.jb Tryz.func89 rfl GK (by simp[Tryz.ntmps89]) λ C hC OR=>?_;rw[Tryz.ntmps89] at hC;apply aq;simp[hC];refine T.seq (T.seq (T.region (TL.some ag 1 ?_)));simp[hC];refine TL.Hl ag OU rfl rfl rfl (by simp[ev,assoc];exact⟨rfl,rfl⟩) rfl λ b hb=>TL.nil ?_
 cases b with
 | true=>
  have h0:l=[]:=length_eq_zero_iff.1 (hb rfl);subst h0;simp;refine cX ?_;simp;apply aq;simp[hC];apply T.ret;simp only[fj];refine aa.le (Le.own 2 122 2 rfl) ?_;simp;exact aa.here ⟨_,rfl,rfl,rfl,rfl⟩
 | false=>
  refine eQ ?_;simp;apply aq;simp[hC,b1,hf,aS,-length_flatMap];apply T.ret;have rL:=λ ρ=>ae ρ _ tL;refine aa.le (Le.norm [2] [(1,0)] 0 1 Px Pw (by simp[cO,nu,lF,assoc,-all_eq_true,-all_flatMap,aw tL]) yA) ?_;simp[cz,bf,cQ,dW,assoc,rL];exact aa.here ⟨_,rfl,rfl,rfl,rfl⟩
theorem Fb (ms:List Mx)(gs ls:List Int)(hg:∀ n∈gs,nL n)(hl:∀ n∈ls,nL n)(L:Nat)(p:Pl)(hv:pN ms gs.length ls.length L p):af prog 134 [.agg (fC p),.au (ms.flatMap cI) ms.length,ints gs,ints ls] (.bY [I (ej ms gs ls p).1,I (ej ms gs ls p).2]):=by
 obtain⟨par,ix,at_⟩:=p
 match at_,hv with
 | none,_=>
  refine af.aC ag Tryz.func134 rfl GK (by simp[Tryz.ntmps134]) rfl λ C hC OR=>?_;rw[Tryz.ntmps134] at hC;simp only[fC,mA]
  repeat first
   | apply T.seq
   | (apply aG;simp[hC])
   | (refine bh ?_;simp)
   | (refine cX ?_;simp)
   | (apply T.skip;simp)
   | apply T.block
  apply T.ret;apply aa.here;simp[Tryz.results134,ej]
 | some e,hv=>
  have hx:∃ m,ms[ix]? = some m/\px gs.length ls.length e:=by
   rcases hv with ⟨_,_,h⟩ | ⟨_,m,hm,h⟩
   .cases h
   .rcases h with ⟨h,_⟩ | ⟨e',he,h⟩
    .cases h
    .cases he;exact⟨m,hm,h.2⟩
  obtain⟨m,hm,he⟩:=hx;have Pv:=qH gs ls hg hl e he;have P9:=cq (f:=cI) (n:=3) (λ _=>rfl) hm 2 yA;have OT:ix<ms.length:=(List.getElem?_eq_some_iff.1 hm).1;have tg:trees (gs.map bj)=true:=aB gs;have tl:trees (ls.map bj)=true:=aB ls;have OQ:trees [.agg (a8 e),ints gs,ints ls]=true:=by simp only[trees,tree,aJ,ints,Bool.and_self]
  simp only[ej,hm];generalize WS:aW gs ls e=va at Pv;obtain⟨v,f⟩:=va;simp only at Pv |-;have h5:¬ ((ix:Int)<0):=by omega
  have h6:¬ (ms.length<=ix):=by omega
  have h7:¬ ((ms.length:Int)<=ix):=by omega
  refine af.aC ag Tryz.func134 rfl GK (by simp[Tryz.ntmps134]) rfl λ C hC OR=>?_;rw[Tryz.ntmps134] at hC;simp only[fC,mA]
  repeat first
   | apply T.seq
   | (apply aG;simp[hC])
   | (refine bh ?_;simp)
   | (refine cX ?_;simp)
   | (apply T.skip;simp)
   | apply T.block
  refine ct OQ Pv ?_;simp[hC];by_cases hf:f=0
  .subst hf;by_cases h0:v<0
   .repeat first
     | apply T.seq
     | (apply aG;simp[hC,h0,h5,h7])
     | (refine T.cond (b:=false) ?_ ?_;(first | rfl | (simp[ev,assoc];done));simp)
     | (refine T.cond (b:=true) ?_ ?_;(first | rfl | (simp[ev,assoc,h0,h5,h6,h7];done));simp)
     | (apply T.skip;simp)
     | apply T.block
    apply T.ret;apply aa.here;simp[Tryz.results134]
   .by_cases h1:(m.size:Int)<=v
    .repeat first
      | apply T.seq
      | (apply aG;simp[hC,h0,h5,h7,OT,P9,cI,h1])
      | (refine T.cond (b:=false) ?_ ?_;(first | rfl | (simp[ev,assoc];done));simp)
      | (refine T.cond (b:=true) ?_ ?_;(first | rfl | (simp[ev,assoc,h0,h5,h6,h7,OT,P9,cI,h1];done));simp)
      | (apply T.skip;simp)
      | apply T.block
     apply T.ret;apply aa.here;simp[Tryz.results134]
    .repeat first
      | apply T.seq
      | (apply aG;simp[hC,h0,h5,h7,OT,P9,cI,h1])
      | (refine T.cond (b:=false) ?_ ?_;(first | rfl | (simp[ev,assoc,h0,h5,h6,h7,OT,P9,cI,h1];done));simp)
      | (refine T.cond (b:=true) ?_ ?_;(first | rfl | (simp[ev,assoc,h0,h5,h6,h7,OT,P9,cI,h1];done));simp)
      | (apply T.skip;simp)
      | apply T.block
     apply T.ret;apply aa.here;simp[Tryz.results134]
  .have O9:((f:Int) != 0)=true:=by rw[bne_iff_ne];omega
   repeat first
    | apply T.seq
    | (apply aG;simp[hC,O9])
    | (refine T.cond (b:=false) ?_ ?_;(first | rfl | (simp[ev,assoc];done));simp)
    | (refine T.cond (b:=true) ?_ ?_;(first | rfl | (simp[ev,assoc,O9];done));simp)
    | (apply T.skip;simp)
    | apply T.block
   apply T.ret;apply aa.here;simp[Tryz.results134,hf]
theorem xC (u:Un)(pr:Nat)(q:Pr)(hq:u.ps[pr]? = some q)(TJ:q.locals<=1000000)(G:List Int)(hG:G.length<=q.locals)(L:List Nat)(hL:L.length<=1000000)(g l:CV)(hg:g=ints G\/(g=.ak/\G=[]))(hl:l=aN L\/(l=.ak/\L=[])):af prog 31 [cb u,I pr,g,l] (.agg (cZ ⟨pr,0,G++replicate (q.locals-G.length) 0,L⟩)):=by
 have Qx:=(List.getElem?_eq_some_iff.1 hq).1;have OS:=cq (f:=mw) (n:=5) jM hq 3 yA;have b2:8*(q.locals:Int)<=281474976710656:=by omega
 have b3:(q.locals:Int)<=9223372036854775807:=by omega
 have b4:8*(L.length:Int)<=281474976710656:=by omega
 have b5:(L.length:Int)<=9223372036854775807:=by omega
 have tG:trees (G.map bj)=true:=aB G;have tL:=aM L;have O1:tree (.agg (cZ ⟨pr,0,G++replicate (q.locals-G.length) 0,L⟩))=true:=by simp only[tree,bX]
 refine af.aC ag Tryz.func31 rfl GK (by simp[Tryz.ntmps31]) O1 λ C hC OR=>?_;rw[Tryz.ntmps31] at hC;have eg:vr g=ints G:=by rcases hg with rfl | ⟨rfl,rfl⟩<;>rfl
 have el:vr l=aN L:=by rcases hl with rfl | ⟨rfl,rfl⟩<;>rfl
 refine T.le (Le.nz [2,3] []) ?_;simp[eg,el];clear hg hl eg el;simp only[cb,eD,ints,aN] at *;apply aq;simp[hC];refine T.seq (T.rx ag follows [0,1,2,3,4,5,6,7,8,9,10,11,12,13] [(2,10),(2,12),(6,10),(6,12),(7,10),(7,12),(10,12)] GK ?_);simp[hC,Qx,OS,mw,b2,b3,b4,b5];refine T.le (Le.trim [9,8,2,3] [14,12,9,1] 16 (by simp[-all_eq_true,-all_flatMap,-all_map,-all_replicate,aj (fK _)]) yA) ?_;simp;have tZ:trees (replicate (q.locals-G.length) (I 0))=true:=fK _;have SW:min G.length q.locals=G.length:=Nat.min_eq_left hG;have kG:take G.length (G.map bj)=G.map bj:=take_of_length_le xr;have kL:take L.length (L.map λ n:Nat=>I n)=L.map λ n:Nat=>I n:=take_of_length_le xr;refine T.cut (λ s=>s=⟨[(9,.ax 14 0),(8,.ax 1 0),(3,.au (L.map λ n:Nat=>I n) L.length)],[(14,⟨77,0,[I pr,I 0,.bg 9 0 q.locals,.bg 12 0 L.length]⟩),(12,⟨3,1,replicate L.length (I 0)⟩),(9,⟨3,1,G.map bj++replicate (q.locals-G.length) (I 0)⟩),(1,⟨77,0,[I 0,I 0,.ak,.ak]⟩)],16⟩) ?_ ?_
 .by_cases hz:q.locals=0
  .have hG0:G=[]:=length_eq_zero_iff.1 yA;subst hG0;rw[hz];refine T.region (TL.some ag 3 ?_);simp[hC];refine TL.Lt ag OU rfl rfl rfl rfl rfl rfl rfl rfl rfl rfl (TL.nil ?_);simp;refine aa.trim [9,8,3] [14,12,9,1] 16 (by simp[-all_eq_true,-all_map,-all_replicate,aj (fK _)]) yA ?_;simp
  .have hp:0<q.locals:=by omega
   apply aG;simp[hC,hp,SW,kG];refine aa.trim [9,8,3] [14,12,9,1] 16 (by simp[-all_eq_true,-all_map,-all_replicate,aj tG,aj tZ,aj (fK _)]) yA ?_;simp
 .rintro s rfl;refine T.cut (λ s=>s=⟨[(9,.ax 14 0),(8,.ax 1 0)],[(14,⟨77,0,[I pr,I 0,.bg 9 0 q.locals,.bg 12 0 L.length]⟩),(12,⟨3,1,L.map λ n:Nat=>I n⟩),(9,⟨3,1,G.map bj++replicate (q.locals-G.length) (I 0)⟩),(1,⟨77,0,[I 0,I 0,.ak,.ak]⟩)],16⟩) ?_ ?_
  .by_cases hz:L=[]
   .subst hz;refine T.region (TL.some ag 3 ?_);simp[hC];refine TL.Lt ag OU rfl rfl rfl rfl rfl rfl rfl rfl rfl rfl (TL.nil ?_);simp;refine aa.trim [9,8] [14,12,9,1] 16 (by simp[-all_eq_true,-all_map,-all_replicate,aj tG,aj tZ]) yA ?_;simp
   .have hp:0<L.length:=length_pos_iff.2 hz;apply aG;simp[hC,hp,kL];refine aa.trim [9,8] [14,12,9,1] 16 (by simp[-all_eq_true,-all_map,-all_replicate,aj tL,aj tG,aj tZ]) yA ?_;simp
  .rintro s rfl;apply aq;simp[hC];have eV:G.map bj++replicate (q.locals-G.length) (I 0)=(G++replicate (q.locals-G.length) 0).map bj:=by simp
   have tV:trees ((G++replicate (q.locals-G.length) 0).map bj)=true:=aB _;have lV:(G++replicate (q.locals-G.length) 0).length=q.locals:=by simp;omega
   rw[eV];generalize G++replicate (q.locals-G.length) 0=V at tV lV;have kV:take q.locals (V.map bj)=V.map bj:=take_of_length_le PA;apply T.ret;refine aa.le (Le.trim [8] [12,9,1] 16 (by simp[-all_eq_true,-all_map,-all_replicate,aj tL,aj tV]) yA) ?_;simp;refine aa.le (Le.cF (o:=12) rfl tL) ?_;simp[cK,kL];refine aa.le (Le.cF (o:=9) rfl tV) ?_;simp[cK,kV];apply aa.here;simp[cZ,ints,aN,lV]
theorem oW (l:List Int)(hl:l.length<=1000000):af prog 29 [ints l] (ints l):=by
 have b1:l.length*8<=140737488355328:=by omega
 have tL:trees (l.map bj)=true:=aB l;have kL:take l.length (l.map bj)=l.map bj:=take_of_length_le xr;refine af.aC ag Tryz.func29 rfl GK (by simp[Tryz.ntmps29]) rfl λ C hC OR=>?_;rw[Tryz.ntmps29] at hC;simp only[ints];apply aq;simp[hC];refine T.seq (T.seq (T.region (TL.some ag 1 ?_)));simp[hC];refine TL.Hl ag OU rfl rfl rfl (by simp[ev,assoc];exact⟨rfl,rfl⟩) rfl λ b hb=>TL.nil ?_
 cases b with
 | true=>
  have h0:l=[]:=length_eq_zero_iff.1 (hb rfl);subst h0;simp;refine cX ?_;simp;apply aq;simp[hC];apply T.ret;simp only[fj];refine aa.le (Le.nz [2] []) ?_;simp;apply aa.here;simp
 | false=>
  refine eQ ?_;simp;apply aq;simp[hC,b1];apply T.ret;refine aa.le (Le.trim [2] [1] 2 (by simp[-all_eq_true,-all_map,aj tL]) yA) ?_;simp;refine aa.le (Le.cF (o:=1) rfl tL) ?_;simp[cK,kL];apply aa.here;simp
end Go.Proofs.YtlkmbdfhdknlgaaGreat
