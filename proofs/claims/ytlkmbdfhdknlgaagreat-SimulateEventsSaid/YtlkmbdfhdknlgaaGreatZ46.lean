/- The sanity check of the la -/
import Derived.Test.YtlkmbdfhdknlgaaGreatZ45
import Derived.Test.YtlkmbdfhdknlgaaGreatZ44
namespace Go.Proofs.YtlkmbdfhdknlgaaGreat
open Go.Can Go.aJ List Tryz
def uG:Un:=⟨[],[⟨⟨#[97]⟩,false,0⟩],[⟨⟨#[109,97,105,110]⟩,0,0,0,[.call false 1 [] [⟨false,0,none⟩],.ret]⟩,⟨⟨#[102]⟩,0,1,0,[.lock false ⟨true,0,none⟩,.lock false ⟨true,0,none⟩,.ret]⟩],0⟩
theorem DA:fV uG:=by
 refine⟨by decide,by decide,by decide,(λ g hg=>by cases hg),?_,rfl,?_,?_,?_⟩
 ·intro m hm;simp only[uG,mem_cons,not_mem_nil,or_false] at hm;subst hm;simp
 ·intro q hq;simp only[uG,getElem?_cons_zero,Option.some.injEq] at hq;subst hq;simp
 ·intro q hq;simp only[uG,mem_cons,not_mem_nil,or_false] at hq;rcases hq with rfl | rfl<;>simp
 ·intro q hq;simp only[uG,mem_cons,not_mem_nil,or_false] at hq;rcases hq with rfl | rfl
  ·refine⟨⟨[.call false 1 [] [⟨false,0,none⟩]],rfl⟩,λ i hi=>?_⟩;simp only[mem_cons,not_mem_nil,or_false] at hi;rcases hi with rfl | rfl
   ·exact⟨rfl,(λ e he=>by cases he),λ p hp=>by rw[mem_singleton.1 hp];exact .inr ⟨rfl,_,rfl,.inl ⟨rfl,rfl⟩⟩⟩
   ·trivial
  ·refine⟨⟨[.lock false ⟨true,0,none⟩,.lock false ⟨true,0,none⟩],rfl⟩,λ i hi=>?_⟩;simp only[mem_cons,not_mem_nil,or_false] at hi;rcases hi with rfl | rfl | rfl
   ·exact .inl ⟨rfl,by decide,rfl⟩
   ·exact .inl ⟨rfl,by decide,rfl⟩
   ·trivial
theorem QE:ae prog 27 DX (.cB [cg uG,I 0,I 0,I 0]):=by
 have h:=OZ.n7;have e:n7 IG=.cB [cg uG,I 0,I 0,I 0]:=by rfl
 rwa [e] at h
def OJ:Sy:=Mm uG [0,0] (oS uG)
theorem OI:ov uG 2 OJ:=Jj DA [0,0] (EE DA)
theorem as_pr:fz uG OJ (0:Int) 0=some (1,[(0,1),(1,1)]):=by kernel_rfl
theorem as_ev:sw uG OJ (0:Int)=(3,0):=by kernel_rfl
theorem No {C:Cx}{s:St}{o:Oper}{x y:Operand}{q:TypeId}{p:Nat×Nat}(hd:bm C.nt o.dst=true)(ho:o.op=.binOp .eql 54 x y q)(hx:ev s x=some (.agg (y6 p)))(hy:ev s y=some (.agg (y6 p)))(h1:p.1<=1000000)(h2:p.2<=1000000):qU prog C o s (s.put o.dst (.bool true)):=by
 have hc:kP (.agg (y6 p))=some (Q5 p):=rfl;have hk:qx 2 (Q5 p)=true:=by
  simp[qx,Q5,wI,CT];omega
 have hv:Bv (Q5 p) (Q5 p)=true:=by simp[Q5,Bv,vY,BH]
 refine xI ptEI hd ?_;simp only[C8,ho,hx,hy,hc,Qe,if_true,hk,and_self,hv]
noncomputable def asR:CV:=(qy (IH []) (Go.Can.aN prog (IH []) 300) 47 [cg uG,ints [0,0]]).getD (I 0)
set_option maxRecDepth 1000000 in
theorem as_run:ae prog 47 [cg uG,ints [0,0]] (.cB [cT OJ,I 2]):=by
 have h:ae prog 47 [cg uG,ints [0,0]] asR:=eK (I:=IH []) (O0 (by simp)) 300 (by kernel_rfl);have h:=h.n7;have e:n7 asR=.cB [cT OJ,I 2]:=by kernel_rfl
 rwa [e] at h
set_option maxRecDepth 100000 in
theorem as_ok:ae prog 15 [] (.bool true):=by
 obtain⟨ga,gb,hg1,Vq,tga,tgb⟩:∃ ga gb:List CV,IF=.cB [.agg [.aj,.ax ga 1,.ax gb 2],I 72,I 0]/\DX=[.agg [.aj,.ax ga 1,.ax gb 2]]/\trees ga=true/\trees gb=true:=⟨_,_,rfl,rfl,rfl,rfl⟩;have TZ:=OY;have Zn:=QE;rw[hg1] at TZ;rw[Vq] at Zn;have tpg:trees [.agg [.aj,.ax ga 1,.ax gb 2]]=true:=by simp only[trees,tree,Bool.and_self]
 have RY:=y4 uG DA;have hru:=as_run;have UU:=uT DA (by omega) OI 0 0 (by decide);have SN:=za DA (by omega) OI 0;rw[as_pr] at UU;rw[as_ev] at SN;have R6:=bj uG;have Xa:=ak ca (az uG).is;have Tp:=js (az uG).calls;have Yc:=aK (az uG).roots;have ZL:trees [cg uG]=true:=by simp only[trees,tree,cg,R6,Bool.and_self]
 have Y7:trees [cg uG,ints [0,0]]=true:=by simp only[trees,tree,cg,R6,da,Bool.and_self]
 have Y6:trees [cg uG,gC (az uG),cT OJ,I 0,I 0]=true:=by
  simp only[trees,tree,cg,R6,gC,eC,aB,cT,kX,ints,Bool.and_self]
 have ta4:trees [cg uG,gC (az uG),cT OJ,I 0]=true:=by
  simp only[trees,tree,cg,R6,gC,eC,aB,cT,kX,ints,Bool.and_self]
 simp only[Qw,LP] at UU;generalize uG=u at *;generalize OJ=y at *;simp only[cg,cR,gC,eC,cT,kX,ints,aB] at Zn RY hru UU SN ZL Y7 Y6 ta4;refine ae.aE ah Tryz.func15 rfl (by kernel_rfl) (by simp[Tryz.ntmps15]) rfl λ C hC RR=>?_;rw[Tryz.ntmps15] at hC;refine T.seq (T.go' ah ?_);simp[hC];refine T.seq (T.region (TL.some ah 1 ?_));simp[hC];refine mK rfl (Gb ah (by simp[hC]) rfl rfl (by omega) rfl rfl rfl rfl) ?_;simp[KM];refine TL.call (by simp[hC]) rfl rfl (bU.of rfl rfl TZ) (TL.go' ah ?_);simp[hC];refine T.le (Le.trim [0,1] [1] 2 (by simp[-all_eq_true]) (by omega)) ?_;simp;refine T.seq (T.go' ah ?_);simp[hC];refine TL.call (by simp[hC]) rfl rfl (bU.of rfl tpg Zn) (TL.go' ah ?_);simp[hC];refine T.seq (T.go' ah ?_);simp[hC];refine TL.call (by simp[hC]) rfl rfl (bU.of rfl ZL RY) (TL.go' ah ?_);simp[hC];refine T.seq (T.region (TL.some ah 2 ?_));simp[hC,aY];refine TL.le (Le.dn (o:=4) rfl rfl) ?_;simp;refine TL.call (by simp[hC]) rfl rfl (bU.of rfl Y7 hru) (TL.go' ah ?_);simp[hC];refine T.seq (T.go' ah ?_);simp[hC];refine TL.call (by simp[hC]) rfl rfl (bU.of rfl Y6 UU) (TL.go' ah ?_);simp[hC,y6];refine T.seq (T.go' ah ?_);simp[hC];refine TL.call (by simp[hC]) rfl rfl (bU.of rfl ta4 SN) (TL.go' ah ?_);simp[hC];refine T.seq (T.region (TL.some ah 18 ?_));simp[hC];refine mK rfl (No (p:=(1,1)) (by simp[hC]) rfl (by simp[y6]) (by simp[y6]) (by simp) (by simp)) (TL.go' ah ?_);simp[hC];refine T.ret ?_;refine aa.here ?_;simp[Tryz.results15]
theorem ue (b:Bool):ae prog 197 [.bool b] (I (vh b)):=by
 refine ae.aE ah Tryz.func197 rfl Ix (by simp[Tryz.ntmps197]) rfl λ C hC RR=>?_;rw[Tryz.ntmps197] at hC;cases b
 all_goals
  repeat first
   | apply T.seq
   | (apply aN;simp[hC])
   | (refine T.cond (b:=false) ?_ ?_;rfl;simp)
   | (refine T.cond (b:=true) ?_ ?_;rfl;simp)
   | (apply T.skip;simp)
   | apply T.block
  apply T.ret;apply aa.here;simp[Tryz.results197,vh]
theorem Nc {l:List Int}{i:Nat}{n:Int}(h:l[i]? = some n):(l.map dc).drop i=dc n::(l.drop (i+1)).map dc:=by
 obtain⟨h1,h2⟩:=List.getElem?_eq_some_iff.1 h;rw[<- map_drop,drop_eq_getElem_cons h1,h2,map_cons]
theorem uW {l:List Int}{i:Nat}{v:Int}(hv:l[i]? = some v):ae prog 196 [ints l,I i] (I v):=by
 have h:=(List.getElem?_eq_some_iff.1 hv).1;have hd:=Nc hv;have h0:¬ ((i:Int)<0):=by omega
 have h1:¬ (l.length<=i):=by omega
 refine ae.aE ah Tryz.func196 rfl Ix (by simp[Tryz.ntmps196]) rfl λ C hC RR=>?_;rw[Tryz.ntmps196] at hC;simp only[ints]
 repeat first
  | apply T.seq
  | (apply aN;simp[hC,h0,h1,h,hd])
  | (refine T.cond (b:=false) ?_ ?_;(first | rfl | (simp[ev,assoc,h0,h1,h,hd];done));simp)
  | (refine T.cond (b:=true) ?_ ?_;(first | rfl | (simp[ev,assoc,h0,h1,h,hd];done));simp)
  | (apply T.skip;simp)
  | apply T.block
 apply T.ret;apply aa.here;simp[Tryz.results196]
theorem zW (n:Int):wr n=(n+9223372036854775808) % 18446744073709551616-9223372036854775808:=by
 simp only[wr];rw[show IntKind.i64.wrap n=(n+9223372036854775808) % 18446744073709551616-9223372036854775808 from by simp[IntKind.wrap,IntKind.bits,IntKind.signed];omega]
theorem O2 (a x y:Int)(h:x % 18446744073709551616=y % 18446744073709551616):wr (a-x)=wr (a-y):=by
 rw[zW,zW];omega
theorem NZ (n:Int):wr n % 18446744073709551616=n % 18446744073709551616:=by
 rw[zW];omega
theorem Av (a b:Int):Ht a b=wr (a.tdiv b):=by
 unfold Ht;split
 ·rename_i h;subst h;rw[Int.tdiv_neg,Int.tdiv_one,Int.zero_sub]
 ·rfl
def ot (n:Int):Prop:=-9223372036854775808<=n/\n<=9223372036854775807
theorem Em (n:Int):ot (wr n):=by
 rw[ot,zW];omega
theorem Py {a:Int}(b:Int)(ha:ot a):IntKind.i64.wrap (a-wr (Ht a b*b))=a.tmod b:=by
 have h1:IntKind.i64.wrap (a-wr (Ht a b*b))=wr (a.tmod b):=by
  show wr _=_;rw[Av,O2 a _ (a.tdiv b*b) (by rw[NZ,Int.mul_emod,NZ,<- Int.mul_emod])];congr 1;have:=Int.tmod_add_mul_tdiv a b;rw[Int.mul_comm];omega
 rw[h1];have h2:(a.tmod b).natAbs<=a.natAbs:=by
  rw[Int.natAbs_tmod];exact Nat.mod_le _ _
 exact cF _ (by unfold ot at ha;omega) (by
  unfold ot at ha;by_cases h:0<=a
  ·omega
  ·have:=Int.tmod_nonneg b (by omega:0<=-a);rw[Int.neg_tmod] at this;omega)
set_option maxHeartbeats 4000000 in
theorem HA (k:Nat)(hk:k<11)(a b:Int)(ha:ot a):ae prog 198 [I ((5+k:Nat):Int),I a,I b] (.cB [I (sL k a b).1,I (sL k a b).2]):=by
 have hB:=ue;refine ae.aE ah Tryz.func198 rfl Ix (by simp[Tryz.ntmps198]) rfl λ C hC RR=>?_;rw[Tryz.ntmps198] at hC;rcases (show (k=0\/k=3\/k=4)\/(k=5\/k=6\/k=7\/k=8\/k=9\/k=10)\/k=1\/k=2 by omega) with h | h | rfl | rfl
 ·rcases h with rfl | rfl | rfl
  all_goals
   repeat first
    | apply T.seq
    | (apply aN;simp[hC])
    | (refine T.cond (b:=false) ?_ ?_;rfl;simp)
    | (refine T.cond (b:=true) ?_ ?_;rfl;simp)
    | (apply T.skip;simp)
    | apply T.block
   apply T.ret;apply aa.here;simp[Tryz.results198,sL,wr]
 ·rcases h with rfl | rfl | rfl | rfl | rfl | rfl
  all_goals
   repeat first
    | apply T.seq
    | (apply aN;simp[hC])
    | (refine T.cond (b:=false) ?_ ?_;rfl;simp)
    | (refine T.cond (b:=true) ?_ ?_;rfl;simp)
    | (apply T.skip;simp)
    | apply T.block
   refine cX rfl (hB _) ?_;simp[hC];apply T.ret;apply aa.here;simp[Tryz.results198,sL]
 ·by_cases hb:b=0
  ·subst hb
   repeat first
    | apply T.seq
    | (apply aN;simp[hC])
    | (refine T.cond (b:=false) ?_ ?_;rfl;simp)
    | (refine T.cond (b:=true) ?_ ?_;rfl;simp)
    | (apply T.skip;simp)
    | apply T.block
   apply T.ret;apply aa.here;simp[Tryz.results198,sL]
  ·repeat first
    | apply T.seq
    | (apply aN;simp[hC])
    | (refine T.cond (b:=false) ?_ ?_;(first | rfl | (simp[ev,assoc,hb];done));simp)
    | (refine T.cond (b:=true) ?_ ?_;(first | rfl | (simp[ev,assoc,hb];done));simp)
    | (apply T.skip;simp)
    | apply T.block
   refine T.cond (b:=false) (by simp[ev,assoc,hb]) (T.skip ?_);simp
   repeat first
    | apply T.seq
    | (apply aN;simp[hC,hb])
    | (refine T.cond (b:=false) ?_ ?_;(first | rfl | (simp[ev,assoc];done));simp)
    | (refine T.cond (b:=true) ?_ ?_;(first | rfl | (simp[ev,assoc,hb];done));simp)
    | (apply T.skip;simp)
    | apply T.block
   apply T.ret;apply aa.here;simp[Tryz.results198,sL,hb,Av,wr]
 ·by_cases hb:b=0
  ·subst hb
   repeat first
    | apply T.seq
    | (apply aN;simp[hC])
    | (refine T.cond (b:=false) ?_ ?_;rfl;simp)
    | (refine T.cond (b:=true) ?_ ?_;rfl;simp)
    | (apply T.skip;simp)
    | apply T.block
   apply T.ret;apply aa.here;simp[Tryz.results198,sL]
  ·have hr:=Py b ha
   repeat first
    | apply T.seq
    | (apply aN;simp[hC])
    | (refine T.cond (b:=false) ?_ ?_;(first | rfl | (simp[ev,assoc,hb];done));simp)
    | (refine T.cond (b:=true) ?_ ?_;(first | rfl | (simp[ev,assoc,hb];done));simp)
    | (apply T.skip;simp)
    | apply T.block
   refine T.cond (b:=false) (by simp[ev,assoc,hb]) (T.skip ?_);simp
   repeat first
    | apply T.seq
    | (apply aN;simp[hC,hb])
    | (refine T.cond (b:=false) ?_ ?_;(first | rfl | (simp[ev,assoc,hb];done));simp)
    | (refine T.cond (b:=true) ?_ ?_;(first | rfl | (simp[ev,assoc,hb];done));simp)
    | (apply T.skip;simp)
    | apply T.block
   apply T.ret;apply aa.here;simp only[wr] at hr;simp[Tryz.results198,sL,hb,hr,wr]
def Bu (gs ls:List Int):List CV:=[ints gs,ints ls]
theorem ml (gs ls:List Int):trees (Bu gs ls)=true:=by simp only[Bu,ints,trees,tree,Bool.and_self]
theorem oM (gs ls:List Int)(e:Ex)(a b:Int)(h1:e.args.length≠2->ae prog 171 [.agg (Bu gs ls),.agg (bf e)] (.cB [I a,I b]))(h2:e.args.length=2->ae prog 172 [.agg (Bu gs ls),.agg (bf e)] (.cB [I a,I b])):ae prog 136 [.agg (Bu gs ls),.agg (bf e)] (.cB [I a,I b]):=by
 have tt:trees [.agg (Bu gs ls),.agg (bf e)]=true:=by simp only[trees,tree,ml,aL,Bool.and_self]
 refine ae.aE ah Tryz.func136 rfl Ix (by simp[Tryz.ntmps136]) rfl λ C hC RR=>?_;rw[Tryz.ntmps136] at hC;rw[bW e] at h1 h2 tt |-;generalize e.args.flatMap bf=X at *;simp only[Bu,ints] at h1 h2 tt |-;by_cases h:e.args.length=2
 ·have hh:=h2 h;rw[h] at hh tt |-
  repeat first
   | apply T.seq
   | (apply aN;simp[hC])
   | (refine T.cond (b:=false) ?_ ?_;rfl;simp)
   | (refine T.cond (b:=true) ?_ ?_;rfl;simp)
   | (apply T.skip;simp)
   | apply T.block
  refine cX tt hh ?_;simp[hC];apply T.ret;apply aa.here;simp[Tryz.results136]
 ·have hh:=h1 h;have h3:((e.args.length:Int) == 2)=false:=by rw[beq_eq_false_iff_ne];omega
  repeat first
   | apply T.seq
   | (apply aN;simp[hC,h3])
   | (refine T.cond (b:=false) ?_ ?_;(first | rfl | (simp[ev,assoc,h3];done));simp)
   | (refine T.cond (b:=true) ?_ ?_;(first | rfl | (simp[ev,assoc,h3];done));simp)
   | (apply T.skip;simp)
   | apply T.block
  refine cX tt hh ?_;simp[hC];apply T.ret;apply aa.here;simp[Tryz.results136]
theorem FP (b:Bool):ot (vh b):=by
 cases b<;>simp[vh,ot]
theorem uw {gs ls:List Int}(hg:∀ n∈gs,ot n)(hl:∀ n∈ls,ot n){e:Ex}(h:vf gs.length ls.length e):ot (bN gs ls e).1:=by
 have h0:ot 0:=by simp[ot]
 cases e with
 | num n=>
  have h:n<4611686018427387904:=h;simp only[bN,ot];omega
 | loc i=>
  simp only[bN,getD_eq_getElem?_getD,getElem?_eq_getElem (h:i<ls.length),Option.getD_some];exact hl _ (getElem_mem _)
 | jk i=>
  simp only[bN,getD_eq_getElem?_getD,getElem?_eq_getElem (h:i<gs.length),Option.getD_some];exact hg _ (getElem_mem _)
 | un k e=>
  simp only[bN,unZ];split
  ·split
   ·exact Em _
   ·exact FP _
  ·exact h0
 | bin k a b=>
  have hb:∀ x y,ot (sL k x y).1:=λ x y=>by
   unfold sL
   repeat' split
   all_goals first | exact Em _ | exact FP _ | exact h0 | (rw[Av];exact Em _)
  simp only[bN]
  repeat' split
  all_goals first | exact hb _ _ | exact h0 | simp[ot]
 | _=>exact h.elim
set_option maxHeartbeats 4000000 in
set_option maxRecDepth 100000 in
theorem rX (gs ls:List Int)(hg:∀ n∈gs,ot n)(hl:∀ n∈ls,ot n):∀ (e:Ex),vf gs.length ls.length e->ae prog 136 [.agg (Bu gs ls),.agg (bf e)] (.cB [I (bN gs ls e).1,I (bN gs ls e).2])
 | .zero,h=>h.elim
 | .nm _,h=>h.elim
 | .num n,_=>oM _ _ _ _ _ (λ _=>by
  refine ae.aE ah Tryz.func171 rfl Ix (by simp[Tryz.ntmps171]) rfl λ C hC RR=>?_;rw[Tryz.ntmps171] at hC;simp only[bf,Bu,ints]
  repeat first
   | apply T.seq
   | (apply aN;simp[hC])
   | (refine T.cond (b:=false) ?_ ?_;rfl;simp)
   | (refine T.cond (b:=true) ?_ ?_;rfl;simp)
   | (apply T.skip;simp)
   | apply T.block
  apply T.ret;apply aa.here;simp[Tryz.results171,bN]) λ h=>by cases h
 | .loc i,h=>oM _ _ _ _ _ (λ _=>by
  obtain⟨v,hv⟩:∃ v,ls[i]? = some v:=⟨_,getElem?_eq_getElem (h:i<ls.length)⟩;have he:=uW hv;have te:trees [ints ls,I i]=true:=by simp only[ints,trees,tree,Bool.and_self]
  refine ae.aE ah Tryz.func171 rfl Ix (by simp[Tryz.ntmps171]) rfl λ C hC RR=>?_;rw[Tryz.ntmps171] at hC;simp only[bf,Bu,ints] at he te |-
  repeat first
   | apply T.seq
   | (apply aN;simp[hC])
   | (refine T.cond (b:=false) ?_ ?_;rfl;simp)
   | (refine T.cond (b:=true) ?_ ?_;rfl;simp)
   | (apply T.skip;simp)
   | apply T.block
  refine cX te he ?_;simp[hC];apply T.ret;apply aa.here;simp[Tryz.results171,bN,getD_eq_getElem?_getD,hv]) λ h=>by cases h
 | .jk i,h=>oM _ _ _ _ _ (λ _=>by
  obtain⟨v,hv⟩:∃ v,gs[i]? = some v:=⟨_,getElem?_eq_getElem (h:i<gs.length)⟩;have he:=uW hv;have te:trees [ints gs,I i]=true:=by simp only[ints,trees,tree,Bool.and_self]
  refine ae.aE ah Tryz.func171 rfl Ix (by simp[Tryz.ntmps171]) rfl λ C hC RR=>?_;rw[Tryz.ntmps171] at hC;simp only[bf,Bu,ints] at he te |-
  repeat first
   | apply T.seq
   | (apply aN;simp[hC])
   | (refine T.cond (b:=false) ?_ ?_;rfl;simp)
   | (refine T.cond (b:=true) ?_ ?_;rfl;simp)
   | (apply T.skip;simp)
   | apply T.block
  refine cX te he ?_;simp[hC];apply T.ret;apply aa.here;simp[Tryz.results171,bN,getD_eq_getElem?_getD,hv]) λ h=>by cases h
 | .un k e,h=>by
  have Wy:=rX gs ls hg hl e h.2;have hk:=h.1;refine oM _ _ _ _ _ (λ _=>?_) λ h=>by cases h
  have hA:bN gs ls (.un k e)=if (bN gs ls e).2=0 then (unZ k (bN gs ls e).1,0) else (0,(bN gs ls e).2):=rfl
  rw[hA];generalize bN gs ls e=A at Wy;obtain⟨va,fa⟩:=A;have tt:trees [.agg (Bu gs ls),.agg (bf e)]=true:=by simp only[trees,tree,ml,aL,Bool.and_self]
  simp only[bf];rw[bW e] at Wy tt |-;generalize e.op=e1 at Wy tt |-;generalize e.n=e2 at Wy tt |-;generalize e.name=e3 at Wy tt |-;generalize e.args.flatMap bf=e4 at Wy tt |-;generalize e.args.length=e5 at Wy tt |-;simp only[Bu,ints] at Wy tt |-;have Sa:=ue (va == 0);refine ae.aE ah Tryz.func171 rfl Ix (by simp[Tryz.ntmps171]) rfl λ C hC RR=>?_;rw[Tryz.ntmps171] at hC;obtain rfl | rfl:k=0\/k=1:=by omega
  all_goals
   repeat first
    | apply T.seq
    | (apply aN;simp[hC])
    | (refine T.cond (b:=false) ?_ ?_;rfl;simp)
    | (refine T.cond (b:=true) ?_ ?_;rfl;simp)
    | (apply T.skip;simp)
    | apply T.block
   refine T.rx ah follows [0,1,2,3,4,5,6,7,8,9,10] [] Ix ?_;simp[hC];refine RX.call rfl xr rfl rfl rfl tt Wy ?_;simp;by_cases hf:fa=0
   ·subst hf
    repeat first
     | apply T.seq
     | (apply aN;simp[hC])
     | (refine T.cond (b:=false) ?_ ?_;rfl;simp)
     | (refine T.cond (b:=true) ?_ ?_;rfl;simp)
     | (apply T.skip;simp)
     | apply T.block
    first
     | (apply T.ret;apply aa.here;simp[Tryz.results171,unZ,wr])
     | (refine cX rfl Sa ?_;simp[hC];apply T.ret;apply aa.here;simp[Tryz.results171,unZ])
   ·have SE:((fa:Int) != 0)=true:=by rw[bne_iff_ne];omega
    repeat first
     | apply T.seq
     | (apply aN;simp[hC,SE])
     | (refine T.cond (b:=false) ?_ ?_;(first | rfl | (simp[ev,assoc];done));simp)
     | (refine T.cond (b:=true) ?_ ?_;(first | rfl | (simp[ev,assoc,SE];done));simp)
     | (apply T.skip;simp)
     | apply T.block
    apply T.ret;apply aa.here;simp[Tryz.results171,hf]
 | .bin k a b,h=>by
  have Wy:=rX gs ls hg hl a h.2.1;have ihb:=rX gs ls hg hl b h.2.2;have hk:=h.1;have hra:=uw hg hl h.2.1;refine oM _ _ _ _ _ (λ h=>absurd rfl h) λ _=>?_;have hA:bN gs ls (.bin k a b)=if (bN gs ls a).2=0 then
   (if k=11/\(bN gs ls a).1=0 then (0,0) else if k=12/\(bN gs ls a).1≠0 then (1,0)
    else if (bN gs ls b).2=0 then sL k (bN gs ls a).1 (bN gs ls b).1 else (0,(bN gs ls b).2))
   else (0,(bN gs ls a).2):=rfl
  rw[hA];generalize bN gs ls a=A at Wy hra;generalize bN gs ls b=B at ihb;obtain⟨va,fa⟩:=A;obtain⟨vb,fb⟩:=B;have ta:trees [.agg (Bu gs ls),.agg (bf a)]=true:=by simp only[trees,tree,ml,aL,Bool.and_self]
  have tb:trees [.agg (Bu gs ls),.agg (bf b)]=true:=by simp only[trees,tree,ml,aL,Bool.and_self]
  simp only[bf];rw[bW a] at Wy ta |-;rw[bW b] at ihb tb |-;generalize a.op=a1 at *;generalize a.n=a2 at *;generalize a.name=a3 at *;generalize a.args.flatMap bf=a4 at *;generalize a.args.length=a5 at *;generalize b.op=b1 at *;generalize b.n=b2 at *;generalize b.name=b3 at *;generalize b.args.flatMap bf=b4 at *;generalize b.args.length=b5 at *;simp only[Bu,ints] at Wy ihb ta tb |-;have Sa:=ue (vb != 0);refine ae.aE ah Tryz.func172 rfl Ix (by simp[Tryz.ntmps172]) rfl λ C hC RR=>?_;rw[Tryz.ntmps172] at hC
  repeat first
   | apply T.seq
   | (apply aN;simp[hC])
   | (refine T.cond (b:=false) ?_ ?_;rfl;simp)
   | (refine T.cond (b:=true) ?_ ?_;rfl;simp)
   | (apply T.skip;simp)
   | apply T.block
  refine T.rx ah follows [0,1,2,3,4,5,6,7,8,9,10] [] Ix ?_;simp[hC];refine RX.call rfl xr rfl rfl rfl ta Wy ?_;simp;by_cases hf:fa=0
  rotate_left
  ·have SE:((fa:Int) != 0)=true:=by rw[bne_iff_ne];omega
   repeat first
    | apply T.seq
    | (apply aN;simp[hC,SE])
    | (refine T.cond (b:=false) ?_ ?_;(first | rfl | (simp[ev,assoc];done));simp)
    | (refine T.cond (b:=true) ?_ ?_;(first | rfl | (simp[ev,assoc,SE];done));simp)
    | (apply T.skip;simp)
    | apply T.block
   apply T.ret;apply aa.here;simp[Tryz.results172,hf]
  subst hf;by_cases h1:k=11/\va=0
  ·obtain⟨rfl,rfl⟩:=h1
   repeat first
    | apply T.seq
    | (apply aN;simp[hC])
    | (refine T.cond (b:=false) ?_ ?_;rfl;simp)
    | (refine T.cond (b:=true) ?_ ?_;rfl;simp)
    | (apply T.skip;simp)
    | apply T.block
   apply T.ret;apply aa.here;simp[Tryz.results172]
  by_cases h2:k=12/\va≠0
  ·obtain⟨rfl,h2⟩:=h2;have h3:(va != 0)=true:=by simp[h2]
   repeat first
    | apply T.seq
    | (apply aN;simp[hC,h3])
    | (refine T.cond (b:=false) ?_ ?_;(first | rfl | (simp[ev,assoc];done));simp)
    | (refine T.cond (b:=true) ?_ ?_;(first | rfl | (simp[ev,assoc,h3];done));simp)
    | (apply T.skip;simp)
    | apply T.block
   apply T.ret;apply aa.here;simp[Tryz.results172,h2]
  by_cases h3:k<11
  ·have g1:((5+(k:Int)) == 16)=false:=by rw[beq_eq_false_iff_ne];omega
   have g2:((5+(k:Int)) == 17)=false:=by rw[beq_eq_false_iff_ne];omega
   have X6:=HA k h3 va vb hra;have n1:k≠11:=by omega
   have n2:k≠12:=by omega
   repeat first
    | apply T.seq
    | (apply aN;simp[hC,g1,g2])
    | (refine T.cond (b:=false) ?_ ?_;(first | rfl | (simp[ev,assoc,g1,g2];done));simp)
    | (refine T.cond (b:=true) ?_ ?_;(first | rfl | (simp[ev,assoc,g1,g2];done));simp)
    | (apply T.skip;simp)
    | apply T.block
   refine T.rx ah follows [0,1,2,3,4,5,6,7,8,9,10] [] Ix ?_;simp[hC];refine RX.call rfl xr rfl rfl rfl tb ihb ?_;simp;by_cases hg:fb=0
   rotate_left
   ·have Vq:((fb:Int) != 0)=true:=by rw[bne_iff_ne];omega
    repeat first
     | apply T.seq
     | (apply aN;simp[hC,Vq])
     | (refine T.cond (b:=false) ?_ ?_;(first | rfl | (simp[ev,assoc];done));simp)
     | (refine T.cond (b:=true) ?_ ?_;(first | rfl | (simp[ev,assoc,Vq];done));simp)
     | (apply T.skip;simp)
     | apply T.block
    apply T.ret;apply aa.here;simp[Tryz.results172,hg,n1,n2]
   subst hg
   repeat first
    | apply T.seq
    | (apply aN;simp[hC,g1,g2])
    | (refine T.cond (b:=false) ?_ ?_;(first | rfl | (simp[ev,assoc,g1,g2];done));simp)
    | (refine T.cond (b:=true) ?_ ?_;(first | rfl | (simp[ev,assoc,g1,g2];done));simp)
    | (apply T.skip;simp)
    | apply T.block
   refine cX rfl X6 ?_;simp[hC];apply T.ret;apply aa.here;simp[Tryz.results172,n1,n2]
  ·have h8:(k=11/\va≠0)\/(k=12/\va=0):=by omega
   rcases h8 with ⟨rfl,hva⟩ | ⟨rfl,hva⟩
   ·repeat first
     | apply T.seq
     | (apply aN;simp[hC])
     | (refine T.cond (b:=false) ?_ ?_;rfl;simp)
     | (refine T.cond (b:=true) ?_ ?_;rfl;simp)
     | (apply T.skip;simp)
     | apply T.block
    refine T.cond (b:=false) (by simp[ev,assoc,hva]) (T.skip ?_);simp
    repeat first
     | apply T.seq
     | (apply aN;simp[hC])
     | (refine T.cond (b:=false) ?_ ?_;rfl;simp)
     | (refine T.cond (b:=true) ?_ ?_;rfl;simp)
     | (apply T.skip;simp)
     | apply T.block
    refine T.rx ah follows [0,1,2,3,4,5,6,7,8,9,10] [] Ix ?_;simp[hC];refine RX.call rfl xr rfl rfl rfl tb ihb ?_;simp;by_cases hg:fb=0
    rotate_left
    ·have Vq:((fb:Int) != 0)=true:=by rw[bne_iff_ne];omega
     repeat first
      | apply T.seq
      | (apply aN;simp[hC,Vq])
      | (refine T.cond (b:=false) ?_ ?_;(first | rfl | (simp[ev,assoc];done));simp)
      | (refine T.cond (b:=true) ?_ ?_;(first | rfl | (simp[ev,assoc,Vq];done));simp)
      | (apply T.skip;simp)
      | apply T.block
     apply T.ret;apply aa.here;simp[Tryz.results172,hg,hva]
    subst hg
    repeat first
     | apply T.seq
     | (apply aN;simp[hC])
     | (refine T.cond (b:=false) ?_ ?_;rfl;simp)
     | (refine T.cond (b:=true) ?_ ?_;rfl;simp)
     | (apply T.skip;simp)
     | apply T.block
    refine cX rfl Sa ?_;simp[hC];apply T.ret;apply aa.here;simp[Tryz.results172,sL,hva]
   ·rw[hva]
    repeat first
     | apply T.seq
     | (apply aN;simp[hC])
     | (refine T.cond (b:=false) ?_ ?_;rfl;simp)
     | (refine T.cond (b:=true) ?_ ?_;rfl;simp)
     | (apply T.skip;simp)
     | apply T.block
    refine T.rx ah follows [0,1,2,3,4,5,6,7,8,9,10] [] Ix ?_;simp[hC];refine RX.call rfl xr rfl rfl rfl tb ihb ?_;simp;by_cases hg:fb=0
    rotate_left
    ·have Vq:((fb:Int) != 0)=true:=by rw[bne_iff_ne];omega
     repeat first
      | apply T.seq
      | (apply aN;simp[hC,Vq])
      | (refine T.cond (b:=false) ?_ ?_;(first | rfl | (simp[ev,assoc];done));simp)
      | (refine T.cond (b:=true) ?_ ?_;(first | rfl | (simp[ev,assoc,Vq];done));simp)
      | (apply T.skip;simp)
      | apply T.block
     apply T.ret;apply aa.here;simp[Tryz.results172,hg]
    subst hg
    repeat first
     | apply T.seq
     | (apply aN;simp[hC])
     | (refine T.cond (b:=false) ?_ ?_;rfl;simp)
     | (refine T.cond (b:=true) ?_ ?_;rfl;simp)
     | (apply T.skip;simp)
     | apply T.block
    refine cX rfl Sa ?_;simp[hC];apply T.ret;apply aa.here;simp[Tryz.results172,sL]
theorem rY (gs ls:List Int)(hg:∀ n∈gs,ot n)(hl:∀ n∈ls,ot n)(e:Ex)(h:vf gs.length ls.length e):ae prog 95 [.agg (bf e),ints gs,ints ls] (.cB [I (bN gs ls e).1,I (bN gs ls e).2]):=by
 have he:=rX gs ls hg hl e h;have tt:trees [.agg (Bu gs ls),.agg (bf e)]=true:=by simp only[trees,tree,ml,aL,Bool.and_self]
 refine ae.aE ah Tryz.func95 rfl Ix (by simp[Tryz.ntmps95]) rfl λ C hC RR=>?_;rw[Tryz.ntmps95] at hC;rw[bW e] at he tt |-;generalize e.args.flatMap bf=X at *;simp only[Bu,ints] at he tt |-
 repeat first
  | apply T.seq
  | (apply aN;simp[hC])
  | (refine T.cond (b:=false) ?_ ?_;rfl;simp)
  | (refine T.cond (b:=true) ?_ ?_;rfl;simp)
  | (apply T.skip;simp)
  | apply T.block
 refine cX tt he ?_;simp[hC];apply T.ret;apply aa.here;simp[Tryz.results95]
end Go.Proofs.YtlkmbdfhdknlgaaGreat
namespace Go.Can
open Go.RowKit List
variable {P:Program}{C:Cx}{s:St}{ops:Array Oper}{av:List (Nat×TI)}
theorem TL.JS (ht:aD P av){o:Oper}{l:List Oper}{K:St->Prop}{t e:TypeId}{x y:Operand}{q:TypeId}{cs:List CV}{n:Nat}(VX:bm C.nt o.dst=true)(hg:bY ops s o=Option.some true)(ho:o.op=.binOp .eql t x y q)(hd:dM av t=Option.some (.sl e))(hx:ev s x=Option.some (.ax cs n))(hy:ev s y=Option.some .aj)
  (h:∀ b,(b=true->n=0)->TL P C ops l (s.put o.dst (.bool b)) K):TL P C ops (o::l) s K:=by
 refine TL.exec VX hg (λ s'=>∃ b,(b=true->n=0)/\s'=s.put o.dst (.bool b)) ?_ (by rintro s' ⟨b,hb,rfl⟩;exact h b hb);rintro a w ⟨σ,hr⟩;obtain⟨it,Sk,hd⟩:=Option.map_eq_some_iff.1 hd;have hu:=dI (ht t it Sk) hd;have hp:=bF hr hx;have hq:=bF hr hy;simp only[VR,cr] at hp hq;obtain⟨A,cap,e1,_,_,h4⟩:=hp;have he:(Op.equal t (.slice A n cap) (.slice none 0 0)).run P w=.ok A.isNone w:=oJ 9999 hu A n cap;refine⟨_,w,_,?_,⟨A.isNone,λ hb=>?_,rfl⟩,ec VX hr (dR _)⟩
 ·simp only[execOp,ho,e1,hq,Sem.run_bind,lh (op:=.eql) (t:=t) (x:=x) (y:=y) (u:=.slice A n cap) (v:=.slice none 0 0) xr xr,Result.andThen_ok,(jG he xr xr xr xr).1];rfl
 ·rcases h4 with ⟨h4,_⟩ | ⟨ad,rfl,_⟩
  ·exact h4
  ·cases hb
theorem TL.Ow (ht:aD P av){o:Oper}{l:List Oper}{K:St->Prop}{cl:Call}{t t' e:TypeId}{x y:Operand}{p f m:Nat}{q:CV}{cs:List CV}{ie:TI}(VX:bm C.nt o.dst=true)(hg:bY ops s o=Option.some true)(ho:o.op=.call cl)(RY:cl.callee=.builtin .copy)(RV:cl.args=#[x,y])(Tj:cl.argTypes=#[t,t'])
  (hd:dM av t=Option.some (.sl e)) (RU:assoc av e=Option.some ie) (hx:ev s x=Option.some (.bb p f 0)) (hy:ev s y=Option.some q) (Sw:cells? s q=Option.some (cs,m)) (h:TL P C ops l (s.put o.dst (.int .i64 0)) K):TL P C ops (o::l) s K:=by
 refine TL.exec VX hg (λ s'=>s'=s.put o.dst (.int .i64 0)) ?_ (by rintro s' rfl;exact h);rintro a w ⟨σ,hr⟩;obtain⟨it,Sk,hd⟩:=Option.map_eq_some_iff.1 hd;have hu:=dI (ht t it Sk) hd;obtain⟨f',z,g1,g2,_⟩:=(ht e ie RU).info;obtain⟨us,u1,u2,u3⟩:=cells?_ok hr (bF hr hy) Sw;have hlen:(Builtin.lenOf (a.eval y)).run P w=.ok m w:=by
  rcases u3 with ⟨c,e,rfl,rfl⟩ | ⟨ad,c,e,Ue⟩<;>simp[e,Builtin.lenOf]
 have Wo:(Builtin.firstCells ie.size 0 (a.eval y)).run P w=.ok #[] w:=by
  rcases u3 with ⟨c,e,rfl,rfl⟩ | ⟨ad,c,e,Ue⟩
  ·simp[e,Builtin.firstCells]
  ·rw[e];exact run_firstCells_some (P:=P) w ie.size 0 ad m c [] xr λ j x hx=>by simp at hx
 have hp:=bF hr hx;simp only[VR] at hp;obtain⟨B,hB,hp⟩:=hp;have hz:∃ A cap,a.eval x=.slice A 0 cap:=by
  split at hp
  ·exact⟨_,_,hp.1⟩
  ·obtain⟨cap,h,_⟩:=hp;exact⟨_,_,h⟩
 obtain⟨A,cap,hz⟩:=hz;refine⟨.int .i64 0,w,_,?_,rfl,ec VX hr (dU _ _)⟩;have Va:Nat.min m 0=0:=Nat.min_zero m;simp only[execOp,ho,resolve,RY,RV,Tj,Sem.run_bind,Sem.run_pure,Result.andThen_ok,invoke,builtin,Builtin.copy_,map_toArray,map_cons,map_nil];simp only[getElem?_toArray,getElem?_cons_zero,getElem?_cons_succ,Sem.run_bind,bz hu,hz,Result.andThen_ok,hlen,cP g1,g2,Va,Wo,goInt];cases A<;>rfl
end Go.Can
namespace Go.Proofs.YtlkmbdfhdknlgaaGreat
open Go.Can Go.aJ List Tryz
theorem zK (l:List Int)(hl:l.length<=1000000):Body prog av 29 [ints l] [] 0 (jC (.bb 0 0 l.length) [(0,⟨3,1,l.map dc⟩)] 1):=by
 have b1:l.length*8<=140737488355328:=by omega
 have tL:trees (l.map dc)=true:=aO l;refine Body.jv Tryz.func29 rfl Ix (by simp[Tryz.ntmps29]) λ C hC RR=>?_;rw[Tryz.ntmps29] at hC;simp only[ints];apply aq;simp[hC];refine T.seq (T.seq (T.region (TL.some ah 1 ?_)));simp[hC];refine TL.JS ah RT rfl rfl rfl (by simp[ev,assoc];exact⟨rfl,rfl⟩) rfl λ b hb=>TL.nil ?_
 cases b with
 | true=>
  have h0:l=[]:=length_eq_zero_iff.1 (hb rfl);subst h0;simp;refine dy ?_;simp;apply aq;simp[hC];apply T.ret;simp only[fy];refine aa.le (Le.own 2 3 1 rfl) ?_;simp;exact aa.here ⟨_,rfl,rfl,rfl,rfl⟩
 | false=>
  refine fX ?_;simp;apply aq;simp[hC,b1];apply T.ret;have rL:=λ ρ=>af ρ _ tL;refine aa.le (Le.norm [2] [(1,0)] 0 1 Sn Sl (by simp[cI,oe,mg,assoc,-all_eq_true,-all_flatMap,au tL]) yA) ?_;simp[cm,bh,cN,dZ,assoc,rL];exact aa.here ⟨_,rfl,rfl,rfl,rfl⟩
theorem uB (l:List Ho)(hl:l.length<=1000000):Body prog av 89 [.ax (l.flatMap dL) l.length] [] 0 (jC (.bb 0 0 l.length) [(0,⟨122,2,l.flatMap dL⟩)] 1):=by
 have b1:l.length*16<=140737488355328:=by omega
 have tL:trees (l.flatMap dL)=true:=ak cj l;have hf:=aC de l;refine Body.jv Tryz.func89 rfl Ix (by simp[Tryz.ntmps89]) λ C hC RR=>?_;rw[Tryz.ntmps89] at hC;apply aq;simp[hC];refine T.seq (T.seq (T.region (TL.some ah 1 ?_)));simp[hC];refine TL.JS ah RT rfl rfl rfl (by simp[ev,assoc];exact⟨rfl,rfl⟩) rfl λ b hb=>TL.nil ?_
 cases b with
 | true=>
  have h0:l=[]:=length_eq_zero_iff.1 (hb rfl);subst h0;simp;refine dy ?_;simp;apply aq;simp[hC];apply T.ret;simp only[fy];refine aa.le (Le.own 2 122 2 rfl) ?_;simp;exact aa.here ⟨_,rfl,rfl,rfl,rfl⟩
 | false=>
  refine fX ?_;simp;apply aq;simp[hC,b1,hf,aY,-length_flatMap];apply T.ret;have rL:=λ ρ=>af ρ _ tL;refine aa.le (Le.norm [2] [(1,0)] 0 1 Sn Sl (by simp[cI,oe,mg,assoc,-all_eq_true,-all_flatMap,au tL]) yA) ?_;simp[cm,bh,cN,dZ,assoc,rL];exact aa.here ⟨_,rfl,rfl,rfl,rfl⟩
theorem Hy (ms:List Mx)(gs ls:List Int)(hg:∀ n∈gs,ot n)(hl:∀ n∈ls,ot n)(L:Nat)(p:Pl)(hv:vW ms gs.length ls.length L p):ae prog 134 [.agg (gW p),.ax (ms.flatMap cH) ms.length,ints gs,ints ls] (.cB [I (gY ms gs ls p).1,I (gY ms gs ls p).2]):=by
 obtain⟨par,ix,at_⟩:=p
 match at_,hv with
 | none,_=>
  refine ae.aE ah Tryz.func134 rfl Ix (by simp[Tryz.ntmps134]) rfl λ C hC RR=>?_;rw[Tryz.ntmps134] at hC;simp only[gW,oc]
  repeat first
   | apply T.seq
   | (apply aN;simp[hC])
   | (refine T.cond (b:=false) ?_ ?_;rfl;simp)
   | (refine T.cond (b:=true) ?_ ?_;rfl;simp)
   | (apply T.skip;simp)
   | apply T.block
  apply T.ret;apply aa.here;simp[Tryz.results134,gY]
 | some e,hv=>
  have hx:∃ m,ms[ix]? = some m/\vf gs.length ls.length e:=by
   rcases hv with ⟨_,_,h⟩ | ⟨_,m,hm,h⟩
   ·cases h
   ·rcases h with ⟨h,_⟩ | ⟨e',he,h⟩
    ·cases h
    ·cases he;exact⟨m,hm,h.2⟩
  obtain⟨m,hm,he⟩:=hx;have SN:=rY gs ls hg hl e he;have S9:=b9 (f:=cH) (n:=3) (λ _=>rfl) hm 2 yA;have RS:ix<ms.length:=(List.getElem?_eq_some_iff.1 hm).1;have tg:trees (gs.map dc)=true:=aO gs;have tl:trees (ls.map dc)=true:=aO ls;have RQ:trees [.agg (bf e),ints gs,ints ls]=true:=by simp only[trees,tree,aL,ints,Bool.and_self]
  simp only[gY,hm];generalize hva:bN gs ls e=va at SN;obtain⟨v,f⟩:=va;simp only at SN |-;have h5:¬ ((ix:Int)<0):=by omega
  have h6:¬ (ms.length<=ix):=by omega
  have h7:¬ ((ms.length:Int)<=ix):=by omega
  refine ae.aE ah Tryz.func134 rfl Ix (by simp[Tryz.ntmps134]) rfl λ C hC RR=>?_;rw[Tryz.ntmps134] at hC;simp only[gW,oc]
  repeat first
   | apply T.seq
   | (apply aN;simp[hC])
   | (refine T.cond (b:=false) ?_ ?_;rfl;simp)
   | (refine T.cond (b:=true) ?_ ?_;rfl;simp)
   | (apply T.skip;simp)
   | apply T.block
  refine cX RQ SN ?_;simp[hC];by_cases hf:f=0
  ·subst hf;by_cases h0:v<0
   ·repeat first
     | apply T.seq
     | (apply aN;simp[hC,h0,h5,h7])
     | (refine T.cond (b:=false) ?_ ?_;(first | rfl | (simp[ev,assoc];done));simp)
     | (refine T.cond (b:=true) ?_ ?_;(first | rfl | (simp[ev,assoc,h0,h5,h6,h7];done));simp)
     | (apply T.skip;simp)
     | apply T.block
    apply T.ret;apply aa.here;simp[Tryz.results134]
   ·by_cases h1:(m.size:Int)<=v
    ·repeat first
      | apply T.seq
      | (apply aN;simp[hC,h0,h5,h7,RS,S9,cH,h1])
      | (refine T.cond (b:=false) ?_ ?_;(first | rfl | (simp[ev,assoc];done));simp)
      | (refine T.cond (b:=true) ?_ ?_;(first | rfl | (simp[ev,assoc,h0,h5,h6,h7,RS,S9,cH,h1];done));simp)
      | (apply T.skip;simp)
      | apply T.block
     apply T.ret;apply aa.here;simp[Tryz.results134]
    ·repeat first
      | apply T.seq
      | (apply aN;simp[hC,h0,h5,h7,RS,S9,cH,h1])
      | (refine T.cond (b:=false) ?_ ?_;(first | rfl | (simp[ev,assoc,h0,h5,h6,h7,RS,S9,cH,h1];done));simp)
      | (refine T.cond (b:=true) ?_ ?_;(first | rfl | (simp[ev,assoc,h0,h5,h6,h7,RS,S9,cH,h1];done));simp)
      | (apply T.skip;simp)
      | apply T.block
     apply T.ret;apply aa.here;simp[Tryz.results134]
  ·have SE:((f:Int) != 0)=true:=by rw[bne_iff_ne];omega
   repeat first
    | apply T.seq
    | (apply aN;simp[hC,SE])
    | (refine T.cond (b:=false) ?_ ?_;(first | rfl | (simp[ev,assoc];done));simp)
    | (refine T.cond (b:=true) ?_ ?_;(first | rfl | (simp[ev,assoc,SE];done));simp)
    | (apply T.skip;simp)
    | apply T.block
   apply T.ret;apply aa.here;simp[Tryz.results134,hf]
theorem uf (u:Un)(pr:Nat)(q:Pr)(hq:u.ps[pr]? = some q)(Ux:q.locals<=1000000)(G:List Int)(hG:G.length<=q.locals)(L:List Nat)(hL:L.length<=1000000)(g l:CV)(hg:g=ints G\/(g=.aj/\G=[]))(hl:l=aB L\/(l=.aj/\L=[])):ae prog 31 [cg u,I pr,g,l] (.agg (dY ⟨pr,0,G++replicate (q.locals-G.length) 0,L⟩)):=by
 have SR:=(List.getElem?_eq_some_iff.1 hq).1;have Qd:=b9 (f:=mW) (n:=5) iC hq 3 yA;have b2:8*(q.locals:Int)<=281474976710656:=by omega
 have b3:(q.locals:Int)<=9223372036854775807:=by omega
 have b4:8*(L.length:Int)<=281474976710656:=by omega
 have b5:(L.length:Int)<=9223372036854775807:=by omega
 have tG:trees (G.map dc)=true:=aO G;have tL:=aK L;have Sa:tree (.agg (dY ⟨pr,0,G++replicate (q.locals-G.length) 0,L⟩))=true:=by simp only[tree,cZ]
 refine ae.aE ah Tryz.func31 rfl Ix (by simp[Tryz.ntmps31]) Sa λ C hC RR=>?_;rw[Tryz.ntmps31] at hC;have eg:xd g=ints G:=by rcases hg with rfl | ⟨rfl,rfl⟩<;>rfl
 have el:xd l=aB L:=by rcases hl with rfl | ⟨rfl,rfl⟩<;>rfl
 refine T.le (Le.nz [2,3] []) ?_;simp[eg,el];clear hg hl eg el;simp only[cg,cR,ints,aB] at *;apply aq;simp[hC];refine T.seq (T.rx ah follows [0,1,2,3,4,5,6,7,8,9,10,11,12,13] [(2,10),(2,12),(6,10),(6,12),(7,10),(7,12),(10,12)] Ix ?_);simp[hC,SR,Qd,mW,b2,b3,b4,b5];refine T.le (Le.trim [9,8,2,3] [14,12,9,1] 16 (by simp[-all_eq_true,-all_flatMap,-all_map,-all_replicate,ai (ja _)]) yA) ?_;simp;have tZ:trees (replicate (q.locals-G.length) (I 0))=true:=ja _;have Xe:min G.length q.locals=G.length:=Nat.min_eq_left hG;have kG:take G.length (G.map dc)=G.map dc:=take_of_length_le xr;have kL:take L.length (L.map λ n:Nat=>I n)=L.map λ n:Nat=>I n:=take_of_length_le xr;refine T.cut (λ s=>s=⟨[(9,.aw 14 0),(8,.aw 1 0),(3,.ax (L.map λ n:Nat=>I n) L.length)],[(14,⟨77,0,[I pr,I 0,.bb 9 0 q.locals,.bb 12 0 L.length]⟩),(12,⟨3,1,replicate L.length (I 0)⟩),(9,⟨3,1,G.map dc++replicate (q.locals-G.length) (I 0)⟩),(1,⟨77,0,[I 0,I 0,.aj,.aj]⟩)],16⟩) ?_ ?_
 ·by_cases hz:q.locals=0
  ·have hG0:G=[]:=length_eq_zero_iff.1 yA;subst hG0;rw[hz];refine T.region (TL.some ah 3 ?_);simp[hC];refine TL.Ow ah RT rfl rfl rfl rfl rfl rfl rfl rfl rfl rfl (TL.nil ?_);simp;refine aa.trim [9,8,3] [14,12,9,1] 16 (by simp[-all_eq_true,-all_map,-all_replicate,ai (ja _)]) yA ?_;simp
  ·have hp:0<q.locals:=by omega
   apply aN;simp[hC,hp,Xe,kG];refine aa.trim [9,8,3] [14,12,9,1] 16 (by simp[-all_eq_true,-all_map,-all_replicate,ai tG,ai tZ,ai (ja _)]) yA ?_;simp
 ·rintro s rfl;refine T.cut (λ s=>s=⟨[(9,.aw 14 0),(8,.aw 1 0)],[(14,⟨77,0,[I pr,I 0,.bb 9 0 q.locals,.bb 12 0 L.length]⟩),(12,⟨3,1,L.map λ n:Nat=>I n⟩),(9,⟨3,1,G.map dc++replicate (q.locals-G.length) (I 0)⟩),(1,⟨77,0,[I 0,I 0,.aj,.aj]⟩)],16⟩) ?_ ?_
  ·by_cases hz:L=[]
   ·subst hz;refine T.region (TL.some ah 3 ?_);simp[hC];refine TL.Ow ah RT rfl rfl rfl rfl rfl rfl rfl rfl rfl rfl (TL.nil ?_);simp;refine aa.trim [9,8] [14,12,9,1] 16 (by simp[-all_eq_true,-all_map,-all_replicate,ai tG,ai tZ]) yA ?_;simp
   ·have hp:0<L.length:=length_pos_iff.2 hz;apply aN;simp[hC,hp,kL];refine aa.trim [9,8] [14,12,9,1] 16 (by simp[-all_eq_true,-all_map,-all_replicate,ai tL,ai tG,ai tZ]) yA ?_;simp
  ·rintro s rfl;apply aq;simp[hC];have eV:G.map dc++replicate (q.locals-G.length) (I 0)=(G++replicate (q.locals-G.length) 0).map dc:=by simp
   have tV:trees ((G++replicate (q.locals-G.length) 0).map dc)=true:=aO _;have lV:(G++replicate (q.locals-G.length) 0).length=q.locals:=by simp;omega
   rw[eV];generalize G++replicate (q.locals-G.length) 0=V at tV lV;have kV:take q.locals (V.map dc)=V.map dc:=take_of_length_le SO;apply T.ret;refine aa.le (Le.trim [8] [12,9,1] 16 (by simp[-all_eq_true,-all_map,-all_replicate,ai tL,ai tV]) yA) ?_;simp;refine aa.le (Le.dn (o:=12) rfl tL) ?_;simp[cw,kL];refine aa.le (Le.dn (o:=9) rfl tV) ?_;simp[cw,kV];apply aa.here;simp[dY,ints,aB,lV]
theorem mQ (l:List Int)(hl:l.length<=1000000):ae prog 29 [ints l] (ints l):=by
 have b1:l.length*8<=140737488355328:=by omega
 have tL:trees (l.map dc)=true:=aO l;have kL:take l.length (l.map dc)=l.map dc:=take_of_length_le xr;refine ae.aE ah Tryz.func29 rfl Ix (by simp[Tryz.ntmps29]) rfl λ C hC RR=>?_;rw[Tryz.ntmps29] at hC;simp only[ints];apply aq;simp[hC];refine T.seq (T.seq (T.region (TL.some ah 1 ?_)));simp[hC];refine TL.JS ah RT rfl rfl rfl (by simp[ev,assoc];exact⟨rfl,rfl⟩) rfl λ b hb=>TL.nil ?_
 cases b with
 | true=>
  have h0:l=[]:=length_eq_zero_iff.1 (hb rfl);subst h0;simp;refine dy ?_;simp;apply aq;simp[hC];apply T.ret;simp only[fy];refine aa.le (Le.nz [2] []) ?_;simp;apply aa.here;simp
 | false=>
  refine fX ?_;simp;apply aq;simp[hC,b1];apply T.ret;refine aa.le (Le.trim [2] [1] 2 (by simp[-all_eq_true,-all_map,ai tL]) yA) ?_;simp;refine aa.le (Le.dn (o:=1) rfl tL) ?_;simp[cw,kL];apply aa.here;simp
theorem L3 (ms:List Mx)(hm:Fo ms):ae prog 30 [.ax (ms.flatMap cH) ms.length] (.ax ((replicate (bR ms).length (⟨0,0⟩:Ho)).flatMap dL) (bR ms).length):=by
 have he:=u0 ms hm;have hn:(bR ms).length=dj ms:=ux ms 0;have hle:=xJ ms hm.2;have Tb:=hm.1;rw[hn];have RQ:trees [.ax (ms.flatMap cH) ms.length]=true:=by
  have:=dG ms;simp only[trees,tree,Bool.and_self]
 have tT:trees ((replicate (dj ms) (⟨0,0⟩:Ho)).flatMap dL)=true:=ak cj _;have kT:take (dj ms*2) ((replicate (dj ms) (⟨0,0⟩:Ho)).flatMap dL)=(replicate (dj ms) (⟨0,0⟩:Ho)).flatMap dL:=take_of_length_le (by rw[aC de,length_replicate];omega);have Sa:tree (.ax ((replicate (dj ms) (⟨0,0⟩:Ho)).flatMap dL) (dj ms))=true:=by simp only[tree]
 generalize dj ms=n at *;have b4:16*(n:Int)<=281474976710656:=by omega
 have b5:(n:Int)<=9223372036854775807:=by omega
 refine ae.aE ah Tryz.func30 rfl Ix (by simp[Tryz.ntmps30]) Sa λ C hC RR=>?_;rw[Tryz.ntmps30] at hC;apply aq;simp[hC];apply aq;simp[hC];refine cX RQ he ?_;simp[hC,b4,b5];rw[HY];apply T.ret;refine aa.le (Le.trim [2] [0] 1 (by simp[-all_eq_true,-all_flatMap,-all_replicate,ai tT]) yA) ?_;simp;refine aa.le (Le.dn (o:=0) rfl tT) ?_;simp[cw,kT];apply aa.here;simp
theorem Mw (u:Un)(hm:Fo u.ms)(hg:u.gs.length<=1000000)(q:Pr)(hq:u.ps[u.main]? = some q)(Ux:q.locals<=1000000):ae prog 8 [cg u] (cT (oS u)):=by
 have h1:=mQ u.gs hg;have h2:=L3 u.ms hm;have h3:=uf u u.main q hq Ux [] xr [] xr .aj .aj (.inr ⟨rfl,rfl⟩) (.inr ⟨rfl,rfl⟩);have t1:trees [ints u.gs]=true:=by simp only[ints,trees,tree,Bool.and_self]
 have t2:trees [.ax (u.ms.flatMap cH) u.ms.length]=true:=by
  have:=dG u.ms;simp only[trees,tree,Bool.and_self]
 have t3:trees [cg u,I u.main,.aj,.aj]=true:=by simp only[trees,tree,cg,bj,Bool.and_self]
 have hn:oS u=⟨u.gs,replicate (bR u.ms).length ⟨0,0⟩,[[⟨u.main,0,replicate q.locals 0,[]⟩]],0⟩:=by simp only[oS,hq]
 rw[hn];have Sa:tree (cT ⟨u.gs,replicate (bR u.ms).length ⟨0,0⟩,[[⟨u.main,0,replicate q.locals 0,[]⟩]],0⟩)=true:=by
  simp only[cT,kX,tree,trees,da,Bool.and_self]
 generalize bR u.ms=o at *;refine ae.aE ah Tryz.func8 rfl Ix (by simp[Tryz.ntmps8]) Sa λ C hC RR=>?_;rw[Tryz.ntmps8] at hC;simp only[cg,cR] at h3 t3 |-;apply aq;simp[hC];refine T.seq (T.rx ah follows [0,1,3,4,6,7,8,2,5,9,10,11,12,13,14] [(4,2),(6,2),(6,5),(8,2),(8,5)] Ix ?_);simp[hC];refine RX.call rfl xr rfl rfl rfl t1 h1 ?_;simp;refine RX.call rfl xr rfl rfl rfl t2 h2 ?_;simp;refine RX.call rfl xr rfl rfl rfl t3 h3 ?_;simp[dY,aB,aY];have tT:trees ((replicate o.length (⟨0,0⟩:Ho)).flatMap dL)=true:=ak cj _;have tG:trees (u.gs.map dc)=true:=aO u.gs;have tF:trees [I u.main,I 0,ints (replicate q.locals 0),.ax [] 0]=true:=by simp only[trees,tree,da,Bool.and_self]
 apply T.ret;refine aa.le (Le.trim [2] [1,14,12] 17 (by simp[-all_eq_true,-all_flatMap,-all_replicate,ints,-map_replicate,-all_map]) yA) ?_;simp;refine aa.le (Le.dn (o:=12) rfl tF) ?_;simp[cw];refine aa.le (Le.dn (o:=14) rfl (by simp only[trees,tree,Bool.and_self])) ?_;simp[cw];apply aa.here;simp[cT,kX,en,dY,aB]
end Go.Proofs.YtlkmbdfhdknlgaaGreat
