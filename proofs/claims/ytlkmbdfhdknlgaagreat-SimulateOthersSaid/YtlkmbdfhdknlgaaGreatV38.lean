/- The table of the machine: -/
import Derived.Test.YtlkmbdfhdknlgaaGreatV37
import Derived.DeepKeys3
namespace Go.Proofs.YtlkmbdfhdknlgaaGreat
open Go.Can Go.aV List Tryz
theorem mxRe {ms:List Mx}{i:Nat}{m:Mx}(h:ms[i]? = some m):(ms.flatMap cI).drop (i*3)=cI m++(ms.drop (i+1)).flatMap cI:=aH (f:=cI) (n:=3) ir h
theorem CZ (y:Ho):∀ (tb:List Ho) (e:Nat),e<tb.length->take (e*2) (tb.flatMap cg)++I y.o::I y.d::drop (e*2+2) (tb.flatMap cg)=(tb.set e y).flatMap cg
 | [],_,h=>by simp at h
 | a::r,0,_=>by simp[cg]
 | a::r,e+1,h=>by
  have ih:=CZ y r e Sa;rw[set_cons_succ,flatMap_cons,flatMap_cons,<- ih];have e1:(e+1)*2=e*2+2:=by omega
  rw[e1];simp[cg]
theorem zi (d:Nat):∀ (tb:List Ho) (e:Nat) (h:Ho),tb[e]? = some h->take (e*2+1) (tb.flatMap cg)++I d::drop (e*2+2) (tb.flatMap cg)=(tb.set e ⟨h.o,d⟩).flatMap cg
 | [],_,_,h=>by simp at h
 | a::r,0,h,hh=>by
  simp only[getElem?_cons_zero,Option.some.injEq] at hh;subst hh;simp[cg]
 | a::r,e+1,h,hh=>by
  have ih:=zi d r e h (by simpa using hh);rw[set_cons_succ,flatMap_cons,flatMap_cons,<- ih];have e1:(e+1)*2=e*2+2:=by omega
  rw[e1];simp[cg]
theorem zh (o:Nat):∀ (tb:List Ho) (e:Nat) (h:Ho),tb[e]? = some h->take (e*2) (tb.flatMap cg)++I o::drop (e*2+1) (tb.flatMap cg)=(tb.set e ⟨o,h.d⟩).flatMap cg
 | [],_,_,h=>by simp at h
 | a::r,0,h,hh=>by
  simp only[getElem?_cons_zero,Option.some.injEq] at hh;subst hh;simp[cg]
 | a::r,e+1,h,hh=>by
  have ih:=zh o r e h (by simpa using hh);rw[set_cons_succ,flatMap_cons,flatMap_cons,<- ih];have e1:(e+1)*2=e*2+2:=by omega
  rw[e1];simp[cg]
theorem Ks (ms:List Mx)(hm:ua ms)(tb:List Ho)(e th:Nat)(he:e<(a6 ms).length)(hl:tb.length=(a6 ms).length)(ho:∀ m∈a6 ms,m<ms.length)(ht:th<=1000000) :
  af prog 154 [.au (ms.flatMap cI) ms.length,.au (tb.flatMap cg) tb.length,I e,I th] (.bool (pF ms tb e th)):=by
 obtain⟨m,Tb⟩:∃ m,(a6 ms)[e]? = some m:=⟨_,getElem?_eq_getElem he⟩;have PY:e<tb.length:=by omega
 obtain⟨h,hh⟩:∃ h,tb[e]? = some h:=⟨_,getElem?_eq_getElem PY⟩;have Q3:=ho m (mem_of_getElem? Tb);obtain⟨x,hx⟩:∃ x,ms[m]? = some x:=⟨_,getElem?_eq_getElem Q3⟩;have VV:=vu ms hm e;have Zg:e9 ms e=m:=by simp[e9,Tb,show ¬ (e:Int)<0 by omega]
 rw[Zg] at VV;have hf:pF ms tb e th=(decide (h.o=0) || (decide (h.o=th+1) && x.re)):=by simp only[pF,Tb,hh,hx]
 rw[hf];have Rh:=aH (f:=cg) (n:=2) cm hh;have R9:=mxRe hx;have OQ:trees [.au (ms.flatMap cI) ms.length,I e]=true:=by simp only[trees,tree,Bool.and_self]
 have wt:=cw ((th:Int)+1) yA yA;refine af.aC ag Tryz.func154 rfl GK (by simp[Tryz.ntmps154]) rfl λ C hC OR=>?_;rw[Tryz.ntmps154] at hC;apply aq;simp[hC];apply aq;simp[hC];refine ct OQ VV ?_;simp[hC];have R5:¬ (m:Int)<0:=by omega
 have QV:¬ (th:Int)<0:=by omega
 apply aT;simp[hC,R5,QV];refine eQ ?_;simp;by_cases h0:h.o=0
 .apply aq;simp[hC,PY,Rh,cg,h0];refine T.ret (aa.here ?_);simp[Tryz.results154]
 .by_cases h1:h.o=th+1
  .have hz:(((th:Int)+1) == 0)=false:=by rw[beq_eq_false_iff_ne];omega
   apply aq;simp[hC,PY,Rh,cg,h1,hz,wt,Q3,R9,cI];refine T.ret (aa.here ?_);simp[Tryz.results154]
  .have h2:((h.o:Int) == (th:Int)+1)=false:=by rw[beq_eq_false_iff_ne];omega
   apply aq;simp[hC,PY,Rh,cg,h0,h2,wt];refine T.ret (aa.here ?_);simp[Tryz.results154,h1]
theorem J9 (ms:List Mx)(hm:ua ms)(tb:List Ho)(e th:Nat)(he:e<(a6 ms).length)(hl:tb.length=(a6 ms).length)(ho:∀ m∈a6 ms,m<ms.length)(ht:th<=1000000)(hb:tb.length<=1000000)(hd:∀ h∈tb,h.d<=1000000) :
  af prog 115 [.au (ms.flatMap cI) ms.length,.au (tb.flatMap cg) tb.length,I e,I th] (.bY [.au ((er ms tb e th).1.flatMap cg) (er ms tb e th).1.length,.bool (er ms tb e th).2]):=by
 have PY:e<tb.length:=by omega
 obtain⟨h,hh⟩:∃ h,tb[e]? = some h:=⟨_,getElem?_eq_getElem PY⟩;have hhd:=hd h (mem_of_getElem? hh);have PB:=Ks ms hm tb e th he hl ho ht;have Uf:=ah ba tb;have Rh:=aH (f:=cg) (n:=2) cm hh;have wt:=cw ((th:Int)+1) yA yA;have wd:=cw ((h.d:Int)+1) yA yA;have bd:tb.length*16<=140737488355328:=by omega
 have PS:(tb.flatMap cg).length=tb.length*2:=aA (f:=cg) (n:=2) cm tb;refine af.aC ag Tryz.func115 rfl GK (by simp[Tryz.ntmps115]) rfl λ C hC OR=>?_;rw[Tryz.ntmps115] at hC;apply aq;simp[hC];apply aq;simp[hC,bd,PS,aS];have VC:take (tb.length*2) (tb.flatMap cg)=tb.flatMap cg:=take_of_length_le yA;apply aT;simp[hC];refine TL.call OU rfl rfl (bR.lent (ds:=[.au (ms.flatMap cI) ms.length,.au (tb.flatMap cg) tb.length,I e,I th]) rfl (by generalize tb.flatMap cg=T at Uf VC |-;have ttb2:=iU Uf;simp[nr,zb,assoc,if_pos ttb2,VC,tree]) PB rfl) (TL.go' ag ?_);simp[hC]
 cases hf:pF ms tb e th with
 | false=>
  refine T.cond (b:=true) PC ?_;simp;apply aq;simp[hC];apply T.ret;refine aa.le (Le.trim [8,9] [1] 2 Z8 yA) ?_;simp;refine aa.le (Le.cF (o:=1) rfl Uf) ?_;simp[VC];apply aa.here;simp[er,hf]
 | true=>
  have Si:er ms tb e th=(tb.set e ⟨th+1,h.d+1⟩,true):=by simp only[er,hf,hh,if_true]
  rw[Si];refine T.cond (b:=false) PC (T.skip ?_);simp;have Sv:(tb.flatMap cg)[e*2+1]? = some (I h.d):=by rw[<- getElem?_drop,Rh];rfl
  have Q0:e*2+2<=tb.length*2:=by omega
  have O6:=CZ ⟨th+1,h.d+1⟩ tb e PY;rw[show (((th+1:Nat):Int))=(th:Int)+1 from rfl,show (((h.d+1:Nat):Int))=(h.d:Int)+1 from rfl] at O6;have TB:=ah ba (tb.set e ⟨th+1,h.d+1⟩);have TZ:take (tb.length*2) ((tb.set e ⟨th+1,h.d+1⟩).flatMap cg)=(tb.set e ⟨th+1,h.d+1⟩).flatMap cg:=take_of_length_le Xz;apply aq;simp[hC,PY,Sv,PS,wt,wd,Q0];rw[O6];apply aq;simp[hC];apply T.ret;refine aa.le (Le.trim [8,9] [1] 2 XC yA) ?_;simp;refine aa.le (Le.cF (o:=1) rfl TB) ?_;simp[TZ];apply aa.here;simp
theorem EC (ms:List Mx)(hm:ua ms)(tb:List Ho)(e th:Nat)(he:e<(a6 ms).length)(hl:tb.length=(a6 ms).length)(ht:th<=1000000)(hb:tb.length<=1000000)(hd:∀ h∈tb,h.d<=1000000/\(h.o≠0->0<h.d)) :
  af prog 116 [.au (ms.flatMap cI) ms.length,.au (tb.flatMap cg) tb.length,I e,I th] (.bY [.au ((da ms tb e th).1.flatMap cg) (da ms tb e th).1.length,.bool (da ms tb e th).2]):=by
 have PY:e<tb.length:=by omega
 obtain⟨m,Tb⟩:∃ m,(a6 ms)[e]? = some m:=⟨_,getElem?_eq_getElem he⟩;obtain⟨h,hh⟩:∃ h,tb[e]? = some h:=⟨_,getElem?_eq_getElem PY⟩;obtain⟨hhd,hhp⟩:=hd h (mem_of_getElem? hh);have VV:=vu ms hm e;have Zg:e9 ms e=m:=by simp[e9,Tb,show ¬ (e:Int)<0 by omega]
 rw[Zg] at VV;have OQ:trees [.au (ms.flatMap cI) ms.length,I e]=true:=by simp only[trees,tree,Bool.and_self]
 have Uf:=ah ba tb;have Rh:=aH (f:=cg) (n:=2) cm hh;have wt:=cw ((th:Int)+1) yA yA;have bd:tb.length*16<=140737488355328:=by omega
 have PS:(tb.flatMap cg).length=tb.length*2:=aA (f:=cg) (n:=2) cm tb;have VC:take (tb.length*2) (tb.flatMap cg)=tb.flatMap cg:=take_of_length_le yA;have ZS:(tb.flatMap cg)[e*2]? = some (I h.o):=by
  have:=congrArg (·[0]?) Rh
  simpa [cg] using this
 have Sv:(tb.flatMap cg)[e*2+1]? = some (I h.d):=by rw[<- getElem?_drop,Rh];rfl
 have R5:¬ (m:Int)<0:=by omega
 have QV:¬ (th:Int)<0:=by omega
 have YP:da ms tb e th=if h.o=th+1 then (tb.set e (if h.d=1 then ⟨0,0⟩ else ⟨th+1,h.d-1⟩),true) else (tb,false):=by simp only[da,Tb,hh]
 rw[YP];refine af.aC ag Tryz.func116 rfl GK (by simp[Tryz.ntmps116]) rfl λ C hC OR=>?_;rw[Tryz.ntmps116] at hC;apply aq;simp[hC];apply aq;simp[hC,bd,PS,aS];apply aT;simp[hC];refine ct OQ VV ?_;by_cases R3:h.o=th+1
 .rw[if_pos R3];have Rx:((h.o:Int) != (th:Int)+1)=false:=by rw[bne_eq_false_iff_eq];omega
  have Wz:=hhp yA;simp[hC,R5,QV,PY,ZS,wt,Rx];refine eQ ?_;simp;have wd:=cw ((h.d:Int)-1) yA yA;have Q0:e*2+2<=tb.length*2:=by omega
  have WY:=zi (h.d-1) tb e h hh;rw[show (((h.d-1:Nat):Int))=(h.d:Int)-1 by omega] at WY;apply aq;simp[hC,PY,Sv,PS,wd,Q0];rw[show e*2+1+1=e*2+2 from rfl,WY];have T7:(tb.set e ⟨h.o,h.d-1⟩)[e]? = some ⟨h.o,h.d-1⟩:=by rw[getElem?_set,if_pos rfl,if_pos PY]
  have P3:(tb.set e ⟨h.o,h.d-1⟩).length=tb.length:=by simp
  have YW:(tb.set e ⟨h.o,h.d-1⟩).set e ⟨0,h.d-1⟩=tb.set e ⟨0,h.d-1⟩:=by simp
  have Zy:(⟨h.o,h.d-1⟩:Ho)=⟨th+1,h.d-1⟩:=by rw[R3]
  by_cases Qa:h.d=1
  .rw[if_pos Qa];generalize tb.set e ⟨h.o,h.d-1⟩=t2 at T7 P3 YW;have Uj:=zh 0 t2 e _ T7;rw[YW,show (⟨0,h.d-1⟩:Ho)=⟨0,0⟩ by rw[Qa],show (((0:Nat):Int))=0 from rfl] at Uj;have Sn:=aH (f:=cg) (n:=2) cm T7;have Qk:(t2.flatMap cg)[e*2+1]? = some (I 0):=by rw[<- getElem?_drop,Sn];simp[cg,Qa]
   have Sk:(t2.flatMap cg).length=tb.length*2:=by rw[aA (f:=cg) (n:=2) cm,P3]
   have hb3:e*2+1<=tb.length*2:=by omega
   have TB:=ah ba (tb.set e ⟨0,0⟩);have TZ:take (tb.length*2) ((tb.set e ⟨0,0⟩).flatMap cg)=(tb.set e ⟨0,0⟩).flatMap cg:=take_of_length_le Xz;apply aT;simp[hC,PY,Qk];refine cX ?_;simp;apply aG;simp[hC,PY,Sk,hb3];rw[Uj];apply aq;simp[hC];apply T.ret;refine aa.le (Le.trim [8,9] [1] 2 XC yA) ?_;simp;refine aa.le (Le.cF (o:=1) rfl TB) ?_;simp[TZ];apply aa.here;simp
  .rw[if_neg Qa];rw[Zy] at T7 P3 |-;have Sn:=aH (f:=cg) (n:=2) cm T7;have TB:=ah ba (tb.set e ⟨th+1,h.d-1⟩);have TZ:take (tb.length*2) ((tb.set e ⟨th+1,h.d-1⟩).flatMap cg)=(tb.set e ⟨th+1,h.d-1⟩).flatMap cg:=take_of_length_le Xz;have hlS:(tb.set e ⟨th+1,h.d-1⟩).length=tb.length:=by simp
   generalize tb.set e ⟨th+1,h.d-1⟩=t2 at T7 P3 Sn TB TZ hlS |-;have Qk:(t2.flatMap cg)[e*2+1]? = some (I (h.d-1:Nat)):=by rw[<- getElem?_drop,Sn];rfl
   have W8:(((h.d-1:Nat):Int) == 0)=false:=by rw[beq_eq_false_iff_ne];omega
   apply aT;simp[hC,PY,Qk,W8];refine T.cond (b:=false) PC (T.skip ?_);simp;apply aq;simp[hC];apply T.ret;refine aa.le (Le.trim [8,9] [1] 2 XC yA) ?_;simp;refine aa.le (Le.cF (o:=1) rfl TB) ?_;simp[TZ];apply aa.here;simp
 .rw[if_neg R3];have Rx:((h.o:Int) != (th:Int)+1)=true:=by rw[bne_iff_ne];omega
  simp[hC,R5,QV,PY,ZS,wt,Rx];refine cX ?_;simp;apply aq;simp[hC];apply T.ret;refine aa.le (Le.trim [8,9] [1] 2 Z8 yA) ?_;simp;refine aa.le (Le.cF (o:=1) rfl Uf) ?_;simp[VC];apply aa.here;simp
end Go.Proofs.YtlkmbdfhdknlgaaGreat
namespace Go.Can
open Go.RowKit List
def IZ (P:Program)(av:List (Nat×TI))(f:FuncId)(args:List CV)(H:List (Nat×Ob))(n:Nat)(ks:List Nat)(R:CV->St->Prop):Prop:=
 ∃ fn c, P.funcs[f]? = some fn /\ fn.body = some c /\ (fn.name == "runtime.NumGoroutine") = false /\ args.length <= fn.ntmps /\
  ∀ C:Cx,C.nt=fn.ntmps->C.n0=n->(∀ k∈ks,∀ B b,C.σ0 k=some B->B.j7=some b->C.own b\/C.w0.heap.size<=b)->T P C c ⟨(enter args).env,H,n⟩ (Ii C av fn R)
def wI:Value->Bool
 | .int .i64 n=>zM n
 | _=>false
theorem zT {v:Value}(h:wI v=true):∃ n,v=.int .i64 n/\(Lit.int .i64 n).wf=true:=by
 unfold wI at h;split at h
 .rename_i n;refine⟨n,rfl,?_⟩;simp only[zM,Bool.and_eq_true,decide_eq_true_eq] at h;simp[Lit.wf,IntKind.min,IntKind.max,IntKind.signed,IntKind.bits];omega
 .cases h
theorem mapM_some {α β:Type}{f:α->Option β}:∀ (l:List α),(l.mapM f).isSome=l.all λ x=>(f x).isSome
 | []=>by simp
 | x::r=>by
  rw[mapM_cons]
  cases h:f x with
  | none=>simp[h]
  | some y=>
   have:=mapM_some (f:=f) r
   cases h2:r.mapM f with
   | none=>simp[h,h2] at this |-;simpa using this
   | some z=>simp[h,h2] at this |-;simpa using this
theorem qM {P:Program}:∀ (d:Nat) (t:TypeId) (cs ds:List Value),cs.length=ds.length->(cs.all wI=true)->(ds.all wI=true)->(P.keyLits d t ds).isSome=true->(P.keyLits d t cs).isSome=true
 | 0,_,_,_,_,_,_,h=>by simp[Program.keyLits] at h
 | d+1,t,cs,ds,hl,hc,hd,h=>by
  have sub:∀ u n m,(P.keyLits d u ((ds.drop n).take m)).isSome=true->(P.keyLits d u ((cs.drop n).take m)).isSome=true:=λ u n m hs=>by
   refine qM d u _ _ (by simp[hl]) ?_ ?_ hs
   .exact all_eq_true.2 λ x hx=>all_eq_true.1 hc x (mem_of_mem_drop (mem_of_mem_take hx))
   .exact all_eq_true.2 λ x hx=>all_eq_true.1 hd x (mem_of_mem_drop (mem_of_mem_take hx))
  unfold Program.keyLits at h |-
  cases hu:P.underlying t with
  | none=>rw[hu] at h;simp at h
  | some u=>
   rw[hu] at h
   cases u with
   | array n e=>
    simp only[hl] at h |-;split at h
    .rename_i he;rw[if_pos he];rw[Option.isSome_map,mapM_some] at h |-;exact all_eq_true.2 λ i hi=>sub _ _ _ (all_eq_true.1 h i hi)
    .cases h
   | struct fs=>
    simp only[hl] at h |-;split at h
    .rename_i he;rw[if_pos he];rw[Option.isSome_map,mapM_some] at h |-;exact all_eq_true.2 λ i hi=>sub _ _ _ (all_eq_true.1 h i hi)
    .cases h
   | int q=>
    match ds,cs,hl,hc,hd,h with
    | [x],[y],_,hc,hd,h=>
     simp only[all_cons,all_nil,Bool.and_true] at hc hd;obtain⟨n,rfl,w1⟩:=zT hd;obtain⟨m,rfl,w2⟩:=zT hc;simp only at h |-;split at h
     .rename_i he;obtain⟨rfl,_⟩:=he;rw[if_pos ⟨rfl,w2⟩];rfl
     .cases h
    | [],_,_,_,_,h=>simp at h
    | _::_::_,_,_,_,_,h=>simp at h
   | bool=>
    cases ds with
    | nil=>simp at h
    | cons x r=>
     simp only[all_cons,Bool.and_eq_true] at hd;obtain⟨n,rfl,_⟩:=zT hd.1;simp at h
   | string=>
    cases ds with
    | nil=>simp at h
    | cons x r=>
     simp only[all_cons,Bool.and_eq_true] at hd;obtain⟨n,rfl,_⟩:=zT hd.1;simp at h
   | _=>simp at h
def n7 (n:Nat):Value->Bool
 | .agg cs=>decide (cs.size=n) && cs.toList.all wI
 | _=>false
theorem yT {n:Nat}{v:Value}(h:n7 n v=true):∃ cs,v=.agg cs/\cs.size=n/\cs.toList.all wI=true:=by
 unfold n7 at h;split at h
 .simp only[Bool.and_eq_true,decide_eq_true_eq] at h;exact⟨_,rfl,h⟩
 .cases h
def x9 (P:Program)(m n:Nat)(t:TypeId):Bool:=P.keyTypeAt m t && P.tiled m t && (match P.underlying t with | some (.array _ _) | some (.struct _)=>true | _=>false) && P.keyType t && (P.cellsOf t == n) && (P.keyLits (P.types.size+1) t (replicate n (.int .i64 0))).isSome
theorem Bu {P:Program}{m n:Nat}{t:TypeId}(h:x9 P m n t=true){v:Value}(hv:n7 n v=true):∃ l,keyOf P t v=some l:=by
 simp only[x9,Bool.and_eq_true,beq_iff_eq] at h;obtain⟨⟨⟨⟨⟨h1,h2⟩,h3⟩,h4⟩,h5⟩,h6⟩:=h;obtain⟨cs,rfl,hn,hw⟩:=yT hv;have hk:=qM (P:=P) (P.types.size+1) t cs.toList (replicate n (.int .i64 0)) (by simp[hn]) hw (by simp[all_replicate,wI,zM]) h6;obtain⟨L,hL⟩:=Option.isSome_iff_exists.1 hk;have hf:(Value.agg cs).formed P t=true:=by
  unfold Value.formed;split at h3<;>rename_i e<;>simp only[e,hn,h5,beq_self_eq_true] at h3 |-;cases h3
 have hif:(if P.keyType t && (Value.agg cs).formed P t then (P.keyLits (P.types.size+1) t (Value.agg cs).cells.toList).map λ ls=>Lit.string (keyBytes ls) else none)=some (.string (keyBytes L)):=by
  rw[if_pos (by rw[h4,hf];rfl),show (Value.agg cs).cells=cs from rfl,hL];rfl
 refine⟨_,Eq.trans ?_ hif⟩;unfold keyOf;split
 .rfl
 .rfl
 .exfalso;split at h3
  .simp_all
  .simp_all
  .cases h3
theorem G0 {n:Nat}{v:Value}(h:n7 n v=true):I9 v=true:=by
 obtain⟨cs,rfl,_,hw⟩:=yT h;simp only[I9];refine all_eq_true.2 λ x hx=>?_;obtain⟨k,rfl,_⟩:=zT (all_eq_true.1 hw x hx);rfl
theorem Bn {P:Program}{m n:Nat}{t:TypeId}(hm:m+1<=10000)(h:x9 P m n t=true)(hg:P.eqGuardType P.depth t=false):EqT P t (n7 n):=by
 have h':=h;simp only[x9,Bool.and_eq_true,beq_iff_eq] at h';refine⟨λ w x y hx hy=>?_,hg,λ x hx=>(yT hx).imp λ _ h=>h.1⟩;obtain⟨lx,ex⟩:=Bu h hx;obtain⟨ly,ey⟩:=Bu h hy;obtain⟨r,hr,hi⟩:=run_equal_deep w (by omega:m<=10000) h'.1.1.1.1.1 h'.1.1.1.2 ex ey;have hq:(Op.equalIn 10000 t x y).run P w=.ok r w:=hr;rw[hq];congr 1;have SB:r=true↔x=y:=by
  rw[hi];refine⟨λ e=>?_,λ e=>?_⟩
  .subst e;exact keyOf_inj_deep h'.1.1.1.1.2 h'.1.1.1.2 ex ey
  .subst e;rw[ex] at ey;exact Option.some.inj ey
 have hv:wJ x y=true↔x=y:=⟨rJ,λ e=>by subst e;exact qk (G0 hx)⟩;cases r<;>cases hh:wJ x y<;>simp_all
end Go.Can
namespace Go.aV
open Go.Can
def js (p:Int)(ls:List Int):List CV:=gC [I p,I ls.length,I 0,I 0,I 0,I 0,I 0,I 0] 2 (ls.map λ n:Int=>I n)
end Go.aV
namespace Go.Proofs.YtlkmbdfhdknlgaaGreat
open Go.Can Go.aV List
theorem uO:∀ (k:Nat) (l:List CV),trees l=true->trees (l.drop k)=true
 | 0,l,h=>by simpa using h
 | _+1,[],_=>by simp
 | k+1,c::l,h=>by
  simp only[trees,Bool.and_eq_true] at h;rw[drop_succ_cons];exact uO k l h.2
theorem AT (p:Int)(ls:List Int)(hl:ls.length<=6):af Tryz.prog 132 [.agg [I p,ints ls]] (.bY [.agg (js p ls),.bool true]):=by
 have Vc:tree (ints ls)=true:=by simp[ints,tree]
 have tkc:trees (js p ls)=true:=by
  have:trees (ls.map λ n:Int=>I n)=true:=aB ls;have hd:∀ k,trees (drop k [I p,I ls.length,I 0,I 0,I 0,I 0,I 0,I 0])=true:=λ k=>uO k _ rfl;simp only[js,gC,aF,this,hd];rfl
 have O1:tree (.bY [.agg (js p ls),.bool true])=true:=by simp only[tree,trees,tkc];rfl
 have Pa:(js p ls).length=8:=by simp[js,gC];omega
 have VI:(js p ls).take 8=js p ls:=take_of_length_le yA;have dl:∀ k,((drop k [CV.int .i64 p,CV.int .i64 ls.length,CV.int .i64 0,CV.int .i64 0,CV.int .i64 0,CV.int .i64 0,CV.int .i64 0,CV.int .i64 0]).all (aU 3))=true:=λ k=>all_eq_true.2 λ x hx=>by
  have:=mem_of_mem_drop hx;simp only[mem_cons,not_mem_nil,or_false] at this;rcases this with rfl | rfl | rfl | rfl | rfl | rfl | rfl | rfl<;>rfl
 refine af.aC ag Tryz.func132 rfl GK (by simp[Tryz.ntmps132]) O1 λ C hC OR=>?_;rw[Tryz.ntmps132] at hC;simp only[ints];apply aq;simp[hC];apply aq;simp[hC];have h6:¬ (6:Int)<ls.length:=by omega
 apply aT;simp[hC,h6];refine T.cond (b:=false) PC (T.skip ?_);simp;have hmn:min ls.length 6=ls.length:=by omega
 have Pb:(ls.map λ n:Int=>I n).take ls.length=ls.map λ n:Int=>I n:=take_of_length_le xr;have TM:(js p ls).all one=true:=by
  simp[js,gC,one];exact λ x hx=>by
   have:x∈[I p,I ls.length,I 0,I 0,I 0,I 0,I 0,I 0]:=mem_of_mem_drop hx;simp only[mem_cons,not_mem_nil,or_false] at this;rcases this with rfl | rfl | rfl | rfl | rfl | rfl | rfl | rfl<;>rfl
 refine T.cut (λ s=>s=⟨[(4,.ax 2 0),(2,.ax 1 0)],[(1,⟨221,0,[I 0,I 0,I 0,I 0,I 0,I 0,I 0,I 0]⟩),(2,⟨221,0,js p ls⟩)],3⟩) ?_ ?_
 .refine T.explore ag follows [0,2] GK GK xr (TH.go' ?_);simp[hC];refine TX.two (i:=1) (j:=3) GK rfl rfl (TL.go' ag ?_) (TL.go' ag ?_)
  .simp[hC];refine TX.one (i:=3) GK rfl (TL.go' ag ?_);simp[hC];refine TX.one (i:=4) GK rfl (TL.go' ag ?_);simp[hC,hmn,Pb];refine TX.end GK ?_;refine aa.trim [4,2] [1,2] 3 (by simp[-all_eq_true];exact⟨all_eq_true.2 λ _ _=>rfl,dl _⟩) yA ?_;simp[js]
  .simp[hC];refine TX.one (i:=1) GK rfl (TL.go' ag ?_);simp[hC];refine TX.one (i:=4) GK rfl (TL.go' ag ?_);simp[hC,hmn,Pb];refine TX.end GK ?_;refine aa.trim [4,2] [1,2] 3 (by simp[-all_eq_true];exact⟨all_eq_true.2 λ _ _=>rfl,dl _⟩) yA ?_;simp[js]
 .rintro s rfl;have hxx:(I p::I ls.length::I 0::I 0::I 0::I 0::I 0::[I 0]).length=8:=rfl;apply aq;simp[hC,Pa,VI,drop_of_length_le];apply T.ret;apply aa.here;simp[Tryz.results132,Pa,VI]
theorem FA (p:Int)(ls:List Int)(hl:6<ls.length):af Tryz.prog 132 [.agg [I p,ints ls]] (.bY [.agg [I 0,I 0,I 0,I 0,I 0,I 0,I 0,I 0],.bool false]):=by
 have Vc:tree (ints ls)=true:=by simp[ints,tree]
 refine af.aC ag Tryz.func132 rfl GK (by simp[Tryz.ntmps132]) rfl λ C hC OR=>?_;rw[Tryz.ntmps132] at hC;simp only[ints];apply aq;simp[hC];apply aq;simp[hC];have h6:(6:Int)<ls.length:=by omega
 apply aT;simp[hC,h6];refine T.cond (b:=true) PC ?_;simp;apply aq;simp[hC];apply T.ret;apply aa.here;simp[Tryz.results132]
end Go.Proofs.YtlkmbdfhdknlgaaGreat
namespace Go.aV
open Go.Can
theorem Ld {cs:List CV}(h:cs.length=11):∃ c1 c2 c3 c4 c5 c6 c7 c8 c9 c10 c11,cs=[c1,c2,c3,c4,c5,c6,c7,c8,c9,c10,c11]:=by
 match cs,h with
 | [a,b,c,d,e,f,g,h,i,j,k],_=>exact⟨a,b,c,d,e,f,g,h,i,j,k,rfl⟩
end Go.aV
namespace Go.Proofs.YtlkmbdfhdknlgaaGreat
open Go.Can Go.aV List Tryz
theorem Ic (e:Ex):(a8 e).all one=true:=by cases e<;>rfl
theorem JQ (o:Option Ex):one (mA o)=true:=by rw[od];rfl
theorem G8 (q:Pl):(fC q).all one=true:=by simp only[fC,all_cons,all_nil,JQ];rfl
theorem AZ (x:In):(df x).all one=true:=by
 cases x<;>simp only[df,cons_append,nil_append,append_assoc,all_append,all_cons,all_nil,Ic,G8,one,Bool.and_self,Bool.and_true,Bool.true_and]<;>rfl
theorem Hp (is:Is)(q:Pl)(h:q.param=true->q.index<is.bz.length):af prog 34 [.agg (gI is),.agg (fC q)] (I (lC is q)):=by
 refine af.aC ag Tryz.func34 rfl GK (by simp[Tryz.ntmps34]) rfl λ C hC OR=>?_;rw[Tryz.ntmps34] at hC;simp only[gI,fC,aN,od];apply aq;simp[hC]
 cases hq:q.param with
 | true=>
  have OT:=h hq;obtain⟨n,hn⟩:∃ n,is.bz[q.index]? = some n:=⟨_,getElem?_eq_getElem OT⟩;have OS:=kj hn;have Sg:lC is q=n:=by simp[lC,hq,getD_eq_getElem?_getD,hn]
  apply aT;simp[hC,OT];refine cX ?_;simp;apply aq;simp[hC,OT,OS];apply T.ret;apply aa.here;simp[Tryz.results34,Sg]
 | false=>
  have Sg:lC is q=q.index:=by simp[lC,hq]
  apply aT;simp[hC];refine eQ ?_;simp;apply aq;simp[hC];apply T.ret;apply aa.here;simp[Tryz.results34,Sg]
theorem EK {ts:List (List Fr)}{i:Nat}{l:List Fr}(h:ts[i]? = some l):(ts.flatMap cd).drop i=cd l++(ts.drop (i+1)).flatMap cd:=by
 have:=aH (f:=cd) (n:=1) jH h
 simpa using this
theorem Ch (s:Sy)(t:Int)(hb:s.ts.length<=1000000/\∀ l∈s.ts,l.length<=1000000):af prog 149 [bp s,I t] (uc (cN s t)):=by
 have O1:tree (uc (cN s t))=true:=by
  cases cN s t<;>rfl
 refine af.aC ag Tryz.func149 rfl GK (by simp[Tryz.ntmps149]) O1 λ C hC OR=>?_;rw[Tryz.ntmps149] at hC;simp only[bp,dK,ints];apply aq;simp[hC];by_cases h0:t<0
 .have hn:cN s t=none:=by simp[cN,h0]
  rw[hn];apply aT;simp[hC,h0];refine T.cond (b:=true) PC ?_;simp;apply aq;simp[hC];apply T.ret;refine aa.le (Le.trim [4,5] [1] 2 xr yA) ?_;simp;refine aa.le (Le.nz [] [1]) ?_;apply aa.here;simp[uc,M7]
 .obtain⟨k,rfl⟩:∃ k:Nat,t=k:=⟨t.toNat,by omega⟩;by_cases hk:k<s.ts.length
  .obtain⟨l,hl⟩:∃ l,s.ts[k]? = some l:=⟨_,getElem?_eq_getElem hk⟩;have Q4:=EK hl;have QE:¬ (s.ts.length<=k):=by omega
   have hlb:=hb.2 l (mem_of_getElem? hl);by_cases Re:l=[]
   .have hn:cN s k=none:=by simp[cN,hl,Re]
    rw[hn];subst Re;apply aT;simp[hC,h0,QE,hk,Q4,cd];refine T.cond (b:=true) PC ?_;simp;apply aq;simp[hC];apply T.ret;refine aa.le (Le.trim [4,5] [1] 2 xr yA) ?_;simp;refine aa.le (Le.nz [] [1]) ?_;apply aa.here;simp[uc,M7]
   .have Zi:0<l.length:=length_pos_iff.2 Re;have X1:((l.length:Int) == 0)=false:=by rw[beq_eq_false_iff_ne];omega
    by_cases hf:s.fault=0
    .obtain⟨f,PS⟩:∃ f,l[l.length-1]? = some f:=⟨_,getElem?_eq_getElem yA⟩;have hn:cN s k=some f:=by simp[cN,hl,hf,getLast?_eq_getElem?,PS]
     rw[hn];have So:=aH (f:=cZ) (n:=4) cL PS;have wl:=cw ((l.length-1:Nat):Int) yA yA;have Sv:((l.length:Int)-1)=((l.length-1:Nat):Int):=by omega
     have OT:l.length-1<l.length:=by omega
     apply aT;simp[hC,h0,QE,hk,Q4,cd,X1,hf];refine eQ ?_;simp;apply aq;simp[hC,hk,Q4,cd];apply aq;simp[hC,Sv,wl,OT,So,cZ];apply T.ret;refine aa.le (Le.trim [4,5] [1] 2 (by simp[bq 2 _ (bT f.b9)]) yA) ?_;simp;apply aa.here;simp[uc,cZ]
    .have hn:cN s k=none:=by simp[cN,hf]
     rw[hn];have O9:((s.fault:Int) != 0)=true:=by rw[bne_iff_ne];omega
     apply aT;simp[hC,h0,QE,hk,Q4,cd,X1,O9];refine T.cond (b:=true) PC ?_;simp;apply aq;simp[hC];apply T.ret;refine aa.le (Le.trim [4,5] [1] 2 xr yA) ?_;simp;refine aa.le (Le.nz [] [1]) ?_;apply aa.here;simp[uc,M7]
  .have hn:cN s k=none:=by simp[cN,getElem?_eq_none (Nat.le_of_not_lt hk)]
   have QE:s.ts.length<=k:=by omega
   rw[hn];apply aT;simp[hC,h0,QE];refine T.cond (b:=true) PC ?_;simp;apply aq;simp[hC];apply T.ret;refine aa.le (Le.trim [4,5] [1] 2 xr yA) ?_;simp;refine aa.le (Le.nz [] [1]) ?_;apply aa.here;simp[uc,M7]
theorem gW (s:Sy)(n:Nat):af prog 112 [bp s,I n] (.bY [bp { s with fault:=n },.bool true]):=by
 refine af.aC ag Tryz.func112 rfl GK (by simp[Tryz.ntmps112]) rfl λ C hC OR=>?_;rw[Tryz.ntmps112] at hC;simp only[bp,dK,ints];apply aq;simp[hC];apply aq;simp[hC];apply aq;simp[hC];apply T.ret;apply aa.here;simp[Tryz.results112]
def gg:Option In->CV
 | some i=>.bY [.agg (df i),.bool true]
 | none=>.bY [.agg [I 0,I 0,.bool false,I 0,I 0,.str eS,.au [] 0,.bool false,I 0,.au [] 0,.au [] 0,.au [] 0],.bool false]
theorem yx (n:Nat){cs:List CV}(h:trees cs=true):∀ c∈cs,aU n c=true:=λ c hc=>bq n c (iU h c hc)
def ur (u:Un)(s:Sy):Prop:=∀ l∈s.ts,∀ f∈l,∃ q,u.ps[f.proc]? = some q/\f.pc<q.code.length
theorem qo {s:Sy}{t:Int}{f:Fr}(h:cN s t=some f):∃ l∈s.ts,f∈l:=by
 unfold cN at h;split at h
 .cases h
 .split at h
  .rename_i l hl;exact⟨l,mem_of_getElem? hl,mem_of_getLast? h⟩
  .cases h
theorem dy (u:Un)(s:Sy)(t:Int)(hb:s.ts.length<=1000000/\∀ l∈s.ts,l.length<=1000000)(hf:ur u s):af prog 109 [cb u,bp s,I t] (gg (dR u s t)):=by
 have Q2:=Ch s t hb;have O1:tree (gg (dR u s t))=true:=by
  cases dR u s t with
  | none=>rfl
  | some i=>simp only[gg,tree,trees,eE,Bool.and_self]
 have PR:=bt u;simp only[eD,ints] at PR;have P7:trees [bp s,I t]=true:=by simp only[trees,tree,bp,dK,ints,Bool.and_self]
 refine af.aC ag Tryz.func109 rfl GK (by simp[Tryz.ntmps109]) O1 λ C hC OR=>?_;rw[Tryz.ntmps109] at hC;simp only[bp,dK,cb,eD,ints] at Q2 P7 |-;apply aq;simp[hC];apply aq;simp[hC];refine ct P7 Q2 ?_
 cases R2:cN s t with
 | none=>
  have hn:dR u s t=none:=by simp[dR,R2]
  rw[hn];simp[hC,uc,M7];apply aT;simp[hC];refine cX ?_;simp;apply aq;simp[hC];apply T.ret;refine aa.le (Le.trim [6,7] [2] 3 xr yA) ?_;simp;refine aa.le (Le.nz [] [2]) ?_;apply aa.here;simp[gg,eS]
 | some f=>
  obtain⟨l,Rd,P3⟩:=qo R2;obtain⟨q,hq,gJ⟩:=hf l Rd f P3;obtain⟨z,hz⟩:∃ z,q.code[f.pc]? = some z:=⟨_,getElem?_eq_getElem gJ⟩;have hn:dR u s t=some z:=by simp[dR,R2,hq,hz]
  rw[hn];have Qx:=(List.getElem?_eq_some_iff.1 hq).1;have OS:=cq (f:=mw) (n:=5) jM hq 4 yA;have Ub:=aH (f:=df) (n:=12) jS hz;have TM:=AZ z;have XG:=eE z;obtain⟨zc,YH,XO⟩:=zg z;obtain⟨c1,c2,c3,c4,c5,c6,c7,c8,c9,c10,c11,rfl⟩:=Ld XO;rw[YH] at Ub TM XG;simp only[all_cons,all_nil,Bool.and_true,Bool.and_eq_true] at TM;obtain⟨_,o1,o2,o3,o4,o5,o6,o7,o8,o9,o10,o11⟩:=TM;simp[hC,uc,cZ];apply aT;simp[hC];refine eQ ?_;simp;refine T.seq (T.rx ag follows [0,1,2,3,4,5,6,7,8,9,10,11,12] [] GK ?_);simp[hC,Qx,OS,mw,gJ,Ub];apply T.ret;refine aa.le (Le.trim [6,7] [2] 17 (by simp[-all_eq_true,yx 17 XG]) yA) ?_;simp;apply aa.here;simp[gg,YH]
def aZ (u:Un)(s:Sy)(t:Int)(p:Pl):Int×Nat:=match cN s t with
 | none=>(0,0)
 | some f=>if p.param=true then (((f.b9.getD p.index 0:Nat):Int),0) else
   if (ej u.ms s.gs f.ay p).2=0 then (wr (tv u.ms p.index+(ej u.ms s.gs f.ay p).1),0) else (0,(ej u.ms s.gs f.ay p).2)
theorem HN (ms:List Mx)(gs ls:List Int)(L:Nat)(p:Pl)(hv:pN ms gs.length ls.length L p):af prog 152 [.agg (fC p),.au (ms.flatMap cI) ms.length,ints gs,ints ls] (.bY [I (ej ms gs ls p).1,I (ej ms gs ls p).2]):=by
 obtain⟨par,ix,at_⟩:=p
 match at_,hv with
 | none,_=>
  refine af.aC ag Tryz.func152 rfl GK (by simp[Tryz.ntmps152]) rfl λ C hC OR=>?_;rw[Tryz.ntmps152] at hC;simp only[fC,mA];apply aq;simp[hC];apply aT;simp[hC];refine cX ?_;simp;apply aq;simp[hC];apply T.ret;apply aa.here;simp[Tryz.results152,ej]
 | some e,hv=>
  have hx:∃ m,ms[ix]? = some m/\px gs.length ls.length e:=by
   rcases hv with ⟨_,_,h⟩ | ⟨_,m,hm,h⟩
   .cases h
   .rcases h with ⟨h,_⟩ | ⟨e',he,h⟩
    .cases h
    .cases he;exact⟨m,hm,h.2⟩
  obtain⟨m,hm,he⟩:=hx;have Pv:=mL gs ls e he;have P9:=aH (f:=cI) (n:=3) ir hm;have OT:ix<ms.length:=(List.getElem?_eq_some_iff.1 hm).1;have OQ:trees [.agg (a8 e),ints gs,ints ls]=true:=by simp only[trees,tree,aJ,bD,Bool.and_self]
  simp only[ej,hm];generalize WS:aW gs ls e=va at Pv;obtain⟨v,f⟩:=va;simp only at Pv |-;refine af.aC ag Tryz.func152 rfl GK (by simp[Tryz.ntmps152]) rfl λ C hC OR=>?_;rw[Tryz.ntmps152] at hC;simp only[fC,mA];apply aq;simp[hC];apply aT;simp[hC];refine eQ ?_;simp;apply aq;simp[hC];refine ct OQ Pv ?_;simp[hC];by_cases hf:f=0
  .subst hf;apply aT;simp[hC];refine eQ ?_;simp;by_cases h0:v<0
   .apply aT;simp[hC,h0];refine T.cond (b:=true) PC ?_;simp;apply aq;simp[hC];apply T.ret;apply aa.here;simp[Tryz.results152]
   .by_cases h1:(m.size:Int)<=v
    .apply aT;simp[hC,h0,OT,P9,cI,h1];refine T.cond (b:=true) PC ?_;simp;apply aq;simp[hC];apply T.ret;apply aa.here;simp[Tryz.results152]
    .apply aT;simp[hC,h0,OT,P9,cI,h1];refine T.cond (b:=false) PC (T.skip ?_);simp;apply aq;simp[hC];apply T.ret;apply aa.here;simp[Tryz.results152]
  .have O9:((f:Int) != 0)=true:=by rw[bne_iff_ne];omega
   apply aT;simp[hC,O9];refine T.cond (b:=true) PC ?_;simp;apply aq;simp[hC];apply T.ret;apply aa.here;simp[Tryz.results152,hf]
theorem qa (u:Un)(s:Sy)(t:Int)(p:Pl)(hm:ua u.ms)(hb:s.ts.length<=1000000/\∀ l∈s.ts,l.length<=1000000)(_hp:p.index<=1000000)
  (hv:∀ f,cN s t=some f->pN u.ms s.gs.length f.ay.length f.b9.length p):af prog 114 [cb u,bp s,I t,.agg (fC p)] (.bY [I (aZ u s t p).1,I (aZ u s t p).2]):=by
 have Q2:=Ch s t hb;have OQ:trees [bp s,I t]=true:=by simp only[trees,tree,bp,dK,ints,Bool.and_self]
 have tix:∀ (f:Fr),trees [.agg (fC p),.au (u.ms.flatMap cI) u.ms.length,ints s.gs,ints f.ay]=true:=λ f=>by
  simp only[trees,tree,cJ,bD,Bool.and_self]
 have tba:trees [.au (u.ms.flatMap cI) u.ms.length,I p.index]=true:=by simp only[trees,tree,Bool.and_self]
 cases O5:cN s t with
 | none=>
  rw[O5] at Q2;refine af.aC ag Tryz.func114 rfl GK (by simp[Tryz.ntmps114]) rfl λ C hC OR=>?_;rw[Tryz.ntmps114] at hC;simp only[bp,dK,cb,eD,fC,ints] at *;apply aq;simp[hC];apply aq;simp[hC];refine ct OQ Q2 ?_;simp[hC,uc,M7];apply aT;simp[hC];refine cX ?_;simp;apply aq;simp[hC];apply T.ret;apply aa.here;simp[Tryz.results114,aZ,O5]
 | some f=>
  rw[O5] at Q2;have Qb:=hv f O5;have Rp:=HN u.ms s.gs f.ay f.b9.length p Qb;have Yu:=tix f;have Yc:=KP u.ms hm p.index;have O7:aZ u s t p=if p.param=true then (((f.b9.getD p.index 0:Nat):Int),0) else
   if (ej u.ms s.gs f.ay p).2=0 then (wr (tv u.ms p.index+(ej u.ms s.gs f.ay p).1),0) else (0,(ej u.ms s.gs f.ay p).2):=by
   simp only[aZ,O5]
  rw[O7];generalize ej u.ms s.gs f.ay p=x at Rp |-;obtain⟨v,g⟩:=x;refine af.aC ag Tryz.func114 rfl GK (by simp[Tryz.ntmps114]) rfl λ C hC OR=>?_;rw[Tryz.ntmps114] at hC;simp only[bp,dK,cb,eD,fC,ints] at *;apply aq;simp[hC];apply aq;simp[hC];refine ct OQ Q2 ?_;simp[hC,uc,cZ];apply aT;simp[hC];refine eQ ?_;simp
  cases Wp:p.param with
  | true=>
   have Rv:p.index<f.b9.length:=by
    rcases Qb with h | h
    .exact h.2.1
    .rw[Wp] at h;cases h.1
   obtain⟨a,ha⟩:∃ a,f.b9[p.index]? = some a:=⟨_,getElem?_eq_getElem Rv⟩;have SG:=kj ha;apply aT;simp[hC];refine cX ?_;simp;apply aq;simp[hC,aN,Rv,SG];apply T.ret;apply aa.here;simp[Tryz.results114,(List.getElem?_eq_some_iff.1 ha).2]
  | false=>
   apply aT;simp[hC];refine eQ ?_;simp;apply aq;simp[hC,ints];rw[Wp] at Rp Yu;refine ct Yu Rp ?_;simp[hC];by_cases hg:g=0
   .subst hg;apply aT;simp[hC];refine eQ ?_;simp;apply aq;simp[hC];refine ct tba Yc ?_;simp[hC];apply T.ret;apply aa.here;simp[Tryz.results114,wr]
   .have QN:((g:Int) != 0)=true:=by rw[bne_iff_ne];omega
    apply aT;simp[hC,QN];refine T.cond (b:=true) PC ?_;simp;apply aq;simp[hC];apply T.ret;apply aa.here;simp[Tryz.results114,hg]
theorem ch (l:List (List Fr)):l.flatMap cd=l.map λ x=>.au (x.flatMap cZ) x.length:=by
 induction l with
 | nil=>rfl
 | cons a r ih=>rw[flatMap_cons,ih];rfl
set_option maxHeartbeats 2000000 in
set_option maxRecDepth 100000 in
theorem gX (s:Sy)(t:Nat)(l0:List Fr)(f:Fr)(hl:s.ts[t]? = some (l0++[f]))(h1:s.gs.length<=1000000)(h2:s.tb.length<=1000000)(h3:s.ts.length<=1000000)(h4:l0.length<=1000000)(h5:f.ay.length<=1000000) :
  Body prog av 110 [bp s,I t] [] 0 (jk (.agg [.bg 0 0 s.gs.length,.bg 1 0 s.tb.length,.bg 2 0 s.ts.length,I s.fault])
   [(0,⟨3,1,s.gs.map bj⟩),(1,⟨122,2,s.tb.flatMap cg⟩),(2,⟨81,1,(s.ts.take t).flatMap cd++.bg 3 0 (l0.length+1)::(s.ts.drop (t+1)).flatMap cd⟩),
    (3,⟨77,4,l0.flatMap cZ++[I f.proc,I f.pc,.bg 4 0 f.ay.length,aN f.b9]⟩),(4,⟨3,1,f.ay.map bj⟩),(5,⟨40,0,[.bg 0 0 s.gs.length,.bg 1 0 s.tb.length,.bg 2 0 s.ts.length,I s.fault]⟩)] 6):=by
 have hd:=EK hl;have O5:=(List.getElem?_eq_some_iff.1 hl).1;refine Body.jb Tryz.func110 rfl GK (by simp[Tryz.ntmps110]) λ C hC OR=>?_;rw[Tryz.ntmps110] at hC;simp only[bp,dK,ints];have b1:s.gs.length*8<=140737488355328:=by omega
 have b2:s.tb.length*16<=140737488355328:=by omega
 have b3:s.ts.length*24<=140737488355328:=by omega
 apply aq;simp[hC];refine T.seq (T.rx ag follows [0,1,2,3,4,5,6,7,8,9,10,11,12,13,14,15,16] [(0,2),(0,4),(0,6),(0,8),(0,10),(0,13),(0,15),(2,4),(2,8),(2,15),(3,4),(3,6),(3,8),(3,10),(3,13),(3,15),(4,6),(4,8),(4,10),(4,13),(4,15),(6,8),(6,15),(7,8),(7,10),(7,13),(7,15),(8,10),(8,13),(8,15),(10,15),(11,13),(11,15),(13,15)] GK ?_);simp[hC,b1,b2,b3,-length_flatMap,aA cm,aA jH,aS];have tG:trees (s.gs.map bj)=true:=aB s.gs;have tT:trees (s.tb.flatMap cg)=true:=ah ba _;have tL:trees (l0.flatMap cZ)=true:=ah bX _;have tV:trees (f.ay.map bj)=true:=aB f.ay;have tS:trees (s.ts.flatMap cd)=true:=ah aK _;refine T.le (Le.trim [5,4,2,1] [17,21,20,19,1,0] 22 (by simp[-all_eq_true,-all_flatMap,-all_map,aj tT,aj tG,aj tS,aE]) yA) ?_;simp;have b4:(l0.length+1)*64<=140737488355328:=by omega
 have e1:l0.length*4+4=(l0.length+1)*4:=by omega
 apply aq;simp[hC,O5,hd,cd,b4,e1,cZ,aS,-length_flatMap,aA cL];have b5:f.ay.length*8<=140737488355328:=by omega
 have w1:=cw (l0.length:Int) yA yA;have w2:(l0.length:Int)<(l0.length:Int)+1:=by omega
 have PS:=aA cL l0;have gA:∀ (r:List CV) (k:Nat),(l0.flatMap cZ++r)[l0.length*4+k]? = r[k]?:=λ r k=>by rw[getElem?_append_right yA,PS];congr 1;omega
 have dA:∀ (r:List CV) (k:Nat),(l0.flatMap cZ++r).drop (l0.length*4+k)=r.drop k:=λ r k=>by rw[drop_append,PS,drop_eq_nil_of_le yA];simp
 have sA:∀ (r:List CV) (k:Nat) (x:CV),(l0.flatMap cZ++r).set (l0.length*4+k) x=l0.flatMap cZ++r.set k x:=λ r k x=>by rw[set_append_right _ _ yA,PS];congr 2;omega
 apply aq;simp[hC,w1,w2,b5,aS,-length_flatMap,aA cL,dA,ints];have tA:∀ (r:List CV),(l0.flatMap cZ++r).take (l0.length*4+2)=l0.flatMap cZ++r.take 2:=λ r=>by rw[take_append,PS,take_of_length_le yA];simp
 have dA3:∀ (r:List CV),(l0.flatMap cZ++r).drop (l0.length*4+2+1)=r.drop 3:=λ r=>dA r 3;have Yy:(s.ts.flatMap cd).take t=(s.ts.take t).flatMap cd:=by
  rw[ch,ch,map_take]
 have tS2:(s.ts.flatMap cd).drop (t+1)=(s.ts.drop (t+1)).flatMap cd:=by
  rw[ch,ch,map_drop]
 rw[tA,dA3];refine T.le (Le.trim [6,5,4,1] [25,23,17,21,20,19,1] 26 (by simp[-all_eq_true,-all_flatMap,-all_map,aj tT,aj tG,aj tS,aj tL,aj tV,bq 26 _ (bT f.b9),aE]) yA) ?_;simp;have e2:t+1<=s.ts.length:=by omega
 apply aq;simp[hC,O5,e2,-length_flatMap,aA jH,Yy,tS2];apply aq;simp[hC];apply T.ret;have OW:trees ((s.ts.take t).flatMap cd)=true:=ah aK _;have OY:trees ((s.ts.drop (t+1)).flatMap cd)=true:=ah aK _;have rG:=λ ρ=>ae ρ _ tG;have rT:=λ ρ=>ae ρ _ tT;have rL:=λ ρ=>ae ρ _ tL;have rV:=λ ρ=>ae ρ _ tV;have r1:=λ ρ=>ae ρ _ OW;have r2:=λ ρ=>ae ρ _ OY;have ra:∀ ρ (a b:List CV),aL ρ (a++b)=aL ρ a++aL ρ b:=λ ρ a b=>by rw[aY,aY,aY,map_append]
 have tE:=aM f.b9;have rE:=λ ρ=>ae ρ _ tE;refine aa.le (Le.norm [4] [(19,0),(20,1),(21,2),(23,3),(25,4),(1,5)] 0 6 Px Pw (by simp[cO,nu,lF,tree,assoc,-all_eq_true,-all_flatMap,aw tG,aw tT,aw tL,aw tV,aw OW,aw OY,aN]) yA) ?_;simp[cz,bf,aL,cQ,dW,assoc,rG,rT,rL,rV,r1,r2,aN,ra];exact aa.here ⟨_,rfl,rfl,rfl,rfl⟩
end Go.Proofs.YtlkmbdfhdknlgaaGreat
