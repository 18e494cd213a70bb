/- Keys that are records of integers and arrays of integers: ma -/
import Derived.Test.YtlkmbdfhdknlgaaGreatDoorZ41
import Derived.DeepKeys3
namespace Go.Can
open Go.RowKit
def wI:Value→Bool
 | .int .i64 n=>oP n
 | _=>false
theorem vK {v:Value}(h:wI v=true):∃ n,v=.int .i64 n∧(Lit.int .i64 n).wf=true:=by
 unfold wI at h;split at h
 ·rename_i n;refine⟨n,rfl,?_⟩;simp only[oP,Bool.and_eq_true,decide_eq_true_eq] at h;simp[Lit.wf,IntKind.min,IntKind.max,IntKind.signed,IntKind.bits];omega
 ·cases h
theorem mapM_some {α β:Type}{f:α→Option β}:∀ (l:List α),(l.mapM f).isSome=l.all fun x=>(f x).isSome
 | []=>by simp
 | x::r=>by
  rw[List.mapM_cons]
  cases h:f x with
  | none=>simp[h]
  | some y=>
   have:=mapM_some (f:=f) r
   cases h2:r.mapM f with
   | none=>simp[h,h2] at this ⊢;simpa using this
   | some z=>simp[h,h2] at this ⊢;simpa using this
theorem oc {P:Program}:∀ (d:Nat) (t:TypeId) (cs ds:List Value),cs.length=ds.length→(cs.all wI=true)→(ds.all wI=true)→(P.keyLits d t ds).isSome=true→(P.keyLits d t cs).isSome=true
 | 0,_,_,_,_,_,_,h=>by simp[Program.keyLits] at h
 | d+1,t,cs,ds,hl,hc,hd,h=>by
  have sub:∀ u n m,(P.keyLits d u ((ds.drop n).take m)).isSome=true→(P.keyLits d u ((cs.drop n).take m)).isSome=true:=fun u n m hs=>by
   refine oc d u _ _ (by simp[hl]) ?_ ?_ hs
   ·exact List.all_eq_true.2 fun x hx=>List.all_eq_true.1 hc x (List.mem_of_mem_drop (List.mem_of_mem_take hx))
   ·exact List.all_eq_true.2 fun x hx=>List.all_eq_true.1 hd x (List.mem_of_mem_drop (List.mem_of_mem_take hx))
  unfold Program.keyLits at h ⊢
  cases hu:P.underlying t with
  | none=>rw[hu] at h;simp at h
  | some u=>
   rw[hu] at h
   cases u with
   | array n e=>
    simp only[hl] at h ⊢;split at h
    ·rename_i he;rw[if_pos he];rw[Option.isSome_map,mapM_some] at h ⊢;exact List.all_eq_true.2 fun i hi=>sub _ _ _ (List.all_eq_true.1 h i hi)
    ·cases h
   | struct fs=>
    simp only[hl] at h ⊢;split at h
    ·rename_i he;rw[if_pos he];rw[Option.isSome_map,mapM_some] at h ⊢;exact List.all_eq_true.2 fun i hi=>sub _ _ _ (List.all_eq_true.1 h i hi)
    ·cases h
   | int q=>
    match ds,cs,hl,hc,hd,h with
    | [x],[y],_,hc,hd,h=>
     simp only[List.all_cons,List.all_nil,Bool.and_true] at hc hd;obtain⟨n,rfl,w1⟩:=vK hd;obtain⟨m,rfl,w2⟩:=vK hc;simp only at h ⊢;split at h
     ·rename_i he;obtain⟨rfl,_⟩:=he;rw[if_pos ⟨rfl,w2⟩];rfl
     ·cases h
    | [],_,_,_,_,h=>simp at h
    | _::_::_,_,_,_,_,h=>simp at h
   | bool=>
    cases ds with
    | nil=>simp at h
    | cons x r=>
     simp only[List.all_cons,Bool.and_eq_true] at hd;obtain⟨n,rfl,_⟩:=vK hd.1;simp at h
   | string=>
    cases ds with
    | nil=>simp at h
    | cons x r=>
     simp only[List.all_cons,Bool.and_eq_true] at hd;obtain⟨n,rfl,_⟩:=vK hd.1;simp at h
   | _=>simp at h
def wA (n:Nat):Value→Bool
 | .agg cs=>decide (cs.size=n) && cs.toList.all wI
 | _=>false
theorem uO {n:Nat}{v:Value}(h:wA n v=true):∃ cs,v=.agg cs∧cs.size=n∧cs.toList.all wI=true:=by
 unfold wA at h;split at h
 ·simp only[Bool.and_eq_true,decide_eq_true_eq] at h;exact⟨_,rfl,h⟩
 ·cases h
def xG (P:Program)(m n:Nat)(t:TypeId):Bool:=P.keyTypeAt m t && P.tiled m t && (match P.underlying t with | some (.array _ _) | some (.struct _)=>true | _=>false) && P.keyType t && (P.cellsOf t == n) && (P.keyLits (P.types.size+1) t (List.replicate n (.int .i64 0))).isSome
theorem xF {P:Program}{m n:Nat}{t:TypeId}(h:xG P m n t=true){v:Value}(hv:wA n v=true):∃ l,keyOf P t v=some l:=by
 simp only[xG,Bool.and_eq_true,beq_iff_eq] at h;obtain⟨⟨⟨⟨⟨h1,h2⟩,h3⟩,h4⟩,h5⟩,h6⟩:=h;obtain⟨cs,rfl,hn,hw⟩:=uO hv;have hk:=oc (P:=P) (P.types.size+1) t cs.toList (List.replicate n (.int .i64 0)) (by simp[hn]) hw (by simp[List.all_replicate,wI,oP]) h6;obtain⟨L,hL⟩:=Option.isSome_iff_exists.1 hk;have hf:(Value.agg cs).formed P t=true:=by
  unfold Value.formed;split at h3<;>rename_i e<;>simp only[e,hn,h5,beq_self_eq_true] at h3 ⊢;cases h3
 have ZO:(if P.keyType t && (Value.agg cs).formed P t then (P.keyLits (P.types.size+1) t (Value.agg cs).cells.toList).map fun ls=>Lit.string (keyBytes ls) else none)=some (.string (keyBytes L)):=by
  rw[if_pos (by rw[h4,hf];rfl),show (Value.agg cs).cells=cs from rfl,hL];rfl
 refine⟨_,Eq.trans ?_ ZO⟩;unfold keyOf;split
 ·rfl
 ·rfl
 ·exfalso;split at h3
  ·simp_all
  ·simp_all
  ·cases h3
theorem CJ {n:Nat}{v:Value}(h:wA n v=true):EO v=true:=by
 obtain⟨cs,rfl,_,hw⟩:=uO h;simp only[EO];refine List.all_eq_true.2 fun x hx=>?_;obtain⟨k,rfl,_⟩:=vK (List.all_eq_true.1 hw x hx);rfl
theorem DU {P:Program}{m n:Nat}{t:TypeId}(hm:m+1≤10000)(h:xG P m n t=true)(hg:P.eqGuardType P.depth t=false):EqT P t (wA n):=by
 have h':=h;simp only[xG,Bool.and_eq_true,beq_iff_eq] at h';refine⟨fun w x y hx hy=>?_,hg,fun x hx=>(uO hx).imp fun _ h=>h.1⟩;obtain⟨lx,ex⟩:=xF h hx;obtain⟨ly,ey⟩:=xF h hy;obtain⟨r,hr,hi⟩:=run_equal_deep w (by omega:m≤10000) h'.1.1.1.1.1 h'.1.1.1.2 ex ey;have hq:(Op.equalIn 10000 t x y).run P w=.ok r w:=hr;rw[hq];congr 1;have Oj:r=true↔x=y:=by
  rw[hi];refine⟨fun e=>?_,fun e=>?_⟩
  ·subst e;exact keyOf_inj_deep h'.1.1.1.1.2 h'.1.1.1.2 ex ey
  ·subst e;rw[ex] at ey;exact Option.some.inj ey
 have hv:yc x y=true↔x=y:=⟨oS,fun e=>by subst e;exact nH (CJ hx)⟩;cases r<;>cases hh:yc x y<;>simp_all
end Go.Can
