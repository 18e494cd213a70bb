/- One operation as a step of canonical states; what may be said anew of a state; triples over codes. No function of the program is mentioned here. | Contracts of functions that turn nothing which was there; calls; regions that draw their order. No function of the program is mentioned here. -/
import Derived.Test.YtmnglemlimfpbaaGreatZ04
namespace Go.Can
open Go.RowKit
section
variable {P:Program}{C:Cx}{σ:Nat→Option OB}{s:St}{a:Act}{w:World}
def Bk (aj:List (Nat×TI))(s:St)(d:Option Tmp)(t:TypeId)(x y:Operand):Option St:=
 match dm aj t,ev s x,ev s y with
 | some (.sl e),some (.bw o off n),some q=>
  match assoc aj e,cells? s q,assoc s.heap o with
  | some ie,some (news,m),some ob=>
   if 0<n∧news.length=m*ie.size∧off+n*ie.size≤ob.cells.length then
    some (St.put { s with heap:=ou s.heap o { ob with cells:=eA ob.cells off (news.take ((min m n)*ie.size)) } } d (.int .i64 (min m n:Nat)))
   else none
  | _,_,_=>none
 | _,_,_=>none
theorem E4 {aj:List (Nat×TI)}(ht:aF P aj)(h:aH C σ s a w){o:Oper}{cl:Call}{t t':TypeId}{x y:Operand}(hd:∀ t,o.dst=some t→t<a.tmps.size)(ho:o.op=.call cl)(hcl:cl.callee=.builtin .copy)(hargs:cl.args=#[x,y])(hts:cl.argTypes=#[t,t'])
  {s':St} (hc:Bk aj s o.dst t x y=some s'):∃ z w',(execOp a.eval o).run P w=.ok (.value z) w'∧Rel C s' (a.put o.dst z) w':=by
 unfold Bk at hc
 split at hc
 ·rename_i e o' off n q hd' hp hq
  obtain⟨it,hit,hd'⟩:=Option.map_eq_some_iff.1 hd'
  split at hc
  ·rename_i ie news m ob hie hcs hob
   split at hc
   ·rename_i hb
    obtain⟨q1,q3,q4⟩:=hb
    cases hc
    obtain⟨f,z,g1,g2,_⟩:=(ht e ie hie).info
    have hu:=du (ht t it hit) hd'
    obtain⟨us,u1,u2,u3⟩:=cells?_ok h (bq h hq) hcs
    have ul:=aQ.length _ _ u1
    have hx:=bq h hp
    simp only[VR] at hx
    obtain⟨B,hB,hx⟩:=hx
    obtain⟨B0,e1,e2,_,e4,e5⟩:=h.obj _ ob hob
    rw[hB] at e1;cases e1
    split at hx
    ·obtain⟨_,_,h0⟩:=hx;omega
    rename_i b hbb
    obtain⟨cap,ex,c1,c2,c3,c4⟩:=hx
    obtain⟨cur,n1,n2,n3,n4,n5,n6⟩:=e5 b hbb
    have hk:(us.take ((min m n)*ie.size)).length=min m n*ie.size:=by
     rw[List.length_take,ul,q3]
     have:min m n*ie.size≤m*ie.size:=Nat.mul_le_mul_right _ (Nat.min_le_left _ _)
     omega
    have hkn:min m n*ie.size≤n*ie.size:=Nat.mul_le_mul_right _ (Nat.min_le_right _ _)
    have u1':=aQ.take ((min m n)*ie.size) _ _ u1
    have u2':(news.take ((min m n)*ie.size)).all one=true:=by
     rw[List.all_eq_true] at u2 ⊢
     exact fun x hx=>u2 x (List.mem_of_mem_take hx)
    have hst:=run_storeCells_at P b off ob.elem (us.take ((min m n)*ie.size)) 0 cur w n1 (by rw[hk];omega) (aQ.gX _ _ u2' u1')
    simp only[Nat.add_zero] at hst
    have hnl:(news.take ((min m n)*ie.size)).length=min m n*ie.size:=by rw[← aQ.length _ _ u1',hk]
    have hw:=h.write hob hB hbb (cs':=eA ob.cells off (news.take ((min m n)*ie.size))) (us':=cur.toList.take off++us.take ((min m n)*ie.size)++cur.toList.drop (off+(us.take ((min m n)*ie.size)).length)) (by simp[hk];omega)
     (by rw[fe _ _ _ (by omega)];simp[hk];omega) (by
      rw[fe _ _ _ (by omega)]
      have:=rp n6 off u1'
      have ee:(cur.toList.take off++us.take ((min m n)*ie.size)++cur.toList.drop (off+(us.take ((min m n)*ie.size)).length)).take ob.cells.length =
        (cur.toList.take ob.cells.length).take off++us.take ((min m n)*ie.size)++(cur.toList.take ob.cells.length).drop (off+(us.take ((min m n)*ie.size)).length):=by
       have hcl:ob.cells.length≤cur.toList.length:=by simpa using n5
       generalize us.take ((min m n)*ie.size)=vs at *
       rw[List.take_append,List.take_append]
       simp only[List.length_append,List.length_take,List.take_take,List.drop_take]
       rw[Nat.min_eq_right (show off≤ob.cells.length by omega),Nat.min_eq_left (show off≤cur.toList.length by omega),List.take_of_length_le (show vs.length≤ob.cells.length-off by omega)]
       congr 2
       ·rw[Nat.min_eq_left (show off≤ob.cells.length by omega)]
      rw[ee]
      exact this) (pf off e4 u2')
    refine⟨.int .i64 (min m n:Nat),_,?_,_,hw.put hd (dp _ _)⟩
    have hfirst:∀ k,k=min m n→(Builtin.firstCells ie.size k (a.eval y)).run P w=.ok (us.take (k*ie.size)).toArray w:=by
     rintro k rfl
     rcases u3 with ⟨c,e,rfl,rfl⟩ | ⟨ad,c,e,hcell⟩
     ·simp[e,Builtin.firstCells]
     ·rw[e]
      exact run_firstCells_some (P:=P) w ie.size _ ad m c _ hk fun j x hx=>by
       rw[List.getElem?_take] at hx
       split at hx
       ·exact hcell j x hx
       ·cases hx
    have hlen:(Builtin.lenOf (a.eval y)).run P w=.ok m w:=by
     rcases u3 with ⟨c,e,rfl,rfl⟩ | ⟨ad,c,e,hcell⟩<;>simp[e,Builtin.lenOf]
    have hmin:Nat.min m n=min m n:=rfl
    simp only[execOp,ho,resolve,hcl,hargs,hts,Sem.run_bind,Sem.run_pure,Result.andThen_ok,invoke,builtin,Builtin.copy_,List.map_toArray,List.map_cons,List.map_nil]
    simp only[List.getElem?_toArray,List.getElem?_cons_zero,List.getElem?_cons_succ,Sem.run_bind,bj hu,ex,Result.andThen_ok,hlen,cz g1,g2,hmin,hfirst _ rfl,hst,Sem.run_pure,goInt]
   ·cases hc
  ·cases hc
 ·cases hc
theorem xg {α:Type}:∀ (l:List (Nat×α)) (t:Nat) (x:α),assoc l t=some x→ou l t x=l
 | [],_,_,h=>by simp[assoc] at h
 | (k,v)::r,t,x,h=>by
  simp only[assoc] at h
  simp only[ou]
  split at h
  ·rename_i e;cases h;rw[if_pos e]
  ·rename_i e;rw[if_neg e,xg r t x h]
def wQ (aj:List (Nat×TI))(s:St)(d:Option Tmp)(t:TypeId)(x:Operand):Option St:=
 match dm aj t,ev s x with
 | some (.sl e),some (.bw o off n)=>
  match assoc aj e,assoc s.heap o with
  | some ie,some ob=>
   if ob.sz=ie.size∧off+n*ie.size≤ob.cells.length then
    some (St.put { s with heap:=ou s.heap o { ob with cells:=eA ob.cells off (aX ie.zero n) } } d (.df []))
   else none
  | _,_=>none
 | some (.sl _),some .ai=>some (s.put d (.df []))
 | _,_=>none
theorem Co {aj:List (Nat×TI)}(ht:aF P aj)(h:aH C σ s a w){o:Oper}{cl:Call}{t:TypeId}{x:Operand}(hd:∀ t,o.dst=some t→t<a.tmps.size)(ho:o.op=.call cl)(hcl:cl.callee=.builtin .clear)(hargs:cl.args=#[x])(hts:cl.argTypes=#[t])
  {s':St} (hc:wQ aj s o.dst t x=some s'):∃ z w',(execOp a.eval o).run P w=.ok (.value z) w'∧Rel C s' (a.put o.dst z) w':=by
 have hu0:∀ {w':World} {d:Option Tmp} {s:St},VR w' (FB C σ s.heap) σ (.df []) (.tuple #[]):=fun {w' d s}=>by
  simp only[VR];exact⟨[],rfl,rfl⟩
 unfold wQ at hc
 split at hc
 ·rename_i e o' off n hd' hp
  obtain⟨it,hit,hd'⟩:=Option.map_eq_some_iff.1 hd'
  split at hc
  ·rename_i ie ob hie hob
   split at hc
   ·rename_i hb
    obtain⟨q1,q2⟩:=hb
    cases hc
    obtain⟨f,z,g1,g2,_,g4,g5⟩:=(ht e ie hie).info
    obtain⟨k1,k2⟩:=cJ (w:=w) (F:=FB C σ s.heap) _ _ g5
    have hu:=du (ht t it hit) hd'
    have hx:=bq h hp
    simp only[VR] at hx
    obtain⟨B,hB,hx⟩:=hx
    obtain⟨B0,e1,e2,e3,e4,e5⟩:=h.obj _ ob hob
    rw[hB] at e1;cases e1
    have hzl:(aX ie.zero n).length=n*ie.size:=by rw[eQ,(ht e ie hie).len]
    have none_case:n=0→ou s.heap o' { ob with cells:=eA ob.cells off (aX ie.zero n) }=s.heap:=fun hn=>by
     subst hn
     have:eA ob.cells off (aX ie.zero 0)=ob.cells:=by simp[eA,aX]
     rw[this];exact xg _ _ _ hob
    split at hx
    ·obtain⟨ex,rfl,rfl⟩:=hx
     rw[none_case rfl]
     refine⟨.tuple #[],w,?_,_,h.put hd (hu0 (d:=none) (s:=s))⟩
     simp only[execOp,ho,resolve,hcl,hargs,hts,Sem.run_bind,Sem.run_pure,Result.andThen_ok,invoke,builtin,Builtin.clear_,List.map_toArray,List.map_cons,List.map_nil]
     simp only[List.getElem?_toArray,List.getElem?_cons_zero,Sem.run_bind,bj hu,ex,Result.andThen_ok,Sem.run_pure]
    ·rename_i b hbb
     obtain⟨cap,ex,c1,c2,c3,c4⟩:=hx
     obtain⟨cur,n1,n2,n3,n4,n5,n6⟩:=e5 b hbb
     by_cases hn:n=0
     ·subst hn
      rw[none_case rfl]
      refine⟨.tuple #[],w,?_,_,h.put hd (hu0 (d:=none) (s:=s))⟩
      simp only[execOp,ho,resolve,hcl,hargs,hts,Sem.run_bind,Sem.run_pure,Result.andThen_ok,invoke,builtin,Builtin.clear_,List.map_toArray,List.map_cons,List.map_nil]
      simp only[List.getElem?_toArray,List.getElem?_cons_zero,Sem.run_bind,bj hu,ex,Result.andThen_ok,Sem.run_pure]
     ·have hsz:z.cells.size=ie.size:=by rw[← (ht e ie hie).len,← bx.length _ _ k1];simp
      have hz:=kz (σ:=σ) (aQ.cb _ _ k1) n
      have hz1:=jg k2 n
      have hul:(Builtin.zeroCells z.cells n).toList=(madeCells z.cells (n*z.cells.size)).toList:=rfl
      have hlen:(madeCells z.cells (n*z.cells.size)).toList.length=n*ie.size:=by simp[size_madeCells,hsz]
      have hst:=run_storeCells_at P b off ob.elem (madeCells z.cells (n*z.cells.size)).toList 0 cur w n1 (by rw[hlen];omega) (aQ.gX _ _ hz1 hz)
      simp only[Nat.add_zero] at hst
      have hw:=h.write hob hB hbb (cs':=eA ob.cells off (aX ie.zero n)) (us':=cur.toList.take off++(madeCells z.cells (n*z.cells.size)).toList++cur.toList.drop (off+(madeCells z.cells (n*z.cells.size)).toList.length)) (by simp only[List.length_append,List.length_take,List.length_drop,hlen];simp;omega)
       (by rw[fe _ _ _ (by omega)];simp only[List.length_append,List.length_take,List.length_drop,hlen];simp;omega) (by
        rw[fe _ _ _ (by omega)]
        have:=rp n6 off hz
        have ee:(cur.toList.take off++(madeCells z.cells (n*z.cells.size)).toList++cur.toList.drop (off+(madeCells z.cells (n*z.cells.size)).toList.length)).take ob.cells.length =
          (cur.toList.take ob.cells.length).take off++(madeCells z.cells (n*z.cells.size)).toList++(cur.toList.take ob.cells.length).drop (off+(madeCells z.cells (n*z.cells.size)).toList.length):=by
         have hcl:ob.cells.length≤cur.toList.length:=by simpa using n5
         generalize (madeCells z.cells (n*z.cells.size)).toList=vs at *
         rw[List.take_append,List.take_append]
         simp only[List.length_append,List.length_take,List.take_take,List.drop_take]
         rw[Nat.min_eq_right (show off≤ob.cells.length by omega),Nat.min_eq_left (show off≤cur.toList.length by omega),List.take_of_length_le (show vs.length≤ob.cells.length-off by omega)]
         congr 2
         ·rw[Nat.min_eq_left (show off≤ob.cells.length by omega)]
        rw[ee]
        exact this) (pf off e4 hz1)
      refine⟨.tuple #[],_,?_,_,hw.put hd (hu0 (d:=none) (s:={ s with heap:=ou s.heap o' { ob with cells:=eA ob.cells off (aX ie.zero n) } }))⟩
      obtain⟨m,rfl⟩:∃ m,n=m+1:=⟨n-1,by omega⟩
      simp only[execOp,ho,resolve,hcl,hargs,hts,Sem.run_bind,Sem.run_pure,Result.andThen_ok,invoke,builtin,Builtin.clear_,List.map_toArray,List.map_cons,List.map_nil]
      simp only[List.getElem?_toArray,List.getElem?_cons_zero,Sem.run_bind,bj hu,ex,Result.andThen_ok,gv g1 g4,hul,hst,Sem.run_pure]
   ·cases hc
  ·cases hc
 ·rename_i e hd' hp
  obtain⟨it,hit,hd'⟩:=Option.map_eq_some_iff.1 hd'
  cases hc
  have hu:=du (ht t it hit) hd'
  have ex:=bq h hp
  simp only[VR] at ex
  refine⟨.tuple #[],w,?_,_,h.put hd (hu0 (d:=none) (s:=s))⟩
  simp only[execOp,ho,resolve,hcl,hargs,hts,Sem.run_bind,Sem.run_pure,Result.andThen_ok,invoke,builtin,Builtin.clear_,List.map_toArray,List.map_cons,List.map_nil]
  simp only[List.getElem?_toArray,List.getElem?_cons_zero,Sem.run_bind,bj hu,ex,Result.andThen_ok,Sem.run_pure]
 ·cases hc
end
def aW (nt:Nat)(d:Option Tmp):Bool:=match d with
 | some t=>decide (t<nt)
 | none=>true
def Df (aj:List (Nat×TI))(s:St)(d:Option Tmp)(c:Call):Option St:=
 match c.callee with
 | .builtin .append=>match c.args.toList,c.argTypes.toList with
  | [x,y],[t,t']=>if t=t' then mX aj s d t x y else none
  | _,_=>none
 | .builtin .copy=>match c.args.toList,c.argTypes.toList with
  | [x,y],[t,_]=>Bk aj s d t x y
  | _,_=>none
 | .builtin .clear=>match c.args.toList,c.argTypes.toList with
  | [x],[t]=>wQ aj s d t x
  | _,_=>none
 | .builtin b=>(gF aj s b c.args.toList c.argTypes.toList).map (s.put d)
 | _=>none
def jX (aj:List (Nat×TI))(s:St)(o:Oper):Option St:=
 match o.op with
 | .store t x v=>(mu aj s t x v).map (·.del o.dst)
 | .makeSlice t l c=>Bf aj s o.dst t l c
 | .alloc e=>wR aj s o.dst e
 | .box e x=>E5 s o.dst e x
 | .buildSlice t len parts=>iD aj s o.dst t len parts.toList
 | .call c=>Df aj s o.dst c
 | op=>(cQ aj s op).map (s.put o.dst)
def lb (e:Option CV)(want:Bool):Option Bool:=match e with
 | some (.bool b)=>some (b == want)
 | some (.df [])=>some false
 | _=>none
def eL (aj:List (Nat×TI))(nt:Nat)(ops:Array Oper)(s:St)(o:Oper):Option St:=
 if aW nt o.dst then
  match o.guard with
  | none=>jX aj s o
  | some (j,want)=>match (ops[j]?).bind (·.dst) with
   | none=>none
   | some t=>match lb (assoc s.env t) want with
    | some true=>jX aj s o
    | some false=>some (s.put o.dst (.df []))
    | none=>none
 else none
def oF (aj:List (Nat×TI))(nt:Nat)(ops:Array Oper):List Oper→St→Option St
 | [],s=>some s
 | o::r,s=>match eL aj nt ops s o with
  | some s'=>oF aj nt ops r s'
  | none=>none
section
variable {P:Program}{C:Cx}{s:St}{a:Act}{w:World}{ops:Array Oper}{aj:List (Nat×TI)}
theorem uC (ht:aF P aj)(h:Rel C s a w){o:Oper}(hd:aW C.nt o.dst=true){s':St}(hs:jX aj s o=some s') :
  ∃ w',((∃ z,(execOp a.eval o).run P w=.ok (.value z) w'∧Rel C s' (a.put o.dst z) w')∨((execOp a.eval o).run P w=.ok .skip w'∧Rel C s' (a.put o.dst undef) w')):=by
 obtain⟨σ,h⟩:=h
 have hd':∀ t,o.dst=some t→t<a.tmps.size:=fun t e=>by
  rw[h.tm]
  rw[e] at hd
  simpa [aW] using hd
 have quiet:∀ c,cQ aj s o.op=some c→s.put o.dst c=s'→∃ w',((∃ z,(execOp a.eval o).run P w=.ok (.value z) w'∧Rel C s' (a.put o.dst z) w')∨((execOp a.eval o).run P w=.ok .skip w'∧Rel C s' (a.put o.dst undef) w')):=fun c hc e=>by
  obtain⟨z,k1,k2⟩:=vK ht h o hc
  exact⟨w,.inl ⟨z,k1,σ,e ▸ h.put hd' k2⟩⟩
 unfold jX at hs
 split at hs
 ·rename_i t x v ho
  obtain⟨s1,h1,rfl⟩:=Option.map_eq_some_iff.1 hs
  obtain⟨w',k1,k2,_⟩:=vg ht h ho h1
  exact⟨w',.inr ⟨k1,σ,k2.del undef⟩⟩
 ·rename_i t l c ho
  obtain⟨z,w',k1,k2⟩:=E1 ht h hd' ho hs
  exact⟨w',.inl ⟨z,k1,k2⟩⟩
 ·rename_i e ho
  obtain⟨z,w',k1,k2⟩:=Cr ht h hd' ho hs
  exact⟨w',.inl ⟨z,k1,k2⟩⟩
 ·rename_i e x ho
  obtain⟨z,w',k1,k2⟩:=GN (P:=P) h hd' ho hs
  exact⟨w',.inl ⟨z,k1,k2⟩⟩
 ·rename_i t len parts ho
  obtain⟨z,w',k1,k2⟩:=sX ht h hd' ho hs
  exact⟨w',.inl ⟨z,k1,k2⟩⟩
 ·rename_i cl ho
  unfold Df at hs
  split at hs
  ·rename_i hcl
   split at hs
   ·rename_i x y t t' ha hts
    split at hs
    ·rename_i e;subst e
     obtain⟨z,w',_,k1,k2⟩:=sY ht h hd' ho hcl (by rw[← Array.toArray_toList (xs:=cl.args),ha]) (by rw[← Array.toArray_toList (xs:=cl.argTypes),hts]) hs
     exact⟨w',.inl ⟨z,k1,_,k2⟩⟩
    ·cases hs
   ·cases hs
  ·rename_i hcl
   split at hs
   ·rename_i x y t t' ha hts
    obtain⟨z,w',k1,k2⟩:=E4 ht h hd' ho hcl (by rw[← Array.toArray_toList (xs:=cl.args),ha]) (by rw[← Array.toArray_toList (xs:=cl.argTypes),hts]) hs
    exact⟨w',.inl ⟨z,k1,k2⟩⟩
   ·cases hs
  ·rename_i hcl
   split at hs
   ·rename_i x t ha hts
    obtain⟨z,w',k1,k2⟩:=Co ht h hd' ho hcl (by rw[← Array.toArray_toList (xs:=cl.args),ha]) (by rw[← Array.toArray_toList (xs:=cl.argTypes),hts]) hs
    exact⟨w',.inl ⟨z,k1,k2⟩⟩
   ·cases hs
  ·rename_i b _ _ _ hcl
   obtain⟨c,hc,e⟩:=Option.map_eq_some_iff.1 hs
   exact quiet c (by rw[ho];simp only[cQ,hcl];exact hc) e
  ·cases hs
 ·obtain⟨c,hc,e⟩:=Option.map_eq_some_iff.1 hs
  exact quiet c hc e
theorem nE (h:Rel C s a w){j:Nat}{t:Tmp}{b:Bool}(hj:(ops[j]?).bind (·.dst)=some t)(he:assoc s.env t=some (.bool b)):yielded ops a.tmps j=some b:=by
 obtain⟨σ,h⟩:=h
 obtain⟨v,h1,h2⟩:=h.env t _ he
 simp only[VR] at h2
 subst h2
 simp[yielded,hj,h1]
theorem jh (h:Rel C s a w){o:Oper}{j:Nat}{want:Bool}{t:Tmp}{b:Bool}(hg:o.guard=some (j,want))(hj:(ops[j]?).bind (·.dst)=some t)(he:lb (assoc s.env t) want=some b):Region.wanted o (yielded ops a.tmps)=b:=by
 unfold lb at he
 split at he
 ·rename_i b' hb
  cases he
  simp[Region.wanted,hg,nE h hj hb]
 ·rename_i hb
  cases he
  obtain⟨σ,h⟩:=h
  obtain⟨v,h1,h2⟩:=h.env t _ hb
  simp only[VR] at h2
  obtain⟨vs,rfl,h3⟩:=h2
  simp[Region.wanted,hg,yielded,hj,h1]
 ·cases he
theorem Rel.skip (h:Rel C s a w){d:Option Tmp}(hd:aW C.nt d=true):Rel C (s.put d (.df [])) (a.put d undef) w:=by
 obtain⟨σ,h⟩:=h
 refine⟨σ,h.put (fun t e=>?_) ?_⟩
 ·rw[h.tm]
  rw[e] at hd
  simpa [aW] using hd
 ·exact⟨[],rfl,rfl⟩
def TL (P:Program)(C:Cx)(ops:Array Oper)(l:List Oper)(s:St)(K:St→Prop):Prop:=
 ∀ a w (Q:Exit→Act→World→Prop),Rel C s a w→(∀ s' a' w',K s'→Rel C s' a' w'→Q .normal a' w')→wpList P ops Q l a w
theorem TL.nil {K:St→Prop}(h:K s):TL P C ops [] s K:=fun _ _ _ hr hQ=>hQ _ _ _ h hr
theorem TL.step (ht:aF P aj){o:Oper}{l:List Oper}{K:St→Prop}{s':St}(hs:eL aj C.nt ops s o=some s')(h:TL P C ops l s' K):TL P C ops (o::l) s K:=by
 intro a w Q hr hQ
 have run:∀ {s'},aW C.nt o.dst=true→Region.wanted o (yielded ops a.tmps)=true→jX aj s o=some s'→TL P C ops l s' K→wpList P ops Q (o::l) a w:=fun {s'} hd hw hs h=>by
  unfold wpList
  rw[if_pos hw]
  refine .inl ?_
  obtain⟨w',h1 | h1⟩:=uC ht hr hd hs
  ·obtain⟨z,k1,k2⟩:=h1
   unfold Oper.wp
   rw[k1]
   exact h _ _ Q k2 hQ
  ·obtain⟨k1,k2⟩:=h1
   unfold Oper.wp
   rw[k1]
   exact h _ _ Q k2 hQ
 unfold eL at hs
 split at hs
 ·rename_i hd
  split at hs
  ·rename_i hg
   exact run hd (by simp[Region.wanted,hg]) hs h
  ·rename_i j want hg
   split at hs
   ·cases hs
   rename_i t hj
   split at hs
   ·rename_i hb
    exact run hd (jh hr hg hj hb) hs h
   ·rename_i hb
    cases hs
    unfold wpList
    rw[if_neg (by simp[jh hr hg hj hb])]
    exact h _ _ Q (hr.skip hd) hQ
   ·cases hs
 ·cases hs
theorem TL.run (ht:aF P aj){K:St→Prop}:∀ {l:List Oper} {s s':St},oF aj C.nt ops l s=some s'→K s'→TL P C ops l s K
 | [],s,s',hs,hk=>by simp only[oF] at hs;cases hs;exact TL.nil hk
 | o::l,s,s',hs,hk=>by
  simp only[oF] at hs
  split at hs
  ·rename_i s1 h1
   exact TL.step ht h1 (TL.run ht hs hk)
  ·cases hs
def T (P:Program)(C:Cx)(c:Code)(s:St)(Q:Exit→St→Prop):Prop:=
 ∀ a w,Rel C s a w→c.wp P (fun e a' w'=>∃ s',Q e s'∧Rel C s' a' w') a w
def thenS (K:St→Prop)(Q:Exit→St→Prop):Exit→St→Prop
 | .normal,s=>K s
 | e,s=>Q e s
theorem T.mono {c:Code}{Q Q':Exit→St→Prop}(h:T P C c s Q)(hq:∀ e s',Q e s'→Q' e s'):T P C c s Q':=fun a w hr=>
 wp_mono (h a w hr) fun e _ _ ⟨s',q,r⟩=>⟨s',hq e s' q,r⟩
theorem T.region {id:Nat}{l:List Oper}{Q:Exit→St→Prop}(h:TL P C l.toArray l s (Q .normal)):T P C (.region id l.toArray false) s Q:=fun a w hr=>
 wp_region_lit (h a w _ hr fun s' _ _ hk hr'=>⟨s',hk,hr'⟩)
theorem T.seq {x y:Code}{Q:Exit→St→Prop}(h:T P C x s (thenS (fun s'=>T P C y s' Q) Q)):T P C (.seq x y) s Q:=fun a w hr=>
 wp_seq (wp_mono (h a w hr) fun e a' w' ⟨s',q,r⟩=>by
  cases e with
  | normal=>exact q a' w' r
  | _=>exact⟨s',q,r⟩)
theorem T.cond {c:Operand}{x y:Code}{b:Bool}{Q:Exit→St→Prop}(hc:ev s c=some (.bool b))(h:T P C (if b then x else y) s Q):T P C (.cond c x y) s Q:=fun a w hr=>by
 have hr0:=hr
 obtain⟨σ,hr'⟩:=hr0
 have:=bq hr' hc
 simp only[VR] at this
 exact wp_cond this (h a w hr)
theorem T.skip {Q:Exit→St→Prop}(h:Q .normal s):T P C .skip s Q:=fun _ _ hr=>wp_skip ⟨s,h,hr⟩
theorem T.exit {id:Nat}{Q:Exit→St→Prop}(h:Q (.exit id) s):T P C (.exit id) s Q:=fun _ _ hr=>wp_exit ⟨s,h,hr⟩
theorem T.ret {Q:Exit→St→Prop}(h:Q .ret s):T P C .ret s Q:=fun _ _ hr=>wp_ret ⟨s,h,hr⟩
theorem T.label {l:Nat}{Q:Exit→St→Prop}(h:Q .normal s):T P C (.label l) s Q:=fun _ _ hr=>wp_label ⟨s,h,hr⟩
theorem T.goto {l:Nat}{Q:Exit→St→Prop}(h:Q (.goto l) s):T P C (.goto l) s Q:=fun _ _ hr=>wp_goto ⟨s,h,hr⟩
def oc (id:Nat)(Q:Exit→St→Prop):Exit→St→Prop
 | .exit i,s=>if i=id then Q .normal s else Q (.exit i) s
 | e,s=>Q e s
theorem T.block {id:Nat}{c:Code}{Q:Exit→St→Prop}(h:T P C c s (oc id Q)):T P C (.block id c) s Q:=fun a w hr=>
 wp_block (wp_mono (h a w hr) fun e a' w' ⟨s',q,r⟩=>by
  cases e with
  | exit i=>
   simp only[Exit.inBlock,oc] at q ⊢
   split
   ·rename_i e;rw[if_pos e] at q;exact⟨s',q,r⟩
   ·rename_i e;rw[if_neg e] at q;exact⟨s',q,r⟩
  | _=>exact⟨s',q,r⟩)
theorem y7 {c:Code}{Q:Exit→Act→World→Prop}(I:Nat→Act→World→Prop){n:Nat}(h₀:I n a w)
  (round:∀ n a w,I n a w→c.wp P (Exit.then (fun a' w'=>∃ m,m<n∧I m a' w') Q) a w):(Code.loop c).wp P Q a w:=by
 classical
 have hx:∀ a w,(∃ n,I n a w)→∃ n,I n a w∧∀ m,I m a w→n≤m:=fun a w ⟨n,hn⟩=>by
  induction n using Nat.strongRecOn with
  | _ n ih=>
   by_cases h:∃ m,m<n∧I m a w
   ·obtain⟨m,hm,hi⟩:=h;exact ih m hm hi
   ·exact⟨n,hn,fun m hm=>Nat.le_of_not_lt fun hlt=>h ⟨m,hlt,hm⟩⟩
 let μ:Act→World→Nat:=fun a w=>if h:∃ n,I n a w then (hx a w h).choose else 0
 have hμ:∀ a w (h:∃ n,I n a w),I (μ a w) a w∧∀ m,I m a w→μ a w≤m:=fun a w h=>by
  simp only[μ,dif_pos h];exact (hx a w h).choose_spec
 refine wp_loop (fun a w=>∃ n,I n a w) μ ⟨n,h₀⟩ fun a w hI=>?_
 refine wp_mono (round (μ a w) a w (hμ a w hI).1) fun e a' w' q=>?_
 cases e with
 | normal=>
  obtain⟨m,hm,hi⟩:=q
  exact⟨⟨m,hi⟩,Nat.lt_of_le_of_lt ((hμ a' w' ⟨m,hi⟩).2 m hi) hm⟩
 | _=>exact q
theorem T.loop {c:Code}{Q:Exit→St→Prop}(I:Nat→St→Prop){n:Nat}(h₀:I n s)(round:∀ n s,I n s→T P C c s (thenS (fun s'=>∃ m,m<n∧I m s') Q)):T P C (.loop c) s Q:=fun a w hr=>
 y7 (fun n a w=>∃ s,I n s∧Rel C s a w) ⟨s,h₀,hr⟩ fun n a w ⟨s,hi,hr⟩=>wp_mono (round n s hi a w hr) fun e a' w' ⟨s',q,r⟩=>by
  cases e with
  | normal=>obtain⟨m,hm,hi⟩:=q;exact⟨m,hm,s',hi,r⟩
  | _=>exact⟨s',q,r⟩
end
end Go.Can
namespace Go.Can
open Go.RowKit
def Enters (P : Program) (f : FuncId) : Prop := ∃ fn, P.funcs[f]? = some fn ∧ (fn.name == "runtime.NumGoroutine") = false ∧ fn.body.isNone = false
def ah (P:Program)(f:FuncId)(args:List CV)(r:CV):Prop:=
 Enters P f∧∀ (F:Nat→Prop) (vs:List Value) (w:World),(∀ b,F b→b<w.heap.size)→bx w F args vs →
  Calls P f vs.toArray w fun e w'=>∃ v,e=.returned v∧Below w.heap.size w w'∧bM w' F r v
mutual
/-- No memory in it. -/
def scalar:CV→Bool
 | .int _ _=>true
 | .bool _=>true
 | .str _=>true
 | .ai=>true
 | .br=>true
 | .b9=>true
 | .agg cs=>kW cs
 | .df cs=>kW cs
 | _=>false
def kW:List CV→Bool
 | []=>true
 | c::cs=>scalar c && kW cs
end
mutual
theorem bM.scalar {w w':World}{F F':Nat→Prop}:∀ (c:CV) (v:Value),Can.scalar c=true→bM w F c v→bM w' F' c v
 | .int _ _,_,_,h=>by simpa [bM] using h
 | .bool _,_,_,h=>by simpa [bM] using h
 | .str _,_,_,h=>by simpa [bM] using h
 | .ai,_,_,h=>by simpa [bM] using h
 | .br,_,_,h=>by simpa [bM] using h
 | .b9,_,_,h=>by simpa [bM] using h
 | .agg cs,v,hs,h=>by
  simp only[bM,Can.scalar] at h hs ⊢
  obtain⟨vs,e,r,h1⟩:=h
  exact⟨vs,e,bx.scalar cs vs hs r,h1⟩
 | .df cs,v,hs,h=>by
  simp only[bM,Can.scalar] at h hs ⊢
  obtain⟨vs,e,r⟩:=h
  exact⟨vs,e,bx.scalar cs vs hs r⟩
 | .ax _ _,_,hs,_=>by simp[Can.scalar] at hs
 | .cq _,_,hs,_=>by simp[Can.scalar] at hs
 | .fn _ _,_,hs,_=>by simp[Can.scalar] at hs
 | .iface _ _,_,hs,_=>by simp[Can.scalar] at hs
 | .iter _ _ _,_,hs,_=>by simp[Can.scalar] at hs
 | .mp _ _,_,hs,_=>by simp[Can.scalar] at hs
 | .bw _ _ _,_,hs,_=>by simp[Can.scalar] at hs
 | .aq _ _,_,hs,_=>by simp[Can.scalar] at hs
theorem bx.scalar {w w':World}{F F':Nat→Prop}:∀ (cs:List CV) (vs:List Value),kW cs=true→bx w F cs vs→bx w' F' cs vs
 | [],_,_,h=>by simpa [bx] using h
 | c::cs,vs,hs,h=>by
  simp only[bx,kW,Bool.and_eq_true] at h hs ⊢
  obtain⟨v,r,e,h1,h2⟩:=h
  exact⟨v,r,e,bM.scalar c v hs.1 h1,bx.scalar cs r hs.2 h2⟩
end
def zF (s:St):CV→Option CV
 | .bw o off n=>match assoc s.heap o with
  | some ob=>if trees ob.cells then some (.ax ((ob.cells.drop off).take (n*ob.sz)) n) else none
  | none=>none
 | .aq o off=>match assoc s.heap o with
  | some ob=>if trees ob.cells then some (.cq (ob.cells.drop off)) else none
  | none=>none
 | c=>if tree c then some c else none
def oS (s:St):List CV→Option (List CV)
 | []=>some []
 | c::cs=>match zF s c,oS s cs with
  | some d,some ds=>some (d::ds)
  | _,_=>none
section
variable {P:Program}{C:Cx}{σ:Nat→Option OB}{s:St}{a:Act}{w:World}{ops:Array Oper}{aj:List (Nat×TI)}
theorem aH.below (h:aH C σ s a w){w':World}(hb:Below w.heap.size w w'):aH C σ s a w':=by
 have hg:w.grownBy w' none:=⟨hb.os,hb.tape,hb.output,hb.size,fun k hk _=>hb.block k hk⟩
 have hk:bO w w' (FB C σ s.heap) (FB C σ s.heap):=jO hg (fun b e=>by cases e) fun b hb=>.inl hb
 refine⟨h.kO,h.tm,hg.os.trans h.os,hg.tape.trans h.tape,hg.output.trans h.output,Nat.le_trans h.size hg.size,?_,?_,?_,h.inj,h.nx,h.ek,h.low,h.new⟩
 ·intro b hb' hown
  rw[hb.block b (Nat.lt_of_lt_of_le hb' h.size)]
  exact h.frame b hb' hown
 ·intro t c hc
  obtain⟨v,k1,k2⟩:=h.env t c hc
  exact⟨v,k1,VR.keep hk c v (fun _ _=>rfl) k2⟩
 ·intro o ob ho
  obtain⟨B,m1,m2,m3,m4,m5⟩:=h.obj o ob ho
  refine⟨B,m1,m2,m3,m4,fun b hb'=>?_⟩
  obtain⟨cur,n1,n2,n3,n4,n5,n6⟩:=m5 b hb'
  exact⟨cur,by rw[hb.block b (Array.getElem?_eq_some_iff.1 n1).1];exact n1,n2,n3,n4,n5,aQ.keep hk _ _ (fun _ _=>rfl) n6⟩
theorem tC (h:aH C σ s a w):∀ b,FB C σ s.heap b→b<w.heap.size:=by
 rintro b (hb | ⟨o,ob,ho,hb⟩)
 ·exact Nat.lt_of_lt_of_le (C.hF b hb) h.size
 ·obtain⟨B',m1,_,_,_,m5⟩:=h.obj o ob ho
  obtain⟨cur,n1,_⟩:=m5 b (by simpa [aJ,m1] using hb)
  exact (Array.getElem?_eq_some_iff.1 n1).1
theorem gH {F:Nat→Prop}:∀ (cs:List CV) (us:List Value) (ad:Addr),bx w F cs us→cs.all one=true→¬ F ad.block→(∀ j u,us[j]? = some u→w.cell? (ad.add j)=some u)→eX w F cs ad
 | [],_,_,_,_,_,_=>by simp[eX]
 | c::cs,us,ad,hr,h1,hF,hc=>by
  simp only[bx] at hr
  obtain⟨v,r,rfl,h2,h3⟩:=hr
  simp only[List.all_cons,Bool.and_eq_true] at h1
  simp only[eX]
  refine⟨⟨v,by have:=hc 0 v rfl;rwa [add_zero] at this,hF,h2⟩,h1.1,gH cs r _ h3 h1.2 (by rw[Cz];exact hF) fun j u hu=>?_⟩
  rw[add_add,Nat.add_comm]
  exact hc (j+1) u (by simpa using hu)
theorem Gn (h:aH C σ s a w){c d:CV}{v:Value}(hv:VR w (FB C σ s.heap) σ c v)(hl:zF s c=some d):bM w C.F d v:=by
 have hk:bO w w (FB C σ s.heap) C.F:=⟨fun ad u hf hu=>⟨hu,fun hF=>hf (.inl hF)⟩,fun r _ hf hu _=>⟨hu,fun hF=>hf (.inl hF)⟩⟩
 have obj:∀ {o ob B b},assoc s.heap o=some ob→σ o=some B→B.gK=some b→trees ob.cells=true→∀ k,eX w C.F (ob.cells.drop k) ⟨b,k,none⟩:=fun {o ob B b} ho hB hb ht k=>by
  obtain⟨B',e1,_,_,e4,e5⟩:=h.obj o ob ho
  rw[hB] at e1;cases e1
  obtain⟨cur,k1,k2,k3,k4,k5,k6⟩:=e5 b hb
  have h1:=bx.keep hk.1 _ _ (aQ.dN _ _ ht k6)
  have h2:eX w C.F ob.cells ⟨b,0,none⟩:=gH _ _ _ h1 e4 k3 fun j u hu=>by
   rw[add_lit,Nat.zero_add,cell_of_row w b j cur _ _ k1]
   rw[List.getElem?_take] at hu
   split at hu
   ·simpa using hu
   ·cases hu
  have:=h2.drop k
  rwa [add_lit,Nat.zero_add] at this
 unfold zF at hl
 split at hl
 ·rename_i o off n
  split at hl
  ·rename_i ob ho
   split at hl
   ·rename_i ht
    cases hl
    simp only[VR] at hv
    obtain⟨B,hB,hv⟩:=hv
    split at hv
    ·obtain⟨rfl,rfl,rfl⟩:=hv
     simp only[bM]
     exact⟨none,0,rfl,Nat.le_refl _,Nat.zero_le _,.inl ⟨trivial,by simp⟩⟩
    ·rename_i b hb
     obtain⟨cap,rfl,h1,h2,_⟩:=hv
     simp only[bM]
     exact⟨_,cap,rfl,h1,h2,.inr ⟨_,rfl,eX.take _ _ _ (obj ho hB hb ht off)⟩⟩
   ·cases hl
  ·cases hl
 ·rename_i o off
  split at hl
  ·rename_i ob ho
   split at hl
   ·rename_i ht
    cases hl
    simp only[VR] at hv
    obtain⟨B,b,hB,hb,rfl⟩:=hv
    simp only[bM]
    exact⟨_,rfl,obj ho hB hb ht off⟩
   ·cases hl
  ·cases hl
 ·split at hl
  ·rename_i ht
   cases hl
   exact bM.keep hk.1 _ _ (VR.dN _ _ ht hv)
  ·cases hl
theorem xY (h:aH C σ s a w):∀ (cs ds:List CV) (vs:List Value),aQ w (FB C σ s.heap) σ cs vs→oS s cs=some ds→bx w C.F ds vs
 | [],ds,vs,hv,hl=>by simp only[oS] at hl;cases hl;simpa [aQ,bx] using hv
 | c::cs,ds,vs,hv,hl=>by
  simp only[oS] at hl
  split at hl
  ·rename_i d ds' h1 h2
   cases hl
   simp only[aQ,bx] at hv ⊢
   obtain⟨v,r,e,k1,k2⟩:=hv
   exact⟨v,r,e,Gn h k1 h1,xY h cs ds' r k2 h2⟩
  ·cases hl
def aK (s:St)(c:Call):Option (FuncId×List CV):=
 match c.callee with
 | .value f=>match ev s f,ym s c.args.toList with
  | some (.fn g caps),some cs=>some (g,cs++caps)
  | _,_=>none
 | _=>none
def aI (P:Program)(s:St)(c:Call)(r:CV):Prop:=
 ∃ g cs,aK s c=some (g,cs)∧((trees cs=true∧ah P g cs r)∨∃ ds,oS s cs=some ds∧ah P g ds r∧scalar r=true)
theorem tG (h:aH C σ s a w){o:Oper}{c:Call}(ho:o.op=.call c){r:CV}(hc:aI P s c r)(K:Act→World→Prop)(Q:Exit→Act→World→Prop)
  (hK:∀ v w',aH C σ s a w'→VR w' (FB C σ s.heap) σ r v→K (a.put o.dst v) w'):o.wp P a w K Q:=by
 obtain⟨g,cs,hca,hp⟩:=hc
 unfold aK at hca
 split at hca
 ·rename_i f hcal
  split at hca
  ·rename_i g' caps cs' hf hcs
   cases hca
   have hfv:=bq h hf
   simp only[VR] at hfv
   obtain⟨us,e,hu⟩:=hfv
   have hargs:=nZ h _ _ hcs
   have hall:=aQ.append _ _ _ _ hargs hu
   have ent:∀ {cs},ah P g cs r→(execOp a.eval o).run P w=.ok (.enter g (c.args.toList.map a.eval++us).toArray) w:=fun hp=>by
    obtain⟨⟨fn,h1,h2,h3⟩,_⟩:=hp
    have e2:(c.args.toList.map a.eval).toArray=c.args.map a.eval:=by rw[← List.map_toArray]
    simp only[execOp,ho,resolve,hcal,e,Deferred.ofValue,Sem.run_bind,Sem.run_pure,Result.andThen_ok,invoke,callFunc,run_program,h1,h2,h3,Bool.false_eq_true,if_false]
    rw[← e2]
    simp
   rcases hp with ⟨ht,hp⟩ | ⟨ds,hl,hp,hsc⟩
   ·unfold Oper.wp
    rw[ent hp]
    refine (hp.2 (FB C σ s.heap) _ w (tC h) (aQ.dN _ _ ht hall)).mono fun e w' ⟨v,he,hb,hv⟩=>?_
    subst he
    exact hK v w' (h.below hb) (VR.cb _ _ hv)
   ·unfold Oper.wp
    rw[ent hp]
    refine (hp.2 C.F _ w (fun b hb=>Nat.lt_of_lt_of_le (C.hF b hb) h.size) (xY h _ _ _ hall hl)).mono fun e w' ⟨v,he,hb,hv⟩=>?_
    subst he
    exact hK v w' (h.below hb) (VR.cb _ _ (bM.scalar _ _ hsc hv))
  ·cases hca
 ·cases hca
theorem TL.call {o:Oper}{l:List Oper}{c:Call}{r:CV}{K:St→Prop}(hd:aW C.nt o.dst=true)(hg:o.guard=none)(ho:o.op=.call c)(hc:aI P s c r)(h:TL P C ops l (s.put o.dst r) K):TL P C ops (o::l) s K:=by
 intro a w Q hr hQ
 obtain⟨σ,hr⟩:=hr
 unfold wpList
 rw[if_pos (by simp[Region.wanted,hg])]
 refine .inl (tG hr ho hc _ _ fun v w' hr' hv=>h _ _ Q ⟨σ,hr'.put ?_ hv⟩ hQ)
 intro t e
 rw[hr'.tm]
 rw[e] at hd
 simpa [aW] using hd
theorem TL.bT {o:Oper}{l:List Oper}{c:Call}{r:CV}{K:St→Prop}{j:Nat}{want:Bool}{t:Tmp}(hd:aW C.nt o.dst=true)(hg:o.guard=some (j,want))(hj:(ops[j]?).bind (·.dst)=some t)(ht:assoc s.env t=some (.bool want))(ho:o.op=.call c)(hc:aI P s c r)(h:TL P C ops l (s.put o.dst r) K) :
  TL P C ops (o::l) s K:=by
 intro a w Q hr hQ
 have hy:=nE hr hj ht
 obtain⟨σ,hr⟩:=hr
 unfold wpList
 rw[if_pos (by simp[Region.wanted,hg,hy])]
 refine .inl (tG hr ho hc _ _ fun v w' hr' hv=>h _ _ Q ⟨σ,hr'.put ?_ hv⟩ hQ)
 intro t e
 rw[hr'.tm]
 rw[e] at hd
 simpa [aW] using hd
def enter (args:List CV):St:={ env:=args.zipIdx.map (fun x=>(x.2,x.1)),heap:=[],nx:=0 }
theorem eC:∀ (args:List CV) (k t:Nat) (c:CV),assoc ((args.zipIdx k).map fun x=>(x.2,x.1)) t=some c→k≤t∧args[t-k]? = some c
 | [],_,_,_,h=>by simp[assoc] at h
 | x::args,k,t,c,h=>by
  simp only[List.zipIdx_cons,List.map_cons,assoc] at h
  split at h
  ·rename_i e;subst e;cases h;exact⟨Nat.le_refl _,by simp⟩
  ·rename_i e
   obtain⟨h1,h2⟩:=eC args (k+1) t c h
   refine⟨by omega,?_⟩
   rw[show t-k=(t-(k+1))+1 by omega]
   simpa using h2
def nA (aj:List (Nat×TI))(s:St):ResultVar→Option CV
 | .tmp t=>assoc s.env t
 | .cell a ty=>match assoc s.env a,assoc aj ty with
  | some c,some i=>match fa s c with
   | some cs=>lG i cs
   | none=>none
  | _,_=>none
def jT (aj:List (Nat×TI))(s:St):List ResultVar→Option (List CV)
 | []=>some []
 | r::rs=>match nA aj s r,jT aj s rs with
  | some c,some cs=>some (c::cs)
  | _,_=>none
def mg:List CV→CV
 | [c]=>c
 | cs=>.df cs
def bb (aj:List (Nat×TI))(f:Func)(s:St):Option CV:=match jT aj s f.results.toList with
 | some cs=>some (mg cs)
 | none=>none
def uJ (tmps:Array Value):ResultVar→Sem Value
 | .tmp t=>pure (tmps.getD t undef)
 | .cell a t=>do loadVar t (← asAddr (tmps.getD a undef))
theorem yA (ht:aF P aj)(h:aH C σ s a w):∀ (rs:List ResultVar) (cs:List CV),jT aj s rs=some cs→∃ vs,(rs.mapM (uJ a.tmps)).run P w=.ok vs w∧aQ w (FB C σ s.heap) σ cs vs
 | [],cs,hc=>by simp only[jT] at hc;cases hc;exact⟨[],by simp,by simp[aQ]⟩
 | r::rs,cs,hc=>by
  simp only[jT] at hc
  split at hc
  ·rename_i c cs' h1 h2
   cases hc
   obtain⟨vs,k1,k2⟩:=yA ht h rs cs' h2
   have key:∃ v,(uJ a.tmps r).run P w=.ok v w∧VR w (FB C σ s.heap) σ c v:=by
    cases r with
    | tmp t=>
     obtain⟨v,m1,m2⟩:=h.env t c h1
     exact⟨v,by simp[uJ,Array.getD_eq_getD_getElem?,m1],m2⟩
    | cell x ty=>
     simp only[nA] at h1
     split at h1
     ·rename_i d i hd hi
      split at h1
      ·rename_i cells hm
       obtain⟨v,m1,m2⟩:=h.env x d hd
       obtain⟨ad,rfl,hcells⟩:=xX h m2 hm
       obtain⟨u,n1,n2⟩:=yH (P:=P) (ht ty i hi) hcells h1
       exact⟨u,by simp[uJ,Array.getD_eq_getD_getElem?,m1,asAddr,n1],n2⟩
      ·cases h1
     ·cases h1
   obtain⟨v,m1,m2⟩:=key
   refine⟨v::vs,?_,?_⟩
   ·simp only[List.mapM_cons,Sem.run_bind,m1,k1,Result.andThen_ok,Sem.run_pure]
   ·simp only[aQ];exact⟨v,vs,rfl,m2,k2⟩
  ·cases hc
theorem gj (ht:aF P aj)(h:aH C σ s a w){f:Func}{r:CV}(hr:bb aj f s=some r):∃ v,(results f a.tmps).run P w=.ok v w∧VR w (FB C σ s.heap) σ r v:=by
 unfold bb at hr
 split at hr
 ·rename_i cs hcs
  cases hr
  obtain⟨vs,k1,k2⟩:=yA ht h _ _ hcs
  have hl:=aQ.length _ _ k2
  have hm:(f.results.mapM (uJ a.tmps)).run P w=.ok vs.toArray w:=by
   rw[Array.mapM_eq_mapM_toList]
   simp only[Sem.run_map,k1,Result.andThen_ok]
  have e:results f a.tmps=(do let vs ← f.results.mapM (uJ a.tmps);pure (if h:vs.size=1 then vs[0] else .tuple vs)):=by
   unfold results
   congr 1
  rw[e]
  simp only[Sem.run_bind,hm,Result.andThen_ok,Sem.run_pure]
  refine⟨_,rfl,?_⟩
  match cs,vs,hl,k2 with
  | [c],[v],_,k2=>
   simp only[aQ] at k2
   obtain⟨_,_,e,h1,_⟩:=k2
   cases e
   simpa [mg] using h1
  | [],[],_,_=>simp[mg,VR,aQ]
  | c::d::cs,v::u::vs,_,k2=>
   simp only[mg]
   rw[dif_neg (by simp)]
   simp only[VR]
   exact⟨v::u::vs,rfl,k2⟩
 ·cases hr
def doneS (aj:List (Nat×TI))(f:Func)(r:CV):Exit→St→Prop
 | .normal,s=>bb aj f s=some r
 | .ret,s=>bb aj f s=some r
 | _,_=>False
theorem ah.iN (ht0 : aF P aj) {f : FuncId} {fn : Func} {c : Code} {args : List CV} {r : CV} (hf : P.funcs[f]? = some fn) (hb : fn.body = some c) (hn : (fn.name == "runtime.NumGoroutine") = false)
  (ha:args.length≤fn.ntmps) (ht:tree r=true) (h:∀ C:Cx,C.nt=fn.ntmps→C.n0=0→T P C c (enter args) (doneS aj fn r)):ah P f args r:=by
 refine⟨⟨fn,hf,hn,by simp[hb]⟩,fun F vs w hF hv=>?_⟩
 have hl:=bx.length _ _ hv
 let C:Cx:=⟨w,F,fun _=>False,hF,fn.ntmps,fun _=>none,0⟩
 have h0:aH C (fun _=>none) (enter args) { tmps:=vs.toArray++Array.replicate (fn.ntmps-vs.toArray.size) undef,defers:=[] } w:=by
  refine⟨rfl,by simp[C];omega,rfl,rfl,rfl,Nat.le_refl _,fun _ _ _=>rfl,?_,?_,?_,fun _ _=>rfl,fun _ h=>absurd h (Nat.not_lt_zero _),Nat.zero_le _,fun _ _ _ _ h=>by cases h⟩
  ·intro t c hc
   obtain⟨_,h2⟩:=eC args 0 t c hc
   obtain⟨v,h3,h4⟩:=bx.get _ _ hv t c (by simpa using h2)
   refine⟨v,?_,VR.cb _ _ (bM.keep (bO.same fun b hb=>?_).1 c v h4)⟩
   ·have hlt:=(List.getElem?_eq_some_iff.1 h3).1
    simp only
    rw[Array.getElem?_append_left (by simpa using hlt)]
    simpa using h3
   ·rcases hb with hF | ⟨o,ob,ho,_⟩
    ·exact hF
    ·simp[enter,assoc] at ho
  ·intro o ob ho;simp[enter,assoc] at ho
  ·intro o o' ob ob' b ho;simp[enter,assoc] at ho
 refine calls_of_wp hf hb (wp_mono (h C rfl rfl _ _ ⟨_,h0⟩) fun e a' w' ⟨s',q,σ,hr⟩=>?_)
 have fin:bb aj fn s'=some r→a'.defers=[]∧∃ v,(results fn a'.tmps).run P w'=.ok v w'∧(∃ v_1,Ending.returned v=.returned v_1∧Below w.heap.size w w'∧bM w' F r v_1):=fun hq=>by
  obtain⟨v,k1,k2⟩:=gj (P:=P) ht0 hr hq
  refine⟨hr.kO,v,k1,v,rfl,⟨hr.os,hr.tape,hr.output,hr.size,fun k hk=>hr.frame k hk (fun hx=>hx)⟩,?_⟩
  exact bM.keep (bO.same fun _ hF=>.inl hF).1 _ _ (VR.dN _ _ ht k2)
 cases e with
 | normal=>exact fin q
 | ret=>exact fin q
 | exit _=>exact q.elim
 | goto _=>exact q.elim
 | panic _=>exact q.elim
 | outgrown=>exact q.elim
end
theorem BC {aj:List (Nat×TI)}{nt:Nat}{ops:Array Oper}{s:St}:oF aj nt ops [] s=some s:=rfl
theorem rI {aj:List (Nat×TI)}{nt:Nat}{ops:Array Oper}{o:Oper}{l:List Oper}{s:St}:oF aj nt ops (o::l) s=(eL aj nt ops s o).bind (oF aj nt ops l):=by
 simp only[oF]
 cases eL aj nt ops s o<;>rfl
def sj (K:St→Prop):Option St→Prop
 | some s=>K s
 | none=>False
end Go.Can
