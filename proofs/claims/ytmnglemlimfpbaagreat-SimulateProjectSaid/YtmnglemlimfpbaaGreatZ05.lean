/- One operation as a step of canonical states; what may be sai -/
import Derived.Test.YtmnglemlimfpbaaGreatZ04
namespace Go.Can
open Go.RowKit
section
variable {P:Program}{C:Cx}{σ:Nat→Option OB}{s:St}{a:Act}{w:World}
def Dq (aq:List (Nat×TI))(s:St)(d:Option Tmp)(t:TypeId)(x y:Operand):Option St:=
 match dz aq t,ev s x,ev s y with
 | some (.sl e),some (.bx o off n),some q=>
  match assoc aq e,cells? s q,assoc s.heap o with
  | some ie,some (news,m),some ob=>
   if 0<n∧news.length=m*ie.size∧off+n*ie.size≤ob.cells.length then
    some (St.put { s with heap:=qQ s.heap o { ob with cells:=eO ob.cells off (news.take ((min m n)*ie.size)) } } d (.int .i64 (min m n:Nat)))
   else none
  | _,_,_=>none
 | _,_,_=>none
theorem Hn {aq:List (Nat×TI)}(ht:ay P aq)(h:aG C σ s a w){o:Oper}{cl:Call}{t t':TypeId}{x y:Operand}(hd:∀ t,o.dst=some t→t<a.tmps.size)(ho:o.op=.call cl)(hcl:cl.callee=.builtin .copy)(hargs:cl.args=#[x,y])(hts:cl.argTypes=#[t,t'])
  {s':St} (hc:Dq aq s o.dst t x y=some s'):∃ z w',(execOp a.eval o).run P w=.ok (.value z) w'∧Rel C s' (a.put o.dst z) w':=by
 unfold Dq at hc
 split at hc
 ·rename_i e o' off n q hd' hp hq
  obtain⟨it,hit,hd'⟩:=Option.map_eq_some_iff.1 hd'
  split at hc
  ·rename_i ie news m ob hie hcs hob
   split at hc
   ·rename_i hb
    obtain⟨q1,q3,q4⟩:=hb
    cases hc
    obtain⟨f,z,g1,g2,_⟩:=(ht e ie hie).info
    have hu:=dE (ht t it hit) hd'
    obtain⟨us,u1,u2,u3⟩:=cells?_ok h (bz h hq) hcs
    have ul:=aS.length _ _ u1
    have hx:=bz h hp
    simp only[VR] at hx
    obtain⟨B,hB,hx⟩:=hx
    obtain⟨B0,e1,e2,_,e4,e5⟩:=h.obj _ ob hob
    rw[hB] at e1;cases e1
    split at hx
    ·obtain⟨_,_,h0⟩:=hx;omega
    rename_i b hbb
    obtain⟨cap,ex,c1,c2,c3,c4⟩:=hx
    obtain⟨cur,n1,n2,n3,n4,n5,n6⟩:=e5 b hbb
    have hk:(us.take ((min m n)*ie.size)).length=min m n*ie.size:=by
     rw[List.length_take,ul,q3]
     have:min m n*ie.size≤m*ie.size:=Nat.mul_le_mul_right _ (Nat.min_le_left _ _)
     omega
    have hkn:min m n*ie.size≤n*ie.size:=Nat.mul_le_mul_right _ (Nat.min_le_right _ _)
    have u1':=aS.take ((min m n)*ie.size) _ _ u1
    have u2':(news.take ((min m n)*ie.size)).all one=true:=by
     rw[List.all_eq_true] at u2 ⊢
     exact fun x hx=>u2 x (List.mem_of_mem_take hx)
    have hst:=run_storeCells_at P b off ob.elem (us.take ((min m n)*ie.size)) 0 cur w n1 (by rw[hk];omega) (aS.iJ _ _ u2' u1')
    simp only[Nat.add_zero] at hst
    have hnl:(news.take ((min m n)*ie.size)).length=min m n*ie.size:=by rw[← aS.length _ _ u1',hk]
    have hw:=h.write hob hB hbb (cs':=eO ob.cells off (news.take ((min m n)*ie.size))) (us':=cur.toList.take off++us.take ((min m n)*ie.size)++cur.toList.drop (off+(us.take ((min m n)*ie.size)).length)) (by simp[hk];omega)
     (by rw[fH _ _ _ yA];simp[hk];omega) (by
      rw[fH _ _ _ yA]
      have:=tf n6 off u1'
      have ee:(cur.toList.take off++us.take ((min m n)*ie.size)++cur.toList.drop (off+(us.take ((min m n)*ie.size)).length)).take ob.cells.length =
        (cur.toList.take ob.cells.length).take off++us.take ((min m n)*ie.size)++(cur.toList.take ob.cells.length).drop (off+(us.take ((min m n)*ie.size)).length):=by
       have hcl:ob.cells.length≤cur.toList.length:=by simpa using n5
       generalize us.take ((min m n)*ie.size)=vs at *
       rw[List.take_append,List.take_append]
       simp only[List.length_append,List.length_take,List.take_take,List.drop_take]
       rw[Nat.min_eq_right (show off≤ob.cells.length by omega),Nat.min_eq_left (show off≤cur.toList.length by omega),List.take_of_length_le (show vs.length≤ob.cells.length-off by omega)]
       congr 2
       ·rw[Nat.min_eq_left (show off≤ob.cells.length by omega)]
      rw[ee]
      exact this) (qz off e4 u2')
    refine⟨.int .i64 (min m n:Nat),_,?_,_,hw.put hd (dO _ _)⟩
    have hfirst:∀ k,k=min m n→(Builtin.firstCells ie.size k (a.eval y)).run P w=.ok (us.take (k*ie.size)).toArray w:=by
     rintro k rfl
     rcases u3 with ⟨c,e,rfl,rfl⟩ | ⟨ad,c,e,hcell⟩
     ·simp[e,Builtin.firstCells]
     ·rw[e]
      exact run_firstCells_some (P:=P) w ie.size _ ad m c _ hk fun j x hx=>by
       rw[List.getElem?_take] at hx
       split at hx
       ·exact hcell j x hx
       ·cases hx
    have hlen:(Builtin.lenOf (a.eval y)).run P w=.ok m w:=by
     rcases u3 with ⟨c,e,rfl,rfl⟩ | ⟨ad,c,e,hcell⟩<;>simp[e,Builtin.lenOf]
    have hmin:Nat.min m n=min m n:=rfl
    simp only[execOp,ho,resolve,hcl,hargs,hts,Sem.run_bind,Sem.run_pure,Result.andThen_ok,invoke,builtin,Builtin.copy_,List.map_toArray,List.map_cons,List.map_nil]
    simp only[List.getElem?_toArray,List.getElem?_cons_zero,List.getElem?_cons_succ,Sem.run_bind,bq hu,ex,Result.andThen_ok,hlen,cN g1,g2,hmin,hfirst _ rfl,hst,Sem.run_pure,goInt]
   ·cases hc
  ·cases hc
 ·cases hc
theorem zi {α:Type}:∀ (l:List (Nat×α)) (t:Nat) (x:α),assoc l t=some x→qQ l t x=l
 | [],_,_,h=>by simp[assoc] at h
 | (k,v)::r,t,x,h=>by
  simp only[assoc] at h
  simp only[qQ]
  split at h
  ·rename_i e;cases h;rw[if_pos e]
  ·rename_i e;rw[if_neg e,zi r t x h]
def yX (aq:List (Nat×TI))(s:St)(d:Option Tmp)(t:TypeId)(x:Operand):Option St:=
 match dz aq t,ev s x with
 | some (.sl e),some (.bx o off n)=>
  match assoc aq e,assoc s.heap o with
  | some ie,some ob=>
   if ob.sz=ie.size∧off+n*ie.size≤ob.cells.length then
    some (St.put { s with heap:=qQ s.heap o { ob with cells:=eO ob.cells off (aI ie.zero n) } } d (.cr []))
   else none
  | _,_=>none
 | some (.sl _),some .ah=>some (s.put d (.cr []))
 | _,_=>none
theorem EA {aq:List (Nat×TI)}(ht:ay P aq)(h:aG C σ s a w){o:Oper}{cl:Call}{t:TypeId}{x:Operand}(hd:∀ t,o.dst=some t→t<a.tmps.size)(ho:o.op=.call cl)(hcl:cl.callee=.builtin .clear)(hargs:cl.args=#[x])(hts:cl.argTypes=#[t])
  {s':St} (hc:yX aq s o.dst t x=some s'):∃ z w',(execOp a.eval o).run P w=.ok (.value z) w'∧Rel C s' (a.put o.dst z) w':=by
 have hu0:∀ {w':World} {d:Option Tmp} {s:St},VR w' (FB C σ s.heap) σ (.cr []) (.tuple #[]):=fun {w' d s}=>by
  simp only[VR];exact⟨[],rfl,rfl⟩
 unfold yX at hc
 split at hc
 ·rename_i e o' off n hd' hp
  obtain⟨it,hit,hd'⟩:=Option.map_eq_some_iff.1 hd'
  split at hc
  ·rename_i ie ob hie hob
   split at hc
   ·rename_i hb
    obtain⟨q1,q2⟩:=hb
    cases hc
    obtain⟨f,z,g1,g2,_,g4,g5⟩:=(ht e ie hie).info
    obtain⟨k1,k2⟩:=cY (w:=w) (F:=FB C σ s.heap) _ _ g5
    have hu:=dE (ht t it hit) hd'
    have hx:=bz h hp
    simp only[VR] at hx
    obtain⟨B,hB,hx⟩:=hx
    obtain⟨B0,e1,e2,e3,e4,e5⟩:=h.obj _ ob hob
    rw[hB] at e1;cases e1
    have hzl:(aI ie.zero n).length=n*ie.size:=by rw[fo,(ht e ie hie).len]
    have none_case:n=0→qQ s.heap o' { ob with cells:=eO ob.cells off (aI ie.zero n) }=s.heap:=fun hn=>by
     subst hn
     have:eO ob.cells off (aI ie.zero 0)=ob.cells:=by simp[eO,aI]
     rw[this];exact zi _ _ _ hob
    split at hx
    ·obtain⟨ex,rfl,rfl⟩:=hx
     rw[none_case rfl]
     refine⟨.tuple #[],w,?_,_,h.put hd (hu0 (d:=none) (s:=s))⟩
     simp only[execOp,ho,resolve,hcl,hargs,hts,Sem.run_bind,Sem.run_pure,Result.andThen_ok,invoke,builtin,Builtin.clear_,List.map_toArray,List.map_cons,List.map_nil]
     simp only[List.getElem?_toArray,List.getElem?_cons_zero,Sem.run_bind,bq hu,ex,Result.andThen_ok,Sem.run_pure]
    ·rename_i b hbb
     obtain⟨cap,ex,c1,c2,c3,c4⟩:=hx
     obtain⟨cur,n1,n2,n3,n4,n5,n6⟩:=e5 b hbb
     by_cases hn:n=0
     ·subst hn
      rw[none_case rfl]
      refine⟨.tuple #[],w,?_,_,h.put hd (hu0 (d:=none) (s:=s))⟩
      simp only[execOp,ho,resolve,hcl,hargs,hts,Sem.run_bind,Sem.run_pure,Result.andThen_ok,invoke,builtin,Builtin.clear_,List.map_toArray,List.map_cons,List.map_nil]
      simp only[List.getElem?_toArray,List.getElem?_cons_zero,Sem.run_bind,bq hu,ex,Result.andThen_ok,Sem.run_pure]
     ·have hsz:z.cells.size=ie.size:=by rw[← (ht e ie hie).len,← bJ.length _ _ k1];simp
      have hz:=lH (σ:=σ) (aS.cu _ _ k1) n
      have hz1:=jP k2 n
      have hul:(Builtin.zeroCells z.cells n).toList=(madeCells z.cells (n*z.cells.size)).toList:=rfl
      have hlen:(madeCells z.cells (n*z.cells.size)).toList.length=n*ie.size:=by simp[size_madeCells,hsz]
      have hst:=run_storeCells_at P b off ob.elem (madeCells z.cells (n*z.cells.size)).toList 0 cur w n1 (by rw[hlen];omega) (aS.iJ _ _ hz1 hz)
      simp only[Nat.add_zero] at hst
      have hw:=h.write hob hB hbb (cs':=eO ob.cells off (aI ie.zero n)) (us':=cur.toList.take off++(madeCells z.cells (n*z.cells.size)).toList++cur.toList.drop (off+(madeCells z.cells (n*z.cells.size)).toList.length)) (by simp only[List.length_append,List.length_take,List.length_drop,hlen];simp;omega)
       (by rw[fH _ _ _ yA];simp only[List.length_append,List.length_take,List.length_drop,hlen];simp;omega) (by
        rw[fH _ _ _ yA]
        have:=tf n6 off hz
        have ee:(cur.toList.take off++(madeCells z.cells (n*z.cells.size)).toList++cur.toList.drop (off+(madeCells z.cells (n*z.cells.size)).toList.length)).take ob.cells.length =
          (cur.toList.take ob.cells.length).take off++(madeCells z.cells (n*z.cells.size)).toList++(cur.toList.take ob.cells.length).drop (off+(madeCells z.cells (n*z.cells.size)).toList.length):=by
         have hcl:ob.cells.length≤cur.toList.length:=by simpa using n5
         generalize (madeCells z.cells (n*z.cells.size)).toList=vs at *
         rw[List.take_append,List.take_append]
         simp only[List.length_append,List.length_take,List.take_take,List.drop_take]
         rw[Nat.min_eq_right (show off≤ob.cells.length by omega),Nat.min_eq_left (show off≤cur.toList.length by omega),List.take_of_length_le (show vs.length≤ob.cells.length-off by omega)]
         congr 2
         ·rw[Nat.min_eq_left (show off≤ob.cells.length by omega)]
        rw[ee]
        exact this) (qz off e4 hz1)
      refine⟨.tuple #[],_,?_,_,hw.put hd (hu0 (d:=none) (s:={ s with heap:=qQ s.heap o' { ob with cells:=eO ob.cells off (aI ie.zero n) } }))⟩
      obtain⟨m,rfl⟩:∃ m,n=m+1:=⟨n-1,by omega⟩
      simp only[execOp,ho,resolve,hcl,hargs,hts,Sem.run_bind,Sem.run_pure,Result.andThen_ok,invoke,builtin,Builtin.clear_,List.map_toArray,List.map_cons,List.map_nil]
      simp only[List.getElem?_toArray,List.getElem?_cons_zero,Sem.run_bind,bq hu,ex,Result.andThen_ok,g7 g1 g4,hul,hst,Sem.run_pure]
   ·cases hc
  ·cases hc
 ·rename_i e hd' hp
  obtain⟨it,hit,hd'⟩:=Option.map_eq_some_iff.1 hd'
  cases hc
  have hu:=dE (ht t it hit) hd'
  have ex:=bz h hp
  simp only[VR] at ex
  refine⟨.tuple #[],w,?_,_,h.put hd (hu0 (d:=none) (s:=s))⟩
  simp only[execOp,ho,resolve,hcl,hargs,hts,Sem.run_bind,Sem.run_pure,Result.andThen_ok,invoke,builtin,Builtin.clear_,List.map_toArray,List.map_cons,List.map_nil]
  simp only[List.getElem?_toArray,List.getElem?_cons_zero,Sem.run_bind,bq hu,ex,Result.andThen_ok,Sem.run_pure]
 ·cases hc
end
def aU (nt:Nat)(d:Option Tmp):Bool:=match d with
 | some t=>decide (t<nt)
 | none=>true
def Ft (aq:List (Nat×TI))(s:St)(d:Option Tmp)(c:Call):Option St:=
 match c.callee with
 | .builtin .append=>match c.args.toList,c.argTypes.toList with
  | [x,y],[t,t']=>if t=t' then oG aq s d t x y else none
  | _,_=>none
 | .builtin .copy=>match c.args.toList,c.argTypes.toList with
  | [x,y],[t,_]=>Dq aq s d t x y
  | _,_=>none
 | .builtin .clear=>match c.args.toList,c.argTypes.toList with
  | [x],[t]=>yX aq s d t x
  | _,_=>none
 | .builtin b=>(ij aq s b c.args.toList c.argTypes.toList).map (s.put d)
 | _=>none
def kW (aq:List (Nat×TI))(s:St)(o:Oper):Option St:=
 match o.op with
 | .store t x v=>(nX aq s t x v).map (·.del o.dst)
 | .makeSlice t l c=>Dm aq s o.dst t l c
 | .alloc e=>yY aq s o.dst e
 | .box e x=>Hp s o.dst e x
 | .buildSlice t len parts=>jo aq s o.dst t len parts.toList
 | .call c=>Ft aq s o.dst c
 | op=>(da aq s op).map (s.put o.dst)
def mo (e:Option CV)(want:Bool):Option Bool:=match e with
 | some (.bool b)=>some (b == want)
 | some (.cr [])=>some false
 | _=>none
def fe (aq:List (Nat×TI))(nt:Nat)(ops:Array Oper)(s:St)(o:Oper):Option St:=
 if aU nt o.dst then
  match o.guard with
  | none=>kW aq s o
  | some (j,want)=>match (ops[j]?).bind (·.dst) with
   | none=>none
   | some t=>match mo (assoc s.env t) want with
    | some true=>kW aq s o
    | some false=>some (s.put o.dst (.cr []))
    | none=>none
 else none
def p9 (aq:List (Nat×TI))(nt:Nat)(ops:Array Oper):List Oper→St→Option St
 | [],s=>some s
 | o::r,s=>match fe aq nt ops s o with
  | some s'=>p9 aq nt ops r s'
  | none=>none
section
variable {P:Program}{C:Cx}{s:St}{a:Act}{w:World}{ops:Array Oper}{aq:List (Nat×TI)}
theorem wD (ht:ay P aq)(h:Rel C s a w){o:Oper}(hd:aU C.nt o.dst=true){s':St}(hs:kW aq s o=some s') :
  ∃ w',((∃ z,(execOp a.eval o).run P w=.ok (.value z) w'∧Rel C s' (a.put o.dst z) w')∨((execOp a.eval o).run P w=.ok .skip w'∧Rel C s' (a.put o.dst undef) w')):=by
 obtain⟨σ,h⟩:=h
 have hd':∀ t,o.dst=some t→t<a.tmps.size:=fun t e=>by
  rw[h.tm]
  rw[e] at hd
  simpa [aU] using hd
 have quiet:∀ c,da aq s o.op=some c→s.put o.dst c=s'→∃ w',((∃ z,(execOp a.eval o).run P w=.ok (.value z) w'∧Rel C s' (a.put o.dst z) w')∨((execOp a.eval o).run P w=.ok .skip w'∧Rel C s' (a.put o.dst undef) w')):=fun c hc e=>by
  obtain⟨z,k1,k2⟩:=yi ht h o hc
  exact⟨w,.inl ⟨z,k1,σ,e ▸ h.put hd' k2⟩⟩
 unfold kW at hs
 split at hs
 ·rename_i t x v ho
  obtain⟨s1,h1,rfl⟩:=Option.map_eq_some_iff.1 hs
  obtain⟨w',k1,k2,_⟩:=xC ht h ho h1
  exact⟨w',.inr ⟨k1,σ,k2.del undef⟩⟩
 ·rename_i t l c ho
  obtain⟨z,w',k1,k2⟩:=Hi ht h hd' ho hs
  exact⟨w',.inl ⟨z,k1,k2⟩⟩
 ·rename_i e ho
  obtain⟨z,w',k1,k2⟩:=ED ht h hd' ho hs
  exact⟨w',.inl ⟨z,k1,k2⟩⟩
 ·rename_i e x ho
  obtain⟨z,w',k1,k2⟩:=Jg (P:=P) h hd' ho hs
  exact⟨w',.inl ⟨z,k1,k2⟩⟩
 ·rename_i t len parts ho
  obtain⟨z,w',k1,k2⟩:=vm ht h hd' ho hs
  exact⟨w',.inl ⟨z,k1,k2⟩⟩
 ·rename_i cl ho
  unfold Ft at hs
  split at hs
  ·rename_i hcl
   split at hs
   ·rename_i x y t t' ha hts
    split at hs
    ·rename_i e;subst e
     obtain⟨z,w',_,k1,k2⟩:=vp ht h hd' ho hcl yCk yCi hs
     exact⟨w',.inl ⟨z,k1,_,k2⟩⟩
    ·cases hs
   ·cases hs
  ·rename_i hcl
   split at hs
   ·rename_i x y t t' ha hts
    obtain⟨z,w',k1,k2⟩:=Hn ht h hd' ho hcl yCk yCi hs
    exact⟨w',.inl ⟨z,k1,k2⟩⟩
   ·cases hs
  ·rename_i hcl
   split at hs
   ·rename_i x t ha hts
    obtain⟨z,w',k1,k2⟩:=EA ht h hd' ho hcl yCk yCi hs
    exact⟨w',.inl ⟨z,k1,k2⟩⟩
   ·cases hs
  ·rename_i b _ _ _ hcl
   obtain⟨c,hc,e⟩:=Option.map_eq_some_iff.1 hs
   exact quiet c (by rw[ho];simp only[da,hcl];exact hc) e
  ·cases hs
 ·obtain⟨c,hc,e⟩:=Option.map_eq_some_iff.1 hs
  exact quiet c hc e
theorem pv (h:Rel C s a w){j:Nat}{t:Tmp}{b:Bool}(hj:(ops[j]?).bind (·.dst)=some t)(he:assoc s.env t=some (.bool b)):yielded ops a.tmps j=some b:=by
 obtain⟨σ,h⟩:=h
 obtain⟨v,h1,h2⟩:=h.env t _ he
 simp only[VR] at h2
 subst h2
 simp[yielded,hj,h1]
theorem jQ (h:Rel C s a w){o:Oper}{j:Nat}{want:Bool}{t:Tmp}{b:Bool}(hg:o.guard=some (j,want))(hj:(ops[j]?).bind (·.dst)=some t)(he:mo (assoc s.env t) want=some b):Region.wanted o (yielded ops a.tmps)=b:=by
 unfold mo at he
 split at he
 ·rename_i b' hb
  cases he
  simp[Region.wanted,hg,pv h hj hb]
 ·rename_i hb
  cases he
  obtain⟨σ,h⟩:=h
  obtain⟨v,h1,h2⟩:=h.env t _ hb
  simp only[VR] at h2
  obtain⟨vs,rfl,h3⟩:=h2
  simp[Region.wanted,hg,yielded,hj,h1]
 ·cases he
theorem Rel.skip (h:Rel C s a w){d:Option Tmp}(hd:aU C.nt d=true):Rel C (s.put d (.cr [])) (a.put d undef) w:=by
 obtain⟨σ,h⟩:=h
 refine⟨σ,h.put (fun t e=>?_) ?_⟩
 ·rw[h.tm]
  rw[e] at hd
  simpa [aU] using hd
 ·exact⟨[],rfl,rfl⟩
def TL (P:Program)(C:Cx)(ops:Array Oper)(l:List Oper)(s:St)(K:St→Prop):Prop:=
 ∀ a w (Q:Exit→Act→World→Prop),Rel C s a w→(∀ s' a' w',K s'→Rel C s' a' w'→Q .normal a' w')→wpList P ops Q l a w
theorem TL.nil {K:St→Prop}(h:K s):TL P C ops [] s K:=fun _ _ _ hr hQ=>hQ _ _ _ h hr
theorem TL.step (ht:ay P aq){o:Oper}{l:List Oper}{K:St→Prop}{s':St}(hs:fe aq C.nt ops s o=some s')(h:TL P C ops l s' K):TL P C ops (o::l) s K:=by
 intro a w Q hr hQ
 have run:∀ {s'},aU C.nt o.dst=true→Region.wanted o (yielded ops a.tmps)=true→kW aq s o=some s'→TL P C ops l s' K→wpList P ops Q (o::l) a w:=fun {s'} hd hw hs h=>by
  unfold wpList
  rw[if_pos hw]
  refine .inl ?_
  obtain⟨w',h1 | h1⟩:=wD ht hr hd hs
  ·obtain⟨z,k1,k2⟩:=h1
   unfold Oper.wp
   rw[k1]
   exact h _ _ Q k2 hQ
  ·obtain⟨k1,k2⟩:=h1
   unfold Oper.wp
   rw[k1]
   exact h _ _ Q k2 hQ
 unfold fe at hs
 split at hs
 ·rename_i hd
  split at hs
  ·rename_i hg
   exact run hd (by simp[Region.wanted,hg]) hs h
  ·rename_i j want hg
   split at hs
   ·cases hs
   rename_i t hj
   split at hs
   ·rename_i hb
    exact run hd (jQ hr hg hj hb) hs h
   ·rename_i hb
    cases hs
    unfold wpList
    rw[if_neg (by simp[jQ hr hg hj hb])]
    exact h _ _ Q (hr.skip hd) hQ
   ·cases hs
 ·cases hs
theorem TL.run (ht:ay P aq){K:St→Prop}:∀ {l:List Oper} {s s':St},p9 aq C.nt ops l s=some s'→K s'→TL P C ops l s K
 | [],s,s',hs,hk=>by simp only[p9] at hs;cases hs;exact TL.nil hk
 | o::l,s,s',hs,hk=>by
  simp only[p9] at hs
  split at hs
  ·rename_i s1 h1
   exact TL.step ht h1 (TL.run ht hs hk)
  ·cases hs
def T (P:Program)(C:Cx)(c:Code)(s:St)(Q:Exit→St→Prop):Prop:=
 ∀ a w,Rel C s a w→c.wp P (fun e a' w'=>∃ s',Q e s'∧Rel C s' a' w') a w
def eR (K:St→Prop)(Q:Exit→St→Prop):Exit→St→Prop
 | .normal,s=>K s
 | e,s=>Q e s
theorem T.mono {c:Code}{Q Q':Exit→St→Prop}(h:T P C c s Q)(hq:∀ e s',Q e s'→Q' e s'):T P C c s Q':=fun a w hr=>
 wp_mono (h a w hr) fun e _ _ ⟨s',q,r⟩=>⟨s',hq e s' q,r⟩
theorem T.region {id:Nat}{l:List Oper}{Q:Exit→St→Prop}(h:TL P C l.toArray l s (Q .normal)):T P C (.region id l.toArray false) s Q:=fun a w hr=>
 wp_region_lit (h a w _ hr fun s' _ _ hk hr'=>⟨s',hk,hr'⟩)
theorem T.seq {x y:Code}{Q:Exit→St→Prop}(h:T P C x s (eR (fun s'=>T P C y s' Q) Q)):T P C (.seq x y) s Q:=fun a w hr=>
 wp_seq (wp_mono (h a w hr) fun e a' w' ⟨s',q,r⟩=>by
  cases e with
  | normal=>exact q a' w' r
  | _=>exact⟨s',q,r⟩)
theorem T.cond {c:Operand}{x y:Code}{b:Bool}{Q:Exit→St→Prop}(hc:ev s c=some (.bool b))(h:T P C (if b then x else y) s Q):T P C (.cond c x y) s Q:=fun a w hr=>by
 have hr0:=hr
 obtain⟨σ,hr'⟩:=hr0
 have:=bz hr' hc
 simp only[VR] at this
 exact wp_cond this (h a w hr)
theorem T.skip {Q:Exit→St→Prop}(h:Q .normal s):T P C .skip s Q:=fun _ _ hr=>wp_skip ⟨s,h,hr⟩
theorem T.exit {id:Nat}{Q:Exit→St→Prop}(h:Q (.exit id) s):T P C (.exit id) s Q:=fun _ _ hr=>wp_exit ⟨s,h,hr⟩
theorem T.ret {Q:Exit→St→Prop}(h:Q .ret s):T P C .ret s Q:=fun _ _ hr=>wp_ret ⟨s,h,hr⟩
theorem T.label {l:Nat}{Q:Exit→St→Prop}(h:Q .normal s):T P C (.label l) s Q:=fun _ _ hr=>wp_label ⟨s,h,hr⟩
theorem T.goto {l:Nat}{Q:Exit→St→Prop}(h:Q (.goto l) s):T P C (.goto l) s Q:=fun _ _ hr=>wp_goto ⟨s,h,hr⟩
def oa (id:Nat)(Q:Exit→St→Prop):Exit→St→Prop
 | .exit i,s=>if i=id then Q .normal s else Q (.exit i) s
 | e,s=>Q e s
theorem T.block {id:Nat}{c:Code}{Q:Exit→St→Prop}(h:T P C c s (oa id Q)):T P C (.block id c) s Q:=fun a w hr=>
 wp_block (wp_mono (h a w hr) fun e a' w' ⟨s',q,r⟩=>by
  cases e with
  | exit i=>
   simp only[Exit.inBlock,oa] at q ⊢
   split
   ·rename_i e;rw[if_pos e] at q;exact⟨s',q,r⟩
   ·rename_i e;rw[if_neg e] at q;exact⟨s',q,r⟩
  | _=>exact⟨s',q,r⟩)
theorem Bo {c:Code}{Q:Exit→Act→World→Prop}(I:Nat→Act→World→Prop){n:Nat}(h₀:I n a w)
  (round:∀ n a w,I n a w→c.wp P (Exit.then (fun a' w'=>∃ m,m<n∧I m a' w') Q) a w):(Code.loop c).wp P Q a w:=by
 classical
 have hx:∀ a w,(∃ n,I n a w)→∃ n,I n a w∧∀ m,I m a w→n≤m:=fun a w ⟨n,hn⟩=>by
  induction n using Nat.strongRecOn with
  | _ n ih=>
   by_cases h:∃ m,m<n∧I m a w
   ·obtain⟨m,hm,hi⟩:=h;exact ih m hm hi
   ·exact⟨n,hn,fun m hm=>Nat.le_of_not_lt fun hlt=>h ⟨m,hlt,hm⟩⟩
 let μ:Act→World→Nat:=fun a w=>if h:∃ n,I n a w then (hx a w h).choose else 0
 have hμ:∀ a w (h:∃ n,I n a w),I (μ a w) a w∧∀ m,I m a w→μ a w≤m:=fun a w h=>by
  simp only[μ,dif_pos h];exact (hx a w h).choose_spec
 refine wp_loop (fun a w=>∃ n,I n a w) μ ⟨n,h₀⟩ fun a w hI=>?_
 refine wp_mono (round (μ a w) a w (hμ a w hI).1) fun e a' w' q=>?_
 cases e with
 | normal=>
  obtain⟨m,hm,hi⟩:=q
  exact⟨⟨m,hi⟩,Nat.lt_of_le_of_lt ((hμ a' w' ⟨m,hi⟩).2 m hi) hm⟩
 | _=>exact q
theorem T.loop {c:Code}{Q:Exit→St→Prop}(I:Nat→St→Prop){n:Nat}(h₀:I n s)(round:∀ n s,I n s→T P C c s (eR (fun s'=>∃ m,m<n∧I m s') Q)):T P C (.loop c) s Q:=fun a w hr=>
 Bo (fun n a w=>∃ s,I n s∧Rel C s a w) ⟨s,h₀,hr⟩ fun n a w ⟨s,hi,hr⟩=>wp_mono (round n s hi a w hr) fun e a' w' ⟨s',q,r⟩=>by
  cases e with
  | normal=>obtain⟨m,hm,hi⟩:=q;exact⟨m,hm,s',hi,r⟩
  | _=>exact⟨s',q,r⟩
end
def jA (P : Program) (f : FuncId) : Prop := ∃ fn, P.funcs[f]? = some fn ∧ (fn.name == "runtime.NumGoroutine") = false ∧ fn.body.isNone = false
def ae (P:Program)(f:FuncId)(args:List CV)(r:CV):Prop:=
 jA P f∧∀ (F:Nat→Prop) (vs:List Value) (w:World),(∀ b,F b→b<w.heap.size)→bJ w F args vs →
  Calls P f vs.toArray w fun e w'=>∃ v,e=.returned v∧Below w.heap.size w w'∧bY w' F r v
mutual
/-- No memory in it. -/
def scalar:CV→Bool
 | .int _ _=>true
 | .bool _=>true
 | .str _=>true
 | .ah=>true
 | .bm=>true
 | .cw=>true
 | .agg cs=>mc cs
 | .cr cs=>mc cs
 | _=>false
def mc:List CV→Bool
 | []=>true
 | c::cs=>scalar c && mc cs
end
mutual
theorem bY.scalar {w w':World}{F F':Nat→Prop}:∀ (c:CV) (v:Value),Can.scalar c=true→bY w F c v→bY w' F' c v
 | .int _ _,_,_,h=>by simpa [bY] using h
 | .bool _,_,_,h=>by simpa [bY] using h
 | .str _,_,_,h=>by simpa [bY] using h
 | .ah,_,_,h=>by simpa [bY] using h
 | .bm,_,_,h=>by simpa [bY] using h
 | .cw,_,_,h=>by simpa [bY] using h
 | .agg cs,v,hs,h=>by
  simp only[bY,Can.scalar] at h hs ⊢
  obtain⟨vs,e,r,h1⟩:=h
  exact⟨vs,e,bJ.scalar cs vs hs r,h1⟩
 | .cr cs,v,hs,h=>by
  simp only[bY,Can.scalar] at h hs ⊢
  obtain⟨vs,e,r⟩:=h
  exact⟨vs,e,bJ.scalar cs vs hs r⟩
 | .av _ _,_,hs,_=>by simp[Can.scalar] at hs
 | .cM _,_,hs,_=>by simp[Can.scalar] at hs
 | .fn _ _,_,hs,_=>by simp[Can.scalar] at hs
 | .iface _ _,_,hs,_=>by simp[Can.scalar] at hs
 | .iter _ _ _,_,hs,_=>by simp[Can.scalar] at hs
 | .mp _ _,_,hs,_=>by simp[Can.scalar] at hs
 | .bx _ _ _,_,hs,_=>by simp[Can.scalar] at hs
 | .aw _ _,_,hs,_=>by simp[Can.scalar] at hs
theorem bJ.scalar {w w':World}{F F':Nat→Prop}:∀ (cs:List CV) (vs:List Value),mc cs=true→bJ w F cs vs→bJ w' F' cs vs
 | [],_,_,h=>by simpa [bJ] using h
 | c::cs,vs,hs,h=>by
  simp only[bJ,mc,Bool.and_eq_true] at h hs ⊢
  obtain⟨v,r,e,h1,h2⟩:=h
  exact⟨v,r,e,bY.scalar c v hs.1 h1,bJ.scalar cs r hs.2 h2⟩
end
def yz (s:St):CV→Option CV
 | .bx o off n=>match assoc s.heap o with
  | some ob=>if trees ob.cells then some (.av ((ob.cells.drop off).take (n*ob.sz)) n) else none
  | none=>none
 | .aw o off=>match assoc s.heap o with
  | some ob=>if trees ob.cells then some (.cM (ob.cells.drop off)) else none
  | none=>none
 | c=>if tree c then some c else none
def mS (s:St):List CV→Option (List CV)
 | []=>some []
 | c::cs=>match yz s c,mS s cs with
  | some d,some ds=>some (d::ds)
  | _,_=>none
section
variable {P:Program}{C:Cx}{σ:Nat→Option OB}{s:St}{a:Act}{w:World}{ops:Array Oper}{aq:List (Nat×TI)}
theorem aG.below (h:aG C σ s a w){w':World}(hb:Below w.heap.size w w'):aG C σ s a w':=by
 have hg:w.grownBy w' none:=⟨hb.os,hb.tape,hb.output,hb.size,fun k hk _=>hb.block k hk⟩
 have hk:cF w w' (FB C σ s.heap) (FB C σ s.heap):=kN hg (fun b e=>by cases e) fun b hb=>.inl hb
 refine⟨h.nq,h.tm,hg.os.trans h.os,hg.tape.trans h.tape,hg.output.trans h.output,Nat.le_trans h.size hg.size,?_,?_,?_,h.inj,h.nx,h.fj,h.low,h.new⟩
 ·intro b hb' hown
  rw[hb.block b (Nat.lt_of_lt_of_le hb' h.size)]
  exact h.frame b hb' hown
 ·intro t c hc
  obtain⟨v,k1,k2⟩:=h.env t c hc
  exact⟨v,k1,VR.bp hk c v (fun _ _=>rfl) k2⟩
 ·intro o ob ho
  obtain⟨B,m1,m2,m3,m4,m5⟩:=h.obj o ob ho
  refine⟨B,m1,m2,m3,m4,fun b hb'=>?_⟩
  obtain⟨cur,n1,n2,n3,n4,n5,n6⟩:=m5 b hb'
  exact⟨cur,by rw[hb.block b (Array.getElem?_eq_some_iff.1 n1).1];exact n1,n2,n3,n4,n5,aS.bp hk _ _ (fun _ _=>rfl) n6⟩
theorem xO (h:aG C σ s a w):∀ b,FB C σ s.heap b→b<w.heap.size:=by
 rintro b (hb | ⟨o,ob,ho,hb⟩)
 ·exact Nat.lt_of_lt_of_le (C.hF b hb) h.size
 ·obtain⟨B',m1,_,_,_,m5⟩:=h.obj o ob ho
  obtain⟨cur,n1,_⟩:=m5 b yBt
  exact (Array.getElem?_eq_some_iff.1 n1).1
theorem iq {F:Nat→Prop}:∀ (cs:List CV) (us:List Value) (ad:Addr),bJ w F cs us→cs.all one=true→¬ F ad.block→(∀ j u,us[j]? = some u→w.cell? (ad.add j)=some u)→fw w F cs ad
 | [],_,_,_,_,_,_=>by simp[fw]
 | c::cs,us,ad,hr,h1,hF,hc=>by
  simp only[bJ] at hr
  obtain⟨v,r,rfl,h2,h3⟩:=hr
  simp only[List.all_cons,Bool.and_eq_true] at h1
  simp only[fw]
  refine⟨⟨v,by have:=hc 0 v rfl;rwa [add_zero] at this,hF,h2⟩,h1.1,iq cs r _ h3 h1.2 (by rw[EM];exact hF) fun j u hu=>?_⟩
  rw[add_add,Nat.add_comm]
  exact hc (j+1) u (by simpa using hu)
theorem IJ (h:aG C σ s a w){c d:CV}{v:Value}(hv:VR w (FB C σ s.heap) σ c v)(hl:yz s c=some d):bY w C.F d v:=by
 have hk:cF w w (FB C σ s.heap) C.F:=⟨fun ad u hf hu=>⟨hu,fun hF=>hf (.inl hF)⟩,fun r _ hf hu _=>⟨hu,fun hF=>hf (.inl hF)⟩⟩
 have obj:∀ {o ob B b},assoc s.heap o=some ob→σ o=some B→B.jX=some b→trees ob.cells=true→∀ k,fw w C.F (ob.cells.drop k) ⟨b,k,none⟩:=fun {o ob B b} ho hB hb ht k=>by
  obtain⟨B',e1,_,_,e4,e5⟩:=h.obj o ob ho
  rw[hB] at e1;cases e1
  obtain⟨cur,k1,k2,k3,k4,k5,k6⟩:=e5 b hb
  have h1:=bJ.bp hk.1 _ _ (aS.ek _ _ ht k6)
  have h2:fw w C.F ob.cells ⟨b,0,none⟩:=iq _ _ _ h1 e4 k3 fun j u hu=>by
   rw[add_lit,Nat.zero_add,cell_of_row w b j cur _ _ k1]
   rw[List.getElem?_take] at hu
   split at hu
   ·simpa using hu
   ·cases hu
  have:=h2.drop k
  rwa [add_lit,Nat.zero_add] at this
 unfold yz at hl
 split at hl
 ·rename_i o off n
  split at hl
  ·rename_i ob ho
   split at hl
   ·rename_i ht
    cases hl
    simp only[VR] at hv
    obtain⟨B,hB,hv⟩:=hv
    split at hv
    ·obtain⟨rfl,rfl,rfl⟩:=hv
     simp only[bY]
     exact⟨none,0,rfl,Nat.le_refl _,Nat.zero_le _,.inl ⟨trivial,by simp⟩⟩
    ·rename_i b hb
     obtain⟨cap,rfl,h1,h2,_⟩:=hv
     simp only[bY]
     exact⟨_,cap,rfl,h1,h2,.inr ⟨_,rfl,fw.take _ _ _ (obj ho hB hb ht off)⟩⟩
   ·cases hl
  ·cases hl
 ·rename_i o off
  split at hl
  ·rename_i ob ho
   split at hl
   ·rename_i ht
    cases hl
    simp only[VR] at hv
    obtain⟨B,b,hB,hb,rfl⟩:=hv
    simp only[bY]
    exact⟨_,rfl,obj ho hB hb ht off⟩
   ·cases hl
  ·cases hl
 ·split at hl
  ·rename_i ht
   cases hl
   exact bY.bp hk.1 _ _ (VR.ek _ _ ht hv)
  ·cases hl
theorem Aa (h:aG C σ s a w):∀ (cs ds:List CV) (vs:List Value),aS w (FB C σ s.heap) σ cs vs→mS s cs=some ds→bJ w C.F ds vs
 | [],ds,vs,hv,hl=>by simp only[mS] at hl;cases hl;simpa [aS,bJ] using hv
 | c::cs,ds,vs,hv,hl=>by
  simp only[mS] at hl
  split at hl
  ·rename_i d ds' h1 h2
   cases hl
   simp only[aS,bJ] at hv ⊢
   obtain⟨v,r,e,k1,k2⟩:=hv
   exact⟨v,r,e,IJ h k1 h1,Aa h cs ds' r k2 h2⟩
  ·cases hl
def bl (s:St)(c:Call):Option (FuncId×List CV):=
 match c.callee with
 | .value f=>match ev s f,Aw s c.args.toList with
  | some (.fn g caps),some cs=>some (g,cs++caps)
  | _,_=>none
 | _=>none
def bF (P:Program)(s:St)(c:Call)(r:CV):Prop:=
 ∃ g cs,bl s c=some (g,cs)∧((trees cs=true∧ae P g cs r)∨∃ ds,mS s cs=some ds∧ae P g ds r∧scalar r=true)
theorem vI (h:aG C σ s a w){o:Oper}{c:Call}(ho:o.op=.call c){r:CV}(hc:bF P s c r)(K:Act→World→Prop)(Q:Exit→Act→World→Prop)
  (hK:∀ v w',aG C σ s a w'→VR w' (FB C σ s.heap) σ r v→K (a.put o.dst v) w'):o.wp P a w K Q:=by
 obtain⟨g,cs,hca,hp⟩:=hc
 unfold bl at hca
 split at hca
 ·rename_i f hcal
  split at hca
  ·rename_i g' caps cs' hf hcs
   cases hca
   have hfv:=bz h hf
   simp only[VR] at hfv
   obtain⟨us,e,hu⟩:=hfv
   have hargs:=pJ h _ _ hcs
   have hall:=aS.append _ _ _ _ hargs hu
   have ent:∀ {cs},ae P g cs r→(execOp a.eval o).run P w=.ok (.enter g (c.args.toList.map a.eval++us).toArray) w:=fun hp=>by
    obtain⟨⟨fn,h1,h2,h3⟩,_⟩:=hp
    have e2:(c.args.toList.map a.eval).toArray=c.args.map a.eval:=by rw[← List.map_toArray]
    simp only[execOp,ho,resolve,hcal,e,Deferred.ofValue,Sem.run_bind,Sem.run_pure,Result.andThen_ok,invoke,callFunc,run_program,h1,h2,h3,Bool.false_eq_true,if_false]
    rw[← e2]
    simp
   rcases hp with ⟨ht,hp⟩ | ⟨ds,hl,hp,hsc⟩
   ·unfold Oper.wp
    rw[ent hp]
    refine (hp.2 (FB C σ s.heap) _ w (xO h) (aS.ek _ _ ht hall)).mono fun e w' ⟨v,he,hb,hv⟩=>?_
    subst he
    exact hK v w' (h.below hb) (VR.cu _ _ hv)
   ·unfold Oper.wp
    rw[ent hp]
    refine (hp.2 C.F _ w (fun b hb=>Nat.lt_of_lt_of_le (C.hF b hb) h.size) (Aa h _ _ _ hall hl)).mono fun e w' ⟨v,he,hb,hv⟩=>?_
    subst he
    exact hK v w' (h.below hb) (VR.cu _ _ (bY.scalar _ _ hsc hv))
  ·cases hca
 ·cases hca
theorem TL.call {o:Oper}{l:List Oper}{c:Call}{r:CV}{K:St→Prop}(hd:aU C.nt o.dst=true)(hg:o.guard=none)(ho:o.op=.call c)(hc:bF P s c r)(h:TL P C ops l (s.put o.dst r) K):TL P C ops (o::l) s K:=by
 intro a w Q hr hQ
 obtain⟨σ,hr⟩:=hr
 unfold wpList
 rw[if_pos (by simp[Region.wanted,hg])]
 refine .inl (vI hr ho hc _ _ fun v w' hr' hv=>h _ _ Q ⟨σ,hr'.put ?_ hv⟩ hQ)
 intro t e
 rw[hr'.tm]
 rw[e] at hd
 simpa [aU] using hd
theorem TL.cC {o:Oper}{l:List Oper}{c:Call}{r:CV}{K:St→Prop}{j:Nat}{want:Bool}{t:Tmp}(hd:aU C.nt o.dst=true)(hg:o.guard=some (j,want))(hj:(ops[j]?).bind (·.dst)=some t)(ht:assoc s.env t=some (.bool want))(ho:o.op=.call c)(hc:bF P s c r)(h:TL P C ops l (s.put o.dst r) K) :
  TL P C ops (o::l) s K:=by
 intro a w Q hr hQ
 have hy:=pv hr hj ht
 obtain⟨σ,hr⟩:=hr
 unfold wpList
 rw[if_pos (by simp[Region.wanted,hg,hy])]
 refine .inl (vI hr ho hc _ _ fun v w' hr' hv=>h _ _ Q ⟨σ,hr'.put ?_ hv⟩ hQ)
 intro t e
 rw[hr'.tm]
 rw[e] at hd
 simpa [aU] using hd
def enter (args:List CV):St:={ env:=args.zipIdx.map (fun x=>(x.2,x.1)),heap:=[],nx:=0 }
theorem fS:∀ (args:List CV) (k t:Nat) (c:CV),assoc ((args.zipIdx k).map fun x=>(x.2,x.1)) t=some c→k≤t∧args[t-k]? = some c
 | [],_,_,_,h=>by simp[assoc] at h
 | x::args,k,t,c,h=>by
  simp only[List.zipIdx_cons,List.map_cons,assoc] at h
  split at h
  ·rename_i e;subst e;cases h;exact⟨Nat.le_refl _,by simp⟩
  ·rename_i e
   obtain⟨h1,h2⟩:=fS args (k+1) t c h
   refine⟨by omega,?_⟩
   rw[show t-k=(t-(k+1))+1 by omega]
   simpa using h2
def pe (aq:List (Nat×TI))(s:St):ResultVar→Option CV
 | .tmp t=>assoc s.env t
 | .cell a ty=>match assoc s.env a,assoc aq ty with
  | some c,some i=>match fF s c with
   | some cs=>mT i cs
   | none=>none
  | _,_=>none
def kR (aq:List (Nat×TI))(s:St):List ResultVar→Option (List CV)
 | []=>some []
 | r::rs=>match pe aq s r,kR aq s rs with
  | some c,some cs=>some (c::cs)
  | _,_=>none
def nN:List CV→CV
 | [c]=>c
 | cs=>.cr cs
def bw (aq:List (Nat×TI))(f:Func)(s:St):Option CV:=match kR aq s f.results.toList with
 | some cs=>some (nN cs)
 | none=>none
def wN (tmps:Array Value):ResultVar→Sem Value
 | .tmp t=>pure (tmps.getD t undef)
 | .cell a t=>do loadVar t (← asAddr (tmps.getD a undef))
theorem AO (ht:ay P aq)(h:aG C σ s a w):∀ (rs:List ResultVar) (cs:List CV),kR aq s rs=some cs→∃ vs,(rs.mapM (wN a.tmps)).run P w=.ok vs w∧aS w (FB C σ s.heap) σ cs vs
 | [],cs,hc=>by simp only[kR] at hc;cases hc;exact⟨[],by simp,by simp[aS]⟩
 | r::rs,cs,hc=>by
  simp only[kR] at hc
  split at hc
  ·rename_i c cs' h1 h2
   cases hc
   obtain⟨vs,k1,k2⟩:=AO ht h rs cs' h2
   have key:∃ v,(wN a.tmps r).run P w=.ok v w∧VR w (FB C σ s.heap) σ c v:=by
    cases r with
    | tmp t=>
     obtain⟨v,m1,m2⟩:=h.env t c h1
     exact⟨v,by simp[wN,Array.getD_eq_getD_getElem?,m1],m2⟩
    | cell x ty=>
     simp only[pe] at h1
     split at h1
     ·rename_i d i hd hi
      split at h1
      ·rename_i cells hm
       obtain⟨v,m1,m2⟩:=h.env x d hd
       obtain⟨ad,rfl,hcells⟩:=z8 h m2 hm
       obtain⟨u,n1,n2⟩:=AT (P:=P) (ht ty i hi) hcells h1
       exact⟨u,by simp[wN,Array.getD_eq_getD_getElem?,m1,asAddr,n1],n2⟩
      ·cases h1
     ·cases h1
   obtain⟨v,m1,m2⟩:=key
   refine⟨v::vs,?_,?_⟩
   ·simp only[List.mapM_cons,Sem.run_bind,m1,k1,Result.andThen_ok,Sem.run_pure]
   ·simp only[aS];exact⟨v,vs,rfl,m2,k2⟩
  ·cases hc
theorem jl (ht:ay P aq)(h:aG C σ s a w){f:Func}{r:CV}(hr:bw aq f s=some r):∃ v,(results f a.tmps).run P w=.ok v w∧VR w (FB C σ s.heap) σ r v:=by
 unfold bw at hr
 split at hr
 ·rename_i cs hcs
  cases hr
  obtain⟨vs,k1,k2⟩:=AO ht h _ _ hcs
  have hl:=aS.length _ _ k2
  have hm:(f.results.mapM (wN a.tmps)).run P w=.ok vs.toArray w:=by
   rw[Array.mapM_eq_mapM_toList]
   simp only[Sem.run_map,k1,Result.andThen_ok]
  have e:results f a.tmps=(do let vs ← f.results.mapM (wN a.tmps);pure (if h:vs.size=1 then vs[0] else .tuple vs)):=by
   unfold results
   congr 1
  rw[e]
  simp only[Sem.run_bind,hm,Result.andThen_ok,Sem.run_pure]
  refine⟨_,rfl,?_⟩
  match cs,vs,hl,k2 with
  | [c],[v],_,k2=>
   simp only[aS] at k2
   obtain⟨_,_,e,h1,_⟩:=k2
   cases e
   simpa [nN] using h1
  | [],[],_,_=>simp[nN,VR,aS]
  | c::d::cs,v::u::vs,_,k2=>
   simp only[nN]
   rw[dif_neg yAa]
   simp only[VR]
   exact⟨v::u::vs,rfl,k2⟩
 ·cases hr
def doneS (aq:List (Nat×TI))(f:Func)(r:CV):Exit→St→Prop
 | .normal,s=>bw aq f s=some r
 | .ret,s=>bw aq f s=some r
 | _,_=>False
theorem ae.j5 (ht0 : ay P aq) {f : FuncId} {fn : Func} {c : Code} {args : List CV} {r : CV} (hf : P.funcs[f]? = some fn) (hb : fn.body = some c) (hn : (fn.name == "runtime.NumGoroutine") = false)
  (ha:args.length≤fn.ntmps) (ht:tree r=true) (h:∀ C:Cx,C.nt=fn.ntmps→C.n0=0→T P C c (enter args) (doneS aq fn r)):ae P f args r:=by
 refine⟨⟨fn,hf,hn,by simp[hb]⟩,fun F vs w hF hv=>?_⟩
 have hl:=bJ.length _ _ hv
 let C:Cx:=⟨w,F,fun _=>False,hF,fn.ntmps,fun _=>none,0⟩
 have h0:aG C (fun _=>none) (enter args) { tmps:=vs.toArray++Array.replicate (fn.ntmps-vs.toArray.size) undef,defers:=[] } w:=by
  refine⟨rfl,by simp[C];omega,rfl,rfl,rfl,Nat.le_refl _,fun _ _ _=>rfl,?_,?_,?_,fun _ _=>rfl,fun _ h=>absurd h (Nat.not_lt_zero _),Nat.zero_le _,fun _ _ _ _ h=>by cases h⟩
  ·intro t c hc
   obtain⟨_,h2⟩:=fS args 0 t c hc
   obtain⟨v,h3,h4⟩:=bJ.get _ _ hv t c (by simpa using h2)
   refine⟨v,?_,VR.cu _ _ (bY.bp (cF.same fun b hb=>?_).1 c v h4)⟩
   ·have hlt:=(List.getElem?_eq_some_iff.1 h3).1
    simp only
    rw[Array.getElem?_append_left (by simpa using hlt)]
    simpa using h3
   ·rcases hb with hF | ⟨o,ob,ho,_⟩
    ·exact hF
    ·simp[enter,assoc] at ho
  ·intro o ob ho;simp[enter,assoc] at ho
  ·intro o o' ob ob' b ho;simp[enter,assoc] at ho
 refine calls_of_wp hf hb (wp_mono (h C rfl rfl _ _ ⟨_,h0⟩) fun e a' w' ⟨s',q,σ,hr⟩=>?_)
 have fin:bw aq fn s'=some r→a'.defers=[]∧∃ v,(results fn a'.tmps).run P w'=.ok v w'∧(∃ v_1,Ending.returned v=.returned v_1∧Below w.heap.size w w'∧bY w' F r v_1):=fun hq=>by
  obtain⟨v,k1,k2⟩:=jl (P:=P) ht0 hr hq
  refine⟨hr.nq,v,k1,v,rfl,⟨hr.os,hr.tape,hr.output,hr.size,fun k hk=>hr.frame k hk (fun hx=>hx)⟩,?_⟩
  exact bY.bp (cF.same fun _ hF=>.inl hF).1 _ _ (VR.ek _ _ ht k2)
 cases e with
 | normal=>exact fin q
 | ret=>exact fin q
 | exit _=>exact q.elim
 | goto _=>exact q.elim
 | panic _=>exact q.elim
 | outgrown=>exact q.elim
end
theorem DM {aq:List (Nat×TI)}{nt:Nat}{ops:Array Oper}{s:St}:p9 aq nt ops [] s=some s:=rfl
theorem ua {aq:List (Nat×TI)}{nt:Nat}{ops:Array Oper}{o:Oper}{l:List Oper}{s:St}:p9 aq nt ops (o::l) s=(fe aq nt ops s o).bind (p9 aq nt ops l):=by
 simp only[p9]
 cases fe aq nt ops s o<;>rfl
def uH (K:St→Prop):Option St→Prop
 | some s=>K s
 | none=>False
end Go.Can
