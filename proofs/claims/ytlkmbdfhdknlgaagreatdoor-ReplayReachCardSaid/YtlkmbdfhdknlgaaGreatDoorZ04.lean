/- One operation as a step of canonical states; what may be sai -/
import Derived.Test.YtlkmbdfhdknlgaaGreatDoorZ03
namespace Go.Can
open Go.RowKit
section
variable {P:Program}{C:Cx}{σ:Nat→Option OB}{s:St}{a:Act}{w:World}
def D2 (av:List (Nat×TI))(s:St)(d:Option Tmp)(t:TypeId)(x y:Operand):Option St:=
 match dG av t,ev s x,ev s y with
 | some (.sl e),some (.bp o off n),some q=>
  match assoc av e,cells? s q,assoc s.heap o with
  | some ie,some (news,m),some ob=>
   if 0<n∧news.length=m*ie.size∧off+n*ie.size≤ob.cells.length then
    some (St.put { s with heap:=sy s.heap o { ob with cells:=gA ob.cells off (news.take ((min m n)*ie.size)) } } d (.int .i64 (min m n:Nat)))
   else none
  | _,_,_=>none
 | _,_,_=>none
theorem Ip {av:List (Nat×TI)}(ht:aF P av)(h:aK C σ s a w){o:Oper}{cl:Call}{t t':TypeId}{x y:Operand}(hd:∀ t,o.dst=some t→t<a.tmps.size)(ho:o.op=.call cl)(Og:cl.callee=.builtin .copy)(Of:cl.args=#[x,y])(PJ:cl.argTypes=#[t,t'])
  {s':St} (hc:D2 av s o.dst t x y=some s'):∃ z w',(execOp a.eval o).run P w=.ok (.value z) w'∧Rel C s' (a.put o.dst z) w':=by
 unfold D2 at hc;split at hc
 ·rename_i e o' off n q OM hp hq;obtain⟨it,Oq,OM⟩:=Option.map_eq_some_iff.1 OM;split at hc
  ·rename_i ie news m ob Oe OJ P7;split at hc
   ·rename_i hb;obtain⟨q1,q3,q4⟩:=hb;cases hc;obtain⟨f,z,g1,g2,_⟩:=(ht e ie Oe).info;have hu:=dK (ht t it Oq) OM;obtain⟨us,u1,u2,u3⟩:=cells?_ok h (bO h hq) OJ;have ul:=aT.length _ _ u1;have hx:=bO h hp;simp only[VR] at hx;obtain⟨B,hB,hx⟩:=hx;obtain⟨B0,e1,e2,_,e4,e5⟩:=h.obj _ ob P7;rw[hB] at e1;cases e1;split at hx
    ·obtain⟨_,_,h0⟩:=hx;omega
    rename_i b Rq;obtain⟨cap,ex,c1,c2,c3,c4⟩:=hx;obtain⟨cur,n1,n2,n3,n4,n5,n6⟩:=e5 b Rq;have hk:(us.take ((min m n)*ie.size)).length=min m n*ie.size:=by
     rw[List.length_take,ul,q3];have:min m n*ie.size≤m*ie.size:=Nat.mul_le_mul_right _ (Nat.min_le_left _ _);omega
    have XJ:min m n*ie.size≤n*ie.size:=Nat.mul_le_mul_right _ (Nat.min_le_right _ _);have u1':=aT.take ((min m n)*ie.size) _ _ u1;have u2':(news.take ((min m n)*ie.size)).all one=true:=by
     rw[List.all_eq_true] at u2 ⊢;exact fun x hx=>u2 x (List.mem_of_mem_take hx)
    have OH:=run_storeCells_at P b off ob.elem (us.take ((min m n)*ie.size)) 0 cur w n1 (by rw[hk];omega) (aT.iA _ _ u2' u1');simp only[Nat.add_zero] at OH;have Rb:(news.take ((min m n)*ie.size)).length=min m n*ie.size:=by rw[← aT.length _ _ u1',hk]
    have hw:=h.write P7 hB Rq (PO:=gA ob.cells off (news.take ((min m n)*ie.size))) (UK:=cur.toList.take off++us.take ((min m n)*ie.size)++cur.toList.drop (off+(us.take ((min m n)*ie.size)).length)) (by simp[hk];omega)
     (by rw[fE _ _ _ yA];simp[hk];omega) (by
      rw[fE _ _ _ yA];have:=ua n6 off u1';have ee:(cur.toList.take off++us.take ((min m n)*ie.size)++cur.toList.drop (off+(us.take ((min m n)*ie.size)).length)).take ob.cells.length =
        (cur.toList.take ob.cells.length).take off++us.take ((min m n)*ie.size)++(cur.toList.take ob.cells.length).drop (off+(us.take ((min m n)*ie.size)).length):=by
       have Og:ob.cells.length≤cur.toList.length:=by simpa using n5
       generalize us.take ((min m n)*ie.size)=vs at *;rw[List.take_append,List.take_append];simp only[List.length_append,List.length_take,List.take_take,List.drop_take];rw[Nat.min_eq_right (show off≤ob.cells.length by omega),Nat.min_eq_left (show off≤cur.toList.length by omega),List.take_of_length_le (show vs.length≤ob.cells.length-off by omega)];congr 2
       ·rw[Nat.min_eq_left (show off≤ob.cells.length by omega)]
      rw[ee];exact this) (qI off e4 u2')
    refine⟨.int .i64 (min m n:Nat),_,?_,_,hw.put hd (dO _ _)⟩;have WX:∀ k,k=min m n→(Builtin.firstCells ie.size k (a.eval y)).run P w=.ok (us.take (k*ie.size)).toArray w:=by
     rintro k rfl;rcases u3 with ⟨c,e,rfl,rfl⟩ | ⟨ad,c,e,OW⟩
     ·simp[e,Builtin.firstCells]
     ·rw[e];exact run_firstCells_some (P:=P) w ie.size _ ad m c _ hk fun j x hx=>by
       rw[List.getElem?_take] at hx;split at hx
       ·exact OW j x hx
       ·cases hx
    have hlen:(Builtin.lenOf (a.eval y)).run P w=.ok m w:=by
     rcases u3 with ⟨c,e,rfl,rfl⟩ | ⟨ad,c,e,OW⟩<;>simp[e,Builtin.lenOf]
    have P8:Nat.min m n=min m n:=rfl;simp only[execOp,ho,resolve,Og,Of,PJ,Sem.run_bind,Sem.run_pure,Result.andThen_ok,invoke,builtin,Builtin.copy_,List.map_toArray,List.map_cons,List.map_nil];simp only[List.getElem?_toArray,List.getElem?_cons_zero,List.getElem?_cons_succ,Sem.run_bind,bC hu,ex,Result.andThen_ok,hlen,cL g1,g2,P8,WX _ rfl,OH,Sem.run_pure,goInt]
   ·cases hc
  ·cases hc
 ·cases hc
theorem zr {α:Type}:∀ (l:List (Nat×α)) (t:Nat) (x:α),assoc l t=some x→sy l t x=l
 | [],_,_,h=>by simp[assoc] at h
 | (k,v)::r,t,x,h=>by
  simp only[assoc] at h;simp only[sy];split at h
  ·rename_i e;cases h;rw[if_pos e]
  ·rename_i e;rw[if_neg e,zr r t x h]
def y7 (av:List (Nat×TI))(s:St)(d:Option Tmp)(t:TypeId)(x:Operand):Option St:=
 match dG av t,ev s x with
 | some (.sl e),some (.bp o off n)=>
  match assoc av e,assoc s.heap o with
  | some ie,some ob=>
   if ob.sz=ie.size∧off+n*ie.size≤ob.cells.length then
    some (St.put { s with heap:=sy s.heap o { ob with cells:=gA ob.cells off (aS ie.zero n) } } d (.dI []))
   else none
  | _,_=>none
 | some (.sl _),some .aj=>some (s.put d (.dI []))
 | _,_=>none
theorem Ft {av:List (Nat×TI)}(ht:aF P av)(h:aK C σ s a w){o:Oper}{cl:Call}{t:TypeId}{x:Operand}(hd:∀ t,o.dst=some t→t<a.tmps.size)(ho:o.op=.call cl)(Og:cl.callee=.builtin .clear)(Of:cl.args=#[x])(PJ:cl.argTypes=#[t])
  {s':St} (hc:y7 av s o.dst t x=some s'):∃ z w',(execOp a.eval o).run P w=.ok (.value z) w'∧Rel C s' (a.put o.dst z) w':=by
 have Z9:∀ {w':World} {d:Option Tmp} {s:St},VR w' (FB C σ s.heap) σ (.dI []) (.tuple #[]):=fun {w' d s}=>by
  simp only[VR];exact⟨[],rfl,rfl⟩
 unfold y7 at hc;split at hc
 ·rename_i e o' off n OM hp;obtain⟨it,Oq,OM⟩:=Option.map_eq_some_iff.1 OM;split at hc
  ·rename_i ie ob Oe P7;split at hc
   ·rename_i hb;obtain⟨q1,q2⟩:=hb;cases hc;obtain⟨f,z,g1,g2,_,g4,g5⟩:=(ht e ie Oe).info;obtain⟨k1,k2⟩:=cS (w:=w) (F:=FB C σ s.heap) _ _ g5;have hu:=dK (ht t it Oq) OM;have hx:=bO h hp;simp only[VR] at hx;obtain⟨B,hB,hx⟩:=hx;obtain⟨B0,e1,e2,e3,e4,e5⟩:=h.obj _ ob P7;rw[hB] at e1;cases e1;have SV:(aS ie.zero n).length=n*ie.size:=by rw[e8,(ht e ie Oe).len]
    have none_case:n=0→sy s.heap o' { ob with cells:=gA ob.cells off (aS ie.zero n) }=s.heap:=fun hn=>by
     subst hn;have:gA ob.cells off (aS ie.zero 0)=ob.cells:=by simp[gA,aS]
     rw[this];exact zr _ _ _ P7
    split at hx
    ·obtain⟨ex,rfl,rfl⟩:=hx;rw[none_case rfl];refine⟨.tuple #[],w,?_,_,h.put hd (Z9 (d:=none) (s:=s))⟩;simp only[execOp,ho,resolve,Og,Of,PJ,Sem.run_bind,Sem.run_pure,Result.andThen_ok,invoke,builtin,Builtin.clear_,List.map_toArray,List.map_cons,List.map_nil];simp only[List.getElem?_toArray,List.getElem?_cons_zero,Sem.run_bind,bC hu,ex,Result.andThen_ok,Sem.run_pure]
    ·rename_i b Rq;obtain⟨cap,ex,c1,c2,c3,c4⟩:=hx;obtain⟨cur,n1,n2,n3,n4,n5,n6⟩:=e5 b Rq;by_cases hn:n=0
     ·subst hn;rw[none_case rfl];refine⟨.tuple #[],w,?_,_,h.put hd (Z9 (d:=none) (s:=s))⟩;simp only[execOp,ho,resolve,Og,Of,PJ,Sem.run_bind,Sem.run_pure,Result.andThen_ok,invoke,builtin,Builtin.clear_,List.map_toArray,List.map_cons,List.map_nil];simp only[List.getElem?_toArray,List.getElem?_cons_zero,Sem.run_bind,bC hu,ex,Result.andThen_ok,Sem.run_pure]
     ·have Oh:z.cells.size=ie.size:=by rw[← (ht e ie Oe).len,← bP.length _ _ k1];simp
      have hz:=lv (σ:=σ) (aT.cA _ _ k1) n;have Su:=jB k2 n;have hul:(Builtin.zeroCells z.cells n).toList=(madeCells z.cells (n*z.cells.size)).toList:=rfl;have hlen:(madeCells z.cells (n*z.cells.size)).toList.length=n*ie.size:=by simp[size_madeCells,Oh]
      have OH:=run_storeCells_at P b off ob.elem (madeCells z.cells (n*z.cells.size)).toList 0 cur w n1 (by rw[hlen];omega) (aT.iA _ _ Su hz);simp only[Nat.add_zero] at OH;have hw:=h.write P7 hB Rq (PO:=gA ob.cells off (aS ie.zero n)) (UK:=cur.toList.take off++(madeCells z.cells (n*z.cells.size)).toList++cur.toList.drop (off+(madeCells z.cells (n*z.cells.size)).toList.length)) (by simp only[List.length_append,List.length_take,List.length_drop,hlen];simp;omega)
       (by rw[fE _ _ _ yA];simp only[List.length_append,List.length_take,List.length_drop,hlen];simp;omega) (by
        rw[fE _ _ _ yA];have:=ua n6 off hz;have ee:(cur.toList.take off++(madeCells z.cells (n*z.cells.size)).toList++cur.toList.drop (off+(madeCells z.cells (n*z.cells.size)).toList.length)).take ob.cells.length =
          (cur.toList.take ob.cells.length).take off++(madeCells z.cells (n*z.cells.size)).toList++(cur.toList.take ob.cells.length).drop (off+(madeCells z.cells (n*z.cells.size)).toList.length):=by
         have Og:ob.cells.length≤cur.toList.length:=by simpa using n5
         generalize (madeCells z.cells (n*z.cells.size)).toList=vs at *;rw[List.take_append,List.take_append];simp only[List.length_append,List.length_take,List.take_take,List.drop_take];rw[Nat.min_eq_right (show off≤ob.cells.length by omega),Nat.min_eq_left (show off≤cur.toList.length by omega),List.take_of_length_le (show vs.length≤ob.cells.length-off by omega)];congr 2
         ·rw[Nat.min_eq_left (show off≤ob.cells.length by omega)]
        rw[ee];exact this) (qI off e4 Su)
      refine⟨.tuple #[],_,?_,_,hw.put hd (Z9 (d:=none) (s:={ s with heap:=sy s.heap o' { ob with cells:=gA ob.cells off (aS ie.zero n) } }))⟩;obtain⟨m,rfl⟩:∃ m,n=m+1:=⟨n-1,by omega⟩;simp only[execOp,ho,resolve,Og,Of,PJ,Sem.run_bind,Sem.run_pure,Result.andThen_ok,invoke,builtin,Builtin.clear_,List.map_toArray,List.map_cons,List.map_nil];simp only[List.getElem?_toArray,List.getElem?_cons_zero,Sem.run_bind,bC hu,ex,Result.andThen_ok,iU g1 g4,hul,OH,Sem.run_pure]
   ·cases hc
  ·cases hc
 ·rename_i e OM hp;obtain⟨it,Oq,OM⟩:=Option.map_eq_some_iff.1 OM;cases hc;have hu:=dK (ht t it Oq) OM;have ex:=bO h hp;simp only[VR] at ex;refine⟨.tuple #[],w,?_,_,h.put hd (Z9 (d:=none) (s:=s))⟩;simp only[execOp,ho,resolve,Og,Of,PJ,Sem.run_bind,Sem.run_pure,Result.andThen_ok,invoke,builtin,Builtin.clear_,List.map_toArray,List.map_cons,List.map_nil];simp only[List.getElem?_toArray,List.getElem?_cons_zero,Sem.run_bind,bC hu,ex,Result.andThen_ok,Sem.run_pure]
 ·cases hc
end
def bt (nt:Nat)(d:Option Tmp):Bool:=match d with
 | some t=>decide (t<nt)
 | none=>true
def Gp (av:List (Nat×TI))(s:St)(d:Option Tmp)(c:Call):Option St:=
 match c.callee with
 | .builtin .append=>match c.args.toList,c.argTypes.toList with
  | [x,y],[t,t']=>if t=t' then oE av s d t x y else none
  | _,_=>none
 | .builtin .copy=>match c.args.toList,c.argTypes.toList with
  | [x,y],[t,_]=>D2 av s d t x y
  | _,_=>none
 | .builtin .clear=>match c.args.toList,c.argTypes.toList with
  | [x],[t]=>y7 av s d t x
  | _,_=>none
 | .builtin b=>(g9 av s b c.args.toList c.argTypes.toList).map (s.put d)
 | _=>none
def mX (av:List (Nat×TI))(s:St)(o:Oper):Option St:=
 match o.op with
 | .store t x v=>(r9 av s t x v).map (·.del o.dst)
 | .makeSlice t l c=>DY av s o.dst t l c
 | .alloc e=>y8 av s o.dst e
 | .box e x=>Kh s o.dst e x
 | .buildSlice t len parts=>kI av s o.dst t len parts.toList
 | .call c=>Gp av s o.dst c
 | op=>(fz av s op).map (s.put o.dst)
def r6 (e:Option CV)(want:Bool):Option Bool:=match e with
 | some (.bool b)=>some (b == want)
 | some (.dI [])=>some false
 | _=>none
def gv (av:List (Nat×TI))(nt:Nat)(ops:Array Oper)(s:St)(o:Oper):Option St:=
 if bt nt o.dst then
  match o.guard with
  | none=>mX av s o
  | some (j,want)=>match (ops[j]?).bind (·.dst) with
   | none=>none
   | some t=>match r6 (assoc s.env t) want with
    | some true=>mX av s o
    | some false=>some (s.put o.dst (.dI []))
    | none=>none
 else none
def wN (av:List (Nat×TI))(nt:Nat)(ops:Array Oper):List Oper→St→Option St
 | [],s=>some s
 | o::r,s=>match gv av nt ops s o with
  | some s'=>wN av nt ops r s'
  | none=>none
section
variable {P:Program}{C:Cx}{s:St}{a:Act}{w:World}{ops:Array Oper}{av:List (Nat×TI)}
theorem wM (ht:aF P av)(h:Rel C s a w){o:Oper}(hd:bt C.nt o.dst=true){s':St}(hs:mX av s o=some s') :
  ∃ w',((∃ z,(execOp a.eval o).run P w=.ok (.value z) w'∧Rel C s' (a.put o.dst z) w')∨((execOp a.eval o).run P w=.ok .skip w'∧Rel C s' (a.put o.dst undef) w')):=by
 obtain⟨σ,h⟩:=h;have OM:∀ t,o.dst=some t→t<a.tmps.size:=fun t e=>by
  rw[h.tm];rw[e] at hd
  simpa [bt] using hd
 have quiet:∀ c,fz av s o.op=some c→s.put o.dst c=s'→∃ w',((∃ z,(execOp a.eval o).run P w=.ok (.value z) w'∧Rel C s' (a.put o.dst z) w')∨((execOp a.eval o).run P w=.ok .skip w'∧Rel C s' (a.put o.dst undef) w')):=fun c hc e=>by
  obtain⟨z,k1,k2⟩:=ym ht h o hc;exact⟨w,.inl ⟨z,k1,σ,e ▸ h.put OM k2⟩⟩
 unfold mX at hs;split at hs
 ·rename_i t x v ho;obtain⟨s1,h1,rfl⟩:=Option.map_eq_some_iff.1 hs;obtain⟨w',k1,k2,_⟩:=xF ht h ho h1;exact⟨w',.inr ⟨k1,σ,k2.del undef⟩⟩
 ·rename_i t l c ho;obtain⟨z,w',k1,k2⟩:=Ig ht h OM ho hs;exact⟨w',.inl ⟨z,k1,k2⟩⟩
 ·rename_i e ho;obtain⟨z,w',k1,k2⟩:=Fx ht h OM ho hs;exact⟨w',.inl ⟨z,k1,k2⟩⟩
 ·rename_i e x ho;obtain⟨z,w',k1,k2⟩:=Kg (P:=P) h OM ho hs;exact⟨w',.inl ⟨z,k1,k2⟩⟩
 ·rename_i t len parts ho;obtain⟨z,w',k1,k2⟩:=vw ht h OM ho hs;exact⟨w',.inl ⟨z,k1,k2⟩⟩
 ·rename_i cl ho;unfold Gp at hs;split at hs
  ·rename_i Og;split at hs
   ·rename_i x y t t' ha PJ;split at hs
    ·rename_i e;subst e;obtain⟨z,w',_,k1,k2⟩:=vz ht h OM ho Og yCs yCq hs;exact⟨w',.inl ⟨z,k1,_,k2⟩⟩
    ·cases hs
   ·cases hs
  ·rename_i Og;split at hs
   ·rename_i x y t t' ha PJ;obtain⟨z,w',k1,k2⟩:=Ip ht h OM ho Og yCs yCq hs;exact⟨w',.inl ⟨z,k1,k2⟩⟩
   ·cases hs
  ·rename_i Og;split at hs
   ·rename_i x t ha PJ;obtain⟨z,w',k1,k2⟩:=Ft ht h OM ho Og yCs yCq hs;exact⟨w',.inl ⟨z,k1,k2⟩⟩
   ·cases hs
  ·rename_i b _ _ _ Og;obtain⟨c,hc,e⟩:=Option.map_eq_some_iff.1 hs;exact quiet c (by rw[ho];simp only[fz,Og];exact hc) e
  ·cases hs
 ·obtain⟨c,hc,e⟩:=Option.map_eq_some_iff.1 hs;exact quiet c hc e
theorem uj (h:Rel C s a w){j:Nat}{t:Tmp}{b:Bool}(hj:(ops[j]?).bind (·.dst)=some t)(he:assoc s.env t=some (.bool b)):yielded ops a.tmps j=some b:=by
 obtain⟨σ,h⟩:=h;obtain⟨v,h1,h2⟩:=h.env t _ he;simp only[VR] at h2;subst h2;simp[yielded,hj,h1]
theorem lz (h:Rel C s a w){o:Oper}{j:Nat}{want:Bool}{t:Tmp}{b:Bool}(hg:o.guard=some (j,want))(hj:(ops[j]?).bind (·.dst)=some t)(he:r6 (assoc s.env t) want=some b):Region.wanted o (yielded ops a.tmps)=b:=by
 unfold r6 at he;split at he
 ·rename_i b' hb;cases he;simp[Region.wanted,hg,uj h hj hb]
 ·rename_i hb;cases he;obtain⟨σ,h⟩:=h;obtain⟨v,h1,h2⟩:=h.env t _ hb;simp only[VR] at h2;obtain⟨vs,rfl,h3⟩:=h2;simp[Region.wanted,hg,yielded,hj,h1]
 ·cases he
theorem Rel.skip (h:Rel C s a w){d:Option Tmp}(hd:bt C.nt d=true):Rel C (s.put d (.dI [])) (a.put d undef) w:=by
 obtain⟨σ,h⟩:=h;refine⟨σ,h.put (fun t e=>?_) ?_⟩
 ·rw[h.tm];rw[e] at hd
  simpa [bt] using hd
 ·exact⟨[],rfl,rfl⟩
def TL (P:Program)(C:Cx)(ops:Array Oper)(l:List Oper)(s:St)(K:St→Prop):Prop:=
 ∀ a w (Q:Exit→Act→World→Prop),Rel C s a w→(∀ s' a' w',K s'→Rel C s' a' w'→Q .normal a' w')→wpList P ops Q l a w
theorem TL.nil {K:St→Prop}(h:K s):TL P C ops [] s K:=fun _ _ _ hr hQ=>hQ _ _ _ h hr
theorem TL.step (ht:aF P av){o:Oper}{l:List Oper}{K:St→Prop}{s':St}(hs:gv av C.nt ops s o=some s')(h:TL P C ops l s' K):TL P C ops (o::l) s K:=by
 intro a w Q hr hQ;have run:∀ {s'},bt C.nt o.dst=true→Region.wanted o (yielded ops a.tmps)=true→mX av s o=some s'→TL P C ops l s' K→wpList P ops Q (o::l) a w:=fun {s'} hd hw hs h=>by
  unfold wpList;rw[if_pos hw];refine .inl ?_;obtain⟨w',h1 | h1⟩:=wM ht hr hd hs
  ·obtain⟨z,k1,k2⟩:=h1;unfold Oper.wp;rw[k1];exact h _ _ Q k2 hQ
  ·obtain⟨k1,k2⟩:=h1;unfold Oper.wp;rw[k1];exact h _ _ Q k2 hQ
 unfold gv at hs;split at hs
 ·rename_i hd;split at hs
  ·rename_i hg;exact run hd (by simp[Region.wanted,hg]) hs h
  ·rename_i j want hg;split at hs
   ·cases hs
   rename_i t hj;split at hs
   ·rename_i hb;exact run hd (lz hr hg hj hb) hs h
   ·rename_i hb;cases hs;unfold wpList;rw[if_neg (by simp[lz hr hg hj hb])];exact h _ _ Q (hr.skip hd) hQ
   ·cases hs
 ·cases hs
def T (P:Program)(C:Cx)(c:Code)(s:St)(Q:Exit→St→Prop):Prop:=
 ∀ a w,Rel C s a w→c.wp P (fun e a' w'=>∃ s',Q e s'∧Rel C s' a' w') a w
def fw (K:St→Prop)(Q:Exit→St→Prop):Exit→St→Prop
 | .normal,s=>K s
 | e,s=>Q e s
theorem T.mono {c:Code}{Q Q':Exit→St→Prop}(h:T P C c s Q)(hq:∀ e s',Q e s'→Q' e s'):T P C c s Q':=fun a w hr=>
 wp_mono (h a w hr) fun e _ _ ⟨s',q,r⟩=>⟨s',hq e s' q,r⟩
theorem T.region {id:Nat}{l:List Oper}{Q:Exit→St→Prop}(h:TL P C l.toArray l s (Q .normal)):T P C (.region id l.toArray false) s Q:=fun a w hr=>
 wp_region_lit (h a w _ hr fun s' _ _ hk OS=>⟨s',hk,OS⟩)
theorem T.seq {x y:Code}{Q:Exit→St→Prop}(h:T P C x s (fw (fun s'=>T P C y s' Q) Q)):T P C (.seq x y) s Q:=fun a w hr=>
 wp_seq (wp_mono (h a w hr) fun e a' w' ⟨s',q,r⟩=>by
  cases e with
  | normal=>exact q a' w' r
  | _=>exact⟨s',q,r⟩)
theorem T.cond {c:Operand}{x y:Code}{b:Bool}{Q:Exit→St→Prop}(hc:ev s c=some (.bool b))(h:T P C (if b then x else y) s Q):T P C (.cond c x y) s Q:=fun a w hr=>by
 have Rt:=hr;obtain⟨σ,OS⟩:=Rt;have:=bO OS hc;simp only[VR] at this;exact wp_cond this (h a w hr)
theorem T.skip {Q:Exit→St→Prop}(h:Q .normal s):T P C .skip s Q:=fun _ _ hr=>wp_skip ⟨s,h,hr⟩
theorem T.exit {id:Nat}{Q:Exit→St→Prop}(h:Q (.exit id) s):T P C (.exit id) s Q:=fun _ _ hr=>wp_exit ⟨s,h,hr⟩
theorem T.ret {Q:Exit→St→Prop}(h:Q .ret s):T P C .ret s Q:=fun _ _ hr=>wp_ret ⟨s,h,hr⟩
theorem T.label {l:Nat}{Q:Exit→St→Prop}(h:Q .normal s):T P C (.label l) s Q:=fun _ _ hr=>wp_label ⟨s,h,hr⟩
theorem T.goto {l:Nat}{Q:Exit→St→Prop}(h:Q (.goto l) s):T P C (.goto l) s Q:=fun _ _ hr=>wp_goto ⟨s,h,hr⟩
def pQ (id:Nat)(Q:Exit→St→Prop):Exit→St→Prop
 | .exit i,s=>if i=id then Q .normal s else Q (.exit i) s
 | e,s=>Q e s
theorem T.block {id:Nat}{c:Code}{Q:Exit→St→Prop}(h:T P C c s (pQ id Q)):T P C (.block id c) s Q:=fun a w hr=>
 wp_block (wp_mono (h a w hr) fun e a' w' ⟨s',q,r⟩=>by
  cases e with
  | exit i=>
   simp only[Exit.inBlock,pQ] at q ⊢;split
   ·rename_i e;rw[if_pos e] at q;exact⟨s',q,r⟩
   ·rename_i e;rw[if_neg e] at q;exact⟨s',q,r⟩
  | _=>exact⟨s',q,r⟩)
theorem BN {c:Code}{Q:Exit→Act→World→Prop}(I:Nat→Act→World→Prop){n:Nat}(h₀:I n a w)
  (round:∀ n a w,I n a w→c.wp P (Exit.then (fun a' w'=>∃ m,m<n∧I m a' w') Q) a w):(Code.loop c).wp P Q a w:=by
 classical
 have hx:∀ a w,(∃ n,I n a w)→∃ n,I n a w∧∀ m,I m a w→n≤m:=fun a w ⟨n,hn⟩=>by
  induction n using Nat.strongRecOn with
  | _ n ih=>
   by_cases h:∃ m,m<n∧I m a w
   ·obtain⟨m,hm,hi⟩:=h;exact ih m hm hi
   ·exact⟨n,hn,fun m hm=>Nat.le_of_not_lt fun Oa=>h ⟨m,Oa,hm⟩⟩
 let μ:Act→World→Nat:=fun a w=>if h:∃ n,I n a w then (hx a w h).choose else 0
 have hμ:∀ a w (h:∃ n,I n a w),I (μ a w) a w∧∀ m,I m a w→μ a w≤m:=fun a w h=>by
  simp only[μ,dif_pos h];exact (hx a w h).choose_spec
 refine wp_loop (fun a w=>∃ n,I n a w) μ ⟨n,h₀⟩ fun a w hI=>?_;refine wp_mono (round (μ a w) a w (hμ a w hI).1) fun e a' w' q=>?_
 cases e with
 | normal=>
  obtain⟨m,hm,hi⟩:=q;exact⟨⟨m,hi⟩,Nat.lt_of_le_of_lt ((hμ a' w' ⟨m,hi⟩).2 m hi) hm⟩
 | _=>exact q
theorem T.loop {c:Code}{Q:Exit→St→Prop}(I:Nat→St→Prop){n:Nat}(h₀:I n s)(round:∀ n s,I n s→T P C c s (fw (fun s'=>∃ m,m<n∧I m s') Q)):T P C (.loop c) s Q:=fun a w hr=>
 BN (fun n a w=>∃ s,I n s∧Rel C s a w) ⟨s,h₀,hr⟩ fun n a w ⟨s,hi,hr⟩=>wp_mono (round n s hi a w hr) fun e a' w' ⟨s',q,r⟩=>by
  cases e with
  | normal=>obtain⟨m,hm,hi⟩:=q;exact⟨m,hm,s',hi,r⟩
  | _=>exact⟨s',q,r⟩
end
def lq (P : Program) (f : FuncId) : Prop := ∃ fn, P.funcs[f]? = some fn ∧ (fn.name == "runtime.NumGoroutine") = false ∧ fn.body.isNone = false
def ae (P:Program)(f:FuncId)(args:List CV)(r:CV):Prop:=
 lq P f∧∀ (F:Nat→Prop) (vs:List Value) (w:World),FOk w F→bP w F args vs →
  Calls P f vs.toArray w fun e w'=>∃ v,e=.returned v∧Below w.heap.size w w'∧bZ w' F r v
mutual
/-- No memory in it. -/
def scalar:CV→Bool
 | .int _ _=>true
 | .bool _=>true
 | .str _=>true
 | .aj=>true
 | .bw=>true
 | .cr=>true
 | .agg cs=>scalars cs
 | .dI cs=>scalars cs
 | _=>false
def scalars:List CV→Bool
 | []=>true
 | c::cs=>scalar c && scalars cs
end
mutual
theorem bZ.scalar {w w':World}{F F':Nat→Prop}:∀ (c:CV) (v:Value),Can.scalar c=true→bZ w F c v→bZ w' F' c v
 | .int _ _,_,_,h=>by simpa [bZ] using h
 | .bool _,_,_,h=>by simpa [bZ] using h
 | .str _,_,_,h=>by simpa [bZ] using h
 | .aj,_,_,h=>by simpa [bZ] using h
 | .bw,_,_,h=>by simpa [bZ] using h
 | .cr,_,_,h=>by simpa [bZ] using h
 | .agg cs,v,hs,h=>by
  simp only[bZ,Can.scalar] at h hs ⊢;obtain⟨vs,e,r,h1⟩:=h;exact⟨vs,e,bP.scalar cs vs hs r,h1⟩
 | .dI cs,v,hs,h=>by
  simp only[bZ,Can.scalar] at h hs ⊢;obtain⟨vs,e,r⟩:=h;exact⟨vs,e,bP.scalar cs vs hs r⟩
 | .az _ _,_,hs,_=>by simp[Can.scalar] at hs
 | .cF _,_,hs,_=>by simp[Can.scalar] at hs
 | .fn _ _,_,hs,_=>by simp[Can.scalar] at hs
 | .iface _ _,_,hs,_=>by simp[Can.scalar] at hs
 | .iter _ _ _,_,hs,_=>by simp[Can.scalar] at hs
 | .mp _ _,_,hs,_=>by simp[Can.scalar] at hs
 | .bp _ _ _,_,hs,_=>by simp[Can.scalar] at hs
 | .aq _ _,_,hs,_=>by simp[Can.scalar] at hs
theorem bP.scalar {w w':World}{F F':Nat→Prop}:∀ (cs:List CV) (vs:List Value),scalars cs=true→bP w F cs vs→bP w' F' cs vs
 | [],_,_,h=>by simpa [bP] using h
 | c::cs,vs,hs,h=>by
  simp only[bP,scalars,Bool.and_eq_true] at h hs ⊢;obtain⟨v,r,e,h1,h2⟩:=h;exact⟨v,r,e,bZ.scalar c v hs.1 h1,bP.scalar cs r hs.2 h2⟩
end
def Hj (s:St):CV→Option CV
 | .bp o off n=>match assoc s.heap o with
  | some ob=>if trees ob.cells then some (.az ((ob.cells.drop off).take (n*ob.sz)) n) else none
  | none=>none
 | .aq o off=>match assoc s.heap o with
  | some ob=>if trees ob.cells then some (.cF (ob.cells.drop off)) else none
  | none=>none
 | c=>if tree c then some c else none
def sK (s:St):List CV→Option (List CV)
 | []=>some []
 | c::cs=>match Hj s c,sK s cs with
  | some d,some ds=>some (d::ds)
  | _,_=>none
section
variable {P:Program}{C:Cx}{σ:Nat→Option OB}{s:St}{a:Act}{w:World}{ops:Array Oper}{av:List (Nat×TI)}
theorem aK.below (h:aK C σ s a w){w':World}(hb:Below w.heap.size w w'):aK C σ s a w':=by
 have hg:w.grownBy w' none:=⟨hb.os,hb.tape,hb.output,hb.size,fun k hk _=>hb.block k hk⟩;have hk:cz w w' (FB C σ s.heap) (FB C σ s.heap):=kr hg (fun b e=>by cases e) fun b hb=>.inl hb;refine⟨h.oA,h.tm,hg.os.trans h.os,hg.tape.trans h.tape,hg.output.trans h.output,Nat.le_trans h.size hg.size,?_,?_,?_,h.inj,h.nx,h.gO,h.low,h.new⟩
 ·intro b Oy OC;rw[hb.block b (Nat.lt_of_lt_of_le Oy h.size)];exact h.frame b Oy OC
 ·intro t c hc;obtain⟨v,k1,k2⟩:=h.env t c hc;exact⟨v,k1,VR.bl hk c v (fun _ _=>rfl) k2⟩
 ·intro o ob ho;obtain⟨B,m1,m2,m3,m4,m5⟩:=h.obj o ob ho;refine⟨B,m1,m2,m3,m4,fun b Oy=>?_⟩;obtain⟨cur,n1,n2,n3,n4,n5,n6⟩:=m5 b Oy;exact⟨cur,by rw[hb.block b (Array.getElem?_eq_some_iff.1 n1).1];exact n1,n2,n3,n4,n5,aT.bl hk _ _ (fun _ _=>rfl) n6⟩
theorem Ee (h:aK C σ s a w):∀ b,FB C σ s.heap b→b<w.heap.size:=by
 rintro b (hb | ⟨o,ob,ho,hb⟩)
 ·exact Nat.lt_of_lt_of_le (C.hF.1 b hb) h.size
 ·obtain⟨B',m1,_,_,_,m5⟩:=h.obj o ob ho;obtain⟨cur,n1,_⟩:=m5 b Wb;exact (Array.getElem?_eq_some_iff.1 n1).1
theorem CT (h:aK C σ s a w):FOk w (FB C σ s.heap):=⟨Ee h,h.gok.mono fun _ hb=>hb.elim id False.elim⟩
theorem Lc (h:aK C σ s a w):FOk w C.F:=⟨fun b hb=>Nat.lt_of_lt_of_le (C.hF.1 b hb) h.size,h.gok.mono fun _ hb=>.inl (hb.elim id False.elim)⟩
theorem Jt (h:aK C σ s a w):IX w C.F (fun b=>∃ o ob,assoc s.heap o=some ob∧aU σ o=some b):=⟨(Lc h).1,h.gok⟩
theorem ia {F:Nat→Prop}:∀ (cs:List CV) (us:List Value) (ad:Addr),bP w F cs us→cs.all one=true→¬ F ad.block→(∀ j u,us[j]? = some u→w.cell? (ad.add j)=some u)→fa w F cs ad
 | [],_,_,_,_,_,_=>by simp[fa]
 | c::cs,us,ad,hr,h1,hF,hc=>by
  simp only[bP] at hr;obtain⟨v,r,rfl,h2,h3⟩:=hr;simp only[List.all_cons,Bool.and_eq_true] at h1;simp only[fa];refine⟨⟨v,by have:=hc 0 v rfl;rwa [add_zero] at this,hF,h2⟩,h1.1,ia cs r _ h3 h1.2 (by rw[FG];exact hF) fun j u hu=>?_⟩;rw[add_add,Nat.add_comm];exact hc (j+1) u (by simpa using hu)
theorem JN (h:aK C σ s a w){c d:CV}{v:Value}(hv:VR w (FB C σ s.heap) σ c v)(hl:Hj s c=some d):bZ w C.F d v:=by
 have hk:cz w w (FB C σ s.heap) C.F:=⟨fun ad u hf hu=>⟨hu,fun hF=>hf (.inl hF)⟩,fun r _ hf hu _=>⟨hu,fun hF=>hf (.inl hF)⟩⟩;have obj:∀ {o ob B b},assoc s.heap o=some ob→σ o=some B→B.jI=some b→trees ob.cells=true→∀ k,fa w C.F (ob.cells.drop k) ⟨b,k,none⟩:=fun {o ob B b} ho hB hb ht k=>by
  obtain⟨B',e1,_,_,e4,e5⟩:=h.obj o ob ho;rw[hB] at e1;cases e1;obtain⟨cur,k1,k2,k3,k4,k5,k6⟩:=e5 b hb;have h1:=bP.bl hk.1 _ _ (aT.ec _ _ ht k6);have h2:fa w C.F ob.cells ⟨b,0,none⟩:=ia _ _ _ h1 e4 k3 fun j u hu=>by
   rw[add_lit,Nat.zero_add,cell_of_row w b j cur _ _ k1];rw[List.getElem?_take] at hu;split at hu
   ·simpa using hu
   ·cases hu
  have:=h2.drop k;rwa [add_lit,Nat.zero_add] at this
 unfold Hj at hl;split at hl
 ·rename_i o off n;split at hl
  ·rename_i ob ho;split at hl
   ·rename_i ht;cases hl;simp only[VR] at hv;obtain⟨B,hB,hv⟩:=hv;split at hv
    ·obtain⟨rfl,rfl,rfl⟩:=hv;simp only[bZ];exact⟨none,0,rfl,Nat.le_refl _,Nat.zero_le _,.inl ⟨trivial,by simp⟩⟩
    ·rename_i b hb;obtain⟨cap,rfl,h1,h2,_⟩:=hv;simp only[bZ];exact⟨_,cap,rfl,h1,h2,.inr ⟨_,rfl,fa.take _ _ _ (obj ho hB hb ht off)⟩⟩
   ·cases hl
  ·cases hl
 ·rename_i o off;split at hl
  ·rename_i ob ho;split at hl
   ·rename_i ht;cases hl;simp only[VR] at hv;obtain⟨B,b,hB,hb,rfl⟩:=hv;simp only[bZ];exact⟨_,rfl,obj ho hB hb ht off⟩
   ·cases hl
  ·cases hl
 ·split at hl
  ·rename_i ht;cases hl;exact bZ.bl hk.1 _ _ (VR.ec _ _ ht hv)
  ·cases hl
theorem As (h:aK C σ s a w):∀ (cs ds:List CV) (vs:List Value),aT w (FB C σ s.heap) σ cs vs→sK s cs=some ds→bP w C.F ds vs
 | [],ds,vs,hv,hl=>by simp only[sK] at hl;cases hl;simpa [aT,bP] using hv
 | c::cs,ds,vs,hv,hl=>by
  simp only[sK] at hl;split at hl
  ·rename_i d ds' h1 h2;cases hl;simp only[aT,bP] at hv ⊢;obtain⟨v,r,e,k1,k2⟩:=hv;exact⟨v,r,e,JN h k1 h1,As h cs ds' r k2 h2⟩
  ·cases hl
def bB (s:St)(c:Call):Option (FuncId×List CV):=
 match c.callee with
 | .value f=>match ev s f,zk s c.args.toList with
  | some (.fn g PQ),some cs=>some (g,cs++PQ)
  | _,_=>none
 | _=>none
def bH (P:Program)(s:St)(c:Call)(r:CV):Prop:=
 ∃ g cs,bB s c=some (g,cs)∧((trees cs=true∧ae P g cs r)∨∃ ds,sK s cs=some ds∧ae P g ds r∧scalar r=true)
theorem Bu (h:aK C σ s a w){o:Oper}{c:Call}(ho:o.op=.call c){r:CV}(hc:bH P s c r)(K:Act→World→Prop)(Q:Exit→Act→World→Prop)
  (hK:∀ v w',aK C σ s a w'→VR w' (FB C σ s.heap) σ r v→K (a.put o.dst v) w'):o.wp P a w K Q:=by
 obtain⟨g,cs,OG,hp⟩:=hc;unfold bB at OG;split at OG
 ·rename_i f Qb;split at OG
  ·rename_i g' PQ PO hf OJ;cases OG;have XK:=bO h hf;simp only[VR] at XK;obtain⟨us,e,hu⟩:=XK;have Of:=pG h _ _ OJ;have ON:=aT.append _ _ _ _ Of hu;have U1:∀ {cs},ae P g cs r→(execOp a.eval o).run P w=.ok (.enter g (c.args.toList.map a.eval++us).toArray) w:=fun hp=>by
    obtain⟨⟨fn,h1,h2,h3⟩,_⟩:=hp;have e2:(c.args.toList.map a.eval).toArray=c.args.map a.eval:=by rw[← List.map_toArray]
    simp only[execOp,ho,resolve,Qb,e,Deferred.ofValue,Sem.run_bind,Sem.run_pure,Result.andThen_ok,invoke,callFunc,run_program,h1,h2,h3,Bool.false_eq_true,if_false];rw[← e2];simp
   rcases hp with ⟨ht,hp⟩ | ⟨ds,hl,hp,VO⟩
   ·unfold Oper.wp;rw[U1 hp];refine (hp.2 (FB C σ s.heap) _ w (CT h) (aT.ec _ _ ht ON)).mono fun e w' ⟨v,he,hb,hv⟩=>?_;subst he;exact hK v w' (h.below hb) (VR.cA _ _ hv)
   ·unfold Oper.wp;rw[U1 hp];refine (hp.2 C.F _ w (Lc h) (As h _ _ _ ON hl)).mono fun e w' ⟨v,he,hb,hv⟩=>?_;subst he;exact hK v w' (h.below hb) (VR.cA _ _ (bZ.scalar _ _ VO hv))
  ·cases OG
 ·cases OG
theorem TL.call {o:Oper}{l:List Oper}{c:Call}{r:CV}{K:St→Prop}(hd:bt C.nt o.dst=true)(hg:o.guard=none)(ho:o.op=.call c)(hc:bH P s c r)(h:TL P C ops l (s.put o.dst r) K):TL P C ops (o::l) s K:=by
 intro a w Q hr hQ;obtain⟨σ,hr⟩:=hr;unfold wpList;rw[if_pos (by simp[Region.wanted,hg])];refine .inl (Bu hr ho hc _ _ fun v w' OS hv=>h _ _ Q ⟨σ,OS.put ?_ hv⟩ hQ);intro t e;rw[OS.tm];rw[e] at hd
 simpa [bt] using hd
theorem TL.bY {o:Oper}{l:List Oper}{c:Call}{r:CV}{K:St→Prop}{j:Nat}{want:Bool}{t:Tmp}(hd:bt C.nt o.dst=true)(hg:o.guard=some (j,want))(hj:(ops[j]?).bind (·.dst)=some t)(ht:assoc s.env t=some (.bool want))(ho:o.op=.call c)(hc:bH P s c r)(h:TL P C ops l (s.put o.dst r) K) :
  TL P C ops (o::l) s K:=by
 intro a w Q hr hQ;have hy:=uj hr hj ht;obtain⟨σ,hr⟩:=hr;unfold wpList;rw[if_pos (by simp[Region.wanted,hg,hy])];refine .inl (Bu hr ho hc _ _ fun v w' OS hv=>h _ _ Q ⟨σ,OS.put ?_ hv⟩ hQ);intro t e;rw[OS.tm];rw[e] at hd
 simpa [bt] using hd
def enter (args:List CV):St:={ env:=args.zipIdx.map (fun x=>(x.2,x.1)),heap:=[],nx:=0 }
theorem fS:∀ (args:List CV) (k t:Nat) (c:CV),assoc ((args.zipIdx k).map fun x=>(x.2,x.1)) t=some c→k≤t∧args[t-k]? = some c
 | [],_,_,_,h=>by simp[assoc] at h
 | x::args,k,t,c,h=>by
  simp only[List.zipIdx_cons,List.map_cons,assoc] at h;split at h
  ·rename_i e;subst e;cases h;exact⟨Nat.le_refl _,by simp⟩
  ·rename_i e;obtain⟨h1,h2⟩:=fS args (k+1) t c h;refine⟨by omega,?_⟩;rw[show t-k=(t-(k+1))+1 by omega]
   simpa using h2
def pa (av:List (Nat×TI))(s:St):ResultVar→Option CV
 | .tmp t=>assoc s.env t
 | .cell a ty=>match assoc s.env a,assoc av ty with
  | some c,some i=>match gF s c with
   | some cs=>lW i cs
   | none=>none
  | _,_=>none
def kE (av:List (Nat×TI))(s:St):List ResultVar→Option (List CV)
 | []=>some []
 | r::rs=>match pa av s r,kE av s rs with
  | some c,some cs=>some (c::cs)
  | _,_=>none
def nr:List CV→CV
 | [c]=>c
 | cs=>.dI cs
def bm (av:List (Nat×TI))(f:Func)(s:St):Option CV:=match kE av s f.results.toList with
 | some cs=>some (nr cs)
 | none=>none
def wW (tmps:Array Value):ResultVar→Sem Value
 | .tmp t=>pure (tmps.getD t undef)
 | .cell a t=>do loadVar t (← asAddr (tmps.getD a undef))
theorem AZ (ht:aF P av)(h:aK C σ s a w):∀ (rs:List ResultVar) (cs:List CV),kE av s rs=some cs→∃ vs,(rs.mapM (wW a.tmps)).run P w=.ok vs w∧aT w (FB C σ s.heap) σ cs vs
 | [],cs,hc=>by simp only[kE] at hc;cases hc;exact⟨[],by simp,by simp[aT]⟩
 | r::rs,cs,hc=>by
  simp only[kE] at hc;split at hc
  ·rename_i c PO h1 h2;cases hc;obtain⟨vs,k1,k2⟩:=AZ ht h rs PO h2;have key:∃ v,(wW a.tmps r).run P w=.ok v w∧VR w (FB C σ s.heap) σ c v:=by
    cases r with
    | tmp t=>
     obtain⟨v,m1,m2⟩:=h.env t c h1;exact⟨v,by simp[wW,Array.getD_eq_getD_getElem?,m1],m2⟩
    | cell x ty=>
     simp only[pa] at h1;split at h1
     ·rename_i d i hd hi;split at h1
      ·rename_i cells hm;obtain⟨v,m1,m2⟩:=h.env x d hd;obtain⟨ad,rfl,W7⟩:=Am h m2 hm;obtain⟨u,n1,n2⟩:=Bd (P:=P) (ht ty i hi) W7 h1;exact⟨u,by simp[wW,Array.getD_eq_getD_getElem?,m1,asAddr,n1],n2⟩
      ·cases h1
     ·cases h1
   obtain⟨v,m1,m2⟩:=key;refine⟨v::vs,?_,?_⟩
   ·simp only[List.mapM_cons,Sem.run_bind,m1,k1,Result.andThen_ok,Sem.run_pure]
   ·simp only[aT];exact⟨v,vs,rfl,m2,k2⟩
  ·cases hc
theorem iY (ht:aF P av)(h:aK C σ s a w){f:Func}{r:CV}(hr:bm av f s=some r):∃ v,(results f a.tmps).run P w=.ok v w∧VR w (FB C σ s.heap) σ r v:=by
 unfold bm at hr;split at hr
 ·rename_i cs OJ;cases hr;obtain⟨vs,k1,k2⟩:=AZ ht h _ _ OJ;have hl:=aT.length _ _ k2;have hm:(f.results.mapM (wW a.tmps)).run P w=.ok vs.toArray w:=by
   rw[Array.mapM_eq_mapM_toList];simp only[Sem.run_map,k1,Result.andThen_ok]
  have e:results f a.tmps=(do let vs ← f.results.mapM (wW a.tmps);pure (if h:vs.size=1 then vs[0] else .tuple vs)):=by
   unfold results;congr 1
  rw[e];simp only[Sem.run_bind,hm,Result.andThen_ok,Sem.run_pure];refine⟨_,rfl,?_⟩
  match cs,vs,hl,k2 with
  | [c],[v],_,k2=>
   simp only[aT] at k2;obtain⟨_,_,e,h1,_⟩:=k2;cases e
   simpa [nr] using h1
  | [],[],_,_=>simp[nr,VR,aT]
  | c::d::cs,v::u::vs,_,k2=>
   simp only[nr];rw[dif_neg N3];simp only[VR];exact⟨v::u::vs,rfl,k2⟩
 ·cases hr
def doneS (av:List (Nat×TI))(f:Func)(r:CV):Exit→St→Prop
 | .normal,s=>bm av f s=some r
 | .ret,s=>bm av f s=some r
 | _,_=>False
theorem ae.iV (Q8 : aF P av) {f : FuncId} {fn : Func} {c : Code} {args : List CV} {r : CV} (hf : P.funcs[f]? = some fn) (hb : fn.body = some c) (hn : (fn.name == "runtime.NumGoroutine") = false)
  (ha:args.length≤fn.ntmps) (ht:tree r=true) (h:∀ C:Cx,C.nt=fn.ntmps→C.n0=0→T P C c (enter args) (doneS av fn r)):ae P f args r:=by
 refine⟨⟨fn,hf,hn,by simp[hb]⟩,fun F vs w hF hv=>?_⟩;have hl:=bP.length _ _ hv;let C:Cx:=⟨w,F,fun _=>False,hF,fn.ntmps,fun _=>none,0⟩
 have h0:aK C (fun _=>none) (enter args) { tmps:=vs.toArray++Array.replicate (fn.ntmps-vs.toArray.size) undef,defers:=[] } w:=by
  refine⟨rfl,by simp[C];omega,rfl,rfl,rfl,Nat.le_refl _,fun _ _ _=>rfl,?_,?_,?_,fun _ _=>rfl,fun _ h=>absurd h (Nat.not_lt_zero _),Nat.zero_le _,fun _ _ _ _ h=>by cases h⟩
  ·intro t c hc;obtain⟨_,h2⟩:=fS args 0 t c hc;obtain⟨v,h3,h4⟩:=bP.get _ _ hv t c (by simpa using h2);refine⟨v,?_,VR.cA _ _ (bZ.bl (cz.same fun b hb=>?_).1 c v h4)⟩
   ·have Oa:=(List.getElem?_eq_some_iff.1 h3).1;simp only;rw[Array.getElem?_append_left (by simpa using Oa)]
    simpa using h3
   ·rcases hb with hF | ⟨o,ob,ho,_⟩
    ·exact hF
    ·simp[enter,assoc] at ho
  ·intro o ob ho;simp[enter,assoc] at ho
  ·intro o o' ob Ov b ho;simp[enter,assoc] at ho
 refine calls_of_wp hf hb (wp_mono (h C rfl rfl _ _ ⟨_,h0⟩) fun e a' w' ⟨s',q,σ,hr⟩=>?_);have fin:bm av fn s'=some r→a'.defers=[]∧∃ v,(results fn a'.tmps).run P w'=.ok v w'∧(∃ SQ,Ending.returned v=.returned SQ∧Below w.heap.size w w'∧bZ w' F r SQ):=fun hq=>by
  obtain⟨v,k1,k2⟩:=iY (P:=P) Q8 hr hq;refine⟨hr.oA,v,k1,v,rfl,⟨hr.os,hr.tape,hr.output,hr.size,fun k hk=>hr.frame k hk (fun hx=>hx)⟩,?_⟩;exact bZ.bl (cz.same fun _ hF=>.inl hF).1 _ _ (VR.ec _ _ ht k2)
 cases e with
 | normal=>exact fin q
 | ret=>exact fin q
 | exit _=>exact q.elim
 | goto _=>exact q.elim
 | panic _=>exact q.elim
 | outgrown=>exact q.elim
end
theorem Ey {av:List (Nat×TI)}{nt:Nat}{ops:Array Oper}{s:St}:wN av nt ops [] s=some s:=rfl
theorem uv {av:List (Nat×TI)}{nt:Nat}{ops:Array Oper}{o:Oper}{l:List Oper}{s:St}:wN av nt ops (o::l) s=(gv av nt ops s o).bind (wN av nt ops l):=by
 simp only[wN];cases gv av nt ops s o<;>rfl
def Dl (K:St→Prop):Option St→Prop
 | some s=>K s
 | none=>False
theorem Rel.drew {C:Cx}{s:St}{a:Act}{w:World}(h:Rel C s a w):Rel C s a { w with drawn:=w.drawn+1 }:=by
 obtain⟨σ,h⟩:=h;exact⟨σ,h.below (w':=w.drew) ⟨rfl,rfl,rfl,Nat.le_refl _,fun _ _=>rfl⟩⟩
section
variable {P:Program}{av:List (Nat×TI)}{s s':St}
theorem jG:∀ (xs:List Operand),(∀ x∈xs,ev s x=ev s' x)→zk s xs=zk s' xs
 | [],_=>rfl
 | x::r,h=>by
  simp only[zk];rw[h x N3,jG r fun y hy=>h y (by simp[hy])]
theorem jt:∀ (xs:List (Nat×Operand)),(∀ x∈xs,ev s x.2=ev s' x.2)→gZ s xs=gZ s' xs
 | [],_=>rfl
 | (i,x)::r,h=>by
  simp only[gZ];rw[h (i,x) N3,jt r fun y hy=>h y (by simp[hy])]
theorem jw {x:Option Operand}(h:∀ y,x=some y→ev s y=ev s' y)(d:Nat):gf s x d=gf s' x d:=by
 cases x with
 | none=>rfl
 | some y=>simp only[gf];rw[h y rfl]
theorem sI (hh:s.heap=s'.heap)(c:CV):gF s c=gF s' c:=by
 unfold gF;rw[hh]
theorem yV (hh:s.heap=s'.heap){lo hi:Option Operand}(h1:∀ y,lo=some y→ev s y=ev s' y)(h2:∀ y,hi=some y→ev s y=ev s' y)(t:TypeId)(c:CV):lj av s t c lo hi=lj av s' t c lo hi:=by
 unfold lj;rw[hh];simp only[jw h1,jw h2]
theorem Cb (hh:s.heap=s'.heap)(op:Op)(h:∀ x∈op.operands,ev s x=ev s' x):fz av s op=fz av s' op:=by
 cases op
 case move x=>exact h x Qs
 case assign x=>exact h x Qs
 case pick c x y=>
  simp only[fz];rw[h c Qs,h x Qs,h y Qs]
 case binOp op t x y yt=>
  simp only[fz];rw[h x Qs,h y Qs]
 case unOp op t x=>simp only[fz];rw[h x Qs]
 case load t x=>simp only[fz];rw[h x Qs];simp only[sI hh]
 case slice t x lo hi mx=>
  have h1:∀ y,lo=some y→ev s y=ev s' y:=fun y e=>h y (by subst e;simp[Op.operands]);have h2:∀ y,hi=some y→ev s y=ev s' y:=fun y e=>h y (by subst e;simp[Op.operands])
  cases mx with
  | none=>simp only[fz];rw[h x Qs];simp only[yV hh h1 h2]
  | some _=>rfl
 case fieldAddr t x f=>simp only[fz];rw[h x Qs]
 case field t x f=>simp only[fz];rw[h x Qs]
 case indexAddr t x i=>simp only[fz];rw[h x Qs,h i Qs]
 case index t x i=>simp only[fz];rw[h x Qs,h i Qs]
 case extract x i=>simp only[fz];rw[h x Qs]
 case makeFunc f first cap=>
  cases f<;>first | rfl | skip
  simp only[fz];rw[jG cap.toList fun x hx=>h x (by simp only[Op.operands,Array.mem_append];exact .inr (by simpa using hx))]
 case nilCheck x=>simp only[fz];rw[h x Qs]
 case build t parts=>
  simp only[fz,sf];rw[jt parts.toList fun x hx=>h x.2 yDd]
 case call c=>
  simp only[fz];split
  ·rename_i b hb;have ha:∀ x∈c.args.toList,ev s x=ev s' x:=fun x hx=>h x (by simp only[Op.operands,Call.operands,Array.mem_append];exact .inr (by simpa using hx));unfold g9;split
   ·split
    ·rename_i x t e _;rw[ha x (by rw[e];simp)]
    ·rfl
   ·rw[jG _ ha]
   ·rw[jG _ ha]
   ·rfl
  ·rfl
 all_goals rfl
end
def qo (s:St)(d:Option Tmp):Option CV→St
 | some c=>s.put d c
 | none=>s.del d
section
variable {P:Program}{C:Cx}{s:St}{a:Act}{w:World}{ops:Array Oper}{av:List (Nat×TI)}
def iq (E:Nat→Option CV)(d:Option Tmp)(r:Option CV):Nat→Option CV:=fun t=>if d=some t then r else E t
def dd (ops:Array Oper)(i:Nat):Option Tmp:=(ops[i]?).bind (·.dst)
theorem vD {s:St}{d:Option Tmp}{r:Option CV}(t:Nat):assoc (qo s d r).env t=iq (assoc s.env) d r t:=by
 cases r with
 | none=>
  cases d with
  | none=>simp[qo,St.del,iq]
  | some x=>simp[qo,St.del,iq,eT]
 | some c=>
  cases d with
  | none=>simp[qo,St.put,iq]
  | some x=>
   simp only[qo,St.put,iq,assoc,eT,Option.some.injEq];split<;>rfl
theorem og {s:St}{d:Option Tmp}{r:Option CV}:(qo s d r).heap=s.heap∧(qo s d r).nx=s.nx:=by
 cases r<;>cases d<;>exact⟨rfl,rfl⟩
end
section
variable {P:Program}{C:Cx}{s:St}{a:Act}{w:World}{ops:Array Oper}{av:List (Nat×TI)}
theorem count_set:∀ (ord:List Nat) (i:Nat) (listed:Array Bool),ord.Nodup→i∈ord→i<listed.size→listed.getD i false=false →
  (ord.countP fun j=>!(listed.setIfInBounds i true).getD j false)+1=ord.countP fun j=>!listed.getD j false
 | [],_,_,_,h,_,_=>by cases h
 | k::r,i,listed,hn,hi,Oa,hu=>by
  rw[List.nodup_cons] at hn;simp only[List.countP_cons];by_cases hk:k=i
  ·subst hk;have h1:((listed.setIfInBounds k true).getD k false)=true:=by simp[Oa]
   have h2:(r.countP fun j=>!(listed.setIfInBounds k true).getD j false)=r.countP fun j=>!listed.getD j false:=by
    refine List.countP_congr fun j hj=>?_;rw[getD_set_ne false (fun e=>hn.1 (by subst e;exact hj))]
   rw[h1,h2,hu];simp
  ·have VV:i∈r:=by
    rcases List.mem_cons.1 hi with e | e
    ·exact absurd e.symm hk
    ·exact e
   have:=count_set r i listed hn.2 VV Oa hu;rw[getD_set_ne false (Ne.symm hk)];omega
theorem vd (m j:Nat):(Array.replicate m false).getD j false=false:=getD_replicate_false m j
theorem oT {listed:Array Bool}{j:Nat}(hs:j<listed.size)(h:listed.getD j false=false):listed.getD j true=false:=getD_in hs h
end
end Go.Can
