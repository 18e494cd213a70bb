/- One operation as a step of canonical states; what may be sai -/
import Derived.Test.YtlkmbdfhdknlgaaGreatDoorZ04
namespace Go.Can
open Go.RowKit
section
variable {P:Program}{C:Cx}{σ:Nat→Option OB}{s:St}{a:Act}{w:World}
def Aq (ak:List (Nat×TI))(s:St)(d:Option Tmp)(t:TypeId)(x y:Operand):Option St:=
 match cY ak t,ev s x,ev s y with
 | some (.sl e),some (.bw o off n),some q=>
  match assoc ak e,cells? s q,assoc s.heap o with
  | some ie,some (news,m),some ob=>
   if 0<n∧news.length=m*ie.size∧off+n*ie.size≤ob.cells.length then
    some (St.put { s with heap:=pH s.heap o { ob with cells:=fL ob.cells off (news.take ((min m n)*ie.size)) } } d (.int .i64 (min m n:Nat)))
   else none
  | _,_,_=>none
 | _,_,_=>none
theorem Ee {ak:List (Nat×TI)}(ht:ay P ak)(h:aB C σ s a w){o:Oper}{cl:Call}{t t':TypeId}{x y:Operand}(hd:∀ t,o.dst=some t→t<a.tmps.size)(ho:o.op=.call cl)(De:cl.callee=.builtin .copy)(AW:cl.args=#[x,y])(Lg:cl.argTypes=#[t,t'])
  {s':St} (hc:Aq ak s o.dst t x y=some s'):∃ z w',(execOp a.eval o).run P w=.ok (.value z) w'∧Rel C s' (a.put o.dst z) w':=by
 unfold Aq at hc;split at hc
 ·rename_i e o' off n q Ks hp hq;obtain⟨it,Fl,Ks⟩:=Option.map_eq_some_iff.1 Ks;split at hc
  ·rename_i ie news m ob CW Kr LB;split at hc
   ·rename_i hb;obtain⟨q1,q3,q4⟩:=hb;cases hc;obtain⟨f,z,g1,g2,_⟩:=(ht e ie CW).info;have hu:=da (ht t it Fl) Ks;obtain⟨us,u1,u2,u3⟩:=cells?_ok h (bD h hq) Kr;have ul:=aG.length _ _ u1;have hx:=bD h hp;simp only[VR] at hx;obtain⟨B,hB,hx⟩:=hx;obtain⟨B0,e1,e2,_,e4,e5⟩:=h.obj _ ob LB;rw[hB] at e1;cases e1;split at hx
    ·obtain⟨_,_,h0⟩:=hx;omega
    rename_i b MH;obtain⟨cap,ex,c1,c2,c3,c4⟩:=hx;obtain⟨cur,n1,n2,n3,n4,n5,n6⟩:=e5 b MH;have hk:(us.take ((min m n)*ie.size)).length=min m n*ie.size:=by
     rw[List.length_take,ul,q3];have:min m n*ie.size≤m*ie.size:=Nat.mul_le_mul_right _ (Nat.min_le_left _ _);omega
    have hkn:min m n*ie.size≤n*ie.size:=Nat.mul_le_mul_right _ (Nat.min_le_right _ _);have U6:=aG.take ((min m n)*ie.size) _ _ u1;have Xv:(news.take ((min m n)*ie.size)).all one=true:=by
     rw[List.all_eq_true] at u2 ⊢;exact fun x hx=>u2 x (List.mem_of_mem_take hx)
    have Km:=run_storeCells_at P b off ob.elem (us.take ((min m n)*ie.size)) 0 cur w n1 (by rw[hk];omega) (aG.gC _ _ Xv U6);simp only[Nat.add_zero] at Km;have NA:(news.take ((min m n)*ie.size)).length=min m n*ie.size:=by rw[← aG.length _ _ U6,hk]
    have hw:=h.write LB hB MH (Lk:=fL ob.cells off (news.take ((min m n)*ie.size))) (PS:=cur.toList.take off++us.take ((min m n)*ie.size)++cur.toList.drop (off+(us.take ((min m n)*ie.size)).length)) (by simp[hk];omega)
     (by rw[eI _ _ _ yA];simp[hk];omega) (by
      rw[eI _ _ _ yA];have:=qv n6 off U6;have ee:(cur.toList.take off++us.take ((min m n)*ie.size)++cur.toList.drop (off+(us.take ((min m n)*ie.size)).length)).take ob.cells.length =
        (cur.toList.take ob.cells.length).take off++us.take ((min m n)*ie.size)++(cur.toList.take ob.cells.length).drop (off+(us.take ((min m n)*ie.size)).length):=by
       have De:ob.cells.length≤cur.toList.length:=by simpa using n5
       generalize us.take ((min m n)*ie.size)=vs at *;rw[List.take_append,List.take_append];simp only[List.length_append,List.length_take,List.take_take,List.drop_take];rw[Nat.min_eq_right (show off≤ob.cells.length by omega),Nat.min_eq_left (show off≤cur.toList.length by omega),List.take_of_length_le (show vs.length≤ob.cells.length-off by omega)];congr 2
       ·rw[Nat.min_eq_left (show off≤ob.cells.length by omega)]
      rw[ee];exact this) (oA off e4 Xv)
    refine⟨.int .i64 (min m n:Nat),_,?_,_,hw.put hd (de _ _)⟩;have Rs:∀ k,k=min m n→(Builtin.firstCells ie.size k (a.eval y)).run P w=.ok (us.take (k*ie.size)).toArray w:=by
     rintro k rfl;rcases u3 with ⟨c,e,rfl,rfl⟩ | ⟨ad,c,e,KW⟩
     ·simp[e,Builtin.firstCells]
     ·rw[e];exact run_firstCells_some (P:=P) w ie.size _ ad m c _ hk fun j x hx=>by
       rw[List.getElem?_take] at hx;split at hx
       ·exact KW j x hx
       ·cases hx
    have hlen:(Builtin.lenOf (a.eval y)).run P w=.ok m w:=by
     rcases u3 with ⟨c,e,rfl,rfl⟩ | ⟨ad,c,e,KW⟩<;>simp[e,Builtin.lenOf]
    have LD:Nat.min m n=min m n:=rfl;simp only[execOp,ho,resolve,De,AW,Lg,Sem.run_bind,Sem.run_pure,Result.andThen_ok,invoke,builtin,Builtin.copy_,List.map_toArray,List.map_cons,List.map_nil];simp only[List.getElem?_toArray,List.getElem?_cons_zero,List.getElem?_cons_succ,Sem.run_bind,bp hu,ex,Result.andThen_ok,hlen,ch g1,g2,LD,Rs _ rfl,Km,Sem.run_pure,goInt]
   ·cases hc
  ·cases hc
 ·cases hc
theorem vM {α:Type}:∀ (l:List (Nat×α)) (t:Nat) (x:α),assoc l t=some x→pH l t x=l
 | [],_,_,h=>by simp[assoc] at h
 | (k,v)::r,t,x,h=>by
  simp only[assoc] at h;simp only[pH];split at h
  ·rename_i e;cases h;rw[if_pos e]
  ·rename_i e;rw[if_neg e,vM r t x h]
def vt (ak:List (Nat×TI))(s:St)(d:Option Tmp)(t:TypeId)(x:Operand):Option St:=
 match cY ak t,ev s x with
 | some (.sl e),some (.bw o off n)=>
  match assoc ak e,assoc s.heap o with
  | some ie,some ob=>
   if ob.sz=ie.size∧off+n*ie.size≤ob.cells.length then
    some (St.put { s with heap:=pH s.heap o { ob with cells:=fL ob.cells off (aS ie.zero n) } } d (.db []))
   else none
  | _,_=>none
 | some (.sl _),some .ag=>some (s.put d (.db []))
 | _,_=>none
theorem BC {ak:List (Nat×TI)}(ht:ay P ak)(h:aB C σ s a w){o:Oper}{cl:Call}{t:TypeId}{x:Operand}(hd:∀ t,o.dst=some t→t<a.tmps.size)(ho:o.op=.call cl)(De:cl.callee=.builtin .clear)(AW:cl.args=#[x])(Lg:cl.argTypes=#[t])
  {s':St} (hc:vt ak s o.dst t x=some s'):∃ z w',(execOp a.eval o).run P w=.ok (.value z) w'∧Rel C s' (a.put o.dst z) w':=by
 have Ut:∀ {w':World} {d:Option Tmp} {s:St},VR w' (FB C σ s.heap) σ (.db []) (.tuple #[]):=fun {w' d s}=>by
  simp only[VR];exact⟨[],rfl,rfl⟩
 unfold vt at hc;split at hc
 ·rename_i e o' off n Ks hp;obtain⟨it,Fl,Ks⟩:=Option.map_eq_some_iff.1 Ks;split at hc
  ·rename_i ie ob CW LB;split at hc
   ·rename_i hb;obtain⟨q1,q2⟩:=hb;cases hc;obtain⟨f,z,g1,g2,_,g4,g5⟩:=(ht e ie CW).info;obtain⟨k1,k2⟩:=cw (w:=w) (F:=FB C σ s.heap) _ _ g5;have hu:=da (ht t it Fl) Ks;have hx:=bD h hp;simp only[VR] at hx;obtain⟨B,hB,hx⟩:=hx;obtain⟨B0,e1,e2,e3,e4,e5⟩:=h.obj _ ob LB;rw[hB] at e1;cases e1;have Oi:(aS ie.zero n).length=n*ie.size:=by rw[ef,(ht e ie CW).len]
    have none_case:n=0→pH s.heap o' { ob with cells:=fL ob.cells off (aS ie.zero n) }=s.heap:=fun hn=>by
     subst hn;have:fL ob.cells off (aS ie.zero 0)=ob.cells:=by simp[fL,aS]
     rw[this];exact vM _ _ _ LB
    split at hx
    ·obtain⟨ex,rfl,rfl⟩:=hx;rw[none_case rfl];refine⟨.tuple #[],w,?_,_,h.put hd (Ut (d:=none) (s:=s))⟩;simp only[execOp,ho,resolve,De,AW,Lg,Sem.run_bind,Sem.run_pure,Result.andThen_ok,invoke,builtin,Builtin.clear_,List.map_toArray,List.map_cons,List.map_nil];simp only[List.getElem?_toArray,List.getElem?_cons_zero,Sem.run_bind,bp hu,ex,Result.andThen_ok,Sem.run_pure]
    ·rename_i b MH;obtain⟨cap,ex,c1,c2,c3,c4⟩:=hx;obtain⟨cur,n1,n2,n3,n4,n5,n6⟩:=e5 b MH;by_cases hn:n=0
     ·subst hn;rw[none_case rfl];refine⟨.tuple #[],w,?_,_,h.put hd (Ut (d:=none) (s:=s))⟩;simp only[execOp,ho,resolve,De,AW,Lg,Sem.run_bind,Sem.run_pure,Result.andThen_ok,invoke,builtin,Builtin.clear_,List.map_toArray,List.map_cons,List.map_nil];simp only[List.getElem?_toArray,List.getElem?_cons_zero,Sem.run_bind,bp hu,ex,Result.andThen_ok,Sem.run_pure]
     ·have CX:z.cells.size=ie.size:=by rw[← (ht e ie CW).len,← bt.length _ _ k1];simp
      have hz:=jT (σ:=σ) (aG.ca _ _ k1) n;have NX:=iz k2 n;have Y9:(Builtin.zeroCells z.cells n).toList=(madeCells z.cells (n*z.cells.size)).toList:=rfl;have hlen:(madeCells z.cells (n*z.cells.size)).toList.length=n*ie.size:=by simp[size_madeCells,CX]
      have Km:=run_storeCells_at P b off ob.elem (madeCells z.cells (n*z.cells.size)).toList 0 cur w n1 (by rw[hlen];omega) (aG.gC _ _ NX hz);simp only[Nat.add_zero] at Km;have hw:=h.write LB hB MH (Lk:=fL ob.cells off (aS ie.zero n)) (PS:=cur.toList.take off++(madeCells z.cells (n*z.cells.size)).toList++cur.toList.drop (off+(madeCells z.cells (n*z.cells.size)).toList.length)) (by simp only[List.length_append,List.length_take,List.length_drop,hlen];simp;omega)
       (by rw[eI _ _ _ yA];simp only[List.length_append,List.length_take,List.length_drop,hlen];simp;omega) (by
        rw[eI _ _ _ yA];have:=qv n6 off hz;have ee:(cur.toList.take off++(madeCells z.cells (n*z.cells.size)).toList++cur.toList.drop (off+(madeCells z.cells (n*z.cells.size)).toList.length)).take ob.cells.length =
          (cur.toList.take ob.cells.length).take off++(madeCells z.cells (n*z.cells.size)).toList++(cur.toList.take ob.cells.length).drop (off+(madeCells z.cells (n*z.cells.size)).toList.length):=by
         have De:ob.cells.length≤cur.toList.length:=by simpa using n5
         generalize (madeCells z.cells (n*z.cells.size)).toList=vs at *;rw[List.take_append,List.take_append];simp only[List.length_append,List.length_take,List.take_take,List.drop_take];rw[Nat.min_eq_right (show off≤ob.cells.length by omega),Nat.min_eq_left (show off≤cur.toList.length by omega),List.take_of_length_le (show vs.length≤ob.cells.length-off by omega)];congr 2
         ·rw[Nat.min_eq_left (show off≤ob.cells.length by omega)]
        rw[ee];exact this) (oA off e4 NX)
      refine⟨.tuple #[],_,?_,_,hw.put hd (Ut (d:=none) (s:={ s with heap:=pH s.heap o' { ob with cells:=fL ob.cells off (aS ie.zero n) } }))⟩;obtain⟨m,rfl⟩:∃ m,n=m+1:=⟨n-1,by omega⟩;simp only[execOp,ho,resolve,De,AW,Lg,Sem.run_bind,Sem.run_pure,Result.andThen_ok,invoke,builtin,Builtin.clear_,List.map_toArray,List.map_cons,List.map_nil];simp only[List.getElem?_toArray,List.getElem?_cons_zero,Sem.run_bind,bp hu,ex,Result.andThen_ok,gT g1 g4,Y9,Km,Sem.run_pure]
   ·cases hc
  ·cases hc
 ·rename_i e Ks hp;obtain⟨it,Fl,Ks⟩:=Option.map_eq_some_iff.1 Ks;cases hc;have hu:=da (ht t it Fl) Ks;have ex:=bD h hp;simp only[VR] at ex;refine⟨.tuple #[],w,?_,_,h.put hd (Ut (d:=none) (s:=s))⟩;simp only[execOp,ho,resolve,De,AW,Lg,Sem.run_bind,Sem.run_pure,Result.andThen_ok,invoke,builtin,Builtin.clear_,List.map_toArray,List.map_cons,List.map_nil];simp only[List.getElem?_toArray,List.getElem?_cons_zero,Sem.run_bind,bp hu,ex,Result.andThen_ok,Sem.run_pure]
 ·cases hc
end
def a9 (nt:Nat)(d:Option Tmp):Bool:=match d with
 | some t=>decide (t<nt)
 | none=>true
def Cu (ak:List (Nat×TI))(s:St)(d:Option Tmp)(c:Call):Option St:=
 match c.callee with
 | .builtin .append=>match c.args.toList,c.argTypes.toList with
  | [x,y],[t,t']=>if t=t' then mh ak s d t x y else none
  | _,_=>none
 | .builtin .copy=>match c.args.toList,c.argTypes.toList with
  | [x,y],[t,_]=>Aq ak s d t x y
  | _,_=>none
 | .builtin .clear=>match c.args.toList,c.argTypes.toList with
  | [x],[t]=>vt ak s d t x
  | _,_=>none
 | .builtin b=>(gf ak s b c.args.toList c.argTypes.toList).map (s.put d)
 | _=>none
def lj (ak:List (Nat×TI))(s:St)(o:Oper):Option St:=
 match o.op with
 | .store t x v=>(py ak s t x v).map (·.del o.dst)
 | .makeSlice t l c=>Am ak s o.dst t l c
 | .alloc e=>vu ak s o.dst e
 | .box e x=>Gb s o.dst e x
 | .buildSlice t len parts=>jr ak s o.dst t len parts.toList
 | .call c=>Cu ak s o.dst c
 | op=>(eE ak s op).map (s.put o.dst)
def pv (e:Option CV)(want:Bool):Option Bool:=match e with
 | some (.bool b)=>some (b == want)
 | some (.db [])=>some false
 | _=>none
def fp (ak:List (Nat×TI))(nt:Nat)(ops:Array Oper)(s:St)(o:Oper):Option St:=
 if a9 nt o.dst then
  match o.guard with
  | none=>lj ak s o
  | some (j,want)=>match (ops[j]?).bind (·.dst) with
   | none=>none
   | some t=>match pv (assoc s.env t) want with
    | some true=>lj ak s o
    | some false=>some (s.put o.dst (.db []))
    | none=>none
 else none
def sZ (ak:List (Nat×TI))(nt:Nat)(ops:Array Oper):List Oper→St→Option St
 | [],s=>some s
 | o::r,s=>match fp ak nt ops s o with
  | some s'=>sZ ak nt ops r s'
  | none=>none
section
variable {P:Program}{C:Cx}{s:St}{a:Act}{w:World}{ops:Array Oper}{ak:List (Nat×TI)}
theorem sY (ht:ay P ak)(h:Rel C s a w){o:Oper}(hd:a9 C.nt o.dst=true){s':St}(hs:lj ak s o=some s') :
  ∃ w',((∃ z,(execOp a.eval o).run P w=.ok (.value z) w'∧Rel C s' (a.put o.dst z) w')∨((execOp a.eval o).run P w=.ok .skip w'∧Rel C s' (a.put o.dst undef) w')):=by
 obtain⟨σ,h⟩:=h;have Ks:∀ t,o.dst=some t→t<a.tmps.size:=fun t e=>by
  rw[h.tm];rw[e] at hd
  simpa [a9] using hd
 have quiet:∀ c,eE ak s o.op=some c→s.put o.dst c=s'→∃ w',((∃ z,(execOp a.eval o).run P w=.ok (.value z) w'∧Rel C s' (a.put o.dst z) w')∨((execOp a.eval o).run P w=.ok .skip w'∧Rel C s' (a.put o.dst undef) w')):=fun c hc e=>by
  obtain⟨z,k1,k2⟩:=uP ht h o hc;exact⟨w,.inl ⟨z,k1,σ,e ▸ h.put Ks k2⟩⟩
 unfold lj at hs;split at hs
 ·rename_i t x v ho;obtain⟨s1,h1,rfl⟩:=Option.map_eq_some_iff.1 hs;obtain⟨w',k1,k2,_⟩:=uc ht h ho h1;exact⟨w',.inr ⟨k1,σ,k2.del undef⟩⟩
 ·rename_i t l c ho;obtain⟨z,w',k1,k2⟩:=D9 ht h Ks ho hs;exact⟨w',.inl ⟨z,k1,k2⟩⟩
 ·rename_i e ho;obtain⟨z,w',k1,k2⟩:=BF ht h Ks ho hs;exact⟨w',.inl ⟨z,k1,k2⟩⟩
 ·rename_i e x ho;obtain⟨z,w',k1,k2⟩:=Ga (P:=P) h Ks ho hs;exact⟨w',.inl ⟨z,k1,k2⟩⟩
 ·rename_i t len parts ho;obtain⟨z,w',k1,k2⟩:=rW ht h Ks ho hs;exact⟨w',.inl ⟨z,k1,k2⟩⟩
 ·rename_i cl ho;unfold Cu at hs;split at hs
  ·rename_i De;split at hs
   ·rename_i x y t t' ha Lg;split at hs
    ·rename_i e;subst e;obtain⟨z,w',_,k1,k2⟩:=rX ht h Ks ho De UX UZ hs;exact⟨w',.inl ⟨z,k1,_,k2⟩⟩
    ·cases hs
   ·cases hs
  ·rename_i De;split at hs
   ·rename_i x y t t' ha Lg;obtain⟨z,w',k1,k2⟩:=Ee ht h Ks ho De UX UZ hs;exact⟨w',.inl ⟨z,k1,k2⟩⟩
   ·cases hs
  ·rename_i De;split at hs
   ·rename_i x t ha Lg;obtain⟨z,w',k1,k2⟩:=BC ht h Ks ho De UX UZ hs;exact⟨w',.inl ⟨z,k1,k2⟩⟩
   ·cases hs
  ·rename_i b _ _ _ De;obtain⟨c,hc,e⟩:=Option.map_eq_some_iff.1 hs;exact quiet c (by rw[ho];simp only[eE,De];exact hc) e
  ·cases hs
 ·obtain⟨c,hc,e⟩:=Option.map_eq_some_iff.1 hs;exact quiet c hc e
theorem qD (h:Rel C s a w){j:Nat}{t:Tmp}{b:Bool}(hj:(ops[j]?).bind (·.dst)=some t)(he:assoc s.env t=some (.bool b)):yielded ops a.tmps j=some b:=by
 obtain⟨σ,h⟩:=h;obtain⟨v,h1,h2⟩:=h.env t _ he;simp only[VR] at h2;subst h2;simp[yielded,hj,h1]
theorem jU (h:Rel C s a w){o:Oper}{j:Nat}{want:Bool}{t:Tmp}{b:Bool}(hg:o.guard=some (j,want))(hj:(ops[j]?).bind (·.dst)=some t)(he:pv (assoc s.env t) want=some b):Region.wanted o (yielded ops a.tmps)=b:=by
 unfold pv at he;split at he
 ·rename_i b' hb;cases he;simp[Region.wanted,hg,qD h hj hb]
 ·rename_i hb;cases he;obtain⟨σ,h⟩:=h;obtain⟨v,h1,h2⟩:=h.env t _ hb;simp only[VR] at h2;obtain⟨vs,rfl,h3⟩:=h2;simp[Region.wanted,hg,yielded,hj,h1]
 ·cases he
theorem Rel.skip (h:Rel C s a w){d:Option Tmp}(hd:a9 C.nt d=true):Rel C (s.put d (.db [])) (a.put d undef) w:=by
 obtain⟨σ,h⟩:=h;refine⟨σ,h.put (fun t e=>?_) ?_⟩
 ·rw[h.tm];rw[e] at hd
  simpa [a9] using hd
 ·exact⟨[],rfl,rfl⟩
def TL (P:Program)(C:Cx)(ops:Array Oper)(l:List Oper)(s:St)(K:St→Prop):Prop:=
 ∀ a w (Q:Exit→Act→World→Prop),Rel C s a w→(∀ s' a' w',K s'→Rel C s' a' w'→Q .normal a' w')→wpList P ops Q l a w
theorem TL.nil {K:St→Prop}(h:K s):TL P C ops [] s K:=fun _ _ _ hr hQ=>hQ _ _ _ h hr
theorem TL.step (ht:ay P ak){o:Oper}{l:List Oper}{K:St→Prop}{s':St}(hs:fp ak C.nt ops s o=some s')(h:TL P C ops l s' K):TL P C ops (o::l) s K:=by
 intro a w Q hr hQ;have run:∀ {s'},a9 C.nt o.dst=true→Region.wanted o (yielded ops a.tmps)=true→lj ak s o=some s'→TL P C ops l s' K→wpList P ops Q (o::l) a w:=fun {s'} hd hw hs h=>by
  unfold wpList;rw[if_pos hw];refine .inl ?_;obtain⟨w',h1 | h1⟩:=sY ht hr hd hs
  ·obtain⟨z,k1,k2⟩:=h1;unfold Oper.wp;rw[k1];exact h _ _ Q k2 hQ
  ·obtain⟨k1,k2⟩:=h1;unfold Oper.wp;rw[k1];exact h _ _ Q k2 hQ
 unfold fp at hs;split at hs
 ·rename_i hd;split at hs
  ·rename_i hg;exact run hd (by simp[Region.wanted,hg]) hs h
  ·rename_i j want hg;split at hs
   ·cases hs
   rename_i t hj;split at hs
   ·rename_i hb;exact run hd (jU hr hg hj hb) hs h
   ·rename_i hb;cases hs;unfold wpList;rw[if_neg (by simp[jU hr hg hj hb])];exact h _ _ Q (hr.skip hd) hQ
   ·cases hs
 ·cases hs
def T (P:Program)(C:Cx)(c:Code)(s:St)(Q:Exit→St→Prop):Prop:=
 ∀ a w,Rel C s a w→c.wp P (fun e a' w'=>∃ s',Q e s'∧Rel C s' a' w') a w
def eC (K:St→Prop)(Q:Exit→St→Prop):Exit→St→Prop
 | .normal,s=>K s
 | e,s=>Q e s
theorem T.mono {c:Code}{Q Q':Exit→St→Prop}(h:T P C c s Q)(hq:∀ e s',Q e s'→Q' e s'):T P C c s Q':=fun a w hr=>
 wp_mono (h a w hr) fun e _ _ ⟨s',q,r⟩=>⟨s',hq e s' q,r⟩
theorem T.region {id:Nat}{l:List Oper}{Q:Exit→St→Prop}(h:TL P C l.toArray l s (Q .normal)):T P C (.region id l.toArray false) s Q:=fun a w hr=>
 wp_region_lit (h a w _ hr fun s' _ _ hk KF=>⟨s',hk,KF⟩)
theorem T.seq {x y:Code}{Q:Exit→St→Prop}(h:T P C x s (eC (fun s'=>T P C y s' Q) Q)):T P C (.seq x y) s Q:=fun a w hr=>
 wp_seq (wp_mono (h a w hr) fun e a' w' ⟨s',q,r⟩=>by
  cases e with
  | normal=>exact q a' w' r
  | _=>exact⟨s',q,r⟩)
theorem T.cond {c:Operand}{x y:Code}{b:Bool}{Q:Exit→St→Prop}(hc:ev s c=some (.bool b))(h:T P C (if b then x else y) s Q):T P C (.cond c x y) s Q:=fun a w hr=>by
 have MK:=hr;obtain⟨σ,KF⟩:=MK;have:=bD KF hc;simp only[VR] at this;exact wp_cond this (h a w hr)
theorem T.skip {Q:Exit→St→Prop}(h:Q .normal s):T P C .skip s Q:=fun _ _ hr=>wp_skip ⟨s,h,hr⟩
theorem T.exit {id:Nat}{Q:Exit→St→Prop}(h:Q (.exit id) s):T P C (.exit id) s Q:=fun _ _ hr=>wp_exit ⟨s,h,hr⟩
theorem T.ret {Q:Exit→St→Prop}(h:Q .ret s):T P C .ret s Q:=fun _ _ hr=>wp_ret ⟨s,h,hr⟩
theorem T.label {l:Nat}{Q:Exit→St→Prop}(h:Q .normal s):T P C (.label l) s Q:=fun _ _ hr=>wp_label ⟨s,h,hr⟩
theorem T.goto {l:Nat}{Q:Exit→St→Prop}(h:Q (.goto l) s):T P C (.goto l) s Q:=fun _ _ hr=>wp_goto ⟨s,h,hr⟩
def nA (id:Nat)(Q:Exit→St→Prop):Exit→St→Prop
 | .exit i,s=>if i=id then Q .normal s else Q (.exit i) s
 | e,s=>Q e s
theorem T.block {id:Nat}{c:Code}{Q:Exit→St→Prop}(h:T P C c s (nA id Q)):T P C (.block id c) s Q:=fun a w hr=>
 wp_block (wp_mono (h a w hr) fun e a' w' ⟨s',q,r⟩=>by
  cases e with
  | exit i=>
   simp only[Exit.inBlock,nA] at q ⊢;split
   ·rename_i e;rw[if_pos e] at q;exact⟨s',q,r⟩
   ·rename_i e;rw[if_neg e] at q;exact⟨s',q,r⟩
  | _=>exact⟨s',q,r⟩)
theorem yq {c:Code}{Q:Exit→Act→World→Prop}(I:Nat→Act→World→Prop){n:Nat}(h₀:I n a w)
  (round:∀ n a w,I n a w→c.wp P (Exit.then (fun a' w'=>∃ m,m<n∧I m a' w') Q) a w):(Code.loop c).wp P Q a w:=by
 classical
 have hx:∀ a w,(∃ n,I n a w)→∃ n,I n a w∧∀ m,I m a w→n≤m:=fun a w ⟨n,hn⟩=>by
  induction n using Nat.strongRecOn with
  | _ n ih=>
   by_cases h:∃ m,m<n∧I m a w
   ·obtain⟨m,hm,hi⟩:=h;exact ih m hm hi
   ·exact⟨n,hn,fun m hm=>Nat.le_of_not_lt fun yN=>h ⟨m,yN,hm⟩⟩
 let μ:Act→World→Nat:=fun a w=>if h:∃ n,I n a w then (hx a w h).choose else 0
 have hμ:∀ a w (h:∃ n,I n a w),I (μ a w) a w∧∀ m,I m a w→μ a w≤m:=fun a w h=>by
  simp only[μ,dif_pos h];exact (hx a w h).choose_spec
 refine wp_loop (fun a w=>∃ n,I n a w) μ ⟨n,h₀⟩ fun a w hI=>?_;refine wp_mono (round (μ a w) a w (hμ a w hI).1) fun e a' w' q=>?_
 cases e with
 | normal=>
  obtain⟨m,hm,hi⟩:=q;exact⟨⟨m,hi⟩,Nat.lt_of_le_of_lt ((hμ a' w' ⟨m,hi⟩).2 m hi) hm⟩
 | _=>exact q
theorem T.loop {c:Code}{Q:Exit→St→Prop}(I:Nat→St→Prop){n:Nat}(h₀:I n s)(round:∀ n s,I n s→T P C c s (eC (fun s'=>∃ m,m<n∧I m s') Q)):T P C (.loop c) s Q:=fun a w hr=>
 yq (fun n a w=>∃ s,I n s∧Rel C s a w) ⟨s,h₀,hr⟩ fun n a w ⟨s,hi,hr⟩=>wp_mono (round n s hi a w hr) fun e a' w' ⟨s',q,r⟩=>by
  cases e with
  | normal=>obtain⟨m,hm,hi⟩:=q;exact⟨m,hm,s',hi,r⟩
  | _=>exact⟨s',q,r⟩
end
def jR (P : Program) (f : FuncId) : Prop := ∃ fn, P.funcs[f]? = some fn ∧ (fn.name == "runtime.NumGoroutine") = false ∧ fn.body.isNone = false
def ae (P:Program)(f:FuncId)(args:List CV)(r:CV):Prop:=
 jR P f∧∀ (F:Nat→Prop) (vs:List Value) (w:World),FOk w F→bt w F args vs →
  Calls P f vs.toArray w fun e w'=>∃ v,e=.returned v∧Below w.heap.size w w'∧bK w' F r v
mutual
/-- No memory in it. -/
def scalar:CV→Bool
 | .int _ _=>true
 | .bool _=>true
 | .str _=>true
 | .ag=>true
 | .bg=>true
 | .bT=>true
 | .agg cs=>scalars cs
 | .db cs=>scalars cs
 | _=>false
def scalars:List CV→Bool
 | []=>true
 | c::cs=>scalar c && scalars cs
end
mutual
theorem bK.scalar {w w':World}{F F':Nat→Prop}:∀ (c:CV) (v:Value),Can.scalar c=true→bK w F c v→bK w' F' c v
 | .int _ _,_,_,h=>by simpa [bK] using h
 | .bool _,_,_,h=>by simpa [bK] using h
 | .str _,_,_,h=>by simpa [bK] using h
 | .ag,_,_,h=>by simpa [bK] using h
 | .bg,_,_,h=>by simpa [bK] using h
 | .bT,_,_,h=>by simpa [bK] using h
 | .agg cs,v,hs,h=>by
  simp only[bK,Can.scalar] at h hs ⊢;obtain⟨vs,e,r,h1⟩:=h;exact⟨vs,e,bt.scalar cs vs hs r,h1⟩
 | .db cs,v,hs,h=>by
  simp only[bK,Can.scalar] at h hs ⊢;obtain⟨vs,e,r⟩:=h;exact⟨vs,e,bt.scalar cs vs hs r⟩
 | .au _ _,_,hs,_=>by simp[Can.scalar] at hs
 | .cc _,_,hs,_=>by simp[Can.scalar] at hs
 | .fn _ _,_,hs,_=>by simp[Can.scalar] at hs
 | .iface _ _,_,hs,_=>by simp[Can.scalar] at hs
 | .iter _ _ _,_,hs,_=>by simp[Can.scalar] at hs
 | .mp _ _,_,hs,_=>by simp[Can.scalar] at hs
 | .bw _ _ _,_,hs,_=>by simp[Can.scalar] at hs
 | .ai _ _,_,hs,_=>by simp[Can.scalar] at hs
theorem bt.scalar {w w':World}{F F':Nat→Prop}:∀ (cs:List CV) (vs:List Value),scalars cs=true→bt w F cs vs→bt w' F' cs vs
 | [],_,_,h=>by simpa [bt] using h
 | c::cs,vs,hs,h=>by
  simp only[bt,scalars,Bool.and_eq_true] at h hs ⊢;obtain⟨v,r,e,h1,h2⟩:=h;exact⟨v,r,e,bK.scalar c v hs.1 h1,bt.scalar cs r hs.2 h2⟩
end
def Dm (s:St):CV→Option CV
 | .bw o off n=>match assoc s.heap o with
  | some ob=>if trees ob.cells then some (.au ((ob.cells.drop off).take (n*ob.sz)) n) else none
  | none=>none
 | .ai o off=>match assoc s.heap o with
  | some ob=>if trees ob.cells then some (.cc (ob.cells.drop off)) else none
  | none=>none
 | c=>if tree c then some c else none
def pU (s:St):List CV→Option (List CV)
 | []=>some []
 | c::cs=>match Dm s c,pU s cs with
  | some d,some ds=>some (d::ds)
  | _,_=>none
section
variable {P:Program}{C:Cx}{σ:Nat→Option OB}{s:St}{a:Act}{w:World}{ops:Array Oper}{ak:List (Nat×TI)}
theorem aB.below (h:aB C σ s a w){w':World}(hb:Below w.heap.size w w'):aB C σ s a w':=by
 have hg:w.grownBy w' none:=⟨hb.os,hb.tape,hb.output,hb.size,fun k hk _=>hb.block k hk⟩;have hk:b9 w w' (FB C σ s.heap) (FB C σ s.heap):=jj hg (fun b e=>by cases e) fun b hb=>.inl hb;refine⟨h.me,h.tm,hg.os.trans h.os,hg.tape.trans h.tape,hg.output.trans h.output,Nat.le_trans h.size hg.size,?_,?_,?_,h.inj,h.nx,h.fM,h.low,h.new⟩
 ·intro b Kc Kg;rw[hb.block b (Nat.lt_of_lt_of_le Kc h.size)];exact h.frame b Kc Kg
 ·intro t c hc;obtain⟨v,k1,k2⟩:=h.env t c hc;exact⟨v,k1,VR.a7 hk c v (fun _ _=>rfl) k2⟩
 ·intro o ob ho;obtain⟨B,m1,m2,m3,m4,m5⟩:=h.obj o ob ho;refine⟨B,m1,m2,m3,m4,fun b Kc=>?_⟩;obtain⟨cur,n1,n2,n3,n4,n5,n6⟩:=m5 b Kc;exact⟨cur,by rw[hb.block b (Array.getElem?_eq_some_iff.1 n1).1];exact n1,n2,n3,n4,n5,aG.a7 hk _ _ (fun _ _=>rfl) n6⟩
theorem Az (h:aB C σ s a w):∀ b,FB C σ s.heap b→b<w.heap.size:=by
 rintro b (hb | ⟨o,ob,ho,hb⟩)
 ·exact Nat.lt_of_lt_of_le (C.hF.1 b hb) h.size
 ·obtain⟨B',m1,_,_,_,m5⟩:=h.obj o ob ho;obtain⟨cur,n1,_⟩:=m5 b QQ;exact (Array.getElem?_eq_some_iff.1 n1).1
theorem zq (h:aB C σ s a w):FOk w (FB C σ s.heap):=⟨Az h,h.gok.mono fun _ hb=>hb.elim id False.elim⟩
theorem G4 (h:aB C σ s a w):FOk w C.F:=⟨fun b hb=>Nat.lt_of_lt_of_le (C.hF.1 b hb) h.size,h.gok.mono fun _ hb=>.inl (hb.elim id False.elim)⟩
theorem Fj (h:aB C σ s a w):ES w C.F (fun b=>∃ o ob,assoc s.heap o=some ob∧aH σ o=some b):=⟨(G4 h).1,h.gok⟩
theorem gj {F:Nat→Prop}:∀ (cs:List CV) (us:List Value) (ad:Addr),bt w F cs us→cs.all one=true→¬ F ad.block→(∀ j u,us[j]? = some u→w.cell? (ad.add j)=some u)→ej w F cs ad
 | [],_,_,_,_,_,_=>by simp[ej]
 | c::cs,us,ad,hr,h1,hF,hc=>by
  simp only[bt] at hr;obtain⟨v,r,rfl,h2,h3⟩:=hr;simp only[List.all_cons,Bool.and_eq_true] at h1;simp only[ej];refine⟨⟨v,by have:=hc 0 v rfl;rwa [add_zero] at this,hF,h2⟩,h1.1,gj cs r _ h3 h1.2 (by rw[BO];exact hF) fun j u hu=>?_⟩;rw[add_add,Nat.add_comm];exact hc (j+1) u (by simpa using hu)
theorem FH (h:aB C σ s a w){c d:CV}{v:Value}(hv:VR w (FB C σ s.heap) σ c v)(hl:Dm s c=some d):bK w C.F d v:=by
 have hk:b9 w w (FB C σ s.heap) C.F:=⟨fun ad u hf hu=>⟨hu,fun hF=>hf (.inl hF)⟩,fun r _ hf hu _=>⟨hu,fun hF=>hf (.inl hF)⟩⟩;have obj:∀ {o ob B b},assoc s.heap o=some ob→σ o=some B→B.iI=some b→trees ob.cells=true→∀ k,ej w C.F (ob.cells.drop k) ⟨b,k,none⟩:=fun {o ob B b} ho hB hb ht k=>by
  obtain⟨B',e1,_,_,e4,e5⟩:=h.obj o ob ho;rw[hB] at e1;cases e1;obtain⟨cur,k1,k2,k3,k4,k5,k6⟩:=e5 b hb;have h1:=bt.a7 hk.1 _ _ (aG.dx _ _ ht k6);have h2:ej w C.F ob.cells ⟨b,0,none⟩:=gj _ _ _ h1 e4 k3 fun j u hu=>by
   rw[add_lit,Nat.zero_add,cell_of_row w b j cur _ _ k1];rw[List.getElem?_take] at hu;split at hu
   ·simpa using hu
   ·cases hu
  have:=h2.drop k;rwa [add_lit,Nat.zero_add] at this
 unfold Dm at hl;split at hl
 ·rename_i o off n;split at hl
  ·rename_i ob ho;split at hl
   ·rename_i ht;cases hl;simp only[VR] at hv;obtain⟨B,hB,hv⟩:=hv;split at hv
    ·obtain⟨rfl,rfl,rfl⟩:=hv;simp only[bK];exact⟨none,0,rfl,Nat.le_refl _,Nat.zero_le _,.inl ⟨trivial,by simp⟩⟩
    ·rename_i b hb;obtain⟨cap,rfl,h1,h2,_⟩:=hv;simp only[bK];exact⟨_,cap,rfl,h1,h2,.inr ⟨_,rfl,ej.take _ _ _ (obj ho hB hb ht off)⟩⟩
   ·cases hl
  ·cases hl
 ·rename_i o off;split at hl
  ·rename_i ob ho;split at hl
   ·rename_i ht;cases hl;simp only[VR] at hv;obtain⟨B,b,hB,hb,rfl⟩:=hv;simp only[bK];exact⟨_,rfl,obj ho hB hb ht off⟩
   ·cases hl
  ·cases hl
 ·split at hl
  ·rename_i ht;cases hl;exact bK.a7 hk.1 _ _ (VR.dx _ _ ht hv)
  ·cases hl
theorem xf (h:aB C σ s a w):∀ (cs ds:List CV) (vs:List Value),aG w (FB C σ s.heap) σ cs vs→pU s cs=some ds→bt w C.F ds vs
 | [],ds,vs,hv,hl=>by simp only[pU] at hl;cases hl;simpa [aG,bt] using hv
 | c::cs,ds,vs,hv,hl=>by
  simp only[pU] at hl;split at hl
  ·rename_i d Xi h1 h2;cases hl;simp only[aG,bt] at hv ⊢;obtain⟨v,r,e,k1,k2⟩:=hv;exact⟨v,r,e,FH h k1 h1,xf h cs Xi r k2 h2⟩
  ·cases hl
def bl (s:St)(c:Call):Option (FuncId×List CV):=
 match c.callee with
 | .value f=>match ev s f,vF s c.args.toList with
  | some (.fn g Ll),some cs=>some (g,cs++Ll)
  | _,_=>none
 | _=>none
def bm (P:Program)(s:St)(c:Call)(r:CV):Prop:=
 ∃ g cs,bl s c=some (g,cs)∧((trees cs=true∧ae P g cs r)∨∃ ds,pU s cs=some ds∧ae P g ds r∧scalar r=true)
theorem yb (h:aB C σ s a w){o:Oper}{c:Call}(ho:o.op=.call c){r:CV}(hc:bm P s c r)(K:Act→World→Prop)(Q:Exit→Act→World→Prop)
  (hK:∀ v w',aB C σ s a w'→VR w' (FB C σ s.heap) σ r v→K (a.put o.dst v) w'):o.wp P a w K Q:=by
 obtain⟨g,cs,Kj,hp⟩:=hc;unfold bl at Kj;split at Kj
 ·rename_i f LI;split at Kj
  ·rename_i g' Ll Lk hf Kr;cases Kj;have Sb:=bD h hf;simp only[VR] at Sb;obtain⟨us,e,hu⟩:=Sb;have AW:=nq h _ _ Kr;have Kq:=aG.append _ _ _ _ AW hu;have P5:∀ {cs},ae P g cs r→(execOp a.eval o).run P w=.ok (.enter g (c.args.toList.map a.eval++us).toArray) w:=fun hp=>by
    obtain⟨⟨fn,h1,h2,h3⟩,_⟩:=hp;have e2:(c.args.toList.map a.eval).toArray=c.args.map a.eval:=by rw[← List.map_toArray]
    simp only[execOp,ho,resolve,LI,e,Deferred.ofValue,Sem.run_bind,Sem.run_pure,Result.andThen_ok,invoke,callFunc,run_program,h1,h2,h3,Bool.false_eq_true,if_false];rw[← e2];simp
   rcases hp with ⟨ht,hp⟩ | ⟨ds,hl,hp,QE⟩
   ·unfold Oper.wp;rw[P5 hp];refine (hp.2 (FB C σ s.heap) _ w (zq h) (aG.dx _ _ ht Kq)).mono fun e w' ⟨v,he,hb,hv⟩=>?_;subst he;exact hK v w' (h.below hb) (VR.ca _ _ hv)
   ·unfold Oper.wp;rw[P5 hp];refine (hp.2 C.F _ w (G4 h) (xf h _ _ _ Kq hl)).mono fun e w' ⟨v,he,hb,hv⟩=>?_;subst he;exact hK v w' (h.below hb) (VR.ca _ _ (bK.scalar _ _ QE hv))
  ·cases Kj
 ·cases Kj
theorem TL.call {o:Oper}{l:List Oper}{c:Call}{r:CV}{K:St→Prop}(hd:a9 C.nt o.dst=true)(hg:o.guard=none)(ho:o.op=.call c)(hc:bm P s c r)(h:TL P C ops l (s.put o.dst r) K):TL P C ops (o::l) s K:=by
 intro a w Q hr hQ;obtain⟨σ,hr⟩:=hr;unfold wpList;rw[if_pos (by simp[Region.wanted,hg])];refine .inl (yb hr ho hc _ _ fun v w' KF hv=>h _ _ Q ⟨σ,KF.put ?_ hv⟩ hQ);intro t e;rw[KF.tm];rw[e] at hd
 simpa [a9] using hd
theorem TL.bG {o:Oper}{l:List Oper}{c:Call}{r:CV}{K:St→Prop}{j:Nat}{want:Bool}{t:Tmp}(hd:a9 C.nt o.dst=true)(hg:o.guard=some (j,want))(hj:(ops[j]?).bind (·.dst)=some t)(ht:assoc s.env t=some (.bool want))(ho:o.op=.call c)(hc:bm P s c r)(h:TL P C ops l (s.put o.dst r) K) :
  TL P C ops (o::l) s K:=by
 intro a w Q hr hQ;have hy:=qD hr hj ht;obtain⟨σ,hr⟩:=hr;unfold wpList;rw[if_pos (by simp[Region.wanted,hg,hy])];refine .inl (yb hr ho hc _ _ fun v w' KF hv=>h _ _ Q ⟨σ,KF.put ?_ hv⟩ hQ);intro t e;rw[KF.tm];rw[e] at hd
 simpa [a9] using hd
def enter (args:List CV):St:={ env:=args.zipIdx.map (fun x=>(x.2,x.1)),heap:=[],nx:=0 }
theorem eW:∀ (args:List CV) (k t:Nat) (c:CV),assoc ((args.zipIdx k).map fun x=>(x.2,x.1)) t=some c→k≤t∧args[t-k]? = some c
 | [],_,_,_,h=>by simp[assoc] at h
 | x::args,k,t,c,h=>by
  simp only[List.zipIdx_cons,List.map_cons,assoc] at h;split at h
  ·rename_i e;subst e;cases h;exact⟨Nat.le_refl _,by simp⟩
  ·rename_i e;obtain⟨h1,h2⟩:=eW args (k+1) t c h;refine⟨by omega,?_⟩;rw[show t-k=(t-(k+1))+1 by omega]
   simpa using h2
def mM (ak:List (Nat×TI))(s:St):ResultVar→Option CV
 | .tmp t=>assoc s.env t
 | .cell a ty=>match assoc s.env a,assoc ak ty with
  | some c,some i=>match fD s c with
   | some cs=>kj i cs
   | none=>none
  | _,_=>none
def jo (ak:List (Nat×TI))(s:St):List ResultVar→Option (List CV)
 | []=>some []
 | r::rs=>match mM ak s r,jo ak s rs with
  | some c,some cs=>some (c::cs)
  | _,_=>none
def lC:List CV→CV
 | [c]=>c
 | cs=>.db cs
def bf (ak:List (Nat×TI))(f:Func)(s:St):Option CV:=match jo ak s f.results.toList with
 | some cs=>some (lC cs)
 | none=>none
def tf (tmps:Array Value):ResultVar→Sem Value
 | .tmp t=>pure (tmps.getD t undef)
 | .cell a t=>do loadVar t (← asAddr (tmps.getD a undef))
theorem xM (ht:ay P ak)(h:aB C σ s a w):∀ (rs:List ResultVar) (cs:List CV),jo ak s rs=some cs→∃ vs,(rs.mapM (tf a.tmps)).run P w=.ok vs w∧aG w (FB C σ s.heap) σ cs vs
 | [],cs,hc=>by simp only[jo] at hc;cases hc;exact⟨[],by simp,by simp[aG]⟩
 | r::rs,cs,hc=>by
  simp only[jo] at hc;split at hc
  ·rename_i c Lk h1 h2;cases hc;obtain⟨vs,k1,k2⟩:=xM ht h rs Lk h2;have key:∃ v,(tf a.tmps r).run P w=.ok v w∧VR w (FB C σ s.heap) σ c v:=by
    cases r with
    | tmp t=>
     obtain⟨v,m1,m2⟩:=h.env t c h1;exact⟨v,by simp[tf,Array.getD_eq_getD_getElem?,m1],m2⟩
    | cell x ty=>
     simp only[mM] at h1;split at h1
     ·rename_i d i hd hi;split at h1
      ·rename_i cells hm;obtain⟨v,m1,m2⟩:=h.env x d hd;obtain⟨ad,rfl,RD⟩:=w9 h m2 hm;obtain⟨u,n1,n2⟩:=xR (P:=P) (ht ty i hi) RD h1;exact⟨u,by simp[tf,Array.getD_eq_getD_getElem?,m1,asAddr,n1],n2⟩
      ·cases h1
     ·cases h1
   obtain⟨v,m1,m2⟩:=key;refine⟨v::vs,?_,?_⟩
   ·simp only[List.mapM_cons,Sem.run_bind,m1,k1,Result.andThen_ok,Sem.run_pure]
   ·simp only[aG];exact⟨v,vs,rfl,m2,k2⟩
  ·cases hc
theorem gW (ht:ay P ak)(h:aB C σ s a w){f:Func}{r:CV}(hr:bf ak f s=some r):∃ v,(results f a.tmps).run P w=.ok v w∧VR w (FB C σ s.heap) σ r v:=by
 unfold bf at hr;split at hr
 ·rename_i cs Kr;cases hr;obtain⟨vs,k1,k2⟩:=xM ht h _ _ Kr;have hl:=aG.length _ _ k2;have hm:(f.results.mapM (tf a.tmps)).run P w=.ok vs.toArray w:=by
   rw[Array.mapM_eq_mapM_toList];simp only[Sem.run_map,k1,Result.andThen_ok]
  have e:results f a.tmps=(do let vs ← f.results.mapM (tf a.tmps);pure (if h:vs.size=1 then vs[0] else .tuple vs)):=by
   unfold results;congr 1
  rw[e];simp only[Sem.run_bind,hm,Result.andThen_ok,Sem.run_pure];refine⟨_,rfl,?_⟩
  match cs,vs,hl,k2 with
  | [c],[v],_,k2=>
   simp only[aG] at k2;obtain⟨_,_,e,h1,_⟩:=k2;cases e
   simpa [lC] using h1
  | [],[],_,_=>simp[lC,VR,aG]
  | c::d::cs,v::u::vs,_,k2=>
   simp only[lC];rw[dif_neg j5];simp only[VR];exact⟨v::u::vs,rfl,k2⟩
 ·cases hr
def doneS (ak:List (Nat×TI))(f:Func)(r:CV):Exit→St→Prop
 | .normal,s=>bf ak f s=some r
 | .ret,s=>bf ak f s=some r
 | _,_=>False
theorem ae.je (Mw : ay P ak) {f : FuncId} {fn : Func} {c : Code} {args : List CV} {r : CV} (hf : P.funcs[f]? = some fn) (hb : fn.body = some c) (hn : (fn.name == "runtime.NumGoroutine") = false)
  (ha:args.length≤fn.ntmps) (ht:tree r=true) (h:∀ C:Cx,C.nt=fn.ntmps→C.n0=0→T P C c (enter args) (doneS ak fn r)):ae P f args r:=by
 refine⟨⟨fn,hf,hn,by simp[hb]⟩,fun F vs w hF hv=>?_⟩;have hl:=bt.length _ _ hv;let C:Cx:=⟨w,F,fun _=>False,hF,fn.ntmps,fun _=>none,0⟩
 have h0:aB C (fun _=>none) (enter args) { tmps:=vs.toArray++Array.replicate (fn.ntmps-vs.toArray.size) undef,defers:=[] } w:=by
  refine⟨rfl,by simp[C];omega,rfl,rfl,rfl,Nat.le_refl _,fun _ _ _=>rfl,?_,?_,?_,fun _ _=>rfl,fun _ h=>absurd h (Nat.not_lt_zero _),Nat.zero_le _,fun _ _ _ _ h=>by cases h⟩
  ·intro t c hc;obtain⟨_,h2⟩:=eW args 0 t c hc;obtain⟨v,h3,h4⟩:=bt.get _ _ hv t c (by simpa using h2);refine⟨v,?_,VR.ca _ _ (bK.a7 (b9.same fun b hb=>?_).1 c v h4)⟩
   ·have yN:=(List.getElem?_eq_some_iff.1 h3).1;simp only;rw[Array.getElem?_append_left (by simpa using yN)]
    simpa using h3
   ·rcases hb with hF | ⟨o,ob,ho,_⟩
    ·exact hF
    ·simp[enter,assoc] at ho
  ·intro o ob ho;simp[enter,assoc] at ho
  ·intro o o' ob Ka b ho;simp[enter,assoc] at ho
 refine calls_of_wp hf hb (wp_mono (h C rfl rfl _ _ ⟨_,h0⟩) fun e a' w' ⟨s',q,σ,hr⟩=>?_);have fin:bf ak fn s'=some r→a'.defers=[]∧∃ v,(results fn a'.tmps).run P w'=.ok v w'∧(∃ Og,Ending.returned v=.returned Og∧Below w.heap.size w w'∧bK w' F r Og):=fun hq=>by
  obtain⟨v,k1,k2⟩:=gW (P:=P) Mw hr hq;refine⟨hr.me,v,k1,v,rfl,⟨hr.os,hr.tape,hr.output,hr.size,fun k hk=>hr.frame k hk (fun hx=>hx)⟩,?_⟩;exact bK.a7 (b9.same fun _ hF=>.inl hF).1 _ _ (VR.dx _ _ ht k2)
 cases e with
 | normal=>exact fin q
 | ret=>exact fin q
 | exit _=>exact q.elim
 | goto _=>exact q.elim
 | panic _=>exact q.elim
 | outgrown=>exact q.elim
end
theorem AM {ak:List (Nat×TI)}{nt:Nat}{ops:Array Oper}{s:St}:sZ ak nt ops [] s=some s:=rfl
theorem qI {ak:List (Nat×TI)}{nt:Nat}{ops:Array Oper}{o:Oper}{l:List Oper}{s:St}:sZ ak nt ops (o::l) s=(fp ak nt ops s o).bind (sZ ak nt ops l):=by
 simp only[sZ];cases fp ak nt ops s o<;>rfl
def zP (K:St→Prop):Option St→Prop
 | some s=>K s
 | none=>False
theorem Rel.drew {C:Cx}{s:St}{a:Act}{w:World}(h:Rel C s a w):Rel C s a { w with drawn:=w.drawn+1 }:=by
 obtain⟨σ,h⟩:=h;exact⟨σ,h.below (w':=w.drew) ⟨rfl,rfl,rfl,Nat.le_refl _,fun _ _=>rfl⟩⟩
section
variable {P:Program}{ak:List (Nat×TI)}{s s':St}
theorem iG:∀ (xs:List Operand),(∀ x∈xs,ev s x=ev s' x)→vF s xs=vF s' xs
 | [],_=>rfl
 | x::r,h=>by
  simp only[vF];rw[h x j5,iG r fun y hy=>h y (by simp[hy])]
theorem ir:∀ (xs:List (Nat×Operand)),(∀ x∈xs,ev s x.2=ev s' x.2)→fZ s xs=fZ s' xs
 | [],_=>rfl
 | (i,x)::r,h=>by
  simp only[fZ];rw[h (i,x) j5,ir r fun y hy=>h y (by simp[hy])]
theorem iv {x:Option Operand}(h:∀ y,x=some y→ev s y=ev s' y)(d:Nat):fc s x d=fc s' x d:=by
 cases x with
 | none=>rfl
 | some y=>simp only[fc];rw[h y rfl]
theorem pS (hh:s.heap=s'.heap)(c:CV):fD s c=fD s' c:=by
 unfold fD;rw[hh]
theorem vj (hh:s.heap=s'.heap){lo hi:Option Operand}(h1:∀ y,lo=some y→ev s y=ev s' y)(h2:∀ y,hi=some y→ev s y=ev s' y)(t:TypeId)(c:CV):jL ak s t c lo hi=jL ak s' t c lo hi:=by
 unfold jL;rw[hh];simp only[iv h1,iv h2]
theorem yQ (hh:s.heap=s'.heap)(op:Op)(h:∀ x∈op.operands,ev s x=ev s' x):eE ak s op=eE ak s' op:=by
 cases op
 case move x=>exact h x L2
 case assign x=>exact h x L2
 case pick c x y=>
  simp only[eE];rw[h c L2,h x L2,h y L2]
 case binOp op t x y yt=>
  simp only[eE];rw[h x L2,h y L2]
 case unOp op t x=>simp only[eE];rw[h x L2]
 case load t x=>simp only[eE];rw[h x L2];simp only[pS hh]
 case slice t x lo hi mx=>
  have h1:∀ y,lo=some y→ev s y=ev s' y:=fun y e=>h y (by subst e;simp[Op.operands]);have h2:∀ y,hi=some y→ev s y=ev s' y:=fun y e=>h y (by subst e;simp[Op.operands])
  cases mx with
  | none=>simp only[eE];rw[h x L2];simp only[vj hh h1 h2]
  | some _=>rfl
 case fieldAddr t x f=>simp only[eE];rw[h x L2]
 case field t x f=>simp only[eE];rw[h x L2]
 case indexAddr t x i=>simp only[eE];rw[h x L2,h i L2]
 case index t x i=>simp only[eE];rw[h x L2,h i L2]
 case extract x i=>simp only[eE];rw[h x L2]
 case makeFunc f first cap=>
  cases f<;>first | rfl | skip
  simp only[eE];rw[iG cap.toList fun x hx=>h x (by simp only[Op.operands,Array.mem_append];exact .inr (by simpa using hx))]
 case nilCheck x=>simp only[eE];rw[h x L2]
 case build t parts=>
  simp only[eE,pA];rw[ir parts.toList fun x hx=>h x.2 Xp]
 case call c=>
  simp only[eE];split
  ·rename_i b hb;have ha:∀ x∈c.args.toList,ev s x=ev s' x:=fun x hx=>h x (by simp only[Op.operands,Call.operands,Array.mem_append];exact .inr (by simpa using hx));unfold gf;split
   ·split
    ·rename_i x t e _;rw[ha x (by rw[e];simp)]
    ·rfl
   ·rw[iG _ ha]
   ·rw[iG _ ha]
   ·rfl
  ·rfl
 all_goals rfl
end
def nX (s:St)(d:Option Tmp):Option CV→St
 | some c=>s.put d c
 | none=>s.del d
section
variable {P:Program}{C:Cx}{s:St}{a:Act}{w:World}{ops:Array Oper}{ak:List (Nat×TI)}
def uw (E:Nat→Option CV)(d:Option Tmp)(r:Option CV):Nat→Option CV:=fun t=>if d=some t then r else E t
def cF (ops:Array Oper)(i:Nat):Option Tmp:=(ops[i]?).bind (·.dst)
theorem r7 {s:St}{d:Option Tmp}{r:Option CV}(t:Nat):assoc (nX s d r).env t=uw (assoc s.env) d r t:=by
 cases r with
 | none=>
  cases d with
  | none=>simp[nX,St.del,uw]
  | some x=>simp[nX,St.del,uw,dW]
 | some c=>
  cases d with
  | none=>simp[nX,St.put,uw]
  | some x=>
   simp only[nX,St.put,uw,assoc,dW,Option.some.injEq];split<;>rfl
theorem l6 {s:St}{d:Option Tmp}{r:Option CV}:(nX s d r).heap=s.heap∧(nX s d r).nx=s.nx:=by
 cases r<;>cases d<;>exact⟨rfl,rfl⟩
end
section
variable {P:Program}{C:Cx}{s:St}{a:Act}{w:World}{ops:Array Oper}{ak:List (Nat×TI)}
theorem count_set:∀ (ord:List Nat) (i:Nat) (listed:Array Bool),ord.Nodup→i∈ord→i<listed.size→listed.getD i false=false →
  (ord.countP fun j=>!(listed.setIfInBounds i true).getD j false)+1=ord.countP fun j=>!listed.getD j false
 | [],_,_,_,h,_,_=>by cases h
 | k::r,i,listed,hn,hi,yN,hu=>by
  rw[List.nodup_cons] at hn;simp only[List.countP_cons];by_cases hk:k=i
  ·subst hk;have h1:((listed.setIfInBounds k true).getD k false)=true:=by simp[yN]
   have h2:(r.countP fun j=>!(listed.setIfInBounds k true).getD j false)=r.countP fun j=>!listed.getD j false:=by
    refine List.countP_congr fun j hj=>?_;rw[getD_set_ne false (fun e=>hn.1 (by subst e;exact hj))]
   rw[h1,h2,hu];simp
  ·have Py:i∈r:=by
    rcases List.mem_cons.1 hi with e | e
    ·exact absurd e.symm hk
    ·exact e
   have:=count_set r i listed hn.2 Py yN hu;rw[getD_set_ne false (Ne.symm hk)];omega
theorem rI (m j:Nat):(Array.replicate m false).getD j false=false:=getD_replicate_false m j
theorem mF {listed:Array Bool}{j:Nat}(hs:j<listed.size)(h:listed.getD j false=false):listed.getD j true=false:=getD_in hs h
end
end Go.Can
