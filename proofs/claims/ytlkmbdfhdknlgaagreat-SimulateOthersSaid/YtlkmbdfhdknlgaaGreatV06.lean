/- One operation as a step of -/
import Derived.Test.YtlkmbdfhdknlgaaGreatV05
namespace Go.Can
open Go.RowKit List
section
variable {P:Program}{C:Cx}{σ:Nat->Option OB}{s:St}{a:Act}{w:World}
def El (av:List (Nat×TI))(s:St)(d:Option Tmp)(t:TypeId)(x y:Operand):Option St:=
 match dM av t,ev s x,ev s y with
 | some (.sl e),some (.bg o off n),some q=>
  match assoc av e,cells? s q,assoc s.heap o with
  | some ie,some (news,m),some ob=>
   if 0<n/\news.length=m*ie.size/\off+n*ie.size<=ob.cells.length then
    some (St.put { s with heap:=sM s.heap o { ob with cells:=gC ob.cells off (news.take ((min m n)*ie.size)) } } d (.int .i64 (min m n:Nat)))
   else none
  | _,_,_=>none
 | _,_,_=>none
theorem Ix {av:List (Nat×TI)}(ht:aD P av)(h:aO C σ s a w){o:Oper}{cl:Call}{t t':TypeId}{x y:Operand}(hd:∀ t,o.dst=some t->t<a.tmps.size)(ho:o.op=.call cl)(O2:cl.callee=.builtin .copy)(OX:cl.args=#[x,y])(Qt:cl.argTypes=#[t,t'])
  {s':St} (hc:El av s o.dst t x y=some s'):∃ z w',(execOp a.eval o).run P w=.ok (.value z) w'/\Rel C s' (a.put o.dst z) w':=by
 unfold El at hc;split at hc
 ·rename_i e o' off n q PG hp hq;obtain⟨it,Ps,PG⟩:=Option.map_eq_some_iff.1 PG;split at hc
  ·rename_i ie news m ob OV PQ QT;split at hc
   ·rename_i hb;obtain⟨q1,q3,q4⟩:=hb;cases hc;obtain⟨f,z,g1,g2,_⟩:=(ht e ie OV).info;have hu:=dI (ht t it Ps) PG;obtain⟨us,u1,u2,u3⟩:=cells?_ok h (bG h hq) PQ;have ul:=a7.length _ _ u1;have hx:=bG h hp;simp only[VR] at hx;obtain⟨B,hB,hx⟩:=hx;obtain⟨B0,e1,e2,_,e4,e5⟩:=h.obj _ ob QT;rw[hB] at e1;cases e1;split at hx
    ·obtain⟨_,_,h0⟩:=hx;omega
    rename_i b Tf;obtain⟨cap,ex,c1,c2,c3,c4⟩:=hx;obtain⟨cur,n1,n2,n3,n4,n5,n6⟩:=e5 b Tf;have hk:(us.take ((min m n)*ie.size)).length=min m n*ie.size:=by
     rw[length_take,ul,q3];have:min m n*ie.size<=m*ie.size:=Nat.mul_le_mul_right _ (Nat.min_le_left _ _);omega
    have hkn:min m n*ie.size<=n*ie.size:=Nat.mul_le_mul_right _ (Nat.min_le_right _ _);have u1':=a7.take ((min m n)*ie.size) _ _ u1;have u2':(news.take ((min m n)*ie.size)).all one=true:=by
     rw[all_eq_true] at u2 |-;exact λ x hx=>u2 x (mem_of_mem_take hx)
    have Pk:=run_storeCells_at P b off ob.elem (us.take ((min m n)*ie.size)) 0 cur w n1 (by rw[hk];omega) (a7.ja _ _ u2' u1');simp only[Nat.add_zero] at Pk;have Vl:(news.take ((min m n)*ie.size)).length=min m n*ie.size:=by rw[<- a7.length _ _ u1',hk]
    have hw:=h.write QT hB Tf (QH:=gC ob.cells off (news.take ((min m n)*ie.size))) (VA:=cur.toList.take off++us.take ((min m n)*ie.size)++cur.toList.drop (off+(us.take ((min m n)*ie.size)).length)) (by simp[hk];omega)
     (by rw[fO _ _ _ yA];simp[hk];omega) (by
      rw[fO _ _ _ yA];have:=uH n6 off u1';have ee:(cur.toList.take off++us.take ((min m n)*ie.size)++cur.toList.drop (off+(us.take ((min m n)*ie.size)).length)).take ob.cells.length =
        (cur.toList.take ob.cells.length).take off++us.take ((min m n)*ie.size)++(cur.toList.take ob.cells.length).drop (off+(us.take ((min m n)*ie.size)).length):=by
       have O2:ob.cells.length<=cur.toList.length:=by simpa using n5
       generalize us.take ((min m n)*ie.size)=vs at *;rw[take_append,take_append];simp only[length_append,length_take,take_take,drop_take];rw[Nat.min_eq_right (show off<=ob.cells.length by omega),Nat.min_eq_left (show off<=cur.toList.length by omega),take_of_length_le (show vs.length<=ob.cells.length-off by omega)];congr 2
       ·rw[Nat.min_eq_left (show off<=ob.cells.length by omega)]
      rw[ee];exact this) (qW off e4 u2')
    refine⟨.int .i64 (min m n:Nat),_,?_,_,hw.put hd (dT _ _)⟩;have Tu:∀ k,k=min m n->(Builtin.firstCells ie.size k (a.eval y)).run P w=.ok (us.take (k*ie.size)).toArray w:=by
     rintro k rfl;rcases u3 with ⟨c,e,rfl,rfl⟩ | ⟨ad,c,e,Rj⟩
     ·simp[e,Builtin.firstCells]
     ·rw[e];exact run_firstCells_some (P:=P) w ie.size _ ad m c _ hk λ j x hx=>by
       rw[getElem?_take] at hx;split at hx
       ·exact Rj j x hx
       ·cases hx
    have hlen:(Builtin.lenOf (a.eval y)).run P w=.ok m w:=by
     rcases u3 with ⟨c,e,rfl,rfl⟩ | ⟨ad,c,e,Rj⟩<;>simp[e,Builtin.lenOf]
    have Sh:Nat.min m n=min m n:=rfl;simp only[execOp,ho,resolve,O2,OX,Qt,Sem.run_bind,Sem.run_pure,Result.andThen_ok,invoke,builtin,Builtin.copy_,map_toArray,map_cons,map_nil];simp only[getElem?_toArray,getElem?_cons_zero,getElem?_cons_succ,Sem.run_bind,bH hu,ex,Result.andThen_ok,hlen,db g1,g2,Sh,Tu _ rfl,Pk,Sem.run_pure,goInt]
   ·cases hc
  ·cases hc
 ·cases hc
theorem zV {α:Type}:∀ (l:List (Nat×α)) (t:Nat) (x:α),assoc l t=some x->sM l t x=l
 | [],_,_,h=>by simp[assoc] at h
 | (k,v)::r,t,x,h=>by
  simp only[assoc] at h;simp only[sM];split at h
  ·rename_i e;cases h;rw[if_pos e]
  ·rename_i e;rw[if_neg e,zV r t x h]
def zC (av:List (Nat×TI))(s:St)(d:Option Tmp)(t:TypeId)(x:Operand):Option St:=
 match dM av t,ev s x with
 | some (.sl e),some (.bg o off n)=>
  match assoc av e,assoc s.heap o with
  | some ie,some ob=>
   if ob.sz=ie.size/\off+n*ie.size<=ob.cells.length then
    some (St.put { s with heap:=sM s.heap o { ob with cells:=gC ob.cells off (aS ie.zero n) } } d (.bY []))
   else none
  | _,_=>none
 | some (.sl _),some .ak=>some (s.put d (.bY []))
 | _,_=>none
theorem FP {av:List (Nat×TI)}(ht:aD P av)(h:aO C σ s a w){o:Oper}{cl:Call}{t:TypeId}{x:Operand}(hd:∀ t,o.dst=some t->t<a.tmps.size)(ho:o.op=.call cl)(O2:cl.callee=.builtin .clear)(OX:cl.args=#[x])(Qt:cl.argTypes=#[t])
  {s':St} (hc:zC av s o.dst t x=some s'):∃ z w',(execOp a.eval o).run P w=.ok (.value z) w'/\Rel C s' (a.put o.dst z) w':=by
 have XR:∀ {w':World} {d:Option Tmp} {s:St},VR w' (FB C σ s.heap) σ (.bY []) (.tuple #[]):=λ {w' d s}=>by
  simp only[VR];exact⟨[],rfl,rfl⟩
 unfold zC at hc;split at hc
 ·rename_i e o' off n PG hp;obtain⟨it,Ps,PG⟩:=Option.map_eq_some_iff.1 PG;split at hc
  ·rename_i ie ob OV QT;split at hc
   ·rename_i hb;obtain⟨q1,q2⟩:=hb;cases hc;obtain⟨f,z,g1,g2,_,g4,g5⟩:=(ht e ie OV).info;obtain⟨k1,k2⟩:=dt (w:=w) (F:=FB C σ s.heap) _ _ g5;have hu:=dI (ht t it Ps) PG;have hx:=bG h hp;simp only[VR] at hx;obtain⟨B,hB,hx⟩:=hx;obtain⟨B0,e1,e2,e3,e4,e5⟩:=h.obj _ ob QT;rw[hB] at e1;cases e1;have XO:(aS ie.zero n).length=n*ie.size:=by rw[fE,(ht e ie OV).len]
    have none_case:n=0->sM s.heap o' { ob with cells:=gC ob.cells off (aS ie.zero n) }=s.heap:=λ hn=>by
     subst hn;have:gC ob.cells off (aS ie.zero 0)=ob.cells:=by simp[gC,aS]
     rw[this];exact zV _ _ _ QT
    split at hx
    ·obtain⟨ex,rfl,rfl⟩:=hx;rw[none_case rfl];refine⟨.tuple #[],w,?_,_,h.put hd (XR (d:=none) (s:=s))⟩;simp only[execOp,ho,resolve,O2,OX,Qt,Sem.run_bind,Sem.run_pure,Result.andThen_ok,invoke,builtin,Builtin.clear_,map_toArray,map_cons,map_nil];simp only[getElem?_toArray,getElem?_cons_zero,Sem.run_bind,bH hu,ex,Result.andThen_ok,Sem.run_pure]
    ·rename_i b Tf;obtain⟨cap,ex,c1,c2,c3,c4⟩:=hx;obtain⟨cur,n1,n2,n3,n4,n5,n6⟩:=e5 b Tf;by_cases hn:n=0
     ·subst hn;rw[none_case rfl];refine⟨.tuple #[],w,?_,_,h.put hd (XR (d:=none) (s:=s))⟩;simp only[execOp,ho,resolve,O2,OX,Qt,Sem.run_bind,Sem.run_pure,Result.andThen_ok,invoke,builtin,Builtin.clear_,map_toArray,map_cons,map_nil];simp only[getElem?_toArray,getElem?_cons_zero,Sem.run_bind,bH hu,ex,Result.andThen_ok,Sem.run_pure]
     ·have O0:z.cells.size=ie.size:=by rw[<- (ht e ie OV).len,<- ca.length _ _ k1];simp
      have hz:=lP (σ:=σ) (a7.cS _ _ k1) n;have Sc:=j3 k2 n;have YP:(Builtin.zeroCells z.cells n).toList=(madeCells z.cells (n*z.cells.size)).toList:=rfl;have hlen:(madeCells z.cells (n*z.cells.size)).toList.length=n*ie.size:=by simp[size_madeCells,O0]
      have Pk:=run_storeCells_at P b off ob.elem (madeCells z.cells (n*z.cells.size)).toList 0 cur w n1 (by rw[hlen];omega) (a7.ja _ _ Sc hz);simp only[Nat.add_zero] at Pk;have hw:=h.write QT hB Tf (QH:=gC ob.cells off (aS ie.zero n)) (VA:=cur.toList.take off++(madeCells z.cells (n*z.cells.size)).toList++cur.toList.drop (off+(madeCells z.cells (n*z.cells.size)).toList.length)) (by simp only[length_append,length_take,length_drop,hlen];simp;omega)
       (by rw[fO _ _ _ yA];simp only[length_append,length_take,length_drop,hlen];simp;omega) (by
        rw[fO _ _ _ yA];have:=uH n6 off hz;have ee:(cur.toList.take off++(madeCells z.cells (n*z.cells.size)).toList++cur.toList.drop (off+(madeCells z.cells (n*z.cells.size)).toList.length)).take ob.cells.length =
          (cur.toList.take ob.cells.length).take off++(madeCells z.cells (n*z.cells.size)).toList++(cur.toList.take ob.cells.length).drop (off+(madeCells z.cells (n*z.cells.size)).toList.length):=by
         have O2:ob.cells.length<=cur.toList.length:=by simpa using n5
         generalize (madeCells z.cells (n*z.cells.size)).toList=vs at *;rw[take_append,take_append];simp only[length_append,length_take,take_take,drop_take];rw[Nat.min_eq_right (show off<=ob.cells.length by omega),Nat.min_eq_left (show off<=cur.toList.length by omega),take_of_length_le (show vs.length<=ob.cells.length-off by omega)];congr 2
         ·rw[Nat.min_eq_left (show off<=ob.cells.length by omega)]
        rw[ee];exact this) (qW off e4 Sc)
      refine⟨.tuple #[],_,?_,_,hw.put hd (XR (d:=none) (s:={ s with heap:=sM s.heap o' { ob with cells:=gC ob.cells off (aS ie.zero n) } }))⟩;obtain⟨m,rfl⟩:∃ m,n=m+1:=⟨n-1,by omega⟩;simp only[execOp,ho,resolve,O2,OX,Qt,Sem.run_bind,Sem.run_pure,Result.andThen_ok,invoke,builtin,Builtin.clear_,map_toArray,map_cons,map_nil];simp only[getElem?_toArray,getElem?_cons_zero,Sem.run_bind,bH hu,ex,Result.andThen_ok,ig g1 g4,YP,Pk,Sem.run_pure]
   ·cases hc
  ·cases hc
 ·rename_i e PG hp;obtain⟨it,Ps,PG⟩:=Option.map_eq_some_iff.1 PG;cases hc;have hu:=dI (ht t it Ps) PG;have ex:=bG h hp;simp only[VR] at ex;refine⟨.tuple #[],w,?_,_,h.put hd (XR (d:=none) (s:=s))⟩;simp only[execOp,ho,resolve,O2,OX,Qt,Sem.run_bind,Sem.run_pure,Result.andThen_ok,invoke,builtin,Builtin.clear_,map_toArray,map_cons,map_nil];simp only[getElem?_toArray,getElem?_cons_zero,Sem.run_bind,bH hu,ex,Result.andThen_ok,Sem.run_pure]
 ·cases hc
end
def bl (nt:Nat)(d:Option Tmp):Bool:=match d with
 | some t=>decide (t<nt)
 | none=>true
def GJ (av:List (Nat×TI))(s:St)(d:Option Tmp)(c:Call):Option St:=
 match c.callee with
 | .builtin .append=>match c.args.toList,c.argTypes.toList with
  | [x,y],[t,t']=>if t=t' then pa av s d t x y else none
  | _,_=>none
 | .builtin .copy=>match c.args.toList,c.argTypes.toList with
  | [x,y],[t,_]=>El av s d t x y
  | _,_=>none
 | .builtin .clear=>match c.args.toList,c.argTypes.toList with
  | [x],[t]=>zC av s d t x
  | _,_=>none
 | .builtin b=>(iz av s b c.args.toList c.argTypes.toList).map (s.put d)
 | _=>none
def nR (av:List (Nat×TI))(s:St)(o:Oper):Option St:=
 match o.op with
 | .store t x v=>(sC av s t x v).map (·.del o.dst)
 | .makeSlice t l c=>Eg av s o.dst t l c
 | .alloc e=>zD av s o.dst e
 | .box e x=>KL s o.dst e x
 | .buildSlice t len parts=>kZ av s o.dst t len parts.toList
 | .call c=>GJ av s o.dst c
 | op=>(fp av s op).map (s.put o.dst)
def mI (e:Option CV)(want:Bool):Option Bool:=match e with
 | some (.bool b)=>some (b == want)
 | some (.bY [])=>some false
 | _=>none
def gB (av:List (Nat×TI))(nt:Nat)(ops:Array Oper)(s:St)(o:Oper):Option St:=
 if bl nt o.dst then
  match o.guard with
  | none=>nR av s o
  | some (j,want)=>match (ops[j]?).bind (·.dst) with
   | none=>none
   | some t=>match mI (assoc s.env t) want with
    | some true=>nR av s o
    | some false=>some (s.put o.dst (.bY []))
    | none=>none
 else none
def xi (av:List (Nat×TI))(nt:Nat)(ops:Array Oper):List Oper->St->Option St
 | [],s=>some s
 | o::r,s=>match gB av nt ops s o with
  | some s'=>xi av nt ops r s'
  | none=>none
section
variable {P:Program}{C:Cx}{s:St}{a:Act}{w:World}{ops:Array Oper}{av:List (Nat×TI)}
theorem xh (ht:aD P av)(h:Rel C s a w){o:Oper}(hd:bl C.nt o.dst=true){s':St}(hs:nR av s o=some s') :
  ∃ w',((∃ z,(execOp a.eval o).run P w=.ok (.value z) w'/\Rel C s' (a.put o.dst z) w')\/((execOp a.eval o).run P w=.ok .skip w'/\Rel C s' (a.put o.dst undef) w')):=by
 obtain⟨σ,h⟩:=h;have PG:∀ t,o.dst=some t->t<a.tmps.size:=λ t e=>by
  rw[h.tm];rw[e] at hd
  simpa [bl] using hd
 have quiet:∀ c,fp av s o.op=some c->s.put o.dst c=s'->∃ w',((∃ z,(execOp a.eval o).run P w=.ok (.value z) w'/\Rel C s' (a.put o.dst z) w')\/((execOp a.eval o).run P w=.ok .skip w'/\Rel C s' (a.put o.dst undef) w')):=λ c hc e=>by
  obtain⟨z,k1,k2⟩:=uA ht h o hc;exact⟨w,.inl ⟨z,k1,σ,e ▸ h.put PG k2⟩⟩
 unfold nR at hs;split at hs
 ·rename_i t x v ho;obtain⟨s1,h1,rfl⟩:=Option.map_eq_some_iff.1 hs;obtain⟨w',k1,k2,_⟩:=yb ht h ho h1;exact⟨w',.inr ⟨k1,σ,k2.del undef⟩⟩
 ·rename_i t l c ho;obtain⟨z,w',k1,k2⟩:=Iv ht h PG ho hs;exact⟨w',.inl ⟨z,k1,k2⟩⟩
 ·rename_i e ho;obtain⟨z,w',k1,k2⟩:=FT ht h PG ho hs;exact⟨w',.inl ⟨z,k1,k2⟩⟩
 ·rename_i e x ho;obtain⟨z,w',k1,k2⟩:=KK (P:=P) h PG ho hs;exact⟨w',.inl ⟨z,k1,k2⟩⟩
 ·rename_i t len parts ho;obtain⟨z,w',k1,k2⟩:=vY ht h PG ho hs;exact⟨w',.inl ⟨z,k1,k2⟩⟩
 ·rename_i cl ho;unfold GJ at hs;split at hs
  ·rename_i O2;split at hs
   ·rename_i x y t t' ha Qt;split at hs
    ·rename_i e;subst e;obtain⟨z,w',_,k1,k2⟩:=vZ ht h PG ho O2 yDk yDi hs;exact⟨w',.inl ⟨z,k1,_,k2⟩⟩
    ·cases hs
   ·cases hs
  ·rename_i O2;split at hs
   ·rename_i x y t t' ha Qt;obtain⟨z,w',k1,k2⟩:=Ix ht h PG ho O2 yDk yDi hs;exact⟨w',.inl ⟨z,k1,k2⟩⟩
   ·cases hs
  ·rename_i O2;split at hs
   ·rename_i x t ha Qt;obtain⟨z,w',k1,k2⟩:=FP ht h PG ho O2 yDk yDi hs;exact⟨w',.inl ⟨z,k1,k2⟩⟩
   ·cases hs
  ·rename_i b _ _ _ O2;obtain⟨c,hc,e⟩:=Option.map_eq_some_iff.1 hs;exact quiet c (by rw[ho];simp only[fp,O2];exact hc) e
  ·cases hs
 ·obtain⟨c,hc,e⟩:=Option.map_eq_some_iff.1 hs;exact quiet c hc e
theorem pO (h:Rel C s a w){j:Nat}{t:Tmp}{b:Bool}(hj:(ops[j]?).bind (·.dst)=some t)(he:assoc s.env t=some (.bool b)):yielded ops a.tmps j=some b:=by
 obtain⟨σ,h⟩:=h;obtain⟨v,h1,h2⟩:=h.env t _ he;simp only[VR] at h2;subst h2;simp[yielded,hj,h1]
theorem iR (h:Rel C s a w){o:Oper}{j:Nat}{want:Bool}{t:Tmp}{b:Bool}(hg:o.guard=some (j,want))(hj:(ops[j]?).bind (·.dst)=some t)(he:mI (assoc s.env t) want=some b):Region.wanted o (yielded ops a.tmps)=b:=by
 unfold mI at he;split at he
 ·rename_i b' hb;cases he;simp[Region.wanted,hg,pO h hj hb]
 ·rename_i hb;cases he;obtain⟨σ,h⟩:=h;obtain⟨v,h1,h2⟩:=h.env t _ hb;simp only[VR] at h2;obtain⟨vs,rfl,h3⟩:=h2;simp[Region.wanted,hg,yielded,hj,h1]
 ·cases he
theorem Rel.skip (h:Rel C s a w){d:Option Tmp}(hd:bl C.nt d=true):Rel C (s.put d (.bY [])) (a.put d undef) w:=by
 obtain⟨σ,h⟩:=h;refine⟨σ,h.put (λ t e=>?_) ?_⟩
 ·rw[h.tm];rw[e] at hd
  simpa [bl] using hd
 ·exact⟨[],rfl,rfl⟩
def TL (P:Program)(C:Cx)(ops:Array Oper)(l:List Oper)(s:St)(K:St->Prop):Prop:=
 ∀ a w (Q:Exit->Act->World->Prop),Rel C s a w->(∀ s' a' w',K s'->Rel C s' a' w'->Q .normal a' w')->wpList P ops Q l a w
theorem TL.nil {K:St->Prop}(h:K s):TL P C ops [] s K:=λ _ _ _ hr hQ=>hQ _ _ _ h hr
theorem TL.step (ht:aD P av){o:Oper}{l:List Oper}{K:St->Prop}{s':St}(hs:gB av C.nt ops s o=some s')(h:TL P C ops l s' K):TL P C ops (o::l) s K:=by
 intro a w Q hr hQ;have run:∀ {s'},bl C.nt o.dst=true->Region.wanted o (yielded ops a.tmps)=true->nR av s o=some s'->TL P C ops l s' K->wpList P ops Q (o::l) a w:=λ {s'} hd hw hs h=>by
  unfold wpList;rw[if_pos hw];refine .inl ?_;obtain⟨w',h1 | h1⟩:=xh ht hr hd hs
  ·obtain⟨z,k1,k2⟩:=h1;unfold Oper.wp;rw[k1];exact h _ _ Q k2 hQ
  ·obtain⟨k1,k2⟩:=h1;unfold Oper.wp;rw[k1];exact h _ _ Q k2 hQ
 unfold gB at hs;split at hs
 ·rename_i hd;split at hs
  ·rename_i hg;exact run hd (by simp[Region.wanted,hg]) hs h
  ·rename_i j want hg;split at hs
   ·cases hs
   rename_i t hj;split at hs
   ·rename_i hb;exact run hd (iR hr hg hj hb) hs h
   ·rename_i hb;cases hs;unfold wpList;rw[if_neg (by simp[iR hr hg hj hb])];exact h _ _ Q (hr.skip hd) hQ
   ·cases hs
 ·cases hs
def T (P:Program)(C:Cx)(c:Code)(s:St)(Q:Exit->St->Prop):Prop:=
 ∀ a w,Rel C s a w->c.wp P (λ e a' w'=>∃ s',Q e s'/\Rel C s' a' w') a w
def fj (K:St->Prop)(Q:Exit->St->Prop):Exit->St->Prop
 | .normal,s=>K s
 | e,s=>Q e s
theorem T.mono {c:Code}{Q Q':Exit->St->Prop}(h:T P C c s Q)(hq:∀ e s',Q e s'->Q' e s'):T P C c s Q':=λ a w hr=>
 wp_mono (h a w hr) λ e _ _ ⟨s',q,r⟩=>⟨s',hq e s' q,r⟩
theorem T.region {id:Nat}{l:List Oper}{Q:Exit->St->Prop}(h:TL P C l.toArray l s (Q .normal)):T P C (.region id l.toArray false) s Q:=λ a w hr=>
 wp_region_lit (h a w _ hr λ s' _ _ hk Pu=>⟨s',hk,Pu⟩)
theorem T.seq {x y:Code}{Q:Exit->St->Prop}(h:T P C x s (fj (λ s'=>T P C y s' Q) Q)):T P C (.seq x y) s Q:=λ a w hr=>
 wp_seq (wp_mono (h a w hr) λ e a' w' ⟨s',q,r⟩=>by
  cases e with
  | normal=>exact q a' w' r
  | _=>exact⟨s',q,r⟩)
theorem T.cond {c:Operand}{x y:Code}{b:Bool}{Q:Exit->St->Prop}(hc:ev s c=some (.bool b))(h:T P C (if b then x else y) s Q):T P C (.cond c x y) s Q:=λ a w hr=>by
 have hr0:=hr;obtain⟨σ,Pu⟩:=hr0;have:=bG Pu hc;simp only[VR] at this;exact wp_cond this (h a w hr)
theorem T.skip {Q:Exit->St->Prop}(h:Q .normal s):T P C .skip s Q:=λ _ _ hr=>wp_skip ⟨s,h,hr⟩
theorem T.exit {id:Nat}{Q:Exit->St->Prop}(h:Q (.exit id) s):T P C (.exit id) s Q:=λ _ _ hr=>wp_exit ⟨s,h,hr⟩
theorem T.ret {Q:Exit->St->Prop}(h:Q .ret s):T P C .ret s Q:=λ _ _ hr=>wp_ret ⟨s,h,hr⟩
theorem T.label {l:Nat}{Q:Exit->St->Prop}(h:Q .normal s):T P C (.label l) s Q:=λ _ _ hr=>wp_label ⟨s,h,hr⟩
theorem T.goto {l:Nat}{Q:Exit->St->Prop}(h:Q (.goto l) s):T P C (.goto l) s Q:=λ _ _ hr=>wp_goto ⟨s,h,hr⟩
def qe (id:Nat)(Q:Exit->St->Prop):Exit->St->Prop
 | .exit i,s=>if i=id then Q .normal s else Q (.exit i) s
 | e,s=>Q e s
theorem T.block {id:Nat}{c:Code}{Q:Exit->St->Prop}(h:T P C c s (qe id Q)):T P C (.block id c) s Q:=λ a w hr=>
 wp_block (wp_mono (h a w hr) λ e a' w' ⟨s',q,r⟩=>by
  cases e with
  | exit i=>
   simp only[Exit.inBlock,qe] at q |-;split
   ·rename_i e;rw[if_pos e] at q;exact⟨s',q,r⟩
   ·rename_i e;rw[if_neg e] at q;exact⟨s',q,r⟩
  | _=>exact⟨s',q,r⟩)
theorem Cc {c:Code}{Q:Exit->Act->World->Prop}(I:Nat->Act->World->Prop){n:Nat}(h₀:I n a w)
  (round:∀ n a w,I n a w->c.wp P (Exit.then (λ a' w'=>∃ m,m<n/\I m a' w') Q) a w):(Code.loop c).wp P Q a w:=by
 classical
 have hx:∀ a w,(∃ n,I n a w)->∃ n,I n a w/\∀ m,I m a w->n<=m:=λ a w ⟨n,hn⟩=>by
  induction n using Nat.strongRecOn with
  | _ n ih=>
   by_cases h:∃ m,m<n/\I m a w
   ·obtain⟨m,hm,hi⟩:=h;exact ih m hm hi
   ·exact⟨n,hn,λ m hm=>Nat.le_of_not_lt λ OT=>h ⟨m,OT,hm⟩⟩
 let μ:Act->World->Nat:=λ a w=>if h:∃ n,I n a w then (hx a w h).choose else 0
 have hμ:∀ a w (h:∃ n,I n a w),I (μ a w) a w/\∀ m,I m a w->μ a w<=m:=λ a w h=>by
  simp only[μ,dif_pos h];exact (hx a w h).choose_spec
 refine wp_loop (λ a w=>∃ n,I n a w) μ ⟨n,h₀⟩ λ a w hI=>?_;refine wp_mono (round (μ a w) a w (hμ a w hI).1) λ e a' w' q=>?_
 cases e with
 | normal=>
  obtain⟨m,hm,hi⟩:=q;exact⟨⟨m,hi⟩,Nat.lt_of_le_of_lt ((hμ a' w' ⟨m,hi⟩).2 m hi) hm⟩
 | _=>exact q
theorem T.loop {c:Code}{Q:Exit->St->Prop}(I:Nat->St->Prop){n:Nat}(h₀:I n s)(round:∀ n s,I n s->T P C c s (fj (λ s'=>∃ m,m<n/\I m s') Q)):T P C (.loop c) s Q:=λ a w hr=>
 Cc (λ n a w=>∃ s,I n s/\Rel C s a w) ⟨s,h₀,hr⟩ λ n a w ⟨s,hi,hr⟩=>wp_mono (round n s hi a w hr) λ e a' w' ⟨s',q,r⟩=>by
  cases e with
  | normal=>obtain⟨m,hm,hi⟩:=q;exact⟨m,hm,s',hi,r⟩
  | _=>exact⟨s',q,r⟩
end
def kC (P : Program) (f : FuncId) : Prop := ∃ fn, P.funcs[f]? = some fn /\ (fn.name == "runtime.NumGoroutine") = false /\ fn.body.isNone = false
def af (P:Program)(f:FuncId)(args:List CV)(r:CV):Prop:=
 kC P f/\∀ (F:Nat->Prop) (vs:List Value) (w:World),FOk w F->ca w F args vs ->
  Calls P f vs.toArray w λ e w'=>∃ v,e=.returned v/\Below w.heap.size w w'/\cr w' F r v
mutual
/-- No memory in it. -/
def scalar:CV->Bool
 | .int _ _=>true
 | .bool _=>true
 | .str _=>true
 | .ak=>true
 | .bM=>true
 | .cH=>true
 | .agg cs=>mq cs
 | .bY cs=>mq cs
 | _=>false
def mq:List CV->Bool
 | []=>true
 | c::cs=>scalar c && mq cs
end
mutual
theorem cr.scalar {w w':World}{F F':Nat->Prop}:∀ (c:CV) (v:Value),Can.scalar c=true->cr w F c v->cr w' F' c v
 | .int _ _,_,_,h=>by simpa [cr] using h
 | .bool _,_,_,h=>by simpa [cr] using h
 | .str _,_,_,h=>by simpa [cr] using h
 | .ak,_,_,h=>by simpa [cr] using h
 | .bM,_,_,h=>by simpa [cr] using h
 | .cH,_,_,h=>by simpa [cr] using h
 | .agg cs,v,hs,h=>by
  simp only[cr,Can.scalar] at h hs |-;obtain⟨vs,e,r,h1⟩:=h;exact⟨vs,e,ca.scalar cs vs hs r,h1⟩
 | .bY cs,v,hs,h=>by
  simp only[cr,Can.scalar] at h hs |-;obtain⟨vs,e,r⟩:=h;exact⟨vs,e,ca.scalar cs vs hs r⟩
 | .au _ _,_,hs,_=>by simp[Can.scalar] at hs
 | .de _,_,hs,_=>by simp[Can.scalar] at hs
 | .fn _ _,_,hs,_=>by simp[Can.scalar] at hs
 | .iface _ _,_,hs,_=>by simp[Can.scalar] at hs
 | .iter _ _ _,_,hs,_=>by simp[Can.scalar] at hs
 | .mp _ _,_,hs,_=>by simp[Can.scalar] at hs
 | .bg _ _ _,_,hs,_=>by simp[Can.scalar] at hs
 | .ax _ _,_,hs,_=>by simp[Can.scalar] at hs
theorem ca.scalar {w w':World}{F F':Nat->Prop}:∀ (cs:List CV) (vs:List Value),mq cs=true->ca w F cs vs->ca w' F' cs vs
 | [],_,_,h=>by simpa [ca] using h
 | c::cs,vs,hs,h=>by
  simp only[ca,mq,Bool.and_eq_true] at h hs |-;obtain⟨v,r,e,h1,h2⟩:=h;exact⟨v,r,e,cr.scalar c v hs.1 h1,ca.scalar cs r hs.2 h2⟩
end
def zb (s:St):CV->Option CV
 | .bg o off n=>match assoc s.heap o with
  | some ob=>if trees ob.cells then some (.au ((ob.cells.drop off).take (n*ob.sz)) n) else none
  | none=>none
 | .ax o off=>match assoc s.heap o with
  | some ob=>if trees ob.cells then some (.de (ob.cells.drop off)) else none
  | none=>none
 | c=>if tree c then some c else none
def nr (s:St):List CV->Option (List CV)
 | []=>some []
 | c::cs=>match zb s c,nr s cs with
  | some d,some ds=>some (d::ds)
  | _,_=>none
section
variable {P:Program}{C:Cx}{σ:Nat->Option OB}{s:St}{a:Act}{w:World}{ops:Array Oper}{av:List (Nat×TI)}
theorem aO.below (h:aO C σ s a w){w':World}(hb:Below w.heap.size w w'):aO C σ s a w':=by
 have hg:w.grownBy w' none:=⟨hb.os,hb.tape,hb.output,hb.size,λ k hk _=>hb.block k hk⟩;have hk:cY w w' (FB C σ s.heap) (FB C σ s.heap):=kP hg (λ b e=>by cases e) λ b hb=>.inl hb;refine⟨h.oz,h.tm,hg.os.trans h.os,hg.tape.trans h.tape,hg.output.trans h.output,Nat.le_trans h.size hg.size,?_,?_,?_,h.inj,h.nx,h.fX,h.low,h.new⟩
 ·intro b Pf Po;rw[hb.block b (Nat.lt_of_lt_of_le Pf h.size)];exact h.frame b Pf Po
 ·intro t c hc;obtain⟨v,k1,k2⟩:=h.env t c hc;exact⟨v,k1,VR.bL hk c v (λ _ _=>rfl) k2⟩
 ·intro o ob ho;obtain⟨B,m1,m2,m3,m4,m5⟩:=h.obj o ob ho;refine⟨B,m1,m2,m3,m4,λ b Pf=>?_⟩;obtain⟨cur,n1,n2,n3,n4,n5,n6⟩:=m5 b Pf;exact⟨cur,by rw[hb.block b (Array.getElem?_eq_some_iff.1 n1).1];exact n1,n2,n3,n4,n5,a7.bL hk _ _ (λ _ _=>rfl) n6⟩
theorem Ew (h:aO C σ s a w):∀ b,FB C σ s.heap b->b<w.heap.size:=by
 rintro b (hb | ⟨o,ob,ho,hb⟩)
 ·exact Nat.lt_of_lt_of_le (C.hF.1 b hb) h.size
 ·obtain⟨B',m1,_,_,_,m5⟩:=h.obj o ob ho;obtain⟨cur,n1,_⟩:=m5 b WH;exact (Array.getElem?_eq_some_iff.1 n1).1
theorem Dm (h:aO C σ s a w):FOk w (FB C σ s.heap):=⟨Ew h,h.gok.mono λ _ hb=>hb.elim id False.elim⟩
theorem LQ (h:aO C σ s a w):FOk w C.F:=⟨λ b hb=>Nat.lt_of_lt_of_le (C.hF.1 b hb) h.size,h.gok.mono λ _ hb=>.inl (hb.elim id False.elim)⟩
theorem JM (h:aO C σ s a w):Je w C.F (λ b=>∃ o ob,assoc s.heap o=some ob/\a9 σ o=some b):=⟨(LQ h).1,h.gok⟩
theorem iC {F:Nat->Prop}:∀ (cs:List CV) (us:List Value) (ad:Addr),ca w F cs us->cs.all one=true->¬ F ad.block->(∀ j u,us[j]? = some u->w.cell? (ad.add j)=some u)->fx w F cs ad
 | [],_,_,_,_,_,_=>by simp[fx]
 | c::cs,us,ad,hr,h1,hF,hc=>by
  simp only[ca] at hr;obtain⟨v,r,rfl,h2,h3⟩:=hr;simp only[all_cons,Bool.and_eq_true] at h1;simp only[fx];refine⟨⟨v,by have:=hc 0 v rfl;rwa [add_zero] at this,hF,h2⟩,h1.1,iC cs r _ h3 h1.2 (by rw[F3];exact hF) λ j u hu=>?_⟩;rw[add_add,Nat.add_comm];exact hc (j+1) u (by simpa using hu)
theorem Kb (h:aO C σ s a w){c d:CV}{v:Value}(hv:VR w (FB C σ s.heap) σ c v)(hl:zb s c=some d):cr w C.F d v:=by
 have hk:cY w w (FB C σ s.heap) C.F:=⟨λ ad u hf hu=>⟨hu,λ hF=>hf (.inl hF)⟩,λ r _ hf hu _=>⟨hu,λ hF=>hf (.inl hF)⟩⟩;have obj:∀ {o ob B b},assoc s.heap o=some ob->σ o=some B->B.j7=some b->trees ob.cells=true->∀ k,fx w C.F (ob.cells.drop k) ⟨b,k,none⟩:=λ {o ob B b} ho hB hb ht k=>by
  obtain⟨B',e1,_,_,e4,e5⟩:=h.obj o ob ho;rw[hB] at e1;cases e1;obtain⟨cur,k1,k2,k3,k4,k5,k6⟩:=e5 b hb;have h1:=ca.bL hk.1 _ _ (a7.eI _ _ ht k6);have h2:fx w C.F ob.cells ⟨b,0,none⟩:=iC _ _ _ h1 e4 k3 λ j u hu=>by
   rw[add_lit,Nat.zero_add,cell_of_row w b j cur _ _ k1];rw[getElem?_take] at hu;split at hu
   ·simpa using hu
   ·cases hu
  have:=h2.drop k;rwa [add_lit,Nat.zero_add] at this
 unfold zb at hl;split at hl
 ·rename_i o off n;split at hl
  ·rename_i ob ho;split at hl
   ·rename_i ht;cases hl;simp only[VR] at hv;obtain⟨B,hB,hv⟩:=hv;split at hv
    ·obtain⟨rfl,rfl,rfl⟩:=hv;simp only[cr];exact⟨none,0,rfl,Nat.le_refl _,Nat.zero_le _,.inl ⟨trivial,by simp⟩⟩
    ·rename_i b hb;obtain⟨cap,rfl,h1,h2,_⟩:=hv;simp only[cr];exact⟨_,cap,rfl,h1,h2,.inr ⟨_,rfl,fx.take _ _ _ (obj ho hB hb ht off)⟩⟩
   ·cases hl
  ·cases hl
 ·rename_i o off;split at hl
  ·rename_i ob ho;split at hl
   ·rename_i ht;cases hl;simp only[VR] at hv;obtain⟨B,b,hB,hb,rfl⟩:=hv;simp only[cr];exact⟨_,rfl,obj ho hB hb ht off⟩
   ·cases hl
  ·cases hl
 ·split at hl
  ·rename_i ht;cases hl;exact cr.bL hk.1 _ _ (VR.eI _ _ ht hv)
  ·cases hl
theorem AQ (h:aO C σ s a w):∀ (cs ds:List CV) (vs:List Value),a7 w (FB C σ s.heap) σ cs vs->nr s cs=some ds->ca w C.F ds vs
 | [],ds,vs,hv,hl=>by simp only[nr] at hl;cases hl;simpa [a7,ca] using hv
 | c::cs,ds,vs,hv,hl=>by
  simp only[nr] at hl;split at hl
  ·rename_i d ds' h1 h2;cases hl;simp only[a7,ca] at hv |-;obtain⟨v,r,e,k1,k2⟩:=hv;exact⟨v,r,e,Kb h k1 h1,AQ h cs ds' r k2 h2⟩
  ·cases hl
def bJ (s:St)(c:Call):Option (FuncId×List CV):=
 match c.callee with
 | .value f=>match ev s f,Bk s c.args.toList with
  | some (.fn g QC),some cs=>some (g,cs++QC)
  | _,_=>none
 | _=>none
def bR (P:Program)(s:St)(c:Call)(r:CV):Prop:=
 ∃ g cs,bJ s c=some (g,cs)/\((trees cs=true/\af P g cs r)\/∃ ds,nr s cs=some ds/\af P g ds r/\scalar r=true)
theorem wE (h:aO C σ s a w){o:Oper}{c:Call}(ho:o.op=.call c){r:CV}(hc:bR P s c r)(K:Act->World->Prop)(Q:Exit->Act->World->Prop)
  (hK:∀ v w',aO C σ s a w'->VR w' (FB C σ s.heap) σ r v->K (a.put o.dst v) w'):o.wp P a w K Q:=by
 obtain⟨g,cs,Pc,hp⟩:=hc;unfold bJ at Pc;split at Pc
 ·rename_i f Rs;split at Pc
  ·rename_i g' QC QH hf PQ;cases Pc;have T9:=bG h hf;simp only[VR] at T9;obtain⟨us,e,hu⟩:=T9;have OX:=p8 h _ _ PQ;have PJ:=a7.append _ _ _ _ OX hu;have I7:∀ {cs},af P g cs r->(execOp a.eval o).run P w=.ok (.enter g (c.args.toList.map a.eval++us).toArray) w:=λ hp=>by
    obtain⟨⟨fn,h1,h2,h3⟩,_⟩:=hp;have e2:(c.args.toList.map a.eval).toArray=c.args.map a.eval:=by rw[<- map_toArray]
    simp only[execOp,ho,resolve,Rs,e,Deferred.ofValue,Sem.run_bind,Sem.run_pure,Result.andThen_ok,invoke,callFunc,run_program,h1,h2,h3,Bool.false_eq_true,if_false];rw[<- e2];simp
   rcases hp with ⟨ht,hp⟩ | ⟨ds,hl,hp,Wn⟩
   ·unfold Oper.wp;rw[I7 hp];refine (hp.2 (FB C σ s.heap) _ w (Dm h) (a7.eI _ _ ht PJ)).mono λ e w' ⟨v,he,hb,hv⟩=>?_;subst he;exact hK v w' (h.below hb) (VR.cS _ _ hv)
   ·unfold Oper.wp;rw[I7 hp];refine (hp.2 C.F _ w (LQ h) (AQ h _ _ _ PJ hl)).mono λ e w' ⟨v,he,hb,hv⟩=>?_;subst he;exact hK v w' (h.below hb) (VR.cS _ _ (cr.scalar _ _ Wn hv))
  ·cases Pc
 ·cases Pc
theorem TL.call {o:Oper}{l:List Oper}{c:Call}{r:CV}{K:St->Prop}(hd:bl C.nt o.dst=true)(hg:o.guard=none)(ho:o.op=.call c)(hc:bR P s c r)(h:TL P C ops l (s.put o.dst r) K):TL P C ops (o::l) s K:=by
 intro a w Q hr hQ;obtain⟨σ,hr⟩:=hr;unfold wpList;rw[if_pos (by simp[Region.wanted,hg])];refine .inl (wE hr ho hc _ _ λ v w' Pu hv=>h _ _ Q ⟨σ,Pu.put ?_ hv⟩ hQ);intro t e;rw[Pu.tm];rw[e] at hd
 simpa [bl] using hd
theorem TL.cU {o:Oper}{l:List Oper}{c:Call}{r:CV}{K:St->Prop}{j:Nat}{want:Bool}{t:Tmp}(hd:bl C.nt o.dst=true)(hg:o.guard=some (j,want))(hj:(ops[j]?).bind (·.dst)=some t)(ht:assoc s.env t=some (.bool want))(ho:o.op=.call c)(hc:bR P s c r)(h:TL P C ops l (s.put o.dst r) K) :
  TL P C ops (o::l) s K:=by
 intro a w Q hr hQ;have hy:=pO hr hj ht;obtain⟨σ,hr⟩:=hr;unfold wpList;rw[if_pos (by simp[Region.wanted,hg,hy])];refine .inl (wE hr ho hc _ _ λ v w' Pu hv=>h _ _ Q ⟨σ,Pu.put ?_ hv⟩ hQ);intro t e;rw[Pu.tm];rw[e] at hd
 simpa [bl] using hd
def enter (args:List CV):St:={ env:=args.zipIdx.map (λ x=>(x.2,x.1)),heap:=[],nx:=0 }
theorem gj:∀ (args:List CV) (k t:Nat) (c:CV),assoc ((args.zipIdx k).map λ x=>(x.2,x.1)) t=some c->k<=t/\args[t-k]? = some c
 | [],_,_,_,h=>by simp[assoc] at h
 | x::args,k,t,c,h=>by
  simp only[zipIdx_cons,map_cons,assoc] at h;split at h
  ·rename_i e;subst e;cases h;exact⟨Nat.le_refl _,by simp⟩
  ·rename_i e;obtain⟨h1,h2⟩:=gj args (k+1) t c h;refine⟨by omega,?_⟩;rw[show t-k=(t-(k+1))+1 by omega]
   simpa using h2
def pG (av:List (Nat×TI))(s:St):ResultVar->Option CV
 | .tmp t=>assoc s.env t
 | .cell a ty=>match assoc s.env a,assoc av ty with
  | some c,some i=>match gS s c with
   | some cs=>mf i cs
   | none=>none
  | _,_=>none
def kX (av:List (Nat×TI))(s:St):List ResultVar->Option (List CV)
 | []=>some []
 | r::rs=>match pG av s r,kX av s rs with
  | some c,some cs=>some (c::cs)
  | _,_=>none
def oe:List CV->CV
 | [c]=>c
 | cs=>.bY cs
def bQ (av:List (Nat×TI))(f:Func)(s:St):Option CV:=match kX av s f.results.toList with
 | some cs=>some (oe cs)
 | none=>none
def xu (tmps:Array Value):ResultVar->Sem Value
 | .tmp t=>pure (tmps.getD t undef)
 | .cell a t=>do loadVar t (<- asAddr (tmps.getD a undef))
theorem Bz (ht:aD P av)(h:aO C σ s a w):∀ (rs:List ResultVar) (cs:List CV),kX av s rs=some cs->∃ vs,(rs.mapM (xu a.tmps)).run P w=.ok vs w/\a7 w (FB C σ s.heap) σ cs vs
 | [],cs,hc=>by simp only[kX] at hc;cases hc;exact⟨[],by simp,by simp[a7]⟩
 | r::rs,cs,hc=>by
  simp only[kX] at hc;split at hc
  ·rename_i c QH h1 h2;cases hc;obtain⟨vs,k1,k2⟩:=Bz ht h rs QH h2;have key:∃ v,(xu a.tmps r).run P w=.ok v w/\VR w (FB C σ s.heap) σ c v:=by
    cases r with
    | tmp t=>
     obtain⟨v,m1,m2⟩:=h.env t c h1;exact⟨v,by simp[xu,Array.getD_eq_getD_getElem?,m1],m2⟩
    | cell x ty=>
     simp only[pG] at h1;split at h1
     ·rename_i d i hd hi;split at h1
      ·rename_i cells hm;obtain⟨v,m1,m2⟩:=h.env x d hd;obtain⟨ad,rfl,Xo⟩:=AL h m2 hm;obtain⟨u,n1,n2⟩:=BF (P:=P) (ht ty i hi) Xo h1;exact⟨u,by simp[xu,Array.getD_eq_getD_getElem?,m1,asAddr,n1],n2⟩
      ·cases h1
     ·cases h1
   obtain⟨v,m1,m2⟩:=key;refine⟨v::vs,?_,?_⟩
   ·simp only[mapM_cons,Sem.run_bind,m1,k1,Result.andThen_ok,Sem.run_pure]
   ·simp only[a7];exact⟨v,vs,rfl,m2,k2⟩
  ·cases hc
theorem jv (ht:aD P av)(h:aO C σ s a w){f:Func}{r:CV}(hr:bQ av f s=some r):∃ v,(results f a.tmps).run P w=.ok v w/\VR w (FB C σ s.heap) σ r v:=by
 unfold bQ at hr;split at hr
 ·rename_i cs PQ;cases hr;obtain⟨vs,k1,k2⟩:=Bz ht h _ _ PQ;have hl:=a7.length _ _ k2;have hm:(f.results.mapM (xu a.tmps)).run P w=.ok vs.toArray w:=by
   rw[Array.mapM_eq_mapM_toList];simp only[Sem.run_map,k1,Result.andThen_ok]
  have e:results f a.tmps=(do let vs <- f.results.mapM (xu a.tmps);pure (if h:vs.size=1 then vs[0] else .tuple vs)):=by
   unfold results;congr 1
  rw[e];simp only[Sem.run_bind,hm,Result.andThen_ok,Sem.run_pure];refine⟨_,rfl,?_⟩
  match cs,vs,hl,k2 with
  | [c],[v],_,k2=>
   simp only[a7] at k2;obtain⟨_,_,e,h1,_⟩:=k2;cases e
   simpa [oe] using h1
  | [],[],_,_=>simp[oe,VR,a7]
  | c::d::cs,v::u::vs,_,k2=>
   simp only[oe];rw[dif_neg xr];simp only[VR];exact⟨v::u::vs,rfl,k2⟩
 ·cases hr
def doneS (av:List (Nat×TI))(f:Func)(r:CV):Exit->St->Prop
 | .normal,s=>bQ av f s=some r
 | .ret,s=>bQ av f s=some r
 | _,_=>False
theorem af.jb (RQ : aD P av) {f : FuncId} {fn : Func} {c : Code} {args : List CV} {r : CV} (hf : P.funcs[f]? = some fn) (hb : fn.body = some c) (hn : (fn.name == "runtime.NumGoroutine") = false)
  (ha:args.length<=fn.ntmps) (ht:tree r=true) (h:∀ C:Cx,C.nt=fn.ntmps->C.n0=0->T P C c (enter args) (doneS av fn r)):af P f args r:=by
 refine⟨⟨fn,hf,hn,by simp[hb]⟩,λ F vs w hF hv=>?_⟩;have hl:=ca.length _ _ hv;let C:Cx:=⟨w,F,λ _=>False,hF,fn.ntmps,λ _=>none,0⟩
 have h0:aO C (λ _=>none) (enter args) { tmps:=vs.toArray++Array.replicate (fn.ntmps-vs.toArray.size) undef,defers:=[] } w:=by
  refine⟨rfl,by simp[C];omega,rfl,rfl,rfl,Nat.le_refl _,λ _ _ _=>rfl,?_,?_,?_,λ _ _=>rfl,λ _ h=>absurd h (Nat.not_lt_zero _),Nat.zero_le _,λ _ _ _ _ h=>by cases h⟩
  ·intro t c hc;obtain⟨_,h2⟩:=gj args 0 t c hc;obtain⟨v,h3,h4⟩:=ca.get _ _ hv t c yC;refine⟨v,?_,VR.cS _ _ (cr.bL (cY.same λ b hb=>?_).1 c v h4)⟩
   ·have OT:=(List.getElem?_eq_some_iff.1 h3).1;simp only;rw[Array.getElem?_append_left (by simpa using OT)]
    simpa using h3
   ·rcases hb with hF | ⟨o,ob,ho,_⟩
    ·exact hF
    ·simp[enter,assoc] at ho
  ·intro o ob ho;simp[enter,assoc] at ho
  ·intro o o' ob Pe b ho;simp[enter,assoc] at ho
 refine calls_of_wp hf hb (wp_mono (h C rfl rfl _ _ ⟨_,h0⟩) λ e a' w' ⟨s',q,σ,hr⟩=>?_);have fin:bQ av fn s'=some r->a'.defers=[]/\∃ v,(results fn a'.tmps).run P w'=.ok v w'/\(∃ TA,Ending.returned v=.returned TA/\Below w.heap.size w w'/\cr w' F r TA):=λ hq=>by
  obtain⟨v,k1,k2⟩:=jv (P:=P) RQ hr hq;refine⟨hr.oz,v,k1,v,rfl,⟨hr.os,hr.tape,hr.output,hr.size,λ k hk=>hr.frame k hk (λ hx=>hx)⟩,?_⟩;exact cr.bL (cY.same λ _ hF=>.inl hF).1 _ _ (VR.eI _ _ ht k2)
 cases e with
 | normal=>exact fin q
 | ret=>exact fin q
 | exit _=>exact q.elim
 | goto _=>exact q.elim
 | panic _=>exact q.elim
 | outgrown=>exact q.elim
end
theorem ET {av:List (Nat×TI)}{nt:Nat}{ops:Array Oper}{s:St}:xi av nt ops [] s=some s:=rfl
theorem uS {av:List (Nat×TI)}{nt:Nat}{ops:Array Oper}{o:Oper}{l:List Oper}{s:St}:xi av nt ops (o::l) s=(gB av nt ops s o).bind (xi av nt ops l):=by
 simp only[xi];cases gB av nt ops s o<;>rfl
def xI (K:St->Prop):Option St->Prop
 | some s=>K s
 | none=>False
end Go.Can
