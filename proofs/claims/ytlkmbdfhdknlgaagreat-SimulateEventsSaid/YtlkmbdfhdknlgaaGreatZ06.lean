/- One operation as a step of -/
import Derived.Test.YtlkmbdfhdknlgaaGreatZ05
namespace Go.Can
open Go.RowKit List
section
variable {P:Program}{C:Cx}{σ:Nat->Option OB}{s:St}{a:Act}{w:World}
def GL (av:List (Nat×TI))(s:St)(d:Option Tmp)(t:TypeId)(x y:Operand):Option St:=
 match dM av t,ev s x,ev s y with
 | some (.sl e),some (.bb o off n),some q=>
  match assoc av e,cells? s q,assoc s.heap o with
  | some ie,some (news,m),some ob=>
   if 0<n/\news.length=m*ie.size/\off+n*ie.size<=ob.cells.length then
    some (St.put { s with heap:=uN s.heap o { ob with cells:=gP ob.cells off (news.take ((min m n)*ie.size)) } } d (.int .i64 (min m n:Nat)))
   else none
  | _,_,_=>none
 | _,_,_=>none
theorem Lg {av:List (Nat×TI)}(ht:aD P av)(h:aQ C σ s a w){o:Oper}{cl:Call}{t t':TypeId}{x y:Operand}(hd:∀ t,o.dst=some t->t<a.tmps.size)(ho:o.op=.call cl)(RY:cl.callee=.builtin .copy)(RV:cl.args=#[x,y])(Tj:cl.argTypes=#[t,t'])
  {s':St} (hc:GL av s o.dst t x y=some s'):∃ z w',(execOp a.eval o).run P w=.ok (.value z) w'/\Rel C s' (a.put o.dst z) w':=by
 unfold GL at hc;split at hc
 ·rename_i e o' off n q Ss hp hq;obtain⟨it,Sk,Ss⟩:=Option.map_eq_some_iff.1 Ss;split at hc
  ·rename_i ie news m ob RU Sw TU;split at hc
   ·rename_i hb;obtain⟨q1,q3,q4⟩:=hb;cases hc;obtain⟨f,z,g1,g2,_⟩:=(ht e ie RU).info;have hu:=dI (ht t it Sk) Ss;obtain⟨us,u1,u2,u3⟩:=cells?_ok h (bF h hq) Sw;have ul:=a6.length _ _ u1;have hx:=bF h hp;simp only[VR] at hx;obtain⟨B,hB,hx⟩:=hx;obtain⟨B0,e1,e2,_,e4,e5⟩:=h.obj _ ob TU;rw[hB] at e1;cases e1;split at hx
    ·obtain⟨_,_,h0⟩:=hx;omega
    rename_i b V9;obtain⟨cap,ex,c1,c2,c3,c4⟩:=hx;obtain⟨cur,n1,n2,n3,n4,n5,n6⟩:=e5 b V9;have hk:(us.take ((min m n)*ie.size)).length=min m n*ie.size:=by
     rw[length_take,ul,q3];have:min m n*ie.size<=m*ie.size:=Nat.mul_le_mul_right _ (Nat.min_le_left _ _);omega
    have hkn:min m n*ie.size<=n*ie.size:=Nat.mul_le_mul_right _ (Nat.min_le_right _ _);have u1':=a6.take ((min m n)*ie.size) _ _ u1;have u2':(news.take ((min m n)*ie.size)).all one=true:=by
     rw[all_eq_true] at u2 |-;exact λ x hx=>u2 x (mem_of_mem_take hx)
    have RW:=run_storeCells_at P b off ob.elem (us.take ((min m n)*ie.size)) 0 cur w n1 (by rw[hk];omega) (a6.jh _ _ u2' u1');simp only[Nat.add_zero] at RW;have U8:(news.take ((min m n)*ie.size)).length=min m n*ie.size:=by rw[<- a6.length _ _ u1',hk]
    have hw:=h.write TU hB V9 (Tz:=gP ob.cells off (news.take ((min m n)*ie.size))) (Yu:=cur.toList.take off++us.take ((min m n)*ie.size)++cur.toList.drop (off+(us.take ((min m n)*ie.size)).length)) (by simp[hk];omega)
     (by rw[gj _ _ _ yA];simp[hk];omega) (by
      rw[gj _ _ _ yA];have:=vS n6 off u1';have ee:(cur.toList.take off++us.take ((min m n)*ie.size)++cur.toList.drop (off+(us.take ((min m n)*ie.size)).length)).take ob.cells.length =
        (cur.toList.take ob.cells.length).take off++us.take ((min m n)*ie.size)++(cur.toList.take ob.cells.length).drop (off+(us.take ((min m n)*ie.size)).length):=by
       have RY:ob.cells.length<=cur.toList.length:=by simpa using n5
       generalize us.take ((min m n)*ie.size)=vs at *;rw[take_append,take_append];simp only[length_append,length_take,take_take,drop_take];rw[Nat.min_eq_right (show off<=ob.cells.length by omega),Nat.min_eq_left (show off<=cur.toList.length by omega),take_of_length_le (show vs.length<=ob.cells.length-off by omega)];congr 2
       ·rw[Nat.min_eq_left (show off<=ob.cells.length by omega)]
      rw[ee];exact this) (sB off e4 u2')
    refine⟨.int .i64 (min m n:Nat),_,?_,_,hw.put hd (dU _ _)⟩;have Wo:∀ k,k=min m n->(Builtin.firstCells ie.size k (a.eval y)).run P w=.ok (us.take (k*ie.size)).toArray w:=by
     rintro k rfl;rcases u3 with ⟨c,e,rfl,rfl⟩ | ⟨ad,c,e,Ue⟩
     ·simp[e,Builtin.firstCells]
     ·rw[e];exact run_firstCells_some (P:=P) w ie.size _ ad m c _ hk λ j x hx=>by
       rw[getElem?_take] at hx;split at hx
       ·exact Ue j x hx
       ·cases hx
    have hlen:(Builtin.lenOf (a.eval y)).run P w=.ok m w:=by
     rcases u3 with ⟨c,e,rfl,rfl⟩ | ⟨ad,c,e,Ue⟩<;>simp[e,Builtin.lenOf]
    have Va:Nat.min m n=min m n:=rfl;simp only[execOp,ho,resolve,RY,RV,Tj,Sem.run_bind,Sem.run_pure,Result.andThen_ok,invoke,builtin,Builtin.copy_,map_toArray,map_cons,map_nil];simp only[getElem?_toArray,getElem?_cons_zero,getElem?_cons_succ,Sem.run_bind,bz hu,ex,Result.andThen_ok,hlen,cP g1,g2,Va,Wo _ rfl,RW,Sem.run_pure,goInt]
   ·cases hc
  ·cases hc
 ·cases hc
theorem BI {α:Type}:∀ (l:List (Nat×α)) (t:Nat) (x:α),assoc l t=some x->uN l t x=l
 | [],_,_,h=>by simp[assoc] at h
 | (k,v)::r,t,x,h=>by
  simp only[assoc] at h;simp only[uN];split at h
  ·rename_i e;cases h;rw[if_pos e]
  ·rename_i e;rw[if_neg e,BI r t x h]
def Bl (av:List (Nat×TI))(s:St)(d:Option Tmp)(t:TypeId)(x:Operand):Option St:=
 match dM av t,ev s x with
 | some (.sl e),some (.bb o off n)=>
  match assoc av e,assoc s.heap o with
  | some ie,some ob=>
   if ob.sz=ie.size/\off+n*ie.size<=ob.cells.length then
    some (St.put { s with heap:=uN s.heap o { ob with cells:=gP ob.cells off (aY ie.zero n) } } d (.cB []))
   else none
  | _,_=>none
 | some (.sl _),some .aj=>some (s.put d (.cB []))
 | _,_=>none
theorem H7 {av:List (Nat×TI)}(ht:aD P av)(h:aQ C σ s a w){o:Oper}{cl:Call}{t:TypeId}{x:Operand}(hd:∀ t,o.dst=some t->t<a.tmps.size)(ho:o.op=.call cl)(RY:cl.callee=.builtin .clear)(RV:cl.args=#[x])(Tj:cl.argTypes=#[t])
  {s':St} (hc:Bl av s o.dst t x=some s'):∃ z w',(execOp a.eval o).run P w=.ok (.value z) w'/\Rel C s' (a.put o.dst z) w':=by
 have hu0:∀ {w':World} {d:Option Tmp} {s:St},VR w' (FB C σ s.heap) σ (.cB []) (.tuple #[]):=λ {w' d s}=>by
  simp only[VR];exact⟨[],rfl,rfl⟩
 unfold Bl at hc;split at hc
 ·rename_i e o' off n Ss hp;obtain⟨it,Sk,Ss⟩:=Option.map_eq_some_iff.1 Ss;split at hc
  ·rename_i ie ob RU TU;split at hc
   ·rename_i hb;obtain⟨q1,q2⟩:=hb;cases hc;obtain⟨f,z,g1,g2,_,g4,g5⟩:=(ht e ie RU).info;obtain⟨k1,k2⟩:=dk (w:=w) (F:=FB C σ s.heap) _ _ g5;have hu:=dI (ht t it Sk) Ss;have hx:=bF h hp;simp only[VR] at hx;obtain⟨B,hB,hx⟩:=hx;obtain⟨B0,e1,e2,e3,e4,e5⟩:=h.obj _ ob TU;rw[hB] at e1;cases e1;have hzl:(aY ie.zero n).length=n*ie.size:=by rw[fM,(ht e ie RU).len]
    have none_case:n=0->uN s.heap o' { ob with cells:=gP ob.cells off (aY ie.zero n) }=s.heap:=λ hn=>by
     subst hn;have:gP ob.cells off (aY ie.zero 0)=ob.cells:=by simp[gP,aY]
     rw[this];exact BI _ _ _ TU
    split at hx
    ·obtain⟨ex,rfl,rfl⟩:=hx;rw[none_case rfl];refine⟨.tuple #[],w,?_,_,h.put hd (hu0 (d:=none) (s:=s))⟩;simp only[execOp,ho,resolve,RY,RV,Tj,Sem.run_bind,Sem.run_pure,Result.andThen_ok,invoke,builtin,Builtin.clear_,map_toArray,map_cons,map_nil];simp only[getElem?_toArray,getElem?_cons_zero,Sem.run_bind,bz hu,ex,Result.andThen_ok,Sem.run_pure]
    ·rename_i b V9;obtain⟨cap,ex,c1,c2,c3,c4⟩:=hx;obtain⟨cur,n1,n2,n3,n4,n5,n6⟩:=e5 b V9;by_cases hn:n=0
     ·subst hn;rw[none_case rfl];refine⟨.tuple #[],w,?_,_,h.put hd (hu0 (d:=none) (s:=s))⟩;simp only[execOp,ho,resolve,RY,RV,Tj,Sem.run_bind,Sem.run_pure,Result.andThen_ok,invoke,builtin,Builtin.clear_,map_toArray,map_cons,map_nil];simp only[getElem?_toArray,getElem?_cons_zero,Sem.run_bind,bz hu,ex,Result.andThen_ok,Sem.run_pure]
     ·have R0:z.cells.size=ie.size:=by rw[<- (ht e ie RU).len,<- bZ.length _ _ k1];simp
      have hz:=mh (σ:=σ) (a6.cK _ _ k1) n;have VC:=j6 k2 n;have hul:(Builtin.zeroCells z.cells n).toList=(madeCells z.cells (n*z.cells.size)).toList:=rfl;have hlen:(madeCells z.cells (n*z.cells.size)).toList.length=n*ie.size:=by simp[size_madeCells,R0]
      have RW:=run_storeCells_at P b off ob.elem (madeCells z.cells (n*z.cells.size)).toList 0 cur w n1 (by rw[hlen];omega) (a6.jh _ _ VC hz);simp only[Nat.add_zero] at RW;have hw:=h.write TU hB V9 (Tz:=gP ob.cells off (aY ie.zero n)) (Yu:=cur.toList.take off++(madeCells z.cells (n*z.cells.size)).toList++cur.toList.drop (off+(madeCells z.cells (n*z.cells.size)).toList.length)) (by simp only[length_append,length_take,length_drop,hlen];simp;omega)
       (by rw[gj _ _ _ yA];simp only[length_append,length_take,length_drop,hlen];simp;omega) (by
        rw[gj _ _ _ yA];have:=vS n6 off hz;have ee:(cur.toList.take off++(madeCells z.cells (n*z.cells.size)).toList++cur.toList.drop (off+(madeCells z.cells (n*z.cells.size)).toList.length)).take ob.cells.length =
          (cur.toList.take ob.cells.length).take off++(madeCells z.cells (n*z.cells.size)).toList++(cur.toList.take ob.cells.length).drop (off+(madeCells z.cells (n*z.cells.size)).toList.length):=by
         have RY:ob.cells.length<=cur.toList.length:=by simpa using n5
         generalize (madeCells z.cells (n*z.cells.size)).toList=vs at *;rw[take_append,take_append];simp only[length_append,length_take,take_take,drop_take];rw[Nat.min_eq_right (show off<=ob.cells.length by omega),Nat.min_eq_left (show off<=cur.toList.length by omega),take_of_length_le (show vs.length<=ob.cells.length-off by omega)];congr 2
         ·rw[Nat.min_eq_left (show off<=ob.cells.length by omega)]
        rw[ee];exact this) (sB off e4 VC)
      refine⟨.tuple #[],_,?_,_,hw.put hd (hu0 (d:=none) (s:={ s with heap:=uN s.heap o' { ob with cells:=gP ob.cells off (aY ie.zero n) } }))⟩;obtain⟨m,rfl⟩:∃ m,n=m+1:=⟨n-1,by omega⟩;simp only[execOp,ho,resolve,RY,RV,Tj,Sem.run_bind,Sem.run_pure,Result.andThen_ok,invoke,builtin,Builtin.clear_,map_toArray,map_cons,map_nil];simp only[getElem?_toArray,getElem?_cons_zero,Sem.run_bind,bz hu,ex,Result.andThen_ok,iA g1 g4,hul,RW,Sem.run_pure]
   ·cases hc
  ·cases hc
 ·rename_i e Ss hp;obtain⟨it,Sk,Ss⟩:=Option.map_eq_some_iff.1 Ss;cases hc;have hu:=dI (ht t it Sk) Ss;have ex:=bF h hp;simp only[VR] at ex;refine⟨.tuple #[],w,?_,_,h.put hd (hu0 (d:=none) (s:=s))⟩;simp only[execOp,ho,resolve,RY,RV,Tj,Sem.run_bind,Sem.run_pure,Result.andThen_ok,invoke,builtin,Builtin.clear_,map_toArray,map_cons,map_nil];simp only[getElem?_toArray,getElem?_cons_zero,Sem.run_bind,bz hu,ex,Result.andThen_ok,Sem.run_pure]
 ·cases hc
end
def bm (nt:Nat)(d:Option Tmp):Bool:=match d with
 | some t=>decide (t<nt)
 | none=>true
def I8 (av:List (Nat×TI))(s:St)(d:Option Tmp)(c:Call):Option St:=
 match c.callee with
 | .builtin .append=>match c.args.toList,c.argTypes.toList with
  | [x,y],[t,t']=>if t=t' then pW av s d t x y else none
  | _,_=>none
 | .builtin .copy=>match c.args.toList,c.argTypes.toList with
  | [x,y],[t,_]=>GL av s d t x y
  | _,_=>none
 | .builtin .clear=>match c.args.toList,c.argTypes.toList with
  | [x],[t]=>Bl av s d t x
  | _,_=>none
 | .builtin b=>(iK av s b c.args.toList c.argTypes.toList).map (s.put d)
 | _=>none
def oB (av:List (Nat×TI))(s:St)(o:Oper):Option St:=
 match o.op with
 | .store t x v=>(uA av s t x v).map (·.del o.dst)
 | .makeSlice t l c=>GF av s o.dst t l c
 | .alloc e=>Bm av s o.dst e
 | .box e x=>NF s o.dst e x
 | .buildSlice t len parts=>lH av s o.dst t len parts.toList
 | .call c=>I8 av s o.dst c
 | op=>(fC av s op).map (s.put o.dst)
def ny (e:Option CV)(want:Bool):Option Bool:=match e with
 | some (.bool b)=>some (b == want)
 | some (.cB [])=>some false
 | _=>none
def gO (av:List (Nat×TI))(nt:Nat)(ops:Array Oper)(s:St)(o:Oper):Option St:=
 if bm nt o.dst then
  match o.guard with
  | none=>oB av s o
  | some (j,want)=>match (ops[j]?).bind (·.dst) with
   | none=>none
   | some t=>match ny (assoc s.env t) want with
    | some true=>oB av s o
    | some false=>some (s.put o.dst (.cB []))
    | none=>none
 else none
def yR (av:List (Nat×TI))(nt:Nat)(ops:Array Oper):List Oper->St->Option St
 | [],s=>some s
 | o::r,s=>match gO av nt ops s o with
  | some s'=>yR av nt ops r s'
  | none=>none
section
variable {P:Program}{C:Cx}{s:St}{a:Act}{w:World}{ops:Array Oper}{av:List (Nat×TI)}
theorem yQ (ht:aD P av)(h:Rel C s a w){o:Oper}(hd:bm C.nt o.dst=true){s':St}(hs:oB av s o=some s') :
  ∃ w',((∃ z,(execOp a.eval o).run P w=.ok (.value z) w'/\Rel C s' (a.put o.dst z) w')\/((execOp a.eval o).run P w=.ok .skip w'/\Rel C s' (a.put o.dst undef) w')):=by
 obtain⟨σ,h⟩:=h;have Ss:∀ t,o.dst=some t->t<a.tmps.size:=λ t e=>by
  rw[h.tm];rw[e] at hd
  simpa [bm] using hd
 have quiet:∀ c,fC av s o.op=some c->s.put o.dst c=s'->∃ w',((∃ z,(execOp a.eval o).run P w=.ok (.value z) w'/\Rel C s' (a.put o.dst z) w')\/((execOp a.eval o).run P w=.ok .skip w'/\Rel C s' (a.put o.dst undef) w')):=λ c hc e=>by
  obtain⟨z,k1,k2⟩:=Au ht h o hc;exact⟨w,.inl ⟨z,k1,σ,e ▸ h.put Ss k2⟩⟩
 unfold oB at hs;split at hs
 ·rename_i t x v ho;obtain⟨s1,h1,rfl⟩:=Option.map_eq_some_iff.1 hs;obtain⟨w',k1,k2,_⟩:=zH ht h ho h1;exact⟨w',.inr ⟨k1,σ,k2.del undef⟩⟩
 ·rename_i t l c ho;obtain⟨z,w',k1,k2⟩:=K9 ht h Ss ho hs;exact⟨w',.inl ⟨z,k1,k2⟩⟩
 ·rename_i e ho;obtain⟨z,w',k1,k2⟩:=Ia ht h Ss ho hs;exact⟨w',.inl ⟨z,k1,k2⟩⟩
 ·rename_i e x ho;obtain⟨z,w',k1,k2⟩:=ND (P:=P) h Ss ho hs;exact⟨w',.inl ⟨z,k1,k2⟩⟩
 ·rename_i t len parts ho;obtain⟨z,w',k1,k2⟩:=xT ht h Ss ho hs;exact⟨w',.inl ⟨z,k1,k2⟩⟩
 ·rename_i cl ho;unfold I8 at hs;split at hs
  ·rename_i RY;split at hs
   ·rename_i x y t t' ha Tj;split at hs
    ·rename_i e;subst e;obtain⟨z,w',_,k1,k2⟩:=xU ht h Ss ho RY yDk yDi hs;exact⟨w',.inl ⟨z,k1,_,k2⟩⟩
    ·cases hs
   ·cases hs
  ·rename_i RY;split at hs
   ·rename_i x y t t' ha Tj;obtain⟨z,w',k1,k2⟩:=Lg ht h Ss ho RY yDk yDi hs;exact⟨w',.inl ⟨z,k1,k2⟩⟩
   ·cases hs
  ·rename_i RY;split at hs
   ·rename_i x t ha Tj;obtain⟨z,w',k1,k2⟩:=H7 ht h Ss ho RY yDk yDi hs;exact⟨w',.inl ⟨z,k1,k2⟩⟩
   ·cases hs
  ·rename_i b _ _ _ RY;obtain⟨c,hc,e⟩:=Option.map_eq_some_iff.1 hs;exact quiet c (by rw[ho];simp only[fC,RY];exact hc) e
  ·cases hs
 ·obtain⟨c,hc,e⟩:=Option.map_eq_some_iff.1 hs;exact quiet c hc e
theorem vX (h:Rel C s a w){j:Nat}{t:Tmp}{b:Bool}(hj:(ops[j]?).bind (·.dst)=some t)(he:assoc s.env t=some (.bool b)):yielded ops a.tmps j=some b:=by
 obtain⟨σ,h⟩:=h;obtain⟨v,h1,h2⟩:=h.env t _ he;simp only[VR] at h2;subst h2;simp[yielded,hj,h1]
theorem j7 (h:Rel C s a w){o:Oper}{j:Nat}{want:Bool}{t:Tmp}{b:Bool}(hg:o.guard=some (j,want))(hj:(ops[j]?).bind (·.dst)=some t)(he:ny (assoc s.env t) want=some b):Region.wanted o (yielded ops a.tmps)=b:=by
 unfold ny at he;split at he
 ·rename_i b' hb;cases he;simp[Region.wanted,hg,vX h hj hb]
 ·rename_i hb;cases he;obtain⟨σ,h⟩:=h;obtain⟨v,h1,h2⟩:=h.env t _ hb;simp only[VR] at h2;obtain⟨vs,rfl,h3⟩:=h2;simp[Region.wanted,hg,yielded,hj,h1]
 ·cases he
theorem Rel.skip (h:Rel C s a w){d:Option Tmp}(hd:bm C.nt d=true):Rel C (s.put d (.cB [])) (a.put d undef) w:=by
 obtain⟨σ,h⟩:=h;refine⟨σ,h.put (λ t e=>?_) ?_⟩
 ·rw[h.tm];rw[e] at hd
  simpa [bm] using hd
 ·exact⟨[],rfl,rfl⟩
def TL (P:Program)(C:Cx)(ops:Array Oper)(l:List Oper)(s:St)(K:St->Prop):Prop:=
 ∀ a w (Q:Exit->Act->World->Prop),Rel C s a w->(∀ s' a' w',K s'->Rel C s' a' w'->Q .normal a' w')->wpList P ops Q l a w
theorem TL.nil {K:St->Prop}(h:K s):TL P C ops [] s K:=λ _ _ _ hr hQ=>hQ _ _ _ h hr
theorem TL.step (ht:aD P av){o:Oper}{l:List Oper}{K:St->Prop}{s':St}(hs:gO av C.nt ops s o=some s')(h:TL P C ops l s' K):TL P C ops (o::l) s K:=by
 intro a w Q hr hQ;have run:∀ {s'},bm C.nt o.dst=true->Region.wanted o (yielded ops a.tmps)=true->oB av s o=some s'->TL P C ops l s' K->wpList P ops Q (o::l) a w:=λ {s'} hd hw hs h=>by
  unfold wpList;rw[if_pos hw];refine .inl ?_;obtain⟨w',h1 | h1⟩:=yQ ht hr hd hs
  ·obtain⟨z,k1,k2⟩:=h1;unfold Oper.wp;rw[k1];exact h _ _ Q k2 hQ
  ·obtain⟨k1,k2⟩:=h1;unfold Oper.wp;rw[k1];exact h _ _ Q k2 hQ
 unfold gO at hs;split at hs
 ·rename_i hd;split at hs
  ·rename_i hg;exact run hd (by simp[Region.wanted,hg]) hs h
  ·rename_i j want hg;split at hs
   ·cases hs
   rename_i t hj;split at hs
   ·rename_i hb;exact run hd (j7 hr hg hj hb) hs h
   ·rename_i hb;cases hs;unfold wpList;rw[if_neg (by simp[j7 hr hg hj hb])];exact h _ _ Q (hr.skip hd) hQ
   ·cases hs
 ·cases hs
def T (P:Program)(C:Cx)(c:Code)(s:St)(Q:Exit->St->Prop):Prop:=
 ∀ a w,Rel C s a w->c.wp P (λ e a' w'=>∃ s',Q e s'/\Rel C s' a' w') a w
def fy (K:St->Prop)(Q:Exit->St->Prop):Exit->St->Prop
 | .normal,s=>K s
 | e,s=>Q e s
theorem T.mono {c:Code}{Q Q':Exit->St->Prop}(h:T P C c s Q)(hq:∀ e s',Q e s'->Q' e s'):T P C c s Q':=λ a w hr=>
 wp_mono (h a w hr) λ e _ _ ⟨s',q,r⟩=>⟨s',hq e s' q,r⟩
theorem T.region {id:Nat}{l:List Oper}{Q:Exit->St->Prop}(h:TL P C l.toArray l s (Q .normal)):T P C (.region id l.toArray false) s Q:=λ a w hr=>
 wp_region_lit (h a w _ hr λ s' _ _ hk So=>⟨s',hk,So⟩)
theorem T.seq {x y:Code}{Q:Exit->St->Prop}(h:T P C x s (fy (λ s'=>T P C y s' Q) Q)):T P C (.seq x y) s Q:=λ a w hr=>
 wp_seq (wp_mono (h a w hr) λ e a' w' ⟨s',q,r⟩=>by
  cases e with
  | normal=>exact q a' w' r
  | _=>exact⟨s',q,r⟩)
theorem T.cond {c:Operand}{x y:Code}{b:Bool}{Q:Exit->St->Prop}(hc:ev s c=some (.bool b))(h:T P C (if b then x else y) s Q):T P C (.cond c x y) s Q:=λ a w hr=>by
 have hr0:=hr;obtain⟨σ,So⟩:=hr0;have:=bF So hc;simp only[VR] at this;exact wp_cond this (h a w hr)
theorem T.skip {Q:Exit->St->Prop}(h:Q .normal s):T P C .skip s Q:=λ _ _ hr=>wp_skip ⟨s,h,hr⟩
theorem T.exit {id:Nat}{Q:Exit->St->Prop}(h:Q (.exit id) s):T P C (.exit id) s Q:=λ _ _ hr=>wp_exit ⟨s,h,hr⟩
theorem T.ret {Q:Exit->St->Prop}(h:Q .ret s):T P C .ret s Q:=λ _ _ hr=>wp_ret ⟨s,h,hr⟩
theorem T.label {l:Nat}{Q:Exit->St->Prop}(h:Q .normal s):T P C (.label l) s Q:=λ _ _ hr=>wp_label ⟨s,h,hr⟩
theorem T.goto {l:Nat}{Q:Exit->St->Prop}(h:Q (.goto l) s):T P C (.goto l) s Q:=λ _ _ hr=>wp_goto ⟨s,h,hr⟩
def qQ (id:Nat)(Q:Exit->St->Prop):Exit->St->Prop
 | .exit i,s=>if i=id then Q .normal s else Q (.exit i) s
 | e,s=>Q e s
theorem T.block {id:Nat}{c:Code}{Q:Exit->St->Prop}(h:T P C c s (qQ id Q)):T P C (.block id c) s Q:=λ a w hr=>
 wp_block (wp_mono (h a w hr) λ e a' w' ⟨s',q,r⟩=>by
  cases e with
  | exit i=>
   simp only[Exit.inBlock,qQ] at q |-;split
   ·rename_i e;rw[if_pos e] at q;exact⟨s',q,r⟩
   ·rename_i e;rw[if_neg e] at q;exact⟨s',q,r⟩
  | _=>exact⟨s',q,r⟩)
theorem DY {c:Code}{Q:Exit->Act->World->Prop}(I:Nat->Act->World->Prop){n:Nat}(h₀:I n a w)
  (round:∀ n a w,I n a w->c.wp P (Exit.then (λ a' w'=>∃ m,m<n/\I m a' w') Q) a w):(Code.loop c).wp P Q a w:=by
 classical
 have hx:∀ a w,(∃ n,I n a w)->∃ n,I n a w/\∀ m,I m a w->n<=m:=λ a w ⟨n,hn⟩=>by
  induction n using Nat.strongRecOn with
  | _ n ih=>
   by_cases h:∃ m,m<n/\I m a w
   ·obtain⟨m,hm,hi⟩:=h;exact ih m hm hi
   ·exact⟨n,hn,λ m hm=>Nat.le_of_not_lt λ RS=>h ⟨m,RS,hm⟩⟩
 let μ:Act->World->Nat:=λ a w=>if h:∃ n,I n a w then (hx a w h).choose else 0
 have hμ:∀ a w (h:∃ n,I n a w),I (μ a w) a w/\∀ m,I m a w->μ a w<=m:=λ a w h=>by
  simp only[μ,dif_pos h];exact (hx a w h).choose_spec
 refine wp_loop (λ a w=>∃ n,I n a w) μ ⟨n,h₀⟩ λ a w hI=>?_;refine wp_mono (round (μ a w) a w (hμ a w hI).1) λ e a' w' q=>?_
 cases e with
 | normal=>
  obtain⟨m,hm,hi⟩:=q;exact⟨⟨m,hi⟩,Nat.lt_of_le_of_lt ((hμ a' w' ⟨m,hi⟩).2 m hi) hm⟩
 | _=>exact q
theorem T.loop {c:Code}{Q:Exit->St->Prop}(I:Nat->St->Prop){n:Nat}(h₀:I n s)(round:∀ n s,I n s->T P C c s (fy (λ s'=>∃ m,m<n/\I m s') Q)):T P C (.loop c) s Q:=λ a w hr=>
 DY (λ n a w=>∃ s,I n s/\Rel C s a w) ⟨s,h₀,hr⟩ λ n a w ⟨s,hi,hr⟩=>wp_mono (round n s hi a w hr) λ e a' w' ⟨s',q,r⟩=>by
  cases e with
  | normal=>obtain⟨m,hm,hi⟩:=q;exact⟨m,hm,s',hi,r⟩
  | _=>exact⟨s',q,r⟩
end
def kW (P : Program) (f : FuncId) : Prop := ∃ fn, P.funcs[f]? = some fn /\ (fn.name == "runtime.NumGoroutine") = false /\ fn.body.isNone = false
def ae (P:Program)(f:FuncId)(args:List CV)(r:CV):Prop:=
 kW P f/\∀ (F:Nat->Prop) (vs:List Value) (w:World),FOk w F->bZ w F args vs ->
  Calls P f vs.toArray w λ e w'=>∃ v,e=.returned v/\Below w.heap.size w w'/\cr w' F r v
mutual
/-- No memory in it. -/
def scalar:CV->Bool
 | .int _ _=>true
 | .bool _=>true
 | .str _=>true
 | .aj=>true
 | .bJ=>true
 | .cE=>true
 | .agg cs=>nc cs
 | .cB cs=>nc cs
 | _=>false
def nc:List CV->Bool
 | []=>true
 | c::cs=>scalar c && nc cs
end
mutual
theorem cr.scalar {w w':World}{F F':Nat->Prop}:∀ (c:CV) (v:Value),Can.scalar c=true->cr w F c v->cr w' F' c v
 | .int _ _,_,_,h=>by simpa [cr] using h
 | .bool _,_,_,h=>by simpa [cr] using h
 | .str _,_,_,h=>by simpa [cr] using h
 | .aj,_,_,h=>by simpa [cr] using h
 | .bJ,_,_,h=>by simpa [cr] using h
 | .cE,_,_,h=>by simpa [cr] using h
 | .agg cs,v,hs,h=>by
  simp only[cr,Can.scalar] at h hs |-;obtain⟨vs,e,r,h1⟩:=h;exact⟨vs,e,bZ.scalar cs vs hs r,h1⟩
 | .cB cs,v,hs,h=>by
  simp only[cr,Can.scalar] at h hs |-;obtain⟨vs,e,r⟩:=h;exact⟨vs,e,bZ.scalar cs vs hs r⟩
 | .ax _ _,_,hs,_=>by simp[Can.scalar] at hs
 | .cQ _,_,hs,_=>by simp[Can.scalar] at hs
 | .fn _ _,_,hs,_=>by simp[Can.scalar] at hs
 | .iface _ _,_,hs,_=>by simp[Can.scalar] at hs
 | .iter _ _ _,_,hs,_=>by simp[Can.scalar] at hs
 | .mp _ _,_,hs,_=>by simp[Can.scalar] at hs
 | .bb _ _ _,_,hs,_=>by simp[Can.scalar] at hs
 | .aw _ _,_,hs,_=>by simp[Can.scalar] at hs
theorem bZ.scalar {w w':World}{F F':Nat->Prop}:∀ (cs:List CV) (vs:List Value),nc cs=true->bZ w F cs vs->bZ w' F' cs vs
 | [],_,_,h=>by simpa [bZ] using h
 | c::cs,vs,hs,h=>by
  simp only[bZ,nc,Bool.and_eq_true] at h hs |-;obtain⟨v,r,e,h1,h2⟩:=h;exact⟨v,r,e,cr.scalar c v hs.1 h1,bZ.scalar cs r hs.2 h2⟩
end
def M4 (s:St):CV->Option CV
 | .bb o off n=>match assoc s.heap o with
  | some ob=>if trees ob.cells then some (.ax ((ob.cells.drop off).take (n*ob.sz)) n) else none
  | none=>none
 | .aw o off=>match assoc s.heap o with
  | some ob=>if trees ob.cells then some (.cQ (ob.cells.drop off)) else none
  | none=>none
 | c=>if tree c then some c else none
def zq (s:St):List CV->Option (List CV)
 | []=>some []
 | c::cs=>match M4 s c,zq s cs with
  | some d,some ds=>some (d::ds)
  | _,_=>none
section
variable {P:Program}{C:Cx}{σ:Nat->Option OB}{s:St}{a:Act}{w:World}{ops:Array Oper}{av:List (Nat×TI)}
theorem aQ.below (h:aQ C σ s a w){w':World}(hb:Below w.heap.size w w'):aQ C σ s a w':=by
 have hg:w.grownBy w' none:=⟨hb.os,hb.tape,hb.output,hb.size,λ k hk _=>hb.block k hk⟩;have hk:cO w w' (FB C σ s.heap) (FB C σ s.heap):=ll hg (λ b e=>by cases e) λ b hb=>.inl hb;refine⟨h.pQ,h.tm,hg.os.trans h.os,hg.tape.trans h.tape,hg.output.trans h.output,Nat.le_trans h.size hg.size,?_,?_,?_,h.inj,h.nx,h.gA,h.low,h.new⟩
 ·intro b Sf Sd;rw[hb.block b (Nat.lt_of_lt_of_le Sf h.size)];exact h.frame b Sf Sd
 ·intro t c hc;obtain⟨v,k1,k2⟩:=h.env t c hc;exact⟨v,k1,VR.bG hk c v (λ _ _=>rfl) k2⟩
 ·intro o ob ho;obtain⟨B,m1,m2,m3,m4,m5⟩:=h.obj o ob ho;refine⟨B,m1,m2,m3,m4,λ b Sf=>?_⟩;obtain⟨cur,n1,n2,n3,n4,n5,n6⟩:=m5 b Sf;exact⟨cur,by rw[hb.block b (Array.getElem?_eq_some_iff.1 n1).1];exact n1,n2,n3,n4,n5,a6.bG hk _ _ (λ _ _=>rfl) n6⟩
theorem G0 (h:aQ C σ s a w):∀ b,FB C σ s.heap b->b<w.heap.size:=by
 rintro b (hb | ⟨o,ob,ho,hb⟩)
 ·exact Nat.lt_of_lt_of_le (C.hF.1 b hb) h.size
 ·obtain⟨B',m1,_,_,_,m5⟩:=h.obj o ob ho;obtain⟨cur,n1,_⟩:=m5 b ZF;exact (Array.getElem?_eq_some_iff.1 n1).1
theorem Fp (h:aQ C σ s a w):FOk w (FB C σ s.heap):=⟨G0 h,h.gok.mono λ _ hb=>hb.elim id False.elim⟩
theorem OU (h:aQ C σ s a w):FOk w C.F:=⟨λ b hb=>Nat.lt_of_lt_of_le (C.hF.1 b hb) h.size,h.gok.mono λ _ hb=>.inl (hb.elim id False.elim)⟩
theorem MC (h:aQ C σ s a w):LU w C.F (λ b=>∃ o ob,assoc s.heap o=some ob/\a7 σ o=some b):=⟨(OU h).1,h.gok⟩
theorem iO {F:Nat->Prop}:∀ (cs:List CV) (us:List Value) (ad:Addr),bZ w F cs us->cs.all one=true->¬ F ad.block->(∀ j u,us[j]? = some u->w.cell? (ad.add j)=some u)->fF w F cs ad
 | [],_,_,_,_,_,_=>by simp[fF]
 | c::cs,us,ad,hr,h1,hF,hc=>by
  simp only[bZ] at hr;obtain⟨v,r,rfl,h2,h3⟩:=hr;simp only[all_cons,Bool.and_eq_true] at h1;simp only[fF];refine⟨⟨v,by have:=hc 0 v rfl;rwa [add_zero] at this,hF,h2⟩,h1.1,iO cs r _ h3 h1.2 (by rw[Il];exact hF) λ j u hu=>?_⟩;rw[add_add,Nat.add_comm];exact hc (j+1) u (by simpa using hu)
theorem M3 (h:aQ C σ s a w){c d:CV}{v:Value}(hv:VR w (FB C σ s.heap) σ c v)(hl:M4 s c=some d):cr w C.F d v:=by
 have hk:cO w w (FB C σ s.heap) C.F:=⟨λ ad u hf hu=>⟨hu,λ hF=>hf (.inl hF)⟩,λ r _ hf hu _=>⟨hu,λ hF=>hf (.inl hF)⟩⟩;have obj:∀ {o ob B b},assoc s.heap o=some ob->σ o=some B->B.kf=some b->trees ob.cells=true->∀ k,fF w C.F (ob.cells.drop k) ⟨b,k,none⟩:=λ {o ob B b} ho hB hb ht k=>by
  obtain⟨B',e1,_,_,e4,e5⟩:=h.obj o ob ho;rw[hB] at e1;cases e1;obtain⟨cur,k1,k2,k3,k4,k5,k6⟩:=e5 b hb;have h1:=bZ.bG hk.1 _ _ (a6.eX _ _ ht k6);have h2:fF w C.F ob.cells ⟨b,0,none⟩:=iO _ _ _ h1 e4 k3 λ j u hu=>by
   rw[add_lit,Nat.zero_add,cell_of_row w b j cur _ _ k1];rw[getElem?_take] at hu;split at hu
   ·simpa using hu
   ·cases hu
  have:=h2.drop k;rwa [add_lit,Nat.zero_add] at this
 unfold M4 at hl;split at hl
 ·rename_i o off n;split at hl
  ·rename_i ob ho;split at hl
   ·rename_i ht;cases hl;simp only[VR] at hv;obtain⟨B,hB,hv⟩:=hv;split at hv
    ·obtain⟨rfl,rfl,rfl⟩:=hv;simp only[cr];exact⟨none,0,rfl,Nat.le_refl _,Nat.zero_le _,.inl ⟨trivial,by simp⟩⟩
    ·rename_i b hb;obtain⟨cap,rfl,h1,h2,_⟩:=hv;simp only[cr];exact⟨_,cap,rfl,h1,h2,.inr ⟨_,rfl,fF.take _ _ _ (obj ho hB hb ht off)⟩⟩
   ·cases hl
  ·cases hl
 ·rename_i o off;split at hl
  ·rename_i ob ho;split at hl
   ·rename_i ht;cases hl;simp only[VR] at hv;obtain⟨B,b,hB,hb,rfl⟩:=hv;simp only[cr];exact⟨_,rfl,obj ho hB hb ht off⟩
   ·cases hl
  ·cases hl
 ·split at hl
  ·rename_i ht;cases hl;exact cr.bG hk.1 _ _ (VR.eX _ _ ht hv)
  ·cases hl
theorem CH (h:aQ C σ s a w):∀ (cs ds:List CV) (vs:List Value),a6 w (FB C σ s.heap) σ cs vs->zq s cs=some ds->bZ w C.F ds vs
 | [],ds,vs,hv,hl=>by simp only[zq] at hl;cases hl;simpa [a6,bZ] using hv
 | c::cs,ds,vs,hv,hl=>by
  simp only[zq] at hl;split at hl
  ·rename_i d ds' h1 h2;cases hl;simp only[a6,bZ] at hv |-;obtain⟨v,r,e,k1,k2⟩:=hv;exact⟨v,r,e,M3 h k1 h1,CH h cs ds' r k2 h2⟩
  ·cases hl
def bM (s:St)(c:Call):Option (FuncId×List CV):=
 match c.callee with
 | .value f=>match ev s f,C6 s c.args.toList with
  | some (.fn g Tv),some cs=>some (g,cs++Tv)
  | _,_=>none
 | _=>none
def bU (P:Program)(s:St)(c:Call)(r:CV):Prop:=
 ∃ g cs,bM s c=some (g,cs)/\((trees cs=true/\ae P g cs r)\/∃ ds,zq s cs=some ds/\ae P g ds r/\scalar r=true)
theorem DJ (h:aQ C σ s a w){o:Oper}{c:Call}(ho:o.op=.call c){r:CV}(hc:bU P s c r)(K:Act->World->Prop)(Q:Exit->Act->World->Prop)
  (hK:∀ v w',aQ C σ s a w'->VR w' (FB C σ s.heap) σ r v->K (a.put o.dst v) w'):o.wp P a w K Q:=by
 obtain⟨g,cs,Se,hp⟩:=hc;unfold bM at Se;split at Se
 ·rename_i f Um;split at Se
  ·rename_i g' Tv Tz hf Sw;cases Se;have W2:=bF h hf;simp only[VR] at W2;obtain⟨us,e,hu⟩:=W2;have RV:=qJ h _ _ Sw;have Tn:=a6.append _ _ _ _ RV hu;have Iy:∀ {cs},ae P g cs r->(execOp a.eval o).run P w=.ok (.enter g (c.args.toList.map a.eval++us).toArray) w:=λ hp=>by
    obtain⟨⟨fn,h1,h2,h3⟩,_⟩:=hp;have e2:(c.args.toList.map a.eval).toArray=c.args.map a.eval:=by rw[<- map_toArray]
    simp only[execOp,ho,resolve,Um,e,Deferred.ofValue,Sem.run_bind,Sem.run_pure,Result.andThen_ok,invoke,callFunc,run_program,h1,h2,h3,Bool.false_eq_true,if_false];rw[<- e2];simp
   rcases hp with ⟨ht,hp⟩ | ⟨ds,hl,hp,Zf⟩
   ·unfold Oper.wp;rw[Iy hp];refine (hp.2 (FB C σ s.heap) _ w (Fp h) (a6.eX _ _ ht Tn)).mono λ e w' ⟨v,he,hb,hv⟩=>?_;subst he;exact hK v w' (h.below hb) (VR.cK _ _ hv)
   ·unfold Oper.wp;rw[Iy hp];refine (hp.2 C.F _ w (OU h) (CH h _ _ _ Tn hl)).mono λ e w' ⟨v,he,hb,hv⟩=>?_;subst he;exact hK v w' (h.below hb) (VR.cK _ _ (cr.scalar _ _ Zf hv))
  ·cases Se
 ·cases Se
theorem TL.call {o:Oper}{l:List Oper}{c:Call}{r:CV}{K:St->Prop}(hd:bm C.nt o.dst=true)(hg:o.guard=none)(ho:o.op=.call c)(hc:bU P s c r)(h:TL P C ops l (s.put o.dst r) K):TL P C ops (o::l) s K:=by
 intro a w Q hr hQ;obtain⟨σ,hr⟩:=hr;unfold wpList;rw[if_pos (by simp[Region.wanted,hg])];refine .inl (DJ hr ho hc _ _ λ v w' So hv=>h _ _ Q ⟨σ,So.put ?_ hv⟩ hQ);intro t e;rw[So.tm];rw[e] at hd
 simpa [bm] using hd
theorem TL.cM {o:Oper}{l:List Oper}{c:Call}{r:CV}{K:St->Prop}{j:Nat}{want:Bool}{t:Tmp}(hd:bm C.nt o.dst=true)(hg:o.guard=some (j,want))(hj:(ops[j]?).bind (·.dst)=some t)(ht:assoc s.env t=some (.bool want))(ho:o.op=.call c)(hc:bU P s c r)(h:TL P C ops l (s.put o.dst r) K) :
  TL P C ops (o::l) s K:=by
 intro a w Q hr hQ;have hy:=vX hr hj ht;obtain⟨σ,hr⟩:=hr;unfold wpList;rw[if_pos (by simp[Region.wanted,hg,hy])];refine .inl (DJ hr ho hc _ _ λ v w' So hv=>h _ _ Q ⟨σ,So.put ?_ hv⟩ hQ);intro t e;rw[So.tm];rw[e] at hd
 simpa [bm] using hd
def enter (args:List CV):St:={ env:=args.zipIdx.map (λ x=>(x.2,x.1)),heap:=[],nx:=0 }
theorem gD:∀ (args:List CV) (k t:Nat) (c:CV),assoc ((args.zipIdx k).map λ x=>(x.2,x.1)) t=some c->k<=t/\args[t-k]? = some c
 | [],_,_,_,h=>by simp[assoc] at h
 | x::args,k,t,c,h=>by
  simp only[zipIdx_cons,map_cons,assoc] at h;split at h
  ·rename_i e;subst e;cases h;exact⟨Nat.le_refl _,by simp⟩
  ·rename_i e;obtain⟨h1,h2⟩:=gD args (k+1) t c h;refine⟨by omega,?_⟩;rw[show t-k=(t-(k+1))+1 by omega]
   simpa using h2
def ql (av:List (Nat×TI))(s:St):ResultVar->Option CV
 | .tmp t=>assoc s.env t
 | .cell a ty=>match assoc s.env a,assoc av ty with
  | some c,some i=>match ib s c with
   | some cs=>mS i cs
   | none=>none
  | _,_=>none
def lE (av:List (Nat×TI))(s:St):List ResultVar->Option (List CV)
 | []=>some []
 | r::rs=>match ql av s r,lE av s rs with
  | some c,some cs=>some (c::cs)
  | _,_=>none
def oR:List CV->CV
 | [c]=>c
 | cs=>.cB cs
def bL (av:List (Nat×TI))(f:Func)(s:St):Option CV:=match lE av s f.results.toList with
 | some cs=>some (oR cs)
 | none=>none
def yZ (tmps:Array Value):ResultVar->Sem Value
 | .tmp t=>pure (tmps.getD t undef)
 | .cell a t=>do loadVar t (<- asAddr (tmps.getD a undef))
theorem Dk (ht:aD P av)(h:aQ C σ s a w):∀ (rs:List ResultVar) (cs:List CV),lE av s rs=some cs->∃ vs,(rs.mapM (yZ a.tmps)).run P w=.ok vs w/\a6 w (FB C σ s.heap) σ cs vs
 | [],cs,hc=>by simp only[lE] at hc;cases hc;exact⟨[],by simp,by simp[a6]⟩
 | r::rs,cs,hc=>by
  simp only[lE] at hc;split at hc
  ·rename_i c Tz h1 h2;cases hc;obtain⟨vs,k1,k2⟩:=Dk ht h rs Tz h2;have key:∃ v,(yZ a.tmps r).run P w=.ok v w/\VR w (FB C σ s.heap) σ c v:=by
    cases r with
    | tmp t=>
     obtain⟨v,m1,m2⟩:=h.env t c h1;exact⟨v,by simp[yZ,Array.getD_eq_getD_getElem?,m1],m2⟩
    | cell x ty=>
     simp only[ql] at h1;split at h1
     ·rename_i d i hd hi;split at h1
      ·rename_i cells hm;obtain⟨v,m1,m2⟩:=h.env x d hd;obtain⟨ad,rfl,hcells⟩:=CC h m2 hm;obtain⟨u,n1,n2⟩:=Dr (P:=P) (ht ty i hi) hcells h1;exact⟨u,by simp[yZ,Array.getD_eq_getD_getElem?,m1,asAddr,n1],n2⟩
      ·cases h1
     ·cases h1
   obtain⟨v,m1,m2⟩:=key;refine⟨v::vs,?_,?_⟩
   ·simp only[mapM_cons,Sem.run_bind,m1,k1,Result.andThen_ok,Sem.run_pure]
   ·simp only[a6];exact⟨v,vs,rfl,m2,k2⟩
  ·cases hc
theorem jA (ht:aD P av)(h:aQ C σ s a w){f:Func}{r:CV}(hr:bL av f s=some r):∃ v,(results f a.tmps).run P w=.ok v w/\VR w (FB C σ s.heap) σ r v:=by
 unfold bL at hr;split at hr
 ·rename_i cs Sw;cases hr;obtain⟨vs,k1,k2⟩:=Dk ht h _ _ Sw;have hl:=a6.length _ _ k2;have hm:(f.results.mapM (yZ a.tmps)).run P w=.ok vs.toArray w:=by
   rw[Array.mapM_eq_mapM_toList];simp only[Sem.run_map,k1,Result.andThen_ok]
  have e:results f a.tmps=(do let vs <- f.results.mapM (yZ a.tmps);pure (if h:vs.size=1 then vs[0] else .tuple vs)):=by
   unfold results;congr 1
  rw[e];simp only[Sem.run_bind,hm,Result.andThen_ok,Sem.run_pure];refine⟨_,rfl,?_⟩
  match cs,vs,hl,k2 with
  | [c],[v],_,k2=>
   simp only[a6] at k2;obtain⟨_,_,e,h1,_⟩:=k2;cases e
   simpa [oR] using h1
  | [],[],_,_=>simp[oR,VR,a6]
  | c::d::cs,v::u::vs,_,k2=>
   simp only[oR];rw[dif_neg xr];simp only[VR];exact⟨v::u::vs,rfl,k2⟩
 ·cases hr
def doneS (av:List (Nat×TI))(f:Func)(r:CV):Exit->St->Prop
 | .normal,s=>bL av f s=some r
 | .ret,s=>bL av f s=some r
 | _,_=>False
theorem ae.jv (Uu : aD P av) {f : FuncId} {fn : Func} {c : Code} {args : List CV} {r : CV} (hf : P.funcs[f]? = some fn) (hb : fn.body = some c) (hn : (fn.name == "runtime.NumGoroutine") = false)
  (ha:args.length<=fn.ntmps) (ht:tree r=true) (h:∀ C:Cx,C.nt=fn.ntmps->C.n0=0->T P C c (enter args) (doneS av fn r)):ae P f args r:=by
 refine⟨⟨fn,hf,hn,by simp[hb]⟩,λ F vs w hF hv=>?_⟩;have hl:=bZ.length _ _ hv;let C:Cx:=⟨w,F,λ _=>False,hF,fn.ntmps,λ _=>none,0⟩
 have h0:aQ C (λ _=>none) (enter args) { tmps:=vs.toArray++Array.replicate (fn.ntmps-vs.toArray.size) undef,defers:=[] } w:=by
  refine⟨rfl,by simp[C];omega,rfl,rfl,rfl,Nat.le_refl _,λ _ _ _=>rfl,?_,?_,?_,λ _ _=>rfl,λ _ h=>absurd h (Nat.not_lt_zero _),Nat.zero_le _,λ _ _ _ _ h=>by cases h⟩
  ·intro t c hc;obtain⟨_,h2⟩:=gD args 0 t c hc;obtain⟨v,h3,h4⟩:=bZ.get _ _ hv t c yC;refine⟨v,?_,VR.cK _ _ (cr.bG (cO.same λ b hb=>?_).1 c v h4)⟩
   ·have RS:=(List.getElem?_eq_some_iff.1 h3).1;simp only;rw[Array.getElem?_append_left (by simpa using RS)]
    simpa using h3
   ·rcases hb with hF | ⟨o,ob,ho,_⟩
    ·exact hF
    ·simp[enter,assoc] at ho
  ·intro o ob ho;simp[enter,assoc] at ho
  ·intro o o' ob R9 b ho;simp[enter,assoc] at ho
 refine calls_of_wp hf hb (wp_mono (h C rfl rfl _ _ ⟨_,h0⟩) λ e a' w' ⟨s',q,σ,hr⟩=>?_);have fin:bL av fn s'=some r->a'.defers=[]/\∃ v,(results fn a'.tmps).run P w'=.ok v w'/\(∃ Wu,Ending.returned v=.returned Wu/\Below w.heap.size w w'/\cr w' F r Wu):=λ hq=>by
  obtain⟨v,k1,k2⟩:=jA (P:=P) Uu hr hq;refine⟨hr.pQ,v,k1,v,rfl,⟨hr.os,hr.tape,hr.output,hr.size,λ k hk=>hr.frame k hk (λ hx=>hx)⟩,?_⟩;exact cr.bG (cO.same λ _ hF=>.inl hF).1 _ _ (VR.eX _ _ ht k2)
 cases e with
 | normal=>exact fin q
 | ret=>exact fin q
 | exit _=>exact q.elim
 | goto _=>exact q.elim
 | panic _=>exact q.elim
 | outgrown=>exact q.elim
end
theorem He {av:List (Nat×TI)}{nt:Nat}{ops:Array Oper}{s:St}:yR av nt ops [] s=some s:=rfl
theorem wy {av:List (Nat×TI)}{nt:Nat}{ops:Array Oper}{o:Oper}{l:List Oper}{s:St}:yR av nt ops (o::l) s=(gO av nt ops s o).bind (yR av nt ops l):=by
 simp only[yR];cases gO av nt ops s o<;>rfl
def zg (K:St->Prop):Option St->Prop
 | some s=>K s
 | none=>False
theorem Rel.drew {C:Cx}{s:St}{a:Act}{w:World}(h:Rel C s a w):Rel C s a { w with drawn:=w.drawn+1 }:=by
 obtain⟨σ,h⟩:=h;exact⟨σ,h.below (w':=w.drew) ⟨rfl,rfl,rfl,Nat.le_refl _,λ _ _=>rfl⟩⟩
section
variable {P:Program}{av:List (Nat×TI)}{s s':St}
theorem ke:∀ (xs:List Operand),(∀ x∈xs,ev s x=ev s' x)->C6 s xs=C6 s' xs
 | [],_=>rfl
 | x::r,h=>by
  simp only[C6];rw[h x xr,ke r λ y hy=>h y (by simp[hy])]
theorem jY:∀ (xs:List (Nat×Operand)),(∀ x∈xs,ev s x.2=ev s' x.2)->iJ s xs=iJ s' xs
 | [],_=>rfl
 | (i,x)::r,h=>by
  simp only[iJ];rw[h (i,x) xr,jY r λ y hy=>h y (by simp[hy])]
theorem j0 {x:Option Operand}(h:∀ y,x=some y->ev s y=ev s' y)(d:Nat):dK s x d=dK s' x d:=by
 cases x with
 | none=>rfl
 | some y=>simp only[dK];rw[h y rfl]
theorem uY (hh:s.heap=s'.heap)(c:CV):ib s c=ib s' c:=by
 unfold ib;rw[hh]
theorem A9 (hh:s.heap=s'.heap){lo hi:Option Operand}(h1:∀ y,lo=some y->ev s y=ev s' y)(h2:∀ y,hi=some y->ev s y=ev s' y)(t:TypeId)(c:CV):ma av s t c lo hi=ma av s' t c lo hi:=by
 unfold ma;rw[hh];simp only[j0 h1,j0 h2]
theorem Eo (hh:s.heap=s'.heap)(op:Op)(h:∀ x∈op.operands,ev s x=ev s' x):fC av s op=fC av s' op:=by
 cases op
 case move x=>exact h x Ug
 case assign x=>exact h x Ug
 case pick c x y=>
  simp only[fC];rw[h c Ug,h x Ug,h y Ug]
 case binOp op t x y yt=>
  simp only[fC];rw[h x Ug,h y Ug]
 case unOp op t x=>simp only[fC];rw[h x Ug]
 case load t x=>simp only[fC];rw[h x Ug];simp only[uY hh]
 case slice t x lo hi mx=>
  have h1:∀ y,lo=some y->ev s y=ev s' y:=λ y e=>h y (by subst e;simp[Op.operands]);have h2:∀ y,hi=some y->ev s y=ev s' y:=λ y e=>h y (by subst e;simp[Op.operands])
  cases mx with
  | none=>simp only[fC];rw[h x Ug];simp only[A9 hh h1 h2]
  | some _=>rfl
 case fieldAddr t x f=>simp only[fC];rw[h x Ug]
 case field t x f=>simp only[fC];rw[h x Ug]
 case indexAddr t x i=>simp only[fC];rw[h x Ug,h i Ug]
 case index t x i=>simp only[fC];rw[h x Ug,h i Ug]
 case extract x i=>simp only[fC];rw[h x Ug]
 case makeFunc f first cap=>
  cases f<;>first | rfl | skip
  simp only[fC];rw[ke cap.toList λ x hx=>h x (by simp only[Op.operands,Array.mem_append];exact .inr (by simpa using hx))]
 case nilCheck x=>simp only[fC];rw[h x Ug]
 case build t parts=>
  simp only[fC,uE];rw[jY parts.toList λ x hx=>h x.2 yEa]
 case call c=>
  simp only[fC];split
  ·rename_i b hb;have ha:∀ x∈c.args.toList,ev s x=ev s' x:=λ x hx=>h x (by simp only[Op.operands,Call.operands,Array.mem_append];exact .inr (by simpa using hx));unfold iK;split
   ·split
    ·rename_i x t e _;rw[ha x (by rw[e];simp)]
    ·rfl
   ·rw[ke _ ha]
   ·rw[ke _ ha]
   ·rfl
  ·rfl
 all_goals rfl
end
def p8 (s:St)(d:Option Tmp):Option CV->St
 | some c=>s.put d c
 | none=>s.del d
def OR (P:Program)(av:List (Nat×TI))(nt:Nat)(ops:Array Oper)(s:St)(o:Oper)(r:Option CV):Prop:=
 bm nt o.dst=true/\
  ((∃ j want t,o.guard=some (j,want)/\(ops[j]?).bind (·.dst)=some t/\ny (assoc s.env t) want=some false/\r=some (.cB []))\/
   ((o.guard=none\/∃ j want t,o.guard=some (j,want)/\(ops[j]?).bind (·.dst)=some t/\assoc s.env t=some (.bool want))/\
    ∃ c,r=some c/\(fC av s o.op=some c\/∃ cl,o.op=.call cl/\bU P s cl c)))
section
variable {P:Program}{C:Cx}{s:St}{a:Act}{w:World}{ops:Array Oper}{av:List (Nat×TI)}
def TH (P:Program)(av:List (Nat×TI))(nt:Nat)(ops:Array Oper):List Nat->St->(St->Prop)->Prop
 | [],s,K=>K s
 | i::r,s,K=>∃ o res,ops[i]? = some o/\OR P av nt ops s o res/\TH P av nt ops r (p8 s o.dst res) K
def iY (E:Nat->Option CV)(d:Option Tmp)(r:Option CV):Nat->Option CV:=λ t=>if d=some t then r else E t
def dz (ops:Array Oper)(i:Nat):Option Tmp:=(ops[i]?).bind (·.dst)
theorem x8 {s:St}{d:Option Tmp}{r:Option CV}(t:Nat):assoc (p8 s d r).env t=iY (assoc s.env) d r t:=by
 cases r with
 | none=>
  cases d with
  | none=>simp[p8,St.del,iY]
  | some x=>simp[p8,St.del,iY,fE]
 | some c=>
  cases d with
  | none=>simp[p8,St.put,iY]
  | some x=>
   simp only[p8,St.put,iY,assoc,fE,Option.some.injEq];split<;>rfl
theorem pH {s:St}{d:Option Tmp}{r:Option CV}:(p8 s d r).heap=s.heap/\(p8 s d r).nx=s.nx:=by
 cases r<;>cases d<;>exact⟨rfl,rfl⟩
def AL:List Nat->Array Bool->Array Bool
 | [],l=>l
 | i::r,l=>AL r (l.setIfInBounds i true)
end
end Go.Can
