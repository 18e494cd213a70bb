/- One operation as a step of canonical states; what may be sai -/
import Derived.Test.YtnecpnjdonibmaaGreatZ04
namespace Go.Can
open Go.RowKit
section
variable {P:Program}{C:Cx}{σ:Nat→Option OB}{s:St}{a:Act}{w:World}
def EL (ak:List (Nat×TI))(s:St)(d:Option Tmp)(t:TypeId)(x y:Operand):Option St:=
 match dE ak t,ev s x,ev s y with
 | some (.sl e),some (.bl o off n),some q=>
  match assoc ak e,cells? s q,assoc s.heap o with
  | some ie,some (news,m),some ob=>
   if 0<n∧news.length=m*ie.size∧off+n*ie.size≤ob.cells.length then
    some (St.put { s with heap:=rF s.heap o { ob with cells:=fD ob.cells off (news.take ((min m n)*ie.size)) } } d (.int .i64 (min m n:Nat)))
   else none
  | _,_,_=>none
 | _,_,_=>none
theorem Jj {ak:List (Nat×TI)}(ht:aG P ak)(h:aM C σ s a w){o:Oper}{cl:Call}{t t':TypeId}{x y:Operand}(hd:∀ t,o.dst=some t→t<a.tmps.size)(ho:o.op=.call cl)(O7:cl.callee=.builtin .copy)(O4:cl.args=#[x,y])(QC:cl.argTypes=#[t,t'])
  {s':St} (hc:EL ak s o.dst t x y=some s'):∃ z w',(execOp a.eval o).run P w=.ok (.value z) w'∧Rel C s' (a.put o.dst z) w':=by
 unfold EL at hc;split at hc
 ·rename_i e o' off n q PB hp hq;obtain⟨it,PG,PB⟩:=Option.map_eq_some_iff.1 PB;split at hc
  ·rename_i ie news m ob O6 PE QX;split at hc
   ·rename_i hb;obtain⟨q1,q3,q4⟩:=hb;cases hc;obtain⟨f,z,g1,g2,_⟩:=(ht e ie O6).info;have hu:=dJ (ht t it PG) PB;obtain⟨us,u1,u2,u3⟩:=cells?_ok h (bK h hq) PE;have ul:=aS.length _ _ u1;have hx:=bK h hp;simp only[VR] at hx;obtain⟨B,hB,hx⟩:=hx;obtain⟨B0,e1,e2,_,e4,e5⟩:=h.obj _ ob QX;rw[hB] at e1;cases e1;split at hx
    ·obtain⟨_,_,h0⟩:=hx;omega
    rename_i b R0;obtain⟨cap,ex,c1,c2,c3,c4⟩:=hx;obtain⟨cur,n1,n2,n3,n4,n5,n6⟩:=e5 b R0;have hk:(us.take ((min m n)*ie.size)).length=min m n*ie.size:=by
     rw[List.length_take,ul,q3];have:min m n*ie.size≤m*ie.size:=Nat.mul_le_mul_right _ (Nat.min_le_left _ _);omega
    have X1:min m n*ie.size≤n*ie.size:=Nat.mul_le_mul_right _ (Nat.min_le_right _ _);have u1':=aS.take ((min m n)*ie.size) _ _ u1;have u2':(news.take ((min m n)*ie.size)).all one=true:=by
     rw[List.all_eq_true] at u2 ⊢;exact fun x hx=>u2 x (List.mem_of_mem_take hx)
    have Pw:=run_storeCells_at P b off ob.elem (us.take ((min m n)*ie.size)) 0 cur w n1 (by rw[hk];omega) (aS.iG _ _ u2' u1');simp only[Nat.add_zero] at Pw;have Qe:(news.take ((min m n)*ie.size)).length=min m n*ie.size:=by rw[← aS.length _ _ u1',hk]
    have hw:=h.write QX hB R0 (QQ:=fD ob.cells off (news.take ((min m n)*ie.size))) (Ve:=cur.toList.take off++us.take ((min m n)*ie.size)++cur.toList.drop (off+(us.take ((min m n)*ie.size)).length)) (by simp[hk];omega)
     (by rw[fL _ _ _ yA];simp[hk];omega) (by
      rw[fL _ _ _ yA];have:=uA n6 off u1';have ee:(cur.toList.take off++us.take ((min m n)*ie.size)++cur.toList.drop (off+(us.take ((min m n)*ie.size)).length)).take ob.cells.length =
        (cur.toList.take ob.cells.length).take off++us.take ((min m n)*ie.size)++(cur.toList.take ob.cells.length).drop (off+(us.take ((min m n)*ie.size)).length):=by
       have O7:ob.cells.length≤cur.toList.length:=by simpa using n5
       generalize us.take ((min m n)*ie.size)=vs at *;rw[List.take_append,List.take_append];simp only[List.length_append,List.length_take,List.take_take,List.drop_take];rw[Nat.min_eq_right (show off≤ob.cells.length by omega),Nat.min_eq_left (show off≤cur.toList.length by omega),List.take_of_length_le (show vs.length≤ob.cells.length-off by omega)];congr 2
       ·rw[Nat.min_eq_left (show off≤ob.cells.length by omega)]
      rw[ee];exact this) (qO off e4 u2')
    refine⟨.int .i64 (min m n:Nat),_,?_,_,hw.put hd (dM _ _)⟩;have Xl:∀ k,k=min m n→(Builtin.firstCells ie.size k (a.eval y)).run P w=.ok (us.take (k*ie.size)).toArray w:=by
     rintro k rfl;rcases u3 with ⟨c,e,rfl,rfl⟩ | ⟨ad,c,e,QH⟩
     ·simp[e,Builtin.firstCells]
     ·rw[e];exact run_firstCells_some (P:=P) w ie.size _ ad m c _ hk fun j x hx=>by
       rw[List.getElem?_take] at hx;split at hx
       ·exact QH j x hx
       ·cases hx
    have hlen:(Builtin.lenOf (a.eval y)).run P w=.ok m w:=by
     rcases u3 with ⟨c,e,rfl,rfl⟩ | ⟨ad,c,e,QH⟩<;>simp[e,Builtin.lenOf]
    have TV:Nat.min m n=min m n:=rfl;simp only[execOp,ho,resolve,O7,O4,QC,Sem.run_bind,Sem.run_pure,Result.andThen_ok,invoke,builtin,Builtin.copy_,List.map_toArray,List.map_cons,List.map_nil];simp only[List.getElem?_toArray,List.getElem?_cons_zero,List.getElem?_cons_succ,Sem.run_bind,bu hu,ex,Result.andThen_ok,hlen,cP g1,g2,TV,Xl _ rfl,Pw,Sem.run_pure,goInt]
   ·cases hc
  ·cases hc
 ·cases hc
theorem Ae {α:Type}:∀ (l:List (Nat×α)) (t:Nat) (x:α),assoc l t=some x→rF l t x=l
 | [],_,_,h=>by simp[assoc] at h
 | (k,v)::r,t,x,h=>by
  simp only[assoc] at h;simp only[rF];split at h
  ·rename_i e;cases h;rw[if_pos e]
  ·rename_i e;rw[if_neg e,Ae r t x h]
def zT (ak:List (Nat×TI))(s:St)(d:Option Tmp)(t:TypeId)(x:Operand):Option St:=
 match dE ak t,ev s x with
 | some (.sl e),some (.bl o off n)=>
  match assoc ak e,assoc s.heap o with
  | some ie,some ob=>
   if ob.sz=ie.size∧off+n*ie.size≤ob.cells.length then
    some (St.put { s with heap:=rF s.heap o { ob with cells:=fD ob.cells off (bb ie.zero n) } } d (.dS []))
   else none
  | _,_=>none
 | some (.sl _),some .aa=>some (s.put d (.dS []))
 | _,_=>none
theorem F8 {ak:List (Nat×TI)}(ht:aG P ak)(h:aM C σ s a w){o:Oper}{cl:Call}{t:TypeId}{x:Operand}(hd:∀ t,o.dst=some t→t<a.tmps.size)(ho:o.op=.call cl)(O7:cl.callee=.builtin .clear)(O4:cl.args=#[x])(QC:cl.argTypes=#[t])
  {s':St} (hc:zT ak s o.dst t x=some s'):∃ z w',(execOp a.eval o).run P w=.ok (.value z) w'∧Rel C s' (a.put o.dst z) w':=by
 have XT:∀ {w':World} {d:Option Tmp} {s:St},VR w' (FB C σ s.heap) σ (.dS []) (.tuple #[]):=fun {w' d s}=>by
  simp only[VR];exact⟨[],rfl,rfl⟩
 unfold zT at hc;split at hc
 ·rename_i e o' off n PB hp;obtain⟨it,PG,PB⟩:=Option.map_eq_some_iff.1 PB;split at hc
  ·rename_i ie ob O6 QX;split at hc
   ·rename_i hb;obtain⟨q1,q2⟩:=hb;cases hc;obtain⟨f,z,g1,g2,_,g4,g5⟩:=(ht e ie O6).info;obtain⟨k1,k2⟩:=cW (w:=w) (F:=FB C σ s.heap) _ _ g5;have hu:=dJ (ht t it PG) PB;have hx:=bK h hp;simp only[VR] at hx;obtain⟨B,hB,hx⟩:=hx;obtain⟨B0,e1,e2,e3,e4,e5⟩:=h.obj _ ob QX;rw[hB] at e1;cases e1;have hzl:(bb ie.zero n).length=n*ie.size:=by rw[fv,(ht e ie O6).len]
    have none_case:n=0→rF s.heap o' { ob with cells:=fD ob.cells off (bb ie.zero n) }=s.heap:=fun hn=>by
     subst hn;have:fD ob.cells off (bb ie.zero 0)=ob.cells:=by simp[fD,bb]
     rw[this];exact Ae _ _ _ QX
    split at hx
    ·obtain⟨ex,rfl,rfl⟩:=hx;rw[none_case rfl];refine⟨.tuple #[],w,?_,_,h.put hd (XT (d:=none) (s:=s))⟩;simp only[execOp,ho,resolve,O7,O4,QC,Sem.run_bind,Sem.run_pure,Result.andThen_ok,invoke,builtin,Builtin.clear_,List.map_toArray,List.map_cons,List.map_nil];simp only[List.getElem?_toArray,List.getElem?_cons_zero,Sem.run_bind,bu hu,ex,Result.andThen_ok,Sem.run_pure]
    ·rename_i b R0;obtain⟨cap,ex,c1,c2,c3,c4⟩:=hx;obtain⟨cur,n1,n2,n3,n4,n5,n6⟩:=e5 b R0;by_cases hn:n=0
     ·subst hn;rw[none_case rfl];refine⟨.tuple #[],w,?_,_,h.put hd (XT (d:=none) (s:=s))⟩;simp only[execOp,ho,resolve,O7,O4,QC,Sem.run_bind,Sem.run_pure,Result.andThen_ok,invoke,builtin,Builtin.clear_,List.map_toArray,List.map_cons,List.map_nil];simp only[List.getElem?_toArray,List.getElem?_cons_zero,Sem.run_bind,bu hu,ex,Result.andThen_ok,Sem.run_pure]
     ·have O9:z.cells.size=ie.size:=by rw[← (ht e ie O6).len,← bW.length _ _ k1];simp
      have hz:=lG (σ:=σ) (aS.cz _ _ k1) n;have SZ:=jT k2 n;have hul:(Builtin.zeroCells z.cells n).toList=(madeCells z.cells (n*z.cells.size)).toList:=rfl;have hlen:(madeCells z.cells (n*z.cells.size)).toList.length=n*ie.size:=by simp[size_madeCells,O9]
      have Pw:=run_storeCells_at P b off ob.elem (madeCells z.cells (n*z.cells.size)).toList 0 cur w n1 (by rw[hlen];omega) (aS.iG _ _ SZ hz);simp only[Nat.add_zero] at Pw;have hw:=h.write QX hB R0 (QQ:=fD ob.cells off (bb ie.zero n)) (Ve:=cur.toList.take off++(madeCells z.cells (n*z.cells.size)).toList++cur.toList.drop (off+(madeCells z.cells (n*z.cells.size)).toList.length)) (by simp only[List.length_append,List.length_take,List.length_drop,hlen];simp;omega)
       (by rw[fL _ _ _ yA];simp only[List.length_append,List.length_take,List.length_drop,hlen];simp;omega) (by
        rw[fL _ _ _ yA];have:=uA n6 off hz;have ee:(cur.toList.take off++(madeCells z.cells (n*z.cells.size)).toList++cur.toList.drop (off+(madeCells z.cells (n*z.cells.size)).toList.length)).take ob.cells.length =
          (cur.toList.take ob.cells.length).take off++(madeCells z.cells (n*z.cells.size)).toList++(cur.toList.take ob.cells.length).drop (off+(madeCells z.cells (n*z.cells.size)).toList.length):=by
         have O7:ob.cells.length≤cur.toList.length:=by simpa using n5
         generalize (madeCells z.cells (n*z.cells.size)).toList=vs at *;rw[List.take_append,List.take_append];simp only[List.length_append,List.length_take,List.take_take,List.drop_take];rw[Nat.min_eq_right (show off≤ob.cells.length by omega),Nat.min_eq_left (show off≤cur.toList.length by omega),List.take_of_length_le (show vs.length≤ob.cells.length-off by omega)];congr 2
         ·rw[Nat.min_eq_left (show off≤ob.cells.length by omega)]
        rw[ee];exact this) (qO off e4 SZ)
      refine⟨.tuple #[],_,?_,_,hw.put hd (XT (d:=none) (s:={ s with heap:=rF s.heap o' { ob with cells:=fD ob.cells off (bb ie.zero n) } }))⟩;obtain⟨m,rfl⟩:∃ m,n=m+1:=⟨n-1,by omega⟩;simp only[execOp,ho,resolve,O7,O4,QC,Sem.run_bind,Sem.run_pure,Result.andThen_ok,invoke,builtin,Builtin.clear_,List.map_toArray,List.map_cons,List.map_nil];simp only[List.getElem?_toArray,List.getElem?_cons_zero,Sem.run_bind,bu hu,ex,Result.andThen_ok,jj g1 g4,hul,Pw,Sem.run_pure]
   ·cases hc
  ·cases hc
 ·rename_i e PB hp;obtain⟨it,PG,PB⟩:=Option.map_eq_some_iff.1 PB;cases hc;have hu:=dJ (ht t it PG) PB;have ex:=bK h hp;simp only[VR] at ex;refine⟨.tuple #[],w,?_,_,h.put hd (XT (d:=none) (s:=s))⟩;simp only[execOp,ho,resolve,O7,O4,QC,Sem.run_bind,Sem.run_pure,Result.andThen_ok,invoke,builtin,Builtin.clear_,List.map_toArray,List.map_cons,List.map_nil];simp only[List.getElem?_toArray,List.getElem?_cons_zero,Sem.run_bind,bu hu,ex,Result.andThen_ok,Sem.run_pure]
 ·cases hc
end
def a6 (nt:Nat)(d:Option Tmp):Bool:=match d with
 | some t=>decide (t<nt)
 | none=>true
def Hg (ak:List (Nat×TI))(s:St)(d:Option Tmp)(c:Call):Option St:=
 match c.callee with
 | .builtin .append=>match c.args.toList,c.argTypes.toList with
  | [x,y],[t,t']=>if t=t' then oS ak s d t x y else none
  | _,_=>none
 | .builtin .copy=>match c.args.toList,c.argTypes.toList with
  | [x,y],[t,_]=>EL ak s d t x y
  | _,_=>none
 | .builtin .clear=>match c.args.toList,c.argTypes.toList with
  | [x],[t]=>zT ak s d t x
  | _,_=>none
 | .builtin b=>(ig ak s b c.args.toList c.argTypes.toList).map (s.put d)
 | _=>none
def kV (ak:List (Nat×TI))(s:St)(o:Oper):Option St:=
 match o.op with
 | .store t x v=>(n8 ak s t x v).map (·.del o.dst)
 | .makeSlice t l c=>ED ak s o.dst t l c
 | .alloc e=>zU ak s o.dst e
 | .box e x=>Jk s o.dst e x
 | .buildSlice t len parts=>jt ak s o.dst t len parts.toList
 | .call c=>Hg ak s o.dst c
 | op=>(cY ak s op).map (s.put o.dst)
def mo (e:Option CV)(want:Bool):Option Bool:=match e with
 | some (.bool b)=>some (b == want)
 | some (.dS [])=>some false
 | _=>none
def fk (ak:List (Nat×TI))(nt:Nat)(ops:Array Oper)(s:St)(o:Oper):Option St:=
 if a6 nt o.dst then
  match o.guard with
  | none=>kV ak s o
  | some (j,want)=>match (ops[j]?).bind (·.dst) with
   | none=>none
   | some t=>match mo (assoc s.env t) want with
    | some true=>kV ak s o
    | some false=>some (s.put o.dst (.dS []))
    | none=>none
 else none
def ql (ak:List (Nat×TI))(nt:Nat)(ops:Array Oper):List Oper→St→Option St
 | [],s=>some s
 | o::r,s=>match fk ak nt ops s o with
  | some s'=>ql ak nt ops r s'
  | none=>none
section
variable {P:Program}{C:Cx}{s:St}{a:Act}{w:World}{ops:Array Oper}{ak:List (Nat×TI)}
theorem xq (ht:aG P ak)(h:Rel C s a w){o:Oper}(hd:a6 C.nt o.dst=true){s':St}(hs:kV ak s o=some s') :
  ∃ w',((∃ z,(execOp a.eval o).run P w=.ok (.value z) w'∧Rel C s' (a.put o.dst z) w')∨((execOp a.eval o).run P w=.ok .skip w'∧Rel C s' (a.put o.dst undef) w')):=by
 obtain⟨σ,h⟩:=h;have PB:∀ t,o.dst=some t→t<a.tmps.size:=fun t e=>by
  rw[h.tm];rw[e] at hd
  simpa [a6] using hd
 have quiet:∀ c,cY ak s o.op=some c→s.put o.dst c=s'→∃ w',((∃ z,(execOp a.eval o).run P w=.ok (.value z) w'∧Rel C s' (a.put o.dst z) w')∨((execOp a.eval o).run P w=.ok .skip w'∧Rel C s' (a.put o.dst undef) w')):=fun c hc e=>by
  obtain⟨z,k1,k2⟩:=zd ht h o hc;exact⟨w,.inl ⟨z,k1,σ,e ▸ h.put PB k2⟩⟩
 unfold kV at hs;split at hs
 ·rename_i t x v ho;obtain⟨s1,h1,rfl⟩:=Option.map_eq_some_iff.1 hs;obtain⟨w',k1,k2,_⟩:=yd ht h ho h1;exact⟨w',.inr ⟨k1,σ,k2.del undef⟩⟩
 ·rename_i t l c ho;obtain⟨z,w',k1,k2⟩:=Jd ht h PB ho hs;exact⟨w',.inl ⟨z,k1,k2⟩⟩
 ·rename_i e ho;obtain⟨z,w',k1,k2⟩:=Gb ht h PB ho hs;exact⟨w',.inl ⟨z,k1,k2⟩⟩
 ·rename_i e x ho;obtain⟨z,w',k1,k2⟩:=K8 (P:=P) h PB ho hs;exact⟨w',.inl ⟨z,k1,k2⟩⟩
 ·rename_i t len parts ho;obtain⟨z,w',k1,k2⟩:=vV ht h PB ho hs;exact⟨w',.inl ⟨z,k1,k2⟩⟩
 ·rename_i cl ho;unfold Hg at hs;split at hs
  ·rename_i O7;split at hs
   ·rename_i x y t t' ha QC;split at hs
    ·rename_i e;subst e;obtain⟨z,w',_,k1,k2⟩:=vW ht h PB ho O7 yCo yCm hs;exact⟨w',.inl ⟨z,k1,_,k2⟩⟩
    ·cases hs
   ·cases hs
  ·rename_i O7;split at hs
   ·rename_i x y t t' ha QC;obtain⟨z,w',k1,k2⟩:=Jj ht h PB ho O7 yCo yCm hs;exact⟨w',.inl ⟨z,k1,k2⟩⟩
   ·cases hs
  ·rename_i O7;split at hs
   ·rename_i x t ha QC;obtain⟨z,w',k1,k2⟩:=F8 ht h PB ho O7 yCo yCm hs;exact⟨w',.inl ⟨z,k1,k2⟩⟩
   ·cases hs
  ·rename_i b _ _ _ O7;obtain⟨c,hc,e⟩:=Option.map_eq_some_iff.1 hs;exact quiet c (by rw[ho];simp only[cY,O7];exact hc) e
  ·cases hs
 ·obtain⟨c,hc,e⟩:=Option.map_eq_some_iff.1 hs;exact quiet c hc e
theorem pF (h:Rel C s a w){j:Nat}{t:Tmp}{b:Bool}(hj:(ops[j]?).bind (·.dst)=some t)(he:assoc s.env t=some (.bool b)):yielded ops a.tmps j=some b:=by
 obtain⟨σ,h⟩:=h;obtain⟨v,h1,h2⟩:=h.env t _ he;simp only[VR] at h2;subst h2;simp[yielded,hj,h1]
theorem jU (h:Rel C s a w){o:Oper}{j:Nat}{want:Bool}{t:Tmp}{b:Bool}(hg:o.guard=some (j,want))(hj:(ops[j]?).bind (·.dst)=some t)(he:mo (assoc s.env t) want=some b):Region.wanted o (yielded ops a.tmps)=b:=by
 unfold mo at he;split at he
 ·rename_i b' hb;cases he;simp[Region.wanted,hg,pF h hj hb]
 ·rename_i hb;cases he;obtain⟨σ,h⟩:=h;obtain⟨v,h1,h2⟩:=h.env t _ hb;simp only[VR] at h2;obtain⟨vs,rfl,h3⟩:=h2;simp[Region.wanted,hg,yielded,hj,h1]
 ·cases he
theorem Rel.skip (h:Rel C s a w){d:Option Tmp}(hd:a6 C.nt d=true):Rel C (s.put d (.dS [])) (a.put d undef) w:=by
 obtain⟨σ,h⟩:=h;refine⟨σ,h.put (fun t e=>?_) ?_⟩
 ·rw[h.tm];rw[e] at hd
  simpa [a6] using hd
 ·exact⟨[],rfl,rfl⟩
def TL (P:Program)(C:Cx)(ops:Array Oper)(l:List Oper)(s:St)(K:St→Prop):Prop:=
 ∀ a w (Q:Exit→Act→World→Prop),Rel C s a w→(∀ s' a' w',K s'→Rel C s' a' w'→Q .normal a' w')→wpList P ops Q l a w
theorem TL.nil {K:St→Prop}(h:K s):TL P C ops [] s K:=fun _ _ _ hr hQ=>hQ _ _ _ h hr
theorem TL.step (ht:aG P ak){o:Oper}{l:List Oper}{K:St→Prop}{s':St}(hs:fk ak C.nt ops s o=some s')(h:TL P C ops l s' K):TL P C ops (o::l) s K:=by
 intro a w Q hr hQ;have run:∀ {s'},a6 C.nt o.dst=true→Region.wanted o (yielded ops a.tmps)=true→kV ak s o=some s'→TL P C ops l s' K→wpList P ops Q (o::l) a w:=fun {s'} hd hw hs h=>by
  unfold wpList;rw[if_pos hw];refine .inl ?_;obtain⟨w',h1 | h1⟩:=xq ht hr hd hs
  ·obtain⟨z,k1,k2⟩:=h1;unfold Oper.wp;rw[k1];exact h _ _ Q k2 hQ
  ·obtain⟨k1,k2⟩:=h1;unfold Oper.wp;rw[k1];exact h _ _ Q k2 hQ
 unfold fk at hs;split at hs
 ·rename_i hd;split at hs
  ·rename_i hg;exact run hd (by simp[Region.wanted,hg]) hs h
  ·rename_i j want hg;split at hs
   ·cases hs
   rename_i t hj;split at hs
   ·rename_i hb;exact run hd (jU hr hg hj hb) hs h
   ·rename_i hb;cases hs;unfold wpList;rw[if_neg (by simp[jU hr hg hj hb])];exact h _ _ Q (hr.skip hd) hQ
   ·cases hs
 ·cases hs
theorem TL.run (ht:aG P ak){K:St→Prop}:∀ {l:List Oper} {s s':St},ql ak C.nt ops l s=some s'→K s'→TL P C ops l s K
 | [],s,s',hs,hk=>by simp only[ql] at hs;cases hs;exact TL.nil hk
 | o::l,s,s',hs,hk=>by
  simp only[ql] at hs;split at hs
  ·rename_i s1 h1;exact TL.step ht h1 (TL.run ht hs hk)
  ·cases hs
def T (P:Program)(C:Cx)(c:Code)(s:St)(Q:Exit→St→Prop):Prop:=
 ∀ a w,Rel C s a w→c.wp P (fun e a' w'=>∃ s',Q e s'∧Rel C s' a' w') a w
def eU (K:St→Prop)(Q:Exit→St→Prop):Exit→St→Prop
 | .normal,s=>K s
 | e,s=>Q e s
theorem T.mono {c:Code}{Q Q':Exit→St→Prop}(h:T P C c s Q)(hq:∀ e s',Q e s'→Q' e s'):T P C c s Q':=fun a w hr=>
 wp_mono (h a w hr) fun e _ _ ⟨s',q,r⟩=>⟨s',hq e s' q,r⟩
theorem T.region {id:Nat}{l:List Oper}{Q:Exit→St→Prop}(h:TL P C l.toArray l s (Q .normal)):T P C (.region id l.toArray false) s Q:=fun a w hr=>
 wp_region_lit (h a w _ hr fun s' _ _ hk Pp=>⟨s',hk,Pp⟩)
theorem T.seq {x y:Code}{Q:Exit→St→Prop}(h:T P C x s (eU (fun s'=>T P C y s' Q) Q)):T P C (.seq x y) s Q:=fun a w hr=>
 wp_seq (wp_mono (h a w hr) fun e a' w' ⟨s',q,r⟩=>by
  cases e with
  | normal=>exact q a' w' r
  | _=>exact⟨s',q,r⟩)
theorem T.cond {c:Operand}{x y:Code}{b:Bool}{Q:Exit→St→Prop}(hc:ev s c=some (.bool b))(h:T P C (if b then x else y) s Q):T P C (.cond c x y) s Q:=fun a w hr=>by
 have hr0:=hr;obtain⟨σ,Pp⟩:=hr0;have:=bK Pp hc;simp only[VR] at this;exact wp_cond this (h a w hr)
theorem T.skip {Q:Exit→St→Prop}(h:Q .normal s):T P C .skip s Q:=fun _ _ hr=>wp_skip ⟨s,h,hr⟩
theorem T.exit {id:Nat}{Q:Exit→St→Prop}(h:Q (.exit id) s):T P C (.exit id) s Q:=fun _ _ hr=>wp_exit ⟨s,h,hr⟩
theorem T.ret {Q:Exit→St→Prop}(h:Q .ret s):T P C .ret s Q:=fun _ _ hr=>wp_ret ⟨s,h,hr⟩
theorem T.label {l:Nat}{Q:Exit→St→Prop}(h:Q .normal s):T P C (.label l) s Q:=fun _ _ hr=>wp_label ⟨s,h,hr⟩
theorem T.goto {l:Nat}{Q:Exit→St→Prop}(h:Q (.goto l) s):T P C (.goto l) s Q:=fun _ _ hr=>wp_goto ⟨s,h,hr⟩
def og (id:Nat)(Q:Exit→St→Prop):Exit→St→Prop
 | .exit i,s=>if i=id then Q .normal s else Q (.exit i) s
 | e,s=>Q e s
theorem T.block {id:Nat}{c:Code}{Q:Exit→St→Prop}(h:T P C c s (og id Q)):T P C (.block id c) s Q:=fun a w hr=>
 wp_block (wp_mono (h a w hr) fun e a' w' ⟨s',q,r⟩=>by
  cases e with
  | exit i=>
   simp only[Exit.inBlock,og] at q ⊢;split
   ·rename_i e;rw[if_pos e] at q;exact⟨s',q,r⟩
   ·rename_i e;rw[if_neg e] at q;exact⟨s',q,r⟩
  | _=>exact⟨s',q,r⟩)
theorem B6 {c:Code}{Q:Exit→Act→World→Prop}(I:Nat→Act→World→Prop){n:Nat}(h₀:I n a w)
  (round:∀ n a w,I n a w→c.wp P (Exit.then (fun a' w'=>∃ m,m<n∧I m a' w') Q) a w):(Code.loop c).wp P Q a w:=by
 classical
 have hx:∀ a w,(∃ n,I n a w)→∃ n,I n a w∧∀ m,I m a w→n≤m:=fun a w ⟨n,hn⟩=>by
  induction n using Nat.strongRecOn with
  | _ n ih=>
   by_cases h:∃ m,m<n∧I m a w
   ·obtain⟨m,hm,hi⟩:=h;exact ih m hm hi
   ·exact⟨n,hn,fun m hm=>Nat.le_of_not_lt fun O1=>h ⟨m,O1,hm⟩⟩
 let μ:Act→World→Nat:=fun a w=>if h:∃ n,I n a w then (hx a w h).choose else 0
 have hμ:∀ a w (h:∃ n,I n a w),I (μ a w) a w∧∀ m,I m a w→μ a w≤m:=fun a w h=>by
  simp only[μ,dif_pos h];exact (hx a w h).choose_spec
 refine wp_loop (fun a w=>∃ n,I n a w) μ ⟨n,h₀⟩ fun a w hI=>?_;refine wp_mono (round (μ a w) a w (hμ a w hI).1) fun e a' w' q=>?_
 cases e with
 | normal=>
  obtain⟨m,hm,hi⟩:=q;exact⟨⟨m,hi⟩,Nat.lt_of_le_of_lt ((hμ a' w' ⟨m,hi⟩).2 m hi) hm⟩
 | _=>exact q
theorem T.loop {c:Code}{Q:Exit→St→Prop}(I:Nat→St→Prop){n:Nat}(h₀:I n s)(round:∀ n s,I n s→T P C c s (eU (fun s'=>∃ m,m<n∧I m s') Q)):T P C (.loop c) s Q:=fun a w hr=>
 B6 (fun n a w=>∃ s,I n s∧Rel C s a w) ⟨s,h₀,hr⟩ fun n a w ⟨s,hi,hr⟩=>wp_mono (round n s hi a w hr) fun e a' w' ⟨s',q,r⟩=>by
  cases e with
  | normal=>obtain⟨m,hm,hi⟩:=q;exact⟨m,hm,s',hi,r⟩
  | _=>exact⟨s',q,r⟩
end
def iR (P : Program) (f : FuncId) : Prop := ∃ fn, P.funcs[f]? = some fn ∧ (fn.name == "runtime.NumGoroutine") = false ∧ fn.body.isNone = false
def af (P:Program)(f:FuncId)(args:List CV)(r:CV):Prop:=
 iR P f∧∀ (F:Nat→Prop) (vs:List Value) (w:World),(∀ b,F b→b<w.heap.size)→bW w F args vs →
  Calls P f vs.toArray w fun e w'=>∃ v,e=.returned v∧Below w.heap.size w w'∧cq w' F r v
mutual
/-- No memory in it. -/
def scalar:CV→Bool
 | .int _ _=>true
 | .bool _=>true
 | .str _=>true
 | .aa=>true
 | .bL=>true
 | .cA=>true
 | .agg cs=>iW cs
 | .dS cs=>iW cs
 | _=>false
def iW:List CV→Bool
 | []=>true
 | c::cs=>scalar c && iW cs
end
mutual
theorem cq.scalar {w w':World}{F F':Nat→Prop}:∀ (c:CV) (v:Value),Can.scalar c=true→cq w F c v→cq w' F' c v
 | .int _ _,_,_,h=>by simpa [cq] using h
 | .bool _,_,_,h=>by simpa [cq] using h
 | .str _,_,_,h=>by simpa [cq] using h
 | .aa,_,_,h=>by simpa [cq] using h
 | .bL,_,_,h=>by simpa [cq] using h
 | .cA,_,_,h=>by simpa [cq] using h
 | .agg cs,v,hs,h=>by
  simp only[cq,Can.scalar] at h hs ⊢;obtain⟨vs,e,r,h1⟩:=h;exact⟨vs,e,bW.scalar cs vs hs r,h1⟩
 | .dS cs,v,hs,h=>by
  simp only[cq,Can.scalar] at h hs ⊢;obtain⟨vs,e,r⟩:=h;exact⟨vs,e,bW.scalar cs vs hs r⟩
 | .aA _ _,_,hs,_=>by simp[Can.scalar] at hs
 | .cG _,_,hs,_=>by simp[Can.scalar] at hs
 | .fn _ _,_,hs,_=>by simp[Can.scalar] at hs
 | .iface _ _,_,hs,_=>by simp[Can.scalar] at hs
 | .iter _ _ _,_,hs,_=>by simp[Can.scalar] at hs
 | .mp _ _,_,hs,_=>by simp[Can.scalar] at hs
 | .bl _ _ _,_,hs,_=>by simp[Can.scalar] at hs
 | .ax _ _,_,hs,_=>by simp[Can.scalar] at hs
theorem bW.scalar {w w':World}{F F':Nat→Prop}:∀ (cs:List CV) (vs:List Value),iW cs=true→bW w F cs vs→bW w' F' cs vs
 | [],_,_,h=>by simpa [bW] using h
 | c::cs,vs,hs,h=>by
  simp only[bW,iW,Bool.and_eq_true] at h hs ⊢;obtain⟨v,r,e,h1,h2⟩:=h;exact⟨v,r,e,cq.scalar c v hs.1 h1,bW.scalar cs r hs.2 h2⟩
end
def AZ (s:St):CV→Option CV
 | .bl o off n=>match assoc s.heap o with
  | some ob=>if trees ob.cells then some (.aA ((ob.cells.drop off).take (n*ob.sz)) n) else none
  | none=>none
 | .ax o off=>match assoc s.heap o with
  | some ob=>if trees ob.cells then some (.cG (ob.cells.drop off)) else none
  | none=>none
 | c=>if tree c then some c else none
def nV (s:St):List CV→Option (List CV)
 | []=>some []
 | c::cs=>match AZ s c,nV s cs with
  | some d,some ds=>some (d::ds)
  | _,_=>none
section
variable {P:Program}{C:Cx}{σ:Nat→Option OB}{s:St}{a:Act}{w:World}{ops:Array Oper}{ak:List (Nat×TI)}
theorem aM.below (h:aM C σ s a w){w':World}(hb:Below w.heap.size w w'):aM C σ s a w':=by
 have hg:w.grownBy w' none:=⟨hb.os,hb.tape,hb.output,hb.size,fun k hk _=>hb.block k hk⟩;have hk:cw w w' (FB C σ s.heap) (FB C σ s.heap):=kI hg (fun b e=>by cases e) fun b hb=>.inl hb;refine⟨h.nk,h.tm,hg.os.trans h.os,hg.tape.trans h.tape,hg.output.trans h.output,Nat.le_trans h.size hg.size,?_,?_,?_,h.inj,h.nx,h.fh,h.low,h.new⟩
 ·intro b Po Pv;rw[hb.block b (Nat.lt_of_lt_of_le Po h.size)];exact h.frame b Po Pv
 ·intro t c hc;obtain⟨v,k1,k2⟩:=h.env t c hc;exact⟨v,k1,VR.bk hk c v (fun _ _=>rfl) k2⟩
 ·intro o ob ho;obtain⟨B,m1,m2,m3,m4,m5⟩:=h.obj o ob ho;refine⟨B,m1,m2,m3,m4,fun b Po=>?_⟩;obtain⟨cur,n1,n2,n3,n4,n5,n6⟩:=m5 b Po;exact⟨cur,by rw[hb.block b (Array.getElem?_eq_some_iff.1 n1).1];exact n1,n2,n3,n4,n5,aS.bk hk _ _ (fun _ _=>rfl) n6⟩
theorem wF (h:aM C σ s a w):∀ b,FB C σ s.heap b→b<w.heap.size:=by
 rintro b (hb | ⟨o,ob,ho,hb⟩)
 ·exact Nat.lt_of_lt_of_le (C.hF b hb) h.size
 ·obtain⟨B',m1,_,_,_,m5⟩:=h.obj o ob ho;obtain⟨cur,n1,_⟩:=m5 b XH;exact (Array.getElem?_eq_some_iff.1 n1).1
theorem gg {F:Nat→Prop}:∀ (cs:List CV) (us:List Value) (ad:Addr),bW w F cs us→cs.all one=true→¬ F ad.block→(∀ j u,us[j]? = some u→w.cell? (ad.add j)=some u)→gD w F cs ad
 | [],_,_,_,_,_,_=>by simp[gD]
 | c::cs,us,ad,hr,h1,hF,hc=>by
  simp only[bW] at hr;obtain⟨v,r,rfl,h2,h3⟩:=hr;simp only[List.all_cons,Bool.and_eq_true] at h1;simp only[gD];refine⟨⟨v,by have:=hc 0 v rfl;rwa [add_zero] at this,hF,h2⟩,h1.1,gg cs r _ h3 h1.2 (by rw[Gj];exact hF) fun j u hu=>?_⟩;rw[add_add,Nat.add_comm];exact hc (j+1) u (by simpa using hu)
theorem KI (h:aM C σ s a w){c d:CV}{v:Value}(hv:VR w (FB C σ s.heap) σ c v)(hl:AZ s c=some d):cq w C.F d v:=by
 have hk:cw w w (FB C σ s.heap) C.F:=⟨fun ad u hf hu=>⟨hu,fun hF=>hf (.inl hF)⟩,fun r _ hf hu _=>⟨hu,fun hF=>hf (.inl hF)⟩⟩;have obj:∀ {o ob B b},assoc s.heap o=some ob→σ o=some B→B.kj=some b→trees ob.cells=true→∀ k,gD w C.F (ob.cells.drop k) ⟨b,k,none⟩:=fun {o ob B b} ho hB hb ht k=>by
  obtain⟨B',e1,_,_,e4,e5⟩:=h.obj o ob ho;rw[hB] at e1;cases e1;obtain⟨cur,k1,k2,k3,k4,k5,k6⟩:=e5 b hb;have h1:=bW.bk hk.1 _ _ (aS.ec _ _ ht k6);have h2:gD w C.F ob.cells ⟨b,0,none⟩:=gg _ _ _ h1 e4 k3 fun j u hu=>by
   rw[add_lit,Nat.zero_add,cell_of_row w b j cur _ _ k1];rw[List.getElem?_take] at hu;split at hu
   ·simpa using hu
   ·cases hu
  have:=h2.drop k;rwa [add_lit,Nat.zero_add] at this
 unfold AZ at hl;split at hl
 ·rename_i o off n;split at hl
  ·rename_i ob ho;split at hl
   ·rename_i ht;cases hl;simp only[VR] at hv;obtain⟨B,hB,hv⟩:=hv;split at hv
    ·obtain⟨rfl,rfl,rfl⟩:=hv;simp only[cq];exact⟨none,0,rfl,Nat.le_refl _,Nat.zero_le _,.inl ⟨trivial,by simp⟩⟩
    ·rename_i b hb;obtain⟨cap,rfl,h1,h2,_⟩:=hv;simp only[cq];exact⟨_,cap,rfl,h1,h2,.inr ⟨_,rfl,gD.take _ _ _ (obj ho hB hb ht off)⟩⟩
   ·cases hl
  ·cases hl
 ·rename_i o off;split at hl
  ·rename_i ob ho;split at hl
   ·rename_i ht;cases hl;simp only[VR] at hv;obtain⟨B,b,hB,hb,rfl⟩:=hv;simp only[cq];exact⟨_,rfl,obj ho hB hb ht off⟩
   ·cases hl
  ·cases hl
 ·split at hl
  ·rename_i ht;cases hl;exact cq.bk hk.1 _ _ (VR.ec _ _ ht hv)
  ·cases hl
theorem vA (h:aM C σ s a w):∀ (cs ds:List CV) (vs:List Value),aS w (FB C σ s.heap) σ cs vs→nV s cs=some ds→bW w C.F ds vs
 | [],ds,vs,hv,hl=>by simp only[nV] at hl;cases hl;simpa [aS,bW] using hv
 | c::cs,ds,vs,hv,hl=>by
  simp only[nV] at hl;split at hl
  ·rename_i d ds' h1 h2;cases hl;simp only[aS,bW] at hv ⊢;obtain⟨v,r,e,k1,k2⟩:=hv;exact⟨v,r,e,KI h k1 h1,vA h cs ds' r k2 h2⟩
  ·cases hl
def bm (s:St)(c:Call):Option (FuncId×List CV):=
 match c.callee with
 | .value f=>match ev s f,z8 s c.args.toList with
  | some (.fn g QF),some cs=>some (g,cs++QF)
  | _,_=>none
 | _=>none
def bN (P:Program)(s:St)(c:Call)(r:CV):Prop:=
 ∃ g cs,bm s c=some (g,cs)∧((trees cs=true∧af P g cs r)∨∃ ds,nV s cs=some ds∧af P g ds r∧scalar r=true)
theorem wG (h:aM C σ s a w){o:Oper}{c:Call}(ho:o.op=.call c){r:CV}(hc:bN P s c r)(K:Act→World→Prop)(Q:Exit→Act→World→Prop)
  (hK:∀ v w',aM C σ s a w'→VR w' (FB C σ s.heap) σ r v→K (a.put o.dst v) w'):o.wp P a w K Q:=by
 obtain⟨g,cs,Ps,hp⟩:=hc;unfold bm at Ps;split at Ps
 ·rename_i f Rl;split at Ps
  ·rename_i g' QF QQ hf PE;cases Ps;have X3:=bK h hf;simp only[VR] at X3;obtain⟨us,e,hu⟩:=X3;have O4:=pW h _ _ PE;have Pt:=aS.append _ _ _ _ O4 hu;have Vy:∀ {cs},af P g cs r→(execOp a.eval o).run P w=.ok (.enter g (c.args.toList.map a.eval++us).toArray) w:=fun hp=>by
    obtain⟨⟨fn,h1,h2,h3⟩,_⟩:=hp;have e2:(c.args.toList.map a.eval).toArray=c.args.map a.eval:=by rw[← List.map_toArray]
    simp only[execOp,ho,resolve,Rl,e,Deferred.ofValue,Sem.run_bind,Sem.run_pure,Result.andThen_ok,invoke,callFunc,run_program,h1,h2,h3,Bool.false_eq_true,if_false];rw[← e2];simp
   rcases hp with ⟨ht,hp⟩ | ⟨ds,hl,hp,Vm⟩
   ·unfold Oper.wp;rw[Vy hp];refine (hp.2 (FB C σ s.heap) _ w (wF h) (aS.ec _ _ ht Pt)).mono fun e w' ⟨v,he,hb,hv⟩=>?_;subst he;exact hK v w' (h.below hb) (VR.cz _ _ hv)
   ·unfold Oper.wp;rw[Vy hp];refine (hp.2 C.F _ w (fun b hb=>Nat.lt_of_lt_of_le (C.hF b hb) h.size) (vA h _ _ _ Pt hl)).mono fun e w' ⟨v,he,hb,hv⟩=>?_;subst he;exact hK v w' (h.below hb) (VR.cz _ _ (cq.scalar _ _ Vm hv))
  ·cases Ps
 ·cases Ps
theorem TL.call {o:Oper}{l:List Oper}{c:Call}{r:CV}{K:St→Prop}(hd:a6 C.nt o.dst=true)(hg:o.guard=none)(ho:o.op=.call c)(hc:bN P s c r)(h:TL P C ops l (s.put o.dst r) K):TL P C ops (o::l) s K:=by
 intro a w Q hr hQ;obtain⟨σ,hr⟩:=hr;unfold wpList;rw[if_pos (by simp[Region.wanted,hg])];refine .inl (wG hr ho hc _ _ fun v w' Pp hv=>h _ _ Q ⟨σ,Pp.put ?_ hv⟩ hQ);intro t e;rw[Pp.tm];rw[e] at hd
 simpa [a6] using hd
theorem TL.cm {o:Oper}{l:List Oper}{c:Call}{r:CV}{K:St→Prop}{j:Nat}{want:Bool}{t:Tmp}(hd:a6 C.nt o.dst=true)(hg:o.guard=some (j,want))(hj:(ops[j]?).bind (·.dst)=some t)(ht:assoc s.env t=some (.bool want))(ho:o.op=.call c)(hc:bN P s c r)(h:TL P C ops l (s.put o.dst r) K) :
  TL P C ops (o::l) s K:=by
 intro a w Q hr hQ;have hy:=pF hr hj ht;obtain⟨σ,hr⟩:=hr;unfold wpList;rw[if_pos (by simp[Region.wanted,hg,hy])];refine .inl (wG hr ho hc _ _ fun v w' Pp hv=>h _ _ Q ⟨σ,Pp.put ?_ hv⟩ hQ);intro t e;rw[Pp.tm];rw[e] at hd
 simpa [a6] using hd
def enter (args:List CV):St:={ env:=args.zipIdx.map (fun x=>(x.2,x.1)),heap:=[],nx:=0 }
theorem fw:∀ (args:List CV) (k t:Nat) (c:CV),assoc ((args.zipIdx k).map fun x=>(x.2,x.1)) t=some c→k≤t∧args[t-k]? = some c
 | [],_,_,_,h=>by simp[assoc] at h
 | x::args,k,t,c,h=>by
  simp only[List.zipIdx_cons,List.map_cons,assoc] at h;split at h
  ·rename_i e;subst e;cases h;exact⟨Nat.le_refl _,by simp⟩
  ·rename_i e;obtain⟨h1,h2⟩:=fw args (k+1) t c h;refine⟨by omega,?_⟩;rw[show t-k=(t-(k+1))+1 by omega]
   simpa using h2
def pz (ak:List (Nat×TI))(s:St):ResultVar→Option CV
 | .tmp t=>assoc s.env t
 | .cell a ty=>match assoc s.env a,assoc ak ty with
  | some c,some i=>match fJ s c with
   | some cs=>mW i cs
   | none=>none
  | _,_=>none
def kP (ak:List (Nat×TI))(s:St):List ResultVar→Option (List CV)
 | []=>some []
 | r::rs=>match pz ak s r,kP ak s rs with
  | some c,some cs=>some (c::cs)
  | _,_=>none
def nR:List CV→CV
 | [c]=>c
 | cs=>.dS cs
def bG (ak:List (Nat×TI))(f:Func)(s:St):Option CV:=match kP ak s f.results.toList with
 | some cs=>some (nR cs)
 | none=>none
def xD (tmps:Array Value):ResultVar→Sem Value
 | .tmp t=>pure (tmps.getD t undef)
 | .cell a t=>do loadVar t (← asAddr (tmps.getD a undef))
theorem BB (ht:aG P ak)(h:aM C σ s a w):∀ (rs:List ResultVar) (cs:List CV),kP ak s rs=some cs→∃ vs,(rs.mapM (xD a.tmps)).run P w=.ok vs w∧aS w (FB C σ s.heap) σ cs vs
 | [],cs,hc=>by simp only[kP] at hc;cases hc;exact⟨[],by simp,by simp[aS]⟩
 | r::rs,cs,hc=>by
  simp only[kP] at hc;split at hc
  ·rename_i c QQ h1 h2;cases hc;obtain⟨vs,k1,k2⟩:=BB ht h rs QQ h2;have key:∃ v,(xD a.tmps r).run P w=.ok v w∧VR w (FB C σ s.heap) σ c v:=by
    cases r with
    | tmp t=>
     obtain⟨v,m1,m2⟩:=h.env t c h1;exact⟨v,by simp[xD,Array.getD_eq_getD_getElem?,m1],m2⟩
    | cell x ty=>
     simp only[pz] at h1;split at h1
     ·rename_i d i hd hi;split at h1
      ·rename_i cells hm;obtain⟨v,m1,m2⟩:=h.env x d hd;obtain⟨ad,rfl,Xt⟩:=AY h m2 hm;obtain⟨u,n1,n2⟩:=BG (P:=P) (ht ty i hi) Xt h1;exact⟨u,by simp[xD,Array.getD_eq_getD_getElem?,m1,asAddr,n1],n2⟩
      ·cases h1
     ·cases h1
   obtain⟨v,m1,m2⟩:=key;refine⟨v::vs,?_,?_⟩
   ·simp only[List.mapM_cons,Sem.run_bind,m1,k1,Result.andThen_ok,Sem.run_pure]
   ·simp only[aS];exact⟨v,vs,rfl,m2,k2⟩
  ·cases hc
theorem gW (ht:aG P ak)(h:aM C σ s a w){f:Func}{r:CV}(hr:bG ak f s=some r):∃ v,(results f a.tmps).run P w=.ok v w∧VR w (FB C σ s.heap) σ r v:=by
 unfold bG at hr;split at hr
 ·rename_i cs PE;cases hr;obtain⟨vs,k1,k2⟩:=BB ht h _ _ PE;have hl:=aS.length _ _ k2;have hm:(f.results.mapM (xD a.tmps)).run P w=.ok vs.toArray w:=by
   rw[Array.mapM_eq_mapM_toList];simp only[Sem.run_map,k1,Result.andThen_ok]
  have e:results f a.tmps=(do let vs ← f.results.mapM (xD a.tmps);pure (if h:vs.size=1 then vs[0] else .tuple vs)):=by
   unfold results;congr 1
  rw[e];simp only[Sem.run_bind,hm,Result.andThen_ok,Sem.run_pure];refine⟨_,rfl,?_⟩
  match cs,vs,hl,k2 with
  | [c],[v],_,k2=>
   simp only[aS] at k2;obtain⟨_,_,e,h1,_⟩:=k2;cases e
   simpa [nR] using h1
  | [],[],_,_=>simp[nR,VR,aS]
  | c::d::cs,v::u::vs,_,k2=>
   simp only[nR];rw[dif_neg OU];simp only[VR];exact⟨v::u::vs,rfl,k2⟩
 ·cases hr
def doneS (ak:List (Nat×TI))(f:Func)(r:CV):Exit→St→Prop
 | .normal,s=>bG ak f s=some r
 | .ret,s=>bG ak f s=some r
 | _,_=>False
theorem af.jA (Rp : aG P ak) {f : FuncId} {fn : Func} {c : Code} {args : List CV} {r : CV} (hf : P.funcs[f]? = some fn) (hb : fn.body = some c) (hn : (fn.name == "runtime.NumGoroutine") = false)
  (ha:args.length≤fn.ntmps) (ht:tree r=true) (h:∀ C:Cx,C.nt=fn.ntmps→C.n0=0→T P C c (enter args) (doneS ak fn r)):af P f args r:=by
 refine⟨⟨fn,hf,hn,by simp[hb]⟩,fun F vs w hF hv=>?_⟩;have hl:=bW.length _ _ hv;let C:Cx:=⟨w,F,fun _=>False,hF,fn.ntmps,fun _=>none,0⟩
 have h0:aM C (fun _=>none) (enter args) { tmps:=vs.toArray++Array.replicate (fn.ntmps-vs.toArray.size) undef,defers:=[] } w:=by
  refine⟨rfl,by simp[C];omega,rfl,rfl,rfl,Nat.le_refl _,fun _ _ _=>rfl,?_,?_,?_,fun _ _=>rfl,fun _ h=>absurd h (Nat.not_lt_zero _),Nat.zero_le _,fun _ _ _ _ h=>by cases h⟩
  ·intro t c hc;obtain⟨_,h2⟩:=fw args 0 t c hc;obtain⟨v,h3,h4⟩:=bW.get _ _ hv t c (by simpa using h2);refine⟨v,?_,VR.cz _ _ (cq.bk (cw.same fun b hb=>?_).1 c v h4)⟩
   ·have O1:=(List.getElem?_eq_some_iff.1 h3).1;simp only;rw[Array.getElem?_append_left (by simpa using O1)]
    simpa using h3
   ·rcases hb with hF | ⟨o,ob,ho,_⟩
    ·exact hF
    ·simp[enter,assoc] at ho
  ·intro o ob ho;simp[enter,assoc] at ho
  ·intro o o' ob Pk b ho;simp[enter,assoc] at ho
 refine calls_of_wp hf hb (wp_mono (h C rfl rfl _ _ ⟨_,h0⟩) fun e a' w' ⟨s',q,σ,hr⟩=>?_);have fin:bG ak fn s'=some r→a'.defers=[]∧∃ v,(results fn a'.tmps).run P w'=.ok v w'∧(∃ Sr,Ending.returned v=.returned Sr∧Below w.heap.size w w'∧cq w' F r Sr):=fun hq=>by
  obtain⟨v,k1,k2⟩:=gW (P:=P) Rp hr hq;refine⟨hr.nk,v,k1,v,rfl,⟨hr.os,hr.tape,hr.output,hr.size,fun k hk=>hr.frame k hk (fun hx=>hx)⟩,?_⟩;exact cq.bk (cw.same fun _ hF=>.inl hF).1 _ _ (VR.ec _ _ ht k2)
 cases e with
 | normal=>exact fin q
 | ret=>exact fin q
 | exit _=>exact q.elim
 | goto _=>exact q.elim
 | panic _=>exact q.elim
 | outgrown=>exact q.elim
end
theorem Fa {ak:List (Nat×TI)}{nt:Nat}{ops:Array Oper}{s:St}:ql ak nt ops [] s=some s:=rfl
theorem uP {ak:List (Nat×TI)}{nt:Nat}{ops:Array Oper}{o:Oper}{l:List Oper}{s:St}:ql ak nt ops (o::l) s=(fk ak nt ops s o).bind (ql ak nt ops l):=by
 simp only[ql];cases fk ak nt ops s o<;>rfl
def xM (K:St→Prop):Option St→Prop
 | some s=>K s
 | none=>False
end Go.Can
