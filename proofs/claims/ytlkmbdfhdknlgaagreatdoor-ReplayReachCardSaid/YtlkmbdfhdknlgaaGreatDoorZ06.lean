/- append onto a slice that is named again afterwards (in place -/
import Derived.Test.YtlkmbdfhdknlgaaGreatDoorZ05
namespace Go.Can
open Go.RowKit
section
variable {P:Program}{C:Cx}{σ:Nat→Option OB}{s:St}{a:Act}{w:World}{ops:Array Oper}{av:List (Nat×TI)}
theorem TL.some (ht:aF P av){K:St→Prop}:∀ (k:Nat) {l:List Oper} {s:St},Dl (fun s'=>TL P C ops (l.drop k) s' K) (wN av C.nt ops (l.take k) s)→TL P C ops l s K
 | 0,_,_,h=>h
 | k+1,[],_,h=>h
 | k+1,o::l,s,h=>by
  rw[List.take_succ_cons,uv] at h
  cases hs:gv av C.nt ops s o with
  | none=>rw[hs] at h;exact h.elim
  | some s'=>
   rw[hs] at h;exact TL.step ht hs (TL.some ht k h)
def St.cut (s:St)(o:Nat)(ob:Ob)(k:Nat):St:={ s with heap:=sy s.heap o { ob with cells:=ob.cells.take k } }
theorem Le.cut {s:St}{o:Nat}{ob:Ob}(k:Nat)(ho:assoc s.heap o=some ob):Le C s (s.cut o ob k):=by
 intro a w ⟨σ,h⟩;have Vb:∀ {p y},assoc (sy s.heap o { ob with cells:=ob.cells.take k }) p=some y→(p=o∧y={ ob with cells:=ob.cells.take k })∨(p≠o∧assoc s.heap p=some y):=fun {p y} hp=>by
  rw[e9] at hp;split at hp
  ·rename_i e;subst e;rw[ho] at hp;cases hp;exact .inl ⟨rfl,rfl⟩
  ·rename_i e;exact .inr ⟨Ne.symm e,hp⟩
 have hex:∀ {p y},assoc (sy s.heap o { ob with cells:=ob.cells.take k }) p=some y→∃ z,assoc s.heap p=some z:=fun {p y} hp=>by
  rcases Vb hp with ⟨rfl,_⟩ | ⟨_,hp⟩
  ·exact⟨_,ho⟩
  ·exact⟨_,hp⟩
 refine⟨σ,h.oA,h.tm,h.os,h.tape,h.output,h.size,h.frame,?_,?_,?_,h.nx,h.gO,h.low,h.new⟩
 ·intro t c hc;simp only[St.cut,pV];exact h.env t c hc
 ·intro p x hp;simp only[St.cut] at hp ⊢;rcases Vb hp with ⟨rfl,rfl⟩ | ⟨_,R1⟩
  ·obtain⟨B,m1,m2,m3,m4,m5⟩:=h.obj p ob ho;refine⟨B,m1,m2,fun hn=>by simp[m3 hn],?_,fun b hb=>?_⟩
   ·rw[List.all_eq_true] at m4 ⊢;exact fun x hx=>m4 x (List.mem_of_mem_take hx)
   ·obtain⟨cur,n1,n2,n3,n4,n5,n6⟩:=m5 b hb;refine⟨cur,n1,n2,n3,n4,by simp only[List.length_take];omega,?_⟩;simp only[pV];have:=aT.take k _ _ n6;rw[List.take_take] at this
    simpa only[List.length_take] using this
  ·obtain⟨B,m1,m2,m3,m4,m5⟩:=h.obj p x R1;refine⟨B,m1,m2,m3,m4,fun b hb=>?_⟩;obtain⟨cur,n1,n2,n3,n4,n5,n6⟩:=m5 b hb;exact⟨cur,n1,n2,n3,n4,n5,by simp only[pV];exact n6⟩
 ·intro p q x y b hp hq Sp Te;obtain⟨z1,Su⟩:=hex hp;obtain⟨z2,O0⟩:=hex hq;exact h.inj p q z1 z2 b Su O0 Sp Te
def App2 (s:St)(d:Option Tmp)(o n m:Nat)(ob:Ob)(news:List CV)(s':St):Prop:=
 s'=St.put { s with heap:=sy s.heap o { ob with cells:=ob.cells++news } } d (.bp o 0 (n+m))∨s'=(s.new ob.elem ob.sz (ob.cells++news)).put d (.bp s.nx 0 (n+m))
theorem app2_ok (ht:aF P av){o:Oper}{cl:Call}{t e:TypeId}{x y:Operand}{p n m:Nat}{q:CV}{ob:Ob}{ie:TI}{news:List CV}(hd:bt C.nt o.dst=true)(ho:o.op=.call cl)(Og:cl.callee=.builtin .append)(Of:cl.args=#[x,y])(PJ:cl.argTypes=#[t,t])
  (h1:dG av t=some (.sl e)) (h2:assoc av e=some ie) (h3:ev s x=some (.bp p 0 n)) (h4:ev s y=some q) (h5:cells? s q=some (news,m)) (h6:assoc s.heap p=some ob)
  (_b1:0<ie.size) (b2:0<ie.bytes) (b3:news.length=m*ie.size) (b4:ob.elem=e) (b5:ob.sz=ie.size) (b6:n*ie.size=ob.cells.length) (b7:(n+m)*ie.bytes≤140737488355328) (b8:0<m) :
  ∀ a w,Rel C s a w→∃ z w' s',(execOp a.eval o).run P w=.ok (.value z) w'∧App2 s o.dst p n m ob news s'∧Rel C s' (a.put o.dst z) w':=by
 rintro a w ⟨σ,h⟩;subst b4;have OM:∀ t,o.dst=some t→t<a.tmps.size:=fun t e=>by
  rw[h.tm];rw[e] at hd
  simpa [bt] using hd
 obtain⟨it,Oq,PZ⟩:=Option.map_eq_some_iff.1 h1;obtain⟨f,z,g1,g2,g3,g4,g5⟩:=(ht ob.elem ie h2).info;obtain⟨k1,k2⟩:=cS (w:=w) (F:=FB C σ s.heap) _ _ g5;have T6:z.cells.size=f.size:=by rw[g2,← (ht ob.elem ie h2).len,← bP.length _ _ k1];simp
 have hu:=dK (ht t it Oq) PZ;obtain⟨us,u1,u2,u3⟩:=cells?_ok h (bO h h4) h5;have ul:=aT.length _ _ u1;have uo:=aT.iA _ _ u2 u1;have hx:=bO h h3;have Pz:∀ {v' w'},(Builtin.append_ #[t,t] o.type #[a.eval x,a.eval y]).run P w=.ok v' w'→(execOp a.eval o).run P w=.ok (.value v') w':=fun {v' w'} hr=>by
  simp[execOp,ho,resolve,Og,Of,PJ,invoke,builtin,hr]
 have hm:n+m≤maxLen:=by
  have:n+m≤(n+m)*ie.bytes:=Nat.le_mul_of_pos_right _ b2;simp only[maxLen];omega
 have Wq:n+m≤9223372036854775807:=by simp only[maxLen] at hm;omega
 rcases u3 with ⟨c,_,Rx,_⟩ | ⟨ad,c,hy,OW⟩
 ·omega
 have Xs:us.length=m*f.size:=by rw[ul,b3,g2]
 -- what the growing arm leaves
 have grown:∀ (gO:Nat) (xs:List Value),xs.length=n*f.size→aT w (FB C σ s.heap) σ ob.cells xs →
   Rel C ((s.new ob.elem ob.sz (ob.cells++news)).put o.dst (.bp s.nx 0 (n+m))) (a.put o.dst (.slice (some ⟨w.heap.size,0,none⟩) (n+m) (grownCap w (n+m) gO ob.elem)))
    (w.drew.alloc (.cells (xs.toArray++us.toArray++Builtin.zeroCells z.cells (grownCap w (n+m) gO ob.elem-(n+m))) ob.elem)):=by
  intro gO xs xl xr;have Rn:=grownCap_ge w (n+m) gO ob.elem;have TN:grownCap w (n+m) gO ob.elem≤maxLen:=grownCap_le_maxLen w (n+m) gO ob.elem hm;have Oh:(xs.toArray++us.toArray++Builtin.zeroCells z.cells (grownCap w (n+m) gO ob.elem-(n+m))).size=grownCap w (n+m) gO ob.elem*f.size:=by
   simp only[Array.size_append,List.size_toArray,size_zeroCells,T6,xl,Xs,← Nat.add_mul];congr 1;omega
  obtain⟨_,_,_,_,m4,_⟩:=h.obj p ob h6;have hlen:(ob.cells++news).length=(xs++us).length:=by rw[List.length_append,List.length_append,← aT.length _ _ xr,ul]
  have Vn:=h.fresh (w':=w.drew.alloc (.cells (xs.toArray++us.toArray++Builtin.zeroCells z.cells (grownCap w (n+m) gO ob.elem-(n+m))) ob.elem)) (ob:=⟨ob.elem,ob.sz,ob.cells++news⟩) (B:=⟨some w.heap.size,grownCap w (n+m) gO ob.elem*f.size,ob.sz⟩)
   ⟨rfl,rfl,rfl,by simp,fun k hk _=>heap_alloc_old w.drew _ k hk⟩ rfl (by rw[List.all_append,m4,u2];rfl) (fun hn=>(by cases hn)) fun b hb=>by
    cases hb;refine⟨Nat.le_refl _,_,heap_alloc_new w.drew _,Oh,?_,?_⟩
    ·rw[Oh];show (ob.cells++news).length≤_;rw[hlen,List.length_append,xl,Xs,← Nat.add_mul];exact Nat.mul_le_mul_right _ Rn
    ·show aT w (FB C σ s.heap) σ (ob.cells++news) _;rw[show (⟨ob.elem,ob.sz,ob.cells++news⟩:Ob).cells.length=(xs++us).length from hlen];simp only[Array.toList_append];rw[List.take_append_of_le_length N3,List.take_of_length_le N3];exact aT.append _ _ _ _ xr u1
  refine⟨_,Vn.1.put OM ?_⟩;simp only[VR];refine⟨_,dr,grownCap w (n+m) gO ob.elem,rfl,Rn,TN,?_,fun _=>?_⟩
  ·rw[b5,g2];simp
  ·rw[b5,g2]
 simp only[VR] at hx;obtain⟨B,hB,hx⟩:=hx;obtain⟨B0,e1,e2,e3,e4,e5⟩:=h.obj p ob h6;rw[hB] at e1;cases e1;split at hx
 ·rename_i hn;obtain⟨hv,_,rfl⟩:=hx;have hr:=run_append_nil (P:=P) w t o.type ob.elem f z hu g1 g4 ad m c us Xs OW b8 yA (by
   have:=b7;rw[g3];simp only[Nat.zero_add] at this;omega)
  have hg:=grown 0 [] N3 (by rw[e3 hn];simp[aT]);rw[← hv,← hy] at hr;exact⟨_,_,_,Pz hr,.inr rfl,by simpa using hg⟩
 ·rename_i b Rq;obtain⟨cap,hv,c1,c2,c3,c4⟩:=hx;obtain⟨cur,n1,n2,n3,n4,n5,n6⟩:=e5 b Rq;have Qk:=c4 trivial;have OJ:cur.size=cap*f.size:=by rw[n2,← Qk,e2,b5,g2]
  have SG:(cur.toList.take ob.cells.length).length=n*f.size:=by
   rw[List.length_take,g2,← b6];have:n*ie.size≤cap*ie.size:=Nat.mul_le_mul_right _ c1;rw[g2] at OJ;simp;omega
  by_cases Qo:n+m≤cap
  ·have SL:n*f.size+us.length≤cur.size:=by rw[Xs,OJ,← Nat.add_mul];exact Nat.mul_le_mul_right _ Qo
   have hr:=run_append_room (P:=P) w t o.type ob.elem f hu g1 b n cap cur n1 ad m c us Xs OW uo Qo SL;rw[← hv,← hy] at hr;have Rb:n*f.size=ob.cells.length:=by rw[g2];exact b6
   have Yp:=h.write h6 hB Rq (PO:=ob.cells++news) (UK:=cur.toList.take (n*f.size)++us++cur.toList.drop (n*f.size+us.length)) (by
     simp only[List.length_append,List.length_take,List.length_drop,Array.length_toList];omega) (by
     simp only[List.length_append,List.length_take,List.length_drop,Array.length_toList];omega) (by
     have O7:(ob.cells++news).length=(cur.toList.take (n*f.size)++us).length:=by
      rw[Rb,List.length_append,List.length_append,SG,ul,Rb]
     rw[O7,List.take_append_of_le_length (Nat.le_refl _),List.take_of_length_le (Nat.le_refl _),Rb];exact aT.append _ _ _ _ n6 u1) (by rw[List.all_append,e4,u2];rfl)
   refine⟨_,_,_,Pz hr,.inl rfl,σ,Yp.put OM ?_⟩;simp only[VR];refine⟨B,hB,?_⟩;rw[Rq];refine⟨cap,rfl,Qo,c2,?_,fun _=>Qk⟩;simp only[Nat.zero_add];omega
  ·have holds:∀ j u,(cur.toList.take ob.cells.length)[j]? = some u→w.cell? ((⟨b,0,none⟩:Addr).add j)=some u:=fun j u hu=>by
    rw[add_lit,Nat.zero_add,cell_of_row w b j cur _ _ n1];rw[List.getElem?_take] at hu;split at hu
    ·simpa using hu
    ·cases hu
   have hr:=run_append_grow (P:=P) w t o.type ob.elem f z hu g1 g4 ⟨b,0,none⟩ n cap _ SG holds ad m c us Xs OW yA yA (growslice_fits yA (by rw[g3];exact b7));rw[← hv,← hy] at hr;exact⟨_,_,_,Pz hr,.inr rfl,grown cap _ SG n6⟩
end
end Go.Can
/- append of made zeros onto an own slice. No function of the program is mentioned here. -/
namespace Go.Can
open Go.RowKit
section
variable {P:Program}{C:Cx}{σ:Nat→Option OB}{s:St}{a:Act}{w:World}{ops:Array Oper}{av:List (Nat×TI)}
theorem F4 {m:Nat}(h:m≤9223372036854775807):IntKind.i64.wrap (m:Int)=m:=by
 simp[IntKind.wrap,IntKind.signed,IntKind.bits];omega
theorem rD (t it ty e:TypeId)(i:TypeInfo)(z:Value)(size bytes:Nat)(ht:P.underlying t=some (.slice e))(Oq:P.underlying it=some (.int .i64))(hi:P.info? e=some i)(hz:i.zero=some z)
  (Uc:i.size=size) (UD:i.bytes=bytes) (T6:z.cells.size=size) (Oh:0<size) (v:Value) (n:Nat) (xs:List Value) (OC:w.ownsRow 0 e size v n xs) (m:Nat) (hm:0<m)
  (V9:n+m≤maxLen) (RH:(n+m)*bytes≤140737488355328) (hb0:0<bytes) (h1:∀ u∈(Builtin.zeroCells z.cells m).toList,u.oneCell'=true) :
  ∃ v' w',(Builtin.append_ #[t,it] ty #[v,.int .i64 m]).run P w=.ok v' w'∧w'.ownsRow 0 e size v' (n+m) (xs++(Builtin.zeroCells z.cells m).toList)∧w.grownBy w' v.ownBlock∧(v'.ownBlock=v.ownBlock∨v'.ownBlock=some w.heap.size):=by
 subst Uc;subst UD;have Wq:n+m≤9223372036854775807:=by simp only[maxLen] at V9;omega
 have hwm:IntKind.i64.wrap (m:Int)=m:=F4 yA;have XH:¬ ((m:Int)<0):=by omega
 have Py:m*i.size≠0:=Nat.ne_of_gt (Nat.mul_pos hm Oh);have Rx:m≠0:=by omega
 have SX:i.size≠0:=by omega
 have hmb:¬ ((281474976710656:Int)<(m:Int)*(i.bytes:Int)):=by
  have h2:m*i.bytes≤(n+m)*i.bytes:=Nat.mul_le_mul_right _ yA;have h3:((m*i.bytes:Nat):Int)=(m:Int)*(i.bytes:Int):=by simp
  omega
 have Rb:(Builtin.zeroCells z.cells m).toList.length=m*i.size:=by simp[size_zeroCells,T6]
 have hlen:(xs++(Builtin.zeroCells z.cells m).toList).length=(n+m)*i.size:=by rw[List.length_append,OC.1,Rb,Nat.add_mul]
 have grown:∀ (gO:Nat),gO<n+m→∀ (row:Option Nat),
   (w.drew.alloc (.cells (xs.toArray++Builtin.zeroCells z.cells m++Builtin.zeroCells z.cells (grownCap w (n+m) gO e-(n+m))) e)).ownsRow 0 e i.size
    (.slice (some ⟨w.heap.size,0,none⟩) (n+m) (grownCap w (n+m) gO e)) (n+m) (xs++(Builtin.zeroCells z.cells m).toList)∧
   w.grownBy (w.drew.alloc (.cells (xs.toArray++Builtin.zeroCells z.cells m++Builtin.zeroCells z.cells (grownCap w (n+m) gO e-(n+m))) e)) row:=by
  intro gO _ row;have Rn:=grownCap_ge w (n+m) gO e;have TN:grownCap w (n+m) gO e≤maxLen:=grownCap_le_maxLen w (n+m) gO e V9;refine⟨⟨hlen,.inr ⟨w.heap.size,_,_,rfl,Nat.zero_le _,heap_alloc_new w.drew _,Rn,TN,?_,?_⟩⟩,⟨rfl,rfl,rfl,by simp,fun k hk _=>heap_alloc_old w.drew _ k hk⟩⟩
  ·simp only[Array.size_append,List.size_toArray,size_zeroCells,T6,OC.1,← Nat.add_mul];congr 1;omega
  ·simp only[Array.toList_append,List.append_assoc];rw[← List.append_assoc,← hlen];exact List.take_left
 rcases OC.2 with ⟨rfl,rfl⟩ | ⟨g,cap,cur,rfl,hbg,hg,Y2,TN,OJ,SW⟩
 ·have hx:xs=[]:=List.eq_nil_of_length_eq_zero (by simpa using OC.1);subst hx;have h48:¬ (281474976710656<Builtin.nextslicecap m 0*i.bytes):=by
   rw[nextslicecap_zero hm];have:=RH;simp only[Nat.zero_add] at this;omega
  have Xe:¬ (9223372036854775807<(m:Int)):=by omega
  have hr:(Builtin.append_ #[t,it] ty #[.slice none 0 0,.int .i64 m]).run P w=.ok (.slice (some ⟨w.heap.size,0,none⟩) m (grownCap w m 0 e))
    (w.drew.alloc (.cells (Builtin.zeroCells z.cells m++Builtin.zeroCells z.cells (grownCap w m 0 e-m)) e)):=by
   simp[Builtin.append_,run_underlying ht,run_underlying Oq,sizeOf,typeInfo,zeroValue,hi,hz,asInt,asIntOf,hwm,XH,hmb,Rx,h48,Xe,Question.forced,run_firstCells_none,newRow,grownCap];exact fun h=>absurd h Py
  have WU:=grown 0 yA (Value.ownBlock (.slice none 0 0));simp only[Nat.zero_add] at WU ⊢;have ea:([]:List Value).toArray++Builtin.zeroCells z.cells m=Builtin.zeroCells z.cells m:=by simp
  rw[ea] at WU;exact⟨_,_,hr,WU.1,WU.2,.inr rfl⟩
 ·by_cases Qo:n+m≤cap
  ·have SL:n*i.size+(Builtin.zeroCells z.cells m).toList.length≤cur.size:=by rw[Rb,OJ,← Nat.add_mul];exact Nat.mul_le_mul_right _ Qo
   have OH:=run_storeCells_at P g (n*i.size) e (Builtin.zeroCells z.cells m).toList 0 cur w hg (by simpa using SL) h1;simp only[Nat.add_zero] at OH;have hr:(Builtin.append_ #[t,it] ty #[.slice (some ⟨g,0,none⟩) n cap,.int .i64 m]).run P w =
     .ok (.slice (some ⟨g,0,none⟩) (n+m) cap) (w.setRow g (cur.toList.take (n*i.size)++(Builtin.zeroCells z.cells m).toList++cur.toList.drop (n*i.size+(Builtin.zeroCells z.cells m).toList.length)).toArray):=by
    simp[Builtin.append_,run_underlying ht,run_underlying Oq,sizeOf,typeInfo,zeroValue,hi,hz,asInt,asIntOf,hwm,XH,hmb,Qo,Addr.add_lit,OH];exact fun h=>absurd h Py
   refine⟨_,_,hr,⟨hlen,.inr ⟨g,cap,_,rfl,hbg,setRow_heap w g cur _ e _ hg,Qo,TN,?_,?_⟩⟩,⟨rfl,rfl,rfl,by simp,fun k _ hk=>setRow_other w g k _ (fun e=>hk (by simp[Value.ownBlock,e]))⟩,Or.inl rfl⟩
   ·simp only[List.size_toArray,List.length_append,List.length_take,List.length_drop,Array.length_toList];simp only[Array.length_toList] at SL;omega
   ·rw[SW,← hlen];exact List.take_left
  ·have holds:∀ j u,xs[j]? = some u→w.cell? ((⟨g,0,none⟩:Addr).add j)=some u:=OC.cells (g:=g) rfl;have hfo:=run_firstCells_some (P:=P) w.drew i.size n ⟨g,0,none⟩ n cap xs OC.1 (by simpa using holds);have h48:¬ (281474976710656<Builtin.nextslicecap (n+m) cap*i.bytes):=by
    have:=growslice_fits (show cap<n+m by omega) RH;omega
   have Xe:¬ (9223372036854775807<((n:Int)+(m:Int))):=by omega
   have hr:(Builtin.append_ #[t,it] ty #[.slice (some ⟨g,0,none⟩) n cap,.int .i64 m]).run P w=.ok (.slice (some ⟨w.heap.size,0,none⟩) (n+m) (grownCap w (n+m) cap e))
     (w.drew.alloc (.cells (xs.toArray++Builtin.zeroCells z.cells m++Builtin.zeroCells z.cells (grownCap w (n+m) cap e-(n+m))) e)):=by
    simp[Builtin.append_,run_underlying ht,run_underlying Oq,sizeOf,typeInfo,zeroValue,hi,hz,asInt,asIntOf,hwm,XH,hmb,Qo,h48,Xe,Question.forced,hfo,newRow,grownCap];exact fun h=>absurd h Py
   have WU:=grown cap yA (Value.ownBlock (.slice (some ⟨g,0,none⟩) n cap));exact⟨_,_,hr,WU.1,WU.2,Or.inr rfl⟩
def AppZ (s:St)(d:Option Tmp)(o n m:Nat)(ob:Ob)(zs:List CV):St:=
 St.put { env:=s.env,heap:=(s.nx,{ ob with cells:=ob.cells++aS zs m })::j5 s.heap o,nx:=s.nx+1 } d (.bp s.nx 0 (n+m))
def AppZS (s:St)(d:Option Tmp)(o n m:Nat)(ob:Ob)(zs:List CV)(s':St):Prop:=s'=AppZ s d o n m ob zs
theorem Km (ht:aF P av){o:Oper}{cl:Call}{t it e:TypeId}{x y:Operand}{p n m:Nat}{ob:Ob}{ie ii:TI}{zs:List CV}(hd:bt C.nt o.dst=true)(ho:o.op=.call cl)(Og:cl.callee=.builtin .append)(Of:cl.args=#[x,y])(PJ:cl.argTypes=#[t,it])
  (h1:dG av t=some (.sl e)) (h2:assoc av e=some ie) (OL:assoc av it=some ii) (Pe:ii.d=.int .i64) (h3:ev s x=some (.bp p 0 n)) (h4:ev s y=some (.int .i64 m)) (h6:assoc s.heap p=some ob)
  (b1:0<ie.size) (b2:0<ie.bytes) (b4:ob.elem=e) (b5:ob.sz=ie.size) (b6:n*ie.size=ob.cells.length) (b7:(n+m)*ie.bytes≤140737488355328) (b8:0<m) (b11:ie.zero=zs) :
  ∀ a w,Rel C s a w→∃ z w' s',(execOp a.eval o).run P w=.ok (.value z) w'∧AppZS s o.dst p n m ob zs s'∧Rel C s' (a.put o.dst z) w':=by
 rintro a w ⟨σ,h⟩;subst b4;subst b11;have OM:∀ t,o.dst=some t→t<a.tmps.size:=fun t e=>by
  rw[h.tm];rw[e] at hd
  simpa [bt] using hd
 obtain⟨itt,Oq,PZ⟩:=Option.map_eq_some_iff.1 h1;obtain⟨f,z,g1,g2,g3,g4,g5⟩:=(ht ob.elem ie h2).info;obtain⟨k1,k2⟩:=cS (w:=w) (F:=FB C σ s.heap) _ _ g5;have SV:z.cells.size=ie.zero.length:=by simpa using bP.length _ _ k1
 have T6:z.cells.size=ie.size:=by rw[SV,(ht ob.elem ie h2).len]
 have hu:=dK (ht t itt Oq) PZ;have QH:P.underlying it=some (.int .i64):=by
  obtain⟨d,q1,q2⟩:=(ht it ii OL).Bw;rw[Pe] at q2;cases d<;>simp only[sT] at q2<;>first | cases q2 | skip
  exact q1
 have hx:=bO h h3;have hy:=bO h h4;simp only[VR] at hx hy;have Pz:∀ {v' w'},(Builtin.append_ #[t,it] o.type #[a.eval x,a.eval y]).run P w=.ok v' w'→(execOp a.eval o).run P w=.ok (.value v') w':=fun {v' w'} hr=>by
  simp[execOp,ho,resolve,Og,Of,PJ,invoke,builtin,hr]
 have hm:n+m≤maxLen:=by
  have:n+m≤(n+m)*ie.bytes:=Nat.le_mul_of_pos_right _ b2;simp only[maxLen];omega
 have hzz:Builtin.zeroCells z.cells m=madeCells z.cells (m*z.cells.size):=rfl;have Su:aT w (FB C σ s.heap) σ (aS ie.zero m) (Builtin.zeroCells z.cells m).toList:=by
  rw[hzz];exact lv (aT.cA _ _ k1) m
 have O0:=jB k2 m;have uo:=aT.iA _ _ O0 Su;have ul:=aT.length _ _ Su;obtain⟨B,hB,hx⟩:=hx;obtain⟨B0,e1,e2,e3,e4,e5⟩:=h.obj p ob h6;rw[hB] at e1;cases e1;have OC:∃ xs,w.ownsRow 0 ob.elem ie.size (a.eval x) n xs∧aT w (FB C σ s.heap) σ ob.cells xs∧(a.eval x).ownBlock=B.jI:=by
  split at hx
  ·rename_i hn;obtain⟨e,_,rfl⟩:=hx;rw[e,e3 hn,hn];exact⟨[],World.ownsRow_nil w 0 _ _,by simp[aT],rfl⟩
  ·rename_i b Rq;obtain⟨cap,e,c1,c2,c3,c4⟩:=hx;obtain⟨cur,n1,n2,n3,n4,n5,n6⟩:=e5 b Rq;rw[e,Rq];have Qk:=c4 trivial;refine⟨cur.toList.take ob.cells.length,⟨?_,.inr ⟨b,cap,cur,rfl,Nat.zero_le _,n1,c1,c2,?_,by rw[b6]⟩⟩,n6,rfl⟩
   ·rw[List.length_take,b6];simp;omega
   ·rw[n2,← Qk,e2,b5]
 obtain⟨xs,x1,x2,x3⟩:=OC;have xl:=aT.length _ _ x2;obtain⟨v',w',r1,r2,r3,r4⟩:=rD (P:=P) t it o.type ob.elem f z ie.size ie.bytes hu QH g1 g4 g2 g3 T6 b1 _ n xs x1 m b8 hm b7 b2 uo;rw[x3] at r3 r4;rw[← hy] at r1;obtain⟨B',b1',b2',b3',b4'⟩:=nk r2;have Vn:=h.grow (B':=B') h6 hB r3 (by rw[b1',b5]) (PO:=ob.cells++aS ie.zero m) (fun g hg=>by
   rw[b2'] at hg;rcases r4 with r4 | r4<;>rw[r4] at hg
   ·exact .inl hg
   ·exact .inr (by simpa using hg.symm)) (by rw[List.all_append,e4,O0];rfl) (fun hn=>by
   have:=(b3' hn).2.2;obtain⟨y1,y2⟩:=List.append_eq_nil_iff.1 this;rw[y1] at xl;rw[y2] at ul;rw[List.eq_nil_of_length_eq_zero xl.symm,List.eq_nil_of_length_eq_zero ul.symm];rfl) fun b Oy=>by
   obtain⟨cap,cur,e1,e2,e3,e4,e5,e6,e7⟩:=b4' b Oy;have hlen:(ob.cells++aS ie.zero m).length=(xs++(Builtin.zeroCells z.cells m).toList).length:=by rw[List.length_append,List.length_append,xl,ul]
   refine⟨cur,e2,e5,?_,?_⟩
   ·rw[e5,← e6,List.length_append,← b6,e8,(ht ob.elem ie h2).len,← Nat.add_mul];exact Nat.mul_le_mul_right _ e3
   ·rw[hlen,e7];exact aT.append _ _ _ _ x2 Su
 refine⟨v',w',_,Pz r1,rfl,_,Vn.put OM ?_⟩;simp only[VR];refine⟨B',dr,?_⟩;split
 ·rename_i hn;obtain⟨e1,e2,_⟩:=b3' hn;exact⟨e1,trivial,e2⟩
 ·rename_i b Oy;obtain⟨cap,cur,e1,e2,e3,e4,e5,e6,e7⟩:=b4' b Oy;refine⟨cap,e1,e3,e4,?_,fun _=>?_⟩<;>rw[b1']<;>omega
end
end Go.Can
/- A region that draws, all its orders explored: after the moves and places ahead, each operation that is ready may come next. No function of the program is mentioned here. -/
namespace Go.Can
open Go.RowKit
section
variable {P:Program}{C:Cx}{s:St}{a:Act}{w:World}{ops:Array Oper}{av:List (Nat×TI)}{nt:Nat}
def Bn (av:List (Nat×TI))(s:St):Op→Option (Ob×(Nat→CV))
 | .box e x=>match ev s x with
  | some c=>if dR c then none else some (⟨e,0,c.cells⟩,fun m=>.aq m 0)
  | none=>none
 | .buildSlice t len parts=>match dG av t with
  | some (.sl e)=>match assoc av e,gZ s parts.toList with
   | some ie,some cs=>if len*ie.size≤16777216∧len≤16777216 then (mI (fun i=>some (i*ie.size,ie.size)) (aS ie.zero len) cs).map fun out=>(⟨e,ie.size,out⟩,fun m=>.bp m 0 len) else none
   | _,_=>none
  | _=>none
 | _=>none
theorem CP {s':St}(op:Op)(h:∀ x∈op.operands,ev s x=ev s' x):Bn av s op=Bn av s' op:=by
 cases op<;>first | rfl | skip
 case box e x=>simp only[Bn];rw[h x Qs]
 case buildSlice t len parts=>
  simp only[Bn];rw[jt parts.toList fun x hx=>h x.2 yDd]
end
end Go.Can
/- Steps of explored draws, for walks. No function of the program is mentioned here. -/
namespace Go.Can
open Go.RowKit
section
variable {av:List (Nat×TI)}{s s':St}
def names (o:Nat):CV→Bool
 | .bp p _ _=>p == o
 | .aq p _=>p == o
 | _=>false
theorem Co {c:CV}{cs:List CV}(h:gF s c=some cs)(hh:∀ o ob,names o c=true→assoc s.heap o=some ob→assoc s'.heap o=some ob):gF s' c=some cs:=by
 cases c<;>simp only[gF] at h ⊢<;>first | exact h | skip
 rename_i o off
 cases ho:assoc s.heap o with
 | none=>rw[ho] at h;cases h
 | some y=>rw[hh o y (by simp[names]) ho];rw[ho] at h;exact h
theorem AX {t:TypeId}{c r:CV}{lo hi:Option Operand}(h1:∀ y,lo=some y→ev s y=ev s' y)(h2:∀ y,hi=some y→ev s y=ev s' y)(h:lj av s t c lo hi=some r)(hh:∀ o ob,names o c=true→assoc s.heap o=some ob→assoc s'.heap o=some ob):lj av s' t c lo hi=some r:=by
 cases c<;>simp only[lj,jw h1,jw h2] at h ⊢<;>first | exact h | skip
 case bp o off n=>
  cases ho:assoc s.heap o with
  | some y=>rw[hh o y (by simp[names]) ho];rw[ho] at h;exact h
  | none=>
   rw[ho] at h;exfalso;split at h
   ·split at h
    ·rename_i e;cases e
    ·cases h
   ·cases h
 case aq o f=>
  cases ho:assoc s.heap o with
  | some y=>rw[hh o y (by simp[names]) ho];rw[ho] at h;exact h
  | none=>
   rw[ho] at h;exfalso;split at h
   ·split at h
    ·rename_i e;cases e
    ·cases h
   ·cases h
theorem yQ (H:List (Nat×Ob))(x:Operand):ev { s with heap:=H } x=ev s x:=by cases x<;>rfl
theorem vm (H:List (Nat×Ob))(xs:List Operand):zk { s with heap:=H } xs=zk s xs:=jG xs fun x _=>yQ H x
theorem Ba (H:List (Nat×Ob))(xs:List (Nat×Operand)):gZ { s with heap:=H } xs=gZ s xs:=jt xs fun x _=>yQ H x.2
theorem wy (H:List (Nat×Ob))(b:Builtin)(xs:List Operand)(ts:List TypeId):g9 av { s with heap:=H } b xs ts=g9 av s b xs ts:=by
 unfold g9;split
 ·split
  ·rw[yQ]
  ·rfl
 ·rw[vm]
 ·rw[vm]
 ·rfl
theorem sE (op:Op)(h:∀ x∈op.operands,ev s x=ev s' x)(n1:∀ t x,op≠.load t x)(n2:∀ t x lo hi mx,op≠.slice t x lo hi mx):fz av s op=fz av s' op:=by
 have k:=Cb (av:=av) (s:=s) (s':={ s' with heap:=s.heap }) rfl op (fun x hx=>by rw[h x hx];cases x<;>rfl);rw[k];cases op<;>first | rfl | skip
 all_goals first | exact absurd rfl (n1 _ _) | exact absurd rfl (n2 _ _ _ _ _) | skip
 case makeFunc f first cap=>
  cases f<;>first | rfl | skip
  simp only[fz,vm]
 all_goals
  simp only[fz,sf,Ba,wy]
theorem EO {op:Op}(h:∀ x∈op.operands,ev s x=ev s' x){c:CV}(hq:fz av s op=some c)(hh:∀ x∈op.operands,∀ v,ev s x=some v→∀ o ob,names o v=true→assoc s.heap o=some ob→assoc s'.heap o=some ob):fz av s' op=some c:=by
 cases op
 case load t x=>
  have hx:=h x Qs;have hk:=hh x Qs;simp only[fz] at hq ⊢;rw[← hx]
  cases hv:ev s x with
  | none=>rw[hv] at hq;simp at hq
  | some d=>
   rw[hv] at hq
   cases ht:assoc av t with
   | none=>rw[ht] at hq;simp at hq
   | some ii=>
    rw[ht] at hq;simp only at hq ⊢
    cases hy:gF s d with
    | none=>rw[hy] at hq;cases hq
    | some cs=>rw[Co hy (hk d hv)];rw[hy] at hq;exact hq
 case slice t x lo hi mx=>
  cases mx with
  | some _=>exact hq
  | none=>
   have hx:=h x Qs;have hk:=hh x Qs;have h1:∀ y,lo=some y→ev s y=ev s' y:=fun y e=>h y (by subst e;simp[Op.operands]);have h2:∀ y,hi=some y→ev s y=ev s' y:=fun y e=>h y (by subst e;simp[Op.operands]);simp only[fz] at hq ⊢;rw[← hx]
   cases hv:ev s x with
   | none=>rw[hv] at hq;simp at hq
   | some d=>rw[hv] at hq;exact AX h1 h2 hq (hk d hv)
 all_goals exact (sE _ h (fun _ _ e=>by cases e) (fun _ _ _ _ _ e=>by cases e)).symm.trans hq
end
end Go.Can
/- A region that draws, its readings hoisted past new objects and past stores into other objects. No function of the program is mentioned here. -/
/- The exploration of a draw with readings hoisted past new objects and stores elsewhere. No function of the program is mentioned here. -/
namespace Go.Can
open Go.RowKit
def iter (g:St→Option (Exit×St)):Nat→St→Option (Exit×St)
 | 0,_=>none
 | n+1,s=>match g s with
  | some (.normal,s')=>iter g n s'
  | r=>r
def Aw (l:Nat)(g:St→Option (Exit×St)):Nat→St→Option (Exit×St)
 | 0,_=>none
 | n+1,s=>match g s with
  | some (.goto m,s')=>if m=l then Aw l g n s' else none
  | r=>r
def outB (id:Nat):Exit×St→Exit×St
 | (.exit i,s)=>if i=id then (.normal,s) else (.exit i,s)
 | r=>r
def mP (Rs:Nat→Array Oper→Bool→St→Option St):Nat→Code→St→Option (Exit×St)
 | 0,_,_=>none
 | _+1,.skip,s=>some (.normal,s)
 | _+1,.region id ops d,s=>(Rs id ops d s).map fun s'=>(.normal,s')
 | f+1,.seq x y,s=>match mP Rs f x s with
  | some (.normal,s')=>mP Rs f y s'
  | r=>r
 | f+1,.cond c x y,s=>match ev s c with
  | some (.bool b)=>mP Rs f (if b then x else y) s
  | _=>none
 | f+1,.block id c,s=>(mP Rs f c s).map (outB id)
 | f+1,.scope c,s=>match mP Rs f c s with
  | some (.goto l,s')=>match findLabel c l with
   | some rest=>Aw l (mP Rs f rest) f s'
   | none=>none
  | r=>r
 | f+1,.loop c,s=>iter (mP Rs f c) f s
 | _+1,.exit id,s=>some (.exit id,s)
 | _+1,.ret,s=>some (.ret,s)
 | _+1,.label _,s=>some (.normal,s)
 | _+1,.goto l,s=>some (.goto l,s)
 | _+1,_,_=>none
section
variable {P:Program}{C:Cx}{s:St}{av:List (Nat×TI)}{Rs:Nat→Array Oper→Bool→St→Option St}
def gG (gd:Nat→Array Oper→Bool→Bool):Code→Bool
 | .region id ops d=>gd id ops d
 | .seq x y=>gG gd x && gG gd y
 | .cond _ x y=>gG gd x && gG gd y
 | .block _ c=>gG gd c
 | .loop c=>gG gd c
 | .scope c=>gG gd c
 | _=>true
def IJ (P:Program)(C:Cx)(gd:Nat→Array Oper→Bool→Bool)(Rs:Nat→Array Oper→Bool→St→Option St):Prop:=∀ id ops d s s',gd id ops d=true→Rs id ops d s=some s'→T P C (.region id ops d) s fun e x=>e=.normal∧x=s'
def Ends (r:Exit×St):Exit→St→Prop:=fun e x=>e=r.1∧x=r.2
theorem pC {gd:Nat→Array Oper→Bool→Bool}{l:Nat}:∀ (c rest:Code),gG gd c=true→findLabel c l=some rest→gG gd rest=true
 | .seq a b,rest,hg,h=>by
  simp only[gG,Bool.and_eq_true] at hg;simp only[findLabel] at h;split at h
  ·rename_i r hr;cases h;simp only[gG,Bool.and_eq_true];exact⟨pC a r hg.1 hr,hg.2⟩
  ·exact pC b rest hg.2 h
 | .label l',rest,_,h=>by
  simp only[findLabel] at h;split at h
  ·cases h;rfl
  ·cases h
 | .skip,_,_,h=>by simp[findLabel] at h
 | .region _ _ _,_,_,h=>by simp[findLabel] at h
 | .cond _ _ _,_,_,h=>by simp[findLabel] at h
 | .block _ _,_,_,h=>by simp[findLabel] at h
 | .loop _,_,_,h=>by simp[findLabel] at h
 | .rangeFunc _ _ _ _,_,_,h=>by simp[findLabel] at h
 | .exit _,_,_,h=>by simp[findLabel] at h
 | .scope _,_,_,h=>by simp[findLabel] at h
 | .goto _,_,_,h=>by simp[findLabel] at h
 | .ret,_,_,h=>by simp[findLabel] at h
theorem T.Gm {c:Code}{Q:Exit→St→Prop}(h:T P C c s fun e x=>(∀ l,e≠.goto l)∧Q e x):T P C (.scope c) s Q:=fun a w hr=>
 wp_scope_straight (wp_mono (h a w hr) fun e a' w' ⟨s',q,r⟩=>by
  cases e with
  | goto l=>exact absurd rfl (q.1 l)
  | _=>exact⟨s',q.2,r⟩)
theorem DU {gd:Nat→Array Oper→Bool→Bool}(hR:IJ P C gd Rs):∀ (f:Nat) (c:Code) (s:St) (r:Exit×St),gG gd c=true→mP Rs f c s=some r→T P C c s (Ends r)
 | 0,_,_,_,_,h=>by simp[mP] at h
 | f+1,c,s,r,hG,h=>by
  have ih:=DU hR f;cases c<;>simp only[mP] at h<;>first | cases h | skip
  case skip=>exact T.skip ⟨rfl,rfl⟩
  case exit=>exact T.exit ⟨rfl,rfl⟩
  case ret=>exact T.ret ⟨rfl,rfl⟩
  case label=>exact T.label ⟨rfl,rfl⟩
  case goto=>exact T.goto ⟨rfl,rfl⟩
  case region id ops d=>
   obtain⟨s',h1,rfl⟩:=Option.map_eq_some_iff.1 h;exact hR id ops d s s' hG h1
  case seq x y=>
   simp only[gG,Bool.and_eq_true] at hG;refine T.seq ?_
   cases hx:mP Rs f x s with
   | none=>rw[hx] at h;cases h
   | some q=>
    rw[hx] at h;obtain⟨e,s1⟩:=q;refine T.mono (ih x s _ hG.1 hx) ?_;rintro e' s' ⟨e1,e2⟩;simp only at e1 e2;subst e1;subst e2;cases e'<;>simp only at h<;>first
     | exact ih y s' r hG.2 h
     | (cases h;exact⟨rfl,rfl⟩)
  case cond c x y=>
   split at h
   ·rename_i b hb;simp only[gG,Bool.and_eq_true] at hG;exact T.cond hb (ih _ s r (by cases b<;>simp[hG.1,hG.2]) h)
   ·cases h
  case block id c=>
   obtain⟨q,h1,rfl⟩:=Option.map_eq_some_iff.1 h;refine T.block (T.mono (ih c s q (by simpa only[gG] using hG) h1) ?_);rintro e' s' ⟨e1,e2⟩;obtain⟨e,s1⟩:=q;simp only at e1 e2;subst e1;subst e2;cases e'<;>simp only[pQ,outB]<;>first
    | exact⟨rfl,rfl⟩
    | (split<;>exact⟨rfl,rfl⟩)
  case scope c=>
   simp only[gG] at hG
   cases hx:mP Rs f c s with
   | none=>rw[hx] at h;cases h
   | some q=>
    rw[hx] at h;obtain⟨e,s1⟩:=q;have k:=ih c s _ hG hx;cases e<;>simp only at h
    case goto l=>
     cases hl:findLabel c l with
     | none=>rw[hl] at h;cases h
     | some rest=>
      rw[hl] at h;refine T.Je l (fun n s=>Aw l (mP Rs f rest) n s=some r) hl (T.mono k ?_) fun n s hn=>?_
      ·rintro e' s' ⟨e1,e2⟩;simp only at e1 e2;subst e1;subst e2;exact⟨rfl,f,aa.here h⟩
      ·cases n with
       | zero=>simp[Aw] at hn
       | succ n=>
        simp only[Aw] at hn
        cases hy:mP Rs f rest s with
        | none=>rw[hy] at hn;cases hn
        | some q=>
         rw[hy] at hn;obtain⟨e,s2⟩:=q;refine T.mono (ih rest s _ (pC c rest hG hl) hy) ?_;rintro e' s' ⟨e1,e2⟩;simp only at e1 e2;subst e1;subst e2;cases e'<;>simp only at hn
         case goto m=>
          split at hn
          ·rename_i e;exact⟨e,n,Nat.lt_succ_self n,aa.here hn⟩
          ·cases hn
         all_goals
          cases hn;exact⟨rfl,rfl⟩
    all_goals
     cases h;refine T.Gm (T.mono k ?_);rintro e' s' ⟨e1,e2⟩;simp only at e1 e2;subst e1;subst e2;exact⟨fun l e=>(by cases e),rfl,rfl⟩
  case loop c=>
   refine T.loop (fun n s=>iter (mP Rs f c) n s=some r) h fun n s hn=>?_
   cases n with
   | zero=>simp[iter] at hn
   | succ n=>
    simp only[iter] at hn
    cases hx:mP Rs f c s with
    | none=>rw[hx] at hn;cases hn
    | some q=>
     rw[hx] at hn;obtain⟨e,s1⟩:=q;refine T.mono (ih c s _ (by simpa only[gG] using hG) hx) ?_;rintro e' s' ⟨e1,e2⟩;simp only at e1 e2;subst e1;subst e2;cases e'<;>simp only at hn<;>first
      | exact⟨n,Nat.lt_succ_self n,hn⟩
      | (cases hn;exact⟨rfl,rfl⟩)
end
end Go.Can
