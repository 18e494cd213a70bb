/- append onto a slice that is named again afterwards (in place -/
import Derived.Test.YtnecpnjdonibmaaGreatZ07
namespace Go.Can
open Go.RowKit
section
variable {P:Program}{C:Cx}{σ:Nat→Option OB}{s:St}{a:Act}{w:World}{ops:Array Oper}{ak:List (Nat×TI)}
theorem TL.some (ht:aG P ak){K:St→Prop}:∀ (k:Nat) {l:List Oper} {s:St},xM (fun s'=>TL P C ops (l.drop k) s' K) (ql ak C.nt ops (l.take k) s)→TL P C ops l s K
 | 0,_,_,h=>h
 | k+1,[],_,h=>h
 | k+1,o::l,s,h=>by
  rw[List.take_succ_cons,uP] at h
  cases hs:fk ak C.nt ops s o with
  | none=>rw[hs] at h;exact h.elim
  | some s'=>
   rw[hs] at h;exact TL.step ht hs (TL.some ht k h)
def St.cut (s:St)(o:Nat)(ob:Ob)(k:Nat):St:={ s with heap:=rF s.heap o { ob with cells:=ob.cells.take k } }
theorem Le.cut {s:St}{o:Nat}{ob:Ob}(k:Nat)(ho:assoc s.heap o=some ob):Le C s (s.cut o ob k):=by
 intro a w ⟨σ,h⟩;have Uy:∀ {p y},assoc (rF s.heap o { ob with cells:=ob.cells.take k }) p=some y→(p=o∧y={ ob with cells:=ob.cells.take k })∨(p≠o∧assoc s.heap p=some y):=fun {p y} hp=>by
  rw[eP] at hp;split at hp
  ·rename_i e;subst e;rw[ho] at hp;cases hp;exact .inl ⟨rfl,rfl⟩
  ·rename_i e;exact .inr ⟨Ne.symm e,hp⟩
 have hex:∀ {p y},assoc (rF s.heap o { ob with cells:=ob.cells.take k }) p=some y→∃ z,assoc s.heap p=some z:=fun {p y} hp=>by
  rcases Uy hp with ⟨rfl,_⟩ | ⟨_,hp⟩
  ·exact⟨_,ho⟩
  ·exact⟨_,hp⟩
 refine⟨σ,h.nk,h.tm,h.os,h.tape,h.output,h.size,h.frame,?_,?_,?_,h.nx,h.fh,h.low,h.new⟩
 ·intro t c hc;simp only[St.cut,p9];exact h.env t c hc
 ·intro p x hp;simp only[St.cut] at hp ⊢;rcases Uy hp with ⟨rfl,rfl⟩ | ⟨_,Td⟩
  ·obtain⟨B,m1,m2,m3,m4,m5⟩:=h.obj p ob ho;refine⟨B,m1,m2,fun hn=>by simp[m3 hn],?_,fun b hb=>?_⟩
   ·rw[List.all_eq_true] at m4 ⊢;exact fun x hx=>m4 x (List.mem_of_mem_take hx)
   ·obtain⟨cur,n1,n2,n3,n4,n5,n6⟩:=m5 b hb;refine⟨cur,n1,n2,n3,n4,by simp only[List.length_take];omega,?_⟩;simp only[p9];have:=aS.take k _ _ n6;rw[List.take_take] at this
    simpa only[List.length_take] using this
  ·obtain⟨B,m1,m2,m3,m4,m5⟩:=h.obj p x Td;refine⟨B,m1,m2,m3,m4,fun b hb=>?_⟩;obtain⟨cur,n1,n2,n3,n4,n5,n6⟩:=m5 b hb;exact⟨cur,n1,n2,n3,n4,n5,by simp only[p9];exact n6⟩
 ·intro p q x y b hp hq SW TE;obtain⟨z1,SZ⟩:=hex hp;obtain⟨z2,Qw⟩:=hex hq;exact h.inj p q z1 z2 b SZ Qw SW TE
def App2 (s:St)(d:Option Tmp)(o n m:Nat)(ob:Ob)(news:List CV)(s':St):Prop:=
 s'=St.put { s with heap:=rF s.heap o { ob with cells:=ob.cells++news } } d (.bl o 0 (n+m))∨s'=(s.new ob.elem ob.sz (ob.cells++news)).put d (.bl s.nx 0 (n+m))
theorem app2_ok (ht:aG P ak){o:Oper}{cl:Call}{t e:TypeId}{x y:Operand}{p n m:Nat}{q:CV}{ob:Ob}{ie:TI}{news:List CV}(hd:a6 C.nt o.dst=true)(ho:o.op=.call cl)(O7:cl.callee=.builtin .append)(O4:cl.args=#[x,y])(QC:cl.argTypes=#[t,t])
  (h1:dE ak t=some (.sl e)) (h2:assoc ak e=some ie) (h3:ev s x=some (.bl p 0 n)) (h4:ev s y=some q) (h5:cells? s q=some (news,m)) (h6:assoc s.heap p=some ob)
  (_b1:0<ie.size) (b2:0<ie.bytes) (b3:news.length=m*ie.size) (b4:ob.elem=e) (b5:ob.sz=ie.size) (b6:n*ie.size=ob.cells.length) (b7:(n+m)*ie.bytes≤140737488355328) (b8:0<m) :
  ∀ a w,Rel C s a w→∃ z w' s',(execOp a.eval o).run P w=.ok (.value z) w'∧App2 s o.dst p n m ob news s'∧Rel C s' (a.put o.dst z) w':=by
 rintro a w ⟨σ,h⟩;subst b4;have PB:∀ t,o.dst=some t→t<a.tmps.size:=fun t e=>by
  rw[h.tm];rw[e] at hd
  simpa [a6] using hd
 obtain⟨it,PG,RZ⟩:=Option.map_eq_some_iff.1 h1;obtain⟨f,z,g1,g2,g3,g4,g5⟩:=(ht ob.elem ie h2).info;obtain⟨k1,k2⟩:=cW (w:=w) (F:=FB C σ s.heap) _ _ g5;have Uw:z.cells.size=f.size:=by rw[g2,← (ht ob.elem ie h2).len,← bW.length _ _ k1];simp
 have hu:=dJ (ht t it PG) RZ;obtain⟨us,u1,u2,u3⟩:=cells?_ok h (bK h h4) h5;have ul:=aS.length _ _ u1;have uo:=aS.iG _ _ u2 u1;have hx:=bK h h3;have Pz:∀ {v' w'},(Builtin.append_ #[t,t] o.type #[a.eval x,a.eval y]).run P w=.ok v' w'→(execOp a.eval o).run P w=.ok (.value v') w':=fun {v' w'} hr=>by
  simp[execOp,ho,resolve,O7,O4,QC,invoke,builtin,hr]
 have hm:n+m≤maxLen:=by
  have:n+m≤(n+m)*ie.bytes:=Nat.le_mul_of_pos_right _ b2;simp only[maxLen];omega
 have WT:n+m≤9223372036854775807:=by simp only[maxLen] at hm;omega
 rcases u3 with ⟨c,_,RR,_⟩ | ⟨ad,c,hy,QH⟩
 ·omega
 have XM:us.length=m*f.size:=by rw[ul,b3,g2]
 -- what the growing arm leaves
 have grown:∀ (fh:Nat) (xs:List Value),xs.length=n*f.size→aS w (FB C σ s.heap) σ ob.cells xs →
   Rel C ((s.new ob.elem ob.sz (ob.cells++news)).put o.dst (.bl s.nx 0 (n+m))) (a.put o.dst (.slice (some ⟨w.heap.size,0,none⟩) (n+m) (grownCap w (n+m) fh ob.elem)))
    (w.drew.alloc (.cells (xs.toArray++us.toArray++Builtin.zeroCells z.cells (grownCap w (n+m) fh ob.elem-(n+m))) ob.elem)):=by
  intro fh xs xl xr;have RW:=grownCap_ge w (n+m) fh ob.elem;have Ul:grownCap w (n+m) fh ob.elem≤maxLen:=grownCap_le_maxLen w (n+m) fh ob.elem hm;have O9:(xs.toArray++us.toArray++Builtin.zeroCells z.cells (grownCap w (n+m) fh ob.elem-(n+m))).size=grownCap w (n+m) fh ob.elem*f.size:=by
   simp only[Array.size_append,List.size_toArray,size_zeroCells,Uw,xl,XM,← Nat.add_mul];congr 1;omega
  obtain⟨_,_,_,_,m4,_⟩:=h.obj p ob h6;have hlen:(ob.cells++news).length=(xs++us).length:=by rw[List.length_append,List.length_append,← aS.length _ _ xr,ul]
  have VT:=h.fresh (w':=w.drew.alloc (.cells (xs.toArray++us.toArray++Builtin.zeroCells z.cells (grownCap w (n+m) fh ob.elem-(n+m))) ob.elem)) (ob:=⟨ob.elem,ob.sz,ob.cells++news⟩) (B:=⟨some w.heap.size,grownCap w (n+m) fh ob.elem*f.size,ob.sz⟩)
   ⟨rfl,rfl,rfl,by simp,fun k hk _=>heap_alloc_old w.drew _ k hk⟩ rfl (by rw[List.all_append,m4,u2];rfl) (fun hn=>(by cases hn)) fun b hb=>by
    cases hb;refine⟨Nat.le_refl _,_,heap_alloc_new w.drew _,O9,?_,?_⟩
    ·rw[O9];show (ob.cells++news).length≤_;rw[hlen,List.length_append,xl,XM,← Nat.add_mul];exact Nat.mul_le_mul_right _ RW
    ·show aS w (FB C σ s.heap) σ (ob.cells++news) _;rw[show (⟨ob.elem,ob.sz,ob.cells++news⟩:Ob).cells.length=(xs++us).length from hlen];simp only[Array.toList_append];rw[List.take_append_of_le_length OU,List.take_of_length_le OU];exact aS.append _ _ _ _ xr u1
  refine⟨_,VT.1.put PB ?_⟩;simp only[VR];refine⟨_,dv,grownCap w (n+m) fh ob.elem,rfl,RW,Ul,?_,fun _=>?_⟩
  ·rw[b5,g2];simp
  ·rw[b5,g2]
 simp only[VR] at hx;obtain⟨B,hB,hx⟩:=hx;obtain⟨B0,e1,e2,e3,e4,e5⟩:=h.obj p ob h6;rw[hB] at e1;cases e1;split at hx
 ·rename_i hn;obtain⟨hv,_,rfl⟩:=hx;have hr:=run_append_nil (P:=P) w t o.type ob.elem f z hu g1 g4 ad m c us XM QH b8 yA (by
   have:=b7;rw[g3];simp only[Nat.zero_add] at this;omega)
  have hg:=grown 0 [] OU (by rw[e3 hn];simp[aS]);rw[← hv,← hy] at hr;exact⟨_,_,_,Pz hr,.inr rfl,by simpa using hg⟩
 ·rename_i b R0;obtain⟨cap,hv,c1,c2,c3,c4⟩:=hx;obtain⟨cur,n1,n2,n3,n4,n5,n6⟩:=e5 b R0;have Ra:=c4 trivial;have PE:cur.size=cap*f.size:=by rw[n2,← Ra,e2,b5,g2]
  have Wm:(cur.toList.take ob.cells.length).length=n*f.size:=by
   rw[List.length_take,g2,← b6];have:n*ie.size≤cap*ie.size:=Nat.mul_le_mul_right _ c1;rw[g2] at PE;simp;omega
  by_cases Rd:n+m≤cap
  ·have VU:n*f.size+us.length≤cur.size:=by rw[XM,PE,← Nat.add_mul];exact Nat.mul_le_mul_right _ Rd
   have hr:=run_append_room (P:=P) w t o.type ob.elem f hu g1 b n cap cur n1 ad m c us XM QH uo Rd VU;rw[← hv,← hy] at hr;have Qe:n*f.size=ob.cells.length:=by rw[g2];exact b6
   have Yv:=h.write h6 hB R0 (QQ:=ob.cells++news) (Ve:=cur.toList.take (n*f.size)++us++cur.toList.drop (n*f.size+us.length)) (by
     simp only[List.length_append,List.length_take,List.length_drop,Array.length_toList];omega) (by
     simp only[List.length_append,List.length_take,List.length_drop,Array.length_toList];omega) (by
     have Qj:(ob.cells++news).length=(cur.toList.take (n*f.size)++us).length:=by
      rw[Qe,List.length_append,List.length_append,Wm,ul,Qe]
     rw[Qj,List.take_append_of_le_length (Nat.le_refl _),List.take_of_length_le (Nat.le_refl _),Qe];exact aS.append _ _ _ _ n6 u1) (by rw[List.all_append,e4,u2];rfl)
   refine⟨_,_,_,Pz hr,.inl rfl,σ,Yv.put PB ?_⟩;simp only[VR];refine⟨B,hB,?_⟩;rw[R0];refine⟨cap,rfl,Rd,c2,?_,fun _=>Ra⟩;simp only[Nat.zero_add];omega
  ·have holds:∀ j u,(cur.toList.take ob.cells.length)[j]? = some u→w.cell? ((⟨b,0,none⟩:Addr).add j)=some u:=fun j u hu=>by
    rw[add_lit,Nat.zero_add,cell_of_row w b j cur _ _ n1];rw[List.getElem?_take] at hu;split at hu
    ·simpa using hu
    ·cases hu
   have hr:=run_append_grow (P:=P) w t o.type ob.elem f z hu g1 g4 ⟨b,0,none⟩ n cap _ Wm holds ad m c us XM QH yA yA (growslice_fits yA (by rw[g3];exact b7));rw[← hv,← hy] at hr;exact⟨_,_,_,Pz hr,.inr rfl,grown cap _ Wm n6⟩
end
end Go.Can
/- append of made zeros onto an own slice. No function of the program is mentioned here. -/
namespace Go.Can
open Go.RowKit
section
variable {P:Program}{C:Cx}{σ:Nat→Option OB}{s:St}{a:Act}{w:World}{ops:Array Oper}{ak:List (Nat×TI)}
theorem GR {m:Nat}(h:m≤9223372036854775807):IntKind.i64.wrap (m:Int)=m:=by
 simp[IntKind.wrap,IntKind.signed,IntKind.bits];omega
theorem rP (t it ty e:TypeId)(i:TypeInfo)(z:Value)(size bytes:Nat)(ht:P.underlying t=some (.slice e))(PG:P.underlying it=some (.int .i64))(hi:P.info? e=some i)(hz:i.zero=some z)
  (UE:i.size=size) (U6:i.bytes=bytes) (Uw:z.cells.size=size) (O9:0<size) (v:Value) (n:Nat) (xs:List Value) (Pv:w.ownsRow 0 e size v n xs) (m:Nat) (hm:0<m)
  (Wx:n+m≤maxLen) (Sh:(n+m)*bytes≤140737488355328) (hb0:0<bytes) (h1:∀ u∈(Builtin.zeroCells z.cells m).toList,u.oneCell'=true) :
  ∃ v' w',(Builtin.append_ #[t,it] ty #[v,.int .i64 m]).run P w=.ok v' w'∧w'.ownsRow 0 e size v' (n+m) (xs++(Builtin.zeroCells z.cells m).toList)∧w.grownBy w' v.ownBlock∧(v'.ownBlock=v.ownBlock∨v'.ownBlock=some w.heap.size):=by
 subst UE;subst U6;have WT:n+m≤9223372036854775807:=by simp only[maxLen] at Wx;omega
 have hwm:IntKind.i64.wrap (m:Int)=m:=GR yA;have XY:¬ ((m:Int)<0):=by omega
 have Qx:m*i.size≠0:=Nat.ne_of_gt (Nat.mul_pos hm O9);have RR:m≠0:=by omega
 have R5:i.size≠0:=by omega
 have hmb:¬ ((281474976710656:Int)<(m:Int)*(i.bytes:Int)):=by
  have h2:m*i.bytes≤(n+m)*i.bytes:=Nat.mul_le_mul_right _ yA;have h3:((m*i.bytes:Nat):Int)=(m:Int)*(i.bytes:Int):=by simp
  omega
 have Qe:(Builtin.zeroCells z.cells m).toList.length=m*i.size:=by simp[size_zeroCells,Uw]
 have hlen:(xs++(Builtin.zeroCells z.cells m).toList).length=(n+m)*i.size:=by rw[List.length_append,Pv.1,Qe,Nat.add_mul]
 have grown:∀ (fh:Nat),fh<n+m→∀ (row:Option Nat),
   (w.drew.alloc (.cells (xs.toArray++Builtin.zeroCells z.cells m++Builtin.zeroCells z.cells (grownCap w (n+m) fh e-(n+m))) e)).ownsRow 0 e i.size
    (.slice (some ⟨w.heap.size,0,none⟩) (n+m) (grownCap w (n+m) fh e)) (n+m) (xs++(Builtin.zeroCells z.cells m).toList)∧
   w.grownBy (w.drew.alloc (.cells (xs.toArray++Builtin.zeroCells z.cells m++Builtin.zeroCells z.cells (grownCap w (n+m) fh e-(n+m))) e)) row:=by
  intro fh _ row;have RW:=grownCap_ge w (n+m) fh e;have Ul:grownCap w (n+m) fh e≤maxLen:=grownCap_le_maxLen w (n+m) fh e Wx;refine⟨⟨hlen,.inr ⟨w.heap.size,_,_,rfl,Nat.zero_le _,heap_alloc_new w.drew _,RW,Ul,?_,?_⟩⟩,⟨rfl,rfl,rfl,by simp,fun k hk _=>heap_alloc_old w.drew _ k hk⟩⟩
  ·simp only[Array.size_append,List.size_toArray,size_zeroCells,Uw,Pv.1,← Nat.add_mul];congr 1;omega
  ·simp only[Array.toList_append,List.append_assoc];rw[← List.append_assoc,← hlen];exact List.take_left
 rcases Pv.2 with ⟨rfl,rfl⟩ | ⟨g,cap,cur,rfl,hbg,hg,W6,Ul,PE,Tr⟩
 ·have hx:xs=[]:=List.eq_nil_of_length_eq_zero (by simpa using Pv.1);subst hx;have h48:¬ (281474976710656<Builtin.nextslicecap m 0*i.bytes):=by
   rw[nextslicecap_zero hm];have:=Sh;simp only[Nat.zero_add] at this;omega
  have XE:¬ (9223372036854775807<(m:Int)):=by omega
  have hr:(Builtin.append_ #[t,it] ty #[.slice none 0 0,.int .i64 m]).run P w=.ok (.slice (some ⟨w.heap.size,0,none⟩) m (grownCap w m 0 e))
    (w.drew.alloc (.cells (Builtin.zeroCells z.cells m++Builtin.zeroCells z.cells (grownCap w m 0 e-m)) e)):=by
   simp[Builtin.append_,run_underlying ht,run_underlying PG,sizeOf,typeInfo,zeroValue,hi,hz,asInt,asIntOf,hwm,XY,hmb,RR,h48,XE,Question.forced,run_firstCells_none,newRow,grownCap];exact fun h=>absurd h Qx
  have Xj:=grown 0 yA (Value.ownBlock (.slice none 0 0));simp only[Nat.zero_add] at Xj ⊢;have ea:([]:List Value).toArray++Builtin.zeroCells z.cells m=Builtin.zeroCells z.cells m:=by simp
  rw[ea] at Xj;exact⟨_,_,hr,Xj.1,Xj.2,.inr rfl⟩
 ·by_cases Rd:n+m≤cap
  ·have VU:n*i.size+(Builtin.zeroCells z.cells m).toList.length≤cur.size:=by rw[Qe,PE,← Nat.add_mul];exact Nat.mul_le_mul_right _ Rd
   have Pw:=run_storeCells_at P g (n*i.size) e (Builtin.zeroCells z.cells m).toList 0 cur w hg (by simpa using VU) h1;simp only[Nat.add_zero] at Pw;have hr:(Builtin.append_ #[t,it] ty #[.slice (some ⟨g,0,none⟩) n cap,.int .i64 m]).run P w =
     .ok (.slice (some ⟨g,0,none⟩) (n+m) cap) (w.setRow g (cur.toList.take (n*i.size)++(Builtin.zeroCells z.cells m).toList++cur.toList.drop (n*i.size+(Builtin.zeroCells z.cells m).toList.length)).toArray):=by
    simp[Builtin.append_,run_underlying ht,run_underlying PG,sizeOf,typeInfo,zeroValue,hi,hz,asInt,asIntOf,hwm,XY,hmb,Rd,Addr.add_lit,Pw];exact fun h=>absurd h Qx
   refine⟨_,_,hr,⟨hlen,.inr ⟨g,cap,_,rfl,hbg,setRow_heap w g cur _ e _ hg,Rd,Ul,?_,?_⟩⟩,⟨rfl,rfl,rfl,by simp,fun k _ hk=>setRow_other w g k _ (fun e=>hk (by simp[Value.ownBlock,e]))⟩,Or.inl rfl⟩
   ·simp only[List.size_toArray,List.length_append,List.length_take,List.length_drop,Array.length_toList];simp only[Array.length_toList] at VU;omega
   ·rw[Tr,← hlen];exact List.take_left
  ·have holds:∀ j u,xs[j]? = some u→w.cell? ((⟨g,0,none⟩:Addr).add j)=some u:=Pv.cells (g:=g) rfl;have hfo:=run_firstCells_some (P:=P) w.drew i.size n ⟨g,0,none⟩ n cap xs Pv.1 (by simpa using holds);have h48:¬ (281474976710656<Builtin.nextslicecap (n+m) cap*i.bytes):=by
    have:=growslice_fits (show cap<n+m by omega) Sh;omega
   have XE:¬ (9223372036854775807<((n:Int)+(m:Int))):=by omega
   have hr:(Builtin.append_ #[t,it] ty #[.slice (some ⟨g,0,none⟩) n cap,.int .i64 m]).run P w=.ok (.slice (some ⟨w.heap.size,0,none⟩) (n+m) (grownCap w (n+m) cap e))
     (w.drew.alloc (.cells (xs.toArray++Builtin.zeroCells z.cells m++Builtin.zeroCells z.cells (grownCap w (n+m) cap e-(n+m))) e)):=by
    simp[Builtin.append_,run_underlying ht,run_underlying PG,sizeOf,typeInfo,zeroValue,hi,hz,asInt,asIntOf,hwm,XY,hmb,Rd,h48,XE,Question.forced,hfo,newRow,grownCap];exact fun h=>absurd h Qx
   have Xj:=grown cap yA (Value.ownBlock (.slice (some ⟨g,0,none⟩) n cap));exact⟨_,_,hr,Xj.1,Xj.2,Or.inr rfl⟩
def AppZ (s:St)(d:Option Tmp)(o n m:Nat)(ob:Ob)(zs:List CV):St:=
 St.put { env:=s.env,heap:=(s.nx,{ ob with cells:=ob.cells++bb zs m })::jD s.heap o,nx:=s.nx+1 } d (.bl s.nx 0 (n+m))
def AppZS (s:St)(d:Option Tmp)(o n m:Nat)(ob:Ob)(zs:List CV)(s':St):Prop:=s'=AppZ s d o n m ob zs
theorem Ld (ht:aG P ak){o:Oper}{cl:Call}{t it e:TypeId}{x y:Operand}{p n m:Nat}{ob:Ob}{ie ii:TI}{zs:List CV}(hd:a6 C.nt o.dst=true)(ho:o.op=.call cl)(O7:cl.callee=.builtin .append)(O4:cl.args=#[x,y])(QC:cl.argTypes=#[t,it])
  (h1:dE ak t=some (.sl e)) (h2:assoc ak e=some ie) (PI:assoc ak it=some ii) (Qs:ii.d=.int .i64) (h3:ev s x=some (.bl p 0 n)) (h4:ev s y=some (.int .i64 m)) (h6:assoc s.heap p=some ob)
  (b1:0<ie.size) (b2:0<ie.bytes) (b4:ob.elem=e) (b5:ob.sz=ie.size) (b6:n*ie.size=ob.cells.length) (b7:(n+m)*ie.bytes≤140737488355328) (b8:0<m) (b11:ie.zero=zs) :
  ∀ a w,Rel C s a w→∃ z w' s',(execOp a.eval o).run P w=.ok (.value z) w'∧AppZS s o.dst p n m ob zs s'∧Rel C s' (a.put o.dst z) w':=by
 rintro a w ⟨σ,h⟩;subst b4;subst b11;have PB:∀ t,o.dst=some t→t<a.tmps.size:=fun t e=>by
  rw[h.tm];rw[e] at hd
  simpa [a6] using hd
 obtain⟨itt,PG,RZ⟩:=Option.map_eq_some_iff.1 h1;obtain⟨f,z,g1,g2,g3,g4,g5⟩:=(ht ob.elem ie h2).info;obtain⟨k1,k2⟩:=cW (w:=w) (F:=FB C σ s.heap) _ _ g5;have hzl:z.cells.size=ie.zero.length:=by simpa using bW.length _ _ k1
 have Uw:z.cells.size=ie.size:=by rw[hzl,(ht ob.elem ie h2).len]
 have hu:=dJ (ht t itt PG) RZ;have QM:P.underlying it=some (.int .i64):=by
  obtain⟨d,q1,q2⟩:=(ht it ii PI).BV;rw[Qs] at q2;cases d<;>simp only[tw] at q2<;>first | cases q2 | skip
  exact q1
 have hx:=bK h h3;have hy:=bK h h4;simp only[VR] at hx hy;have Pz:∀ {v' w'},(Builtin.append_ #[t,it] o.type #[a.eval x,a.eval y]).run P w=.ok v' w'→(execOp a.eval o).run P w=.ok (.value v') w':=fun {v' w'} hr=>by
  simp[execOp,ho,resolve,O7,O4,QC,invoke,builtin,hr]
 have hm:n+m≤maxLen:=by
  have:n+m≤(n+m)*ie.bytes:=Nat.le_mul_of_pos_right _ b2;simp only[maxLen];omega
 have hzz:Builtin.zeroCells z.cells m=madeCells z.cells (m*z.cells.size):=rfl;have SZ:aS w (FB C σ s.heap) σ (bb ie.zero m) (Builtin.zeroCells z.cells m).toList:=by
  rw[hzz];exact lG (aS.cz _ _ k1) m
 have Qw:=jT k2 m;have uo:=aS.iG _ _ Qw SZ;have ul:=aS.length _ _ SZ;obtain⟨B,hB,hx⟩:=hx;obtain⟨B0,e1,e2,e3,e4,e5⟩:=h.obj p ob h6;rw[hB] at e1;cases e1;have Pv:∃ xs,w.ownsRow 0 ob.elem ie.size (a.eval x) n xs∧aS w (FB C σ s.heap) σ ob.cells xs∧(a.eval x).ownBlock=B.kj:=by
  split at hx
  ·rename_i hn;obtain⟨e,_,rfl⟩:=hx;rw[e,e3 hn,hn];exact⟨[],World.ownsRow_nil w 0 _ _,by simp[aS],rfl⟩
  ·rename_i b R0;obtain⟨cap,e,c1,c2,c3,c4⟩:=hx;obtain⟨cur,n1,n2,n3,n4,n5,n6⟩:=e5 b R0;rw[e,R0];have Ra:=c4 trivial;refine⟨cur.toList.take ob.cells.length,⟨?_,.inr ⟨b,cap,cur,rfl,Nat.zero_le _,n1,c1,c2,?_,by rw[b6]⟩⟩,n6,rfl⟩
   ·rw[List.length_take,b6];simp;omega
   ·rw[n2,← Ra,e2,b5]
 obtain⟨xs,x1,x2,x3⟩:=Pv;have xl:=aS.length _ _ x2;obtain⟨v',w',r1,r2,r3,r4⟩:=rP (P:=P) t it o.type ob.elem f z ie.size ie.bytes hu QM g1 g4 g2 g3 Uw b1 _ n xs x1 m b8 hm b7 b2 uo;rw[x3] at r3 r4;rw[← hy] at r1;obtain⟨B',b1',b2',b3',b4'⟩:=nO r2;have VT:=h.grow (B':=B') h6 hB r3 (by rw[b1',b5]) (QQ:=ob.cells++bb ie.zero m) (fun g hg=>by
   rw[b2'] at hg;rcases r4 with r4 | r4<;>rw[r4] at hg
   ·exact .inl hg
   ·exact .inr (by simpa using hg.symm)) (by rw[List.all_append,e4,Qw];rfl) (fun hn=>by
   have:=(b3' hn).2.2;obtain⟨y1,y2⟩:=List.append_eq_nil_iff.1 this;rw[y1] at xl;rw[y2] at ul;rw[List.eq_nil_of_length_eq_zero xl.symm,List.eq_nil_of_length_eq_zero ul.symm];rfl) fun b Po=>by
   obtain⟨cap,cur,e1,e2,e3,e4,e5,e6,e7⟩:=b4' b Po;have hlen:(ob.cells++bb ie.zero m).length=(xs++(Builtin.zeroCells z.cells m).toList).length:=by rw[List.length_append,List.length_append,xl,ul]
   refine⟨cur,e2,e5,?_,?_⟩
   ·rw[e5,← e6,List.length_append,← b6,fv,(ht ob.elem ie h2).len,← Nat.add_mul];exact Nat.mul_le_mul_right _ e3
   ·rw[hlen,e7];exact aS.append _ _ _ _ x2 SZ
 refine⟨v',w',_,Pz r1,rfl,_,VT.put PB ?_⟩;simp only[VR];refine⟨B',dv,?_⟩;split
 ·rename_i hn;obtain⟨e1,e2,_⟩:=b3' hn;exact⟨e1,trivial,e2⟩
 ·rename_i b Po;obtain⟨cap,cur,e1,e2,e3,e4,e5,e6,e7⟩:=b4' b Po;refine⟨cap,e1,e3,e4,?_,fun _=>?_⟩<;>rw[b1']<;>omega
end
end Go.Can
/- A region that draws, all its orders explored: after the moves and places ahead, each operation that is ready may come next. No function of the program is mentioned here. -/
namespace Go.Can
open Go.RowKit
section
variable {P:Program}{C:Cx}{s:St}{a:Act}{w:World}{ops:Array Oper}{ak:List (Nat×TI)}
def CW (Kw:Act→World→Prop)(Q':Exit→Act→World→Prop):Exit→Act→World→Prop
 | .normal=>Kw
 | e=>Q' e
theorem Ab {o:Oper}{Kw:Act→World→Prop}{Q':Exit→Act→World→Prop}(h:o.wp P a w Kw (CW Kw Q')):o.wp P a w Kw Q':=by
 unfold Oper.wp at *;generalize (execOp a.eval o).run P w=r at *
 cases r with
 | ok n w'=>
  cases n<;>simp only[Oper.upon] at h ⊢<;>
   first
    | exact h
    | exact Calls.mono h (fun e w'' he=>by cases e<;>exact he)
    | exact Rows.mono h (fun _ _ he=>he)
 | halt x w'=>cases x<;>simp only[Oper.upon] at h ⊢<;>exact h
theorem yK {i:Nat}{o:Oper}{Kw:Act→World→Prop}{Q':Exit→Act→World→Prop}(ho:ops[i]? = some o)(h:wpList P ops (CW Kw Q') [o] a w):wpOp P ops Q' i Kw a w:=by
 unfold wpOp;simp only[ho];unfold wpList at h;have e:(wpList P ops (CW Kw Q') []:Act→World→Prop)=Kw:=rfl;rw[e] at h;split
 ·rename_i hw;rw[if_pos hw] at h;exact h.imp Ab fun⟨h1,h2⟩=>⟨h1,h2⟩
 ·rename_i hw;rw[if_neg hw] at h;exact h
def TX (P:Program)(C:Cx)(ops:Array Oper)(K:St→Prop):Nat→Array Bool→St→Prop
 | 0,listed,s=>Region.ready .any ops listed=[]∧K s
 | f+1,listed,s=>(Region.ready .any ops listed=[]→K s)∧∀ i∈Region.ready .any ops listed,∃ o,ops[i]? = some o∧TL P C ops [o] s fun s'=>TX P C ops K f (listed.setIfInBounds i true) s'
theorem L2 {K:St→Prop}{Q':Exit→Act→World→Prop}(hK:∀ s a w,K s→Rel C s a w→Q' .normal a w):∀ (f:Nat) (listed:Array Bool) (s:St) (a:Act) (w:World),TX P C ops K f listed s→Rel C s a w→wpAny P .any ops Q' f listed a w
 | 0,_,s,a,w,h,hr=>⟨h.1,hK s a w h.2 hr⟩
 | f+1,listed,s,a,w,h,hr=>by
  refine⟨fun he=>hK s a w (h.1 he) hr,fun i hi=>?_⟩;obtain⟨o,ho,ht⟩:=h.2 i hi;exact yK ho (ht a w _ hr fun s' a' w' Sz Pp=>L2 hK f _ s' a' w' Sz Pp)
theorem T.explore (ht:aG P ak)(hm:P.follows .mixedOrders=true){id:Nat}{l:List Oper}{Q:Exit→St→Prop}(pre:List Nat)(hs:Region.noSelect l.toArray=true)(hp:AL l.toArray pre (Array.replicate l.toArray.size false)=true)(hl:pre.length≤l.toArray.size)
  (h:TH P ak C.nt l.toArray pre s fun s'=>TX P C l.toArray (Q .normal) (l.toArray.size-pre.length) (cF pre (Array.replicate l.toArray.size false)) s'):T P C (.region id l.toArray true) s Q:=by
 intro a w hr;refine wp_mono (Q:=fun e a' w'=>e=.normal∧∃ s',Q .normal s'∧Rel C s' a' w') (wp_region_any hm ?_) (fun e a' w' ⟨he,s',k1,k2⟩=>by subst he;exact⟨s',k1,k2⟩);have:=ze (P:=P) (ak:=ak) (C:=C) (Q':=fun e a' w'=>e=.normal∧∃ s',Q .normal s'∧Rel C s' a' w') ht hs (fun c a w h=>by cases h.1) (g:=l.toArray.size-pre.length) pre (Array.replicate l.toArray.size false) s a { w with drawn:=w.drawn+1 } hp hr.drew h
  (fun s' a' Sz Pp=>L2 (fun QA a w hk hr=>⟨rfl,QA,hk,hr⟩) _ _ s' a' _ Sz Pp)
 rwa [show pre.length+(l.toArray.size-pre.length)=l.toArray.size by omega] at this
end
section
variable {P:Program}{C:Cx}{s:St}{a:Act}{w:World}{ops:Array Oper}{ak:List (Nat×TI)}{nt:Nat}
def ov (ak:List (Nat×TI))(s:St):Op→Option (Ob×(Nat→CV))
 | .box e x=>match ev s x with
  | some c=>if dP c then none else some (⟨e,0,c.cells⟩,fun m=>.ax m 0)
  | none=>none
 | .buildSlice t len parts=>match dE ak t with
  | some (.sl e)=>match assoc ak e,gL s parts.toList with
   | some ie,some cs=>if len*ie.size≤16777216∧len≤16777216 then (l7 (fun i=>some (i*ie.size,ie.size)) (bb ie.zero len) cs).map fun out=>(⟨e,ie.size,out⟩,fun m=>.bl m 0 len) else none
   | _,_=>none
  | _=>none
 | _=>none
def x5:Op→Bool
 | .box _ _=>true
 | .buildSlice _ _ _=>true
 | _=>false
def ln:Op→Bool
 | .move _=>true
 | .assign _=>true
 | .load _ _=>true
 | .fieldAddr _ _ _=>true
 | .indexAddr _ _ _=>true
 | _=>false
def St.push (s:St)(ob:Ob):St:={ s with heap:=(s.nx,ob)::s.heap,nx:=s.nx+1 }
def j4 (ak:List (Nat×TI))(nt:Nat)(s:St)(o:Oper):Option St:=
 if a6 nt o.dst=true∧o.guard=none then
  if x5 o.op then (ov ak s o.op).map fun r=>(s.push r.1).put o.dst (r.2 s.nx)
  else if ln o.op then (cY ak s o.op).map (s.put o.dst) else none
 else none
theorem As {o:Oper}{s':St}(h:j4 ak nt s o=some s'):fk ak nt ops s o=some s':=by
 unfold j4 at h;split at h
 ·rename_i hc;obtain⟨h1,h2⟩:=hc;unfold fk;rw[if_pos h1,h2];simp only;unfold kV;cases O8:o.op<;>rw[O8] at h<;>simp only[x5,ln,Bool.false_eq_true,if_false,if_true] at h<;>first | cases h | skip
  case move=>exact h
  case assign=>exact h
  case load=>exact h
  case fieldAddr=>exact h
  case indexAddr=>exact h
  case box e x=>
   simp only[ov] at h;simp only[Jk]
   cases hx:ev s x with
   | none=>rw[hx] at h;cases h
   | some c=>
    rw[hx] at h;simp only at h ⊢;split at h
    ·cases h
    ·rename_i hn;rw[if_neg hn];exact h
  case buildSlice t len parts=>
   simp only[ov] at h;simp only[jt]
   cases ht:dE ak t with
   | none=>rw[ht] at h;cases h
   | some d=>
    rw[ht] at h;cases d<;>simp only at h ⊢<;>first | cases h | skip
    rename_i e
    cases he:assoc ak e with
    | none=>rw[he] at h;cases h
    | some ie=>
     rw[he] at h
     cases hp:gL s parts.toList with
     | none=>rw[hp] at h;cases h
     | some cs=>
      rw[hp] at h;simp only at h ⊢;split at h
      ·rename_i hb;rw[if_pos hb]
       cases hf:l7 (fun i=>some (i*ie.size,ie.size)) (bb ie.zero len) cs with
       | none=>rw[hf] at h;cases h
       | some out=>rw[hf] at h;exact h
      ·cases h
 ·cases h
theorem mG {s':St}(op:Op)(h:∀ x∈op.operands,ev s x=ev s' x):ov ak s op=ov ak s' op:=by
 cases op<;>first | rfl | skip
 case box e x=>simp only[ov];rw[h x Q5]
 case buildSlice t len parts=>
  simp only[ov];rw[jN parts.toList fun x hx=>h x.2 yDa]
def mX (s s':St):Prop:=(∀ t,assoc s'.env t=assoc s.env t)∧s'.heap=s.heap∧s'.nx=s.nx
theorem mX.refl (s:St):mX s s:=⟨fun _=>rfl,rfl,rfl⟩
theorem mX.trans {s s' QA:St}(h:mX s s')(k:mX s' QA):mX s QA:=⟨fun t=>(k.1 t).trans (h.1 t),k.2.1.trans h.2.1,k.2.2.trans h.2.2⟩
theorem mX.symm {s s':St}(h:mX s s'):mX s' s:=⟨fun t=>(h.1 t).symm,h.2.1.symm,h.2.2.symm⟩
theorem mX.ev {s s':St}(h:mX s s')(x:Operand):ev s' x=ev s x:=by
 cases x<;>first | exact h.1 _ | rfl
theorem mX.put {s s':St}(h:mX s s')(d:Option Tmp)(c:CV):mX (s.put d c) (s'.put d c):=by
 have e:∀ s:St,s.put d c=eY s d (some c):=fun _=>rfl;refine⟨fun t=>?_,?_,?_⟩
 ·rw[e,e,cr,cr];unfold ej;split
  ·rfl
  ·exact h.1 t
 ·cases d<;>exact h.2.1
 ·cases d<;>exact h.2.2
theorem mX.push {s s':St}(h:mX s s')(ob:Ob):mX (s.push ob) (s'.push ob):=⟨h.1,by simp[St.push,h.2.1,h.2.2],by simp[St.push,h.2.2]⟩
theorem Fb {s s' r:St}(h:mX s s'){o:Oper}(hs:j4 ak nt s o=some r):∃ r',j4 ak nt s' o=some r'∧mX r r':=by
 unfold j4 at hs ⊢;split at hs
 ·rename_i hc;rw[if_pos hc];split at hs
  ·rename_i hn;rw[if_pos hn,← mG o.op fun x _=>(h.ev x).symm]
   cases ha:ov ak s o.op with
   | none=>rw[ha] at hs;cases hs
   | some q=>
    rw[ha] at hs;cases hs;exact⟨_,rfl,by rw[h.2.2];exact (h.push _).put _ _⟩
  ·rename_i hn;rw[if_neg hn];split at hs
   ·rename_i hq;rw[if_pos hq,← gJ h.2.1.symm o.op fun x _=>(h.ev x).symm]
    cases ha:cY ak s o.op with
    | none=>rw[ha] at hs;cases hs
    | some q=>
     rw[ha] at hs;cases hs;exact⟨_,rfl,h.put _ _⟩
   ·cases hs
 ·cases hs
def mZ (s:St):Prop:=∀ o ob,assoc s.heap o=some ob→o<s.nx
theorem Rel.fresh (h:Rel C s a w):mZ s:=by
 obtain⟨σ,h⟩:=h;intro o ob ho;obtain⟨B,hB,_⟩:=h.obj o ob ho;rcases Nat.lt_or_ge o s.nx with hl | hl
 ·exact hl
 ·rw[h.nx o hl] at hB;cases hB
theorem mZ.push (h:mZ s)(ob:Ob):mZ (s.push ob):=by
 intro o x ho;simp only[St.push,assoc] at ho ⊢;split at ho
 ·omega
 ·have:=h o x ho;omega
theorem gz (s:St)(d:Option Tmp)(c:CV):(s.put d c).heap=s.heap∧(s.put d c).nx=s.nx:=by cases d<;>exact⟨rfl,rfl⟩
theorem mZ.put (h:mZ s)(d:Option Tmp)(c:CV):mZ (s.put d c):=by
 intro o x ho;rw[(gz s d c).1] at ho;rw[(gz s d c).2];exact h o x ho
theorem Ft (hf:mZ s)(ob:Ob){op:Op}(hr:ln op=true){c:CV}(h:cY ak s op=some c):cY ak (s.push ob) op=some c:=by
 have Sb:∀ x,ev (s.push ob) x=ev s x:=fun x=>by cases x<;>rfl
 have hm:∀ x cs,fJ s x=some cs→fJ (s.push ob) x=some cs:=fun x cs hx=>by
  cases x<;>simp only[fJ] at hx ⊢<;>first | exact hx | skip
  rename_i o off
  cases ho:assoc s.heap o with
  | none=>rw[ho] at hx;cases hx
  | some y=>
   have:=hf o y ho;rw[ho] at hx;simp only[St.push,assoc];rw[if_neg yA,ho];exact hx
 cases op<;>simp only[ln,Bool.false_eq_true] at hr
 case move x=>exact h
 case assign x=>exact h
 case fieldAddr t x f=>simp only[cY] at h ⊢;rw[Sb];exact h
 case indexAddr t x i=>simp only[cY] at h ⊢;rw[Sb,Sb];exact h
 case load t x=>
  simp only[cY] at h ⊢;rw[Sb]
  cases hx:ev s x with
  | none=>rw[hx] at h;simp at h
  | some d=>
   rw[hx] at h
   cases ht:assoc ak t with
   | none=>rw[ht] at h;simp at h
   | some ii=>
    rw[ht] at h;simp only at h ⊢
    cases hy:fJ s d with
    | none=>rw[hy] at h;cases h
    | some cs=>rw[hm d cs hy];rw[hy] at h;exact h
theorem AG {d e:Option Tmp}{c x:CV}(h:∀ t,d=some t→e≠some t):mX ((s.put d c).put e x) ((s.put e x).put d c):=by
 have eq:∀ (s:St) d c,s.put d c=eY s d (some c):=fun _ _ _=>rfl;refine⟨fun t=>?_,?_,?_⟩
 ·rw[eq,eq,eq,eq,cr,cr];unfold ej;rw[cr,cr];unfold ej;by_cases h1:d=some t
  ·rw[if_pos h1,if_neg (h t h1),if_pos h1]
  ·rw[if_neg h1,if_neg h1]
 ·cases d<;>cases e<;>rfl
 ·cases d<;>cases e<;>rfl
theorem HJ (d:Option Tmp)(c:CV)(ob:Ob):(s.put d c).push ob=(s.push ob).put d c:=by cases d<;>rfl
theorem vO {d:Option Tmp}{c:CV}{o:Oper}(h:∀ t,d=some t→t∉o.looksAt ops):∀ x∈o.op.operands,ev (s.put d c) x=ev s x:=by
 intro x hx
 cases x with
 | tmp t=>
  have ht:t∈o.looksAt ops:=List.mem_append_left _ (List.mem_filterMap.2 ⟨.tmp t,by simpa using hx,rfl⟩);have e:assoc (eY s d (some c)).env t=assoc s.env t:=by
   rw[cr];unfold ej;rw[if_neg fun e=>h t e ht]
  exact e
 | _=>rfl
theorem Cg {oi oj:Oper}{c:CV}{s1:St}(PJ:oi.apart ops oj=true)(hf:mZ s)(hr:ln oi.op=true)(hq:cY ak s oi.op=some c)(hs:j4 ak nt (s.put oi.dst c) oj=some s1) :
  ∃ s2,j4 ak nt s oj=some s2∧cY ak s2 oi.op=some c∧mX s1 (s2.put oi.dst c)∧mZ s2:=by
 obtain⟨h1,h2,h3⟩:=Oper.apart_spec PJ;unfold j4 at hs ⊢;split at hs
 ·rename_i hc;rw[if_pos hc];split at hs
  ·rename_i hn;rw[if_pos hn];rw[mG oj.op (vO h1)] at hs
   cases ha:ov ak s oj.op with
   | none=>rw[ha] at hs;cases hs
   | some q=>
    rw[ha] at hs;cases hs;refine⟨_,rfl,?_,?_,(hf.push q.1).put _ _⟩
    ·rw[gJ (s':=s.push q.1) (gz _ _ _).1 oi.op (vO h3)];exact Ft hf _ hr hq
    ·have e:((s.put oi.dst c).push q.1).put oj.dst (q.2 (s.put oi.dst c).nx)=((s.push q.1).put oi.dst c).put oj.dst (q.2 s.nx):=by rw[HJ,(gz _ _ _).2]
     show mX (((s.put oi.dst c).push q.1).put oj.dst (q.2 (s.put oi.dst c).nx)) _;rw[e];exact AG h2
  ·rename_i hn;rw[if_neg hn];split at hs
   ·rename_i Pp;rw[if_pos Pp];rw[gJ (gz s _ _).1 oj.op (vO h1)] at hs
    cases ha:cY ak s oj.op with
    | none=>rw[ha] at hs;cases hs
    | some q=>
     rw[ha] at hs;cases hs;refine⟨_,rfl,?_,AG h2,hf.put _ _⟩;rw[gJ (gz s _ _).1 oi.op (vO h3)];exact hq
   ·cases hs
 ·cases hs
theorem uQ {o:Oper}{c:CV}(hr:ln o.op=true)(hg:o.guard=none)(hd:a6 nt o.dst=true)(hq:cY ak s o.op=some c):j4 ak nt s o=some (s.put o.dst c):=by
 have Vq:¬ x5 o.op=true:=by
  intro hn;cases O8:o.op<;>rw[O8] at hr hn<;>first | (simp only[x5,Bool.false_eq_true] at hn;done) | simp only[ln,Bool.false_eq_true] at hr
 unfold j4;rw[if_pos ⟨hd,hg⟩,if_neg Vq,if_pos hr,hq];rfl
def XA (ak:List (Nat×TI))(nt:Nat)(ops:Array Oper)(K:St→Prop):Nat→Array Bool→St→Prop
 | 0,listed,s=>Region.ready .any ops listed=[]∧K s
 | f+1,listed,s=>(Region.ready .any ops listed=[]→K s)∧∀ i∈Region.ready .any ops listed,∃ o s',ops[i]? = some o∧j4 ak nt s o=some s'∧XA ak nt ops K f (listed.setIfInBounds i true) s'
theorem XA.Hl {K:St→Prop}(hK:∀ s s',mX s s'→K s→K s'):∀ (f:Nat) (listed:Array Bool) (s s':St),mX s s'→XA ak nt ops K f listed s→XA ak nt ops K f listed s'
 | 0,_,s,s',h,hx=>⟨hx.1,hK s s' h hx.2⟩
 | f+1,listed,s,s',h,hx=>by
  refine⟨fun he=>hK s s' h (hx.1 he),fun i hi=>?_⟩;obtain⟨o,s1,ho,hs,hk⟩:=hx.2 i hi;obtain⟨s2,h2,h3⟩:=Fb h hs;exact⟨o,s2,ho,h2,XA.Hl hK f _ s1 s2 h3 hk⟩
theorem jY {i j:Nat}{listed:Array Bool}(h:j∈Region.ready .any ops listed)(Pf:i≠j):j∈Region.ready .any ops (listed.setIfInBounds i true):=by
 obtain⟨h1,o,ho,h2⟩:=mem_ready.1 h;exact mem_ready.2 ⟨by rw[getD_set_ne true Pf];exact h1,o,ho,fun e he hb=>getD_set_true (h2 e he hb)⟩
theorem XA.hoist {K:St→Prop}(hK:∀ s s',mX s s'→K s→K s'){i:Nat}{oi:Oper}(hi:ops[i]? = some oi)(hr:ln oi.op=true)(hg:oi.guard=none)(hd:a6 nt oi.dst=true){c:CV}:∀ (f:Nat) (listed:Array Bool) (s:St),
  i∈Region.ready .any ops listed→(∀ j oj,ops[j]? = some oj→j≠i→listed.getD j true=false→(∀ e∈oj.after,Region.binds .any e=true→e.on≠i)→oi.apart ops oj=true)→mZ s→cY ak s oi.op=some c →
  XA ak nt ops K f (listed.setIfInBounds i true) (s.put oi.dst c)→XA ak nt ops K (f+1) listed s:=by
 intro f
 induction f with
 | zero=>
  intro listed s hm PJ hf hq hx;refine⟨fun he=>by rw[he] at hm;simp at hm,fun j hj=>?_⟩;by_cases e:i=j
  ·subst e;exact⟨oi,_,hi,uQ hr hg hd hq,hx⟩
  ·have:=jY hj e;rw[hx.1] at this;simp at this
 | succ f ih=>
  intro listed s hm PJ hf hq hx;refine⟨fun he=>by rw[he] at hm;simp at hm,fun j hj=>?_⟩;by_cases e:i=j
  ·subst e;exact⟨oi,_,hi,uQ hr hg hd hq,hx⟩
  ·obtain⟨oj,s1,ho,hs,hk⟩:=hx.2 j (jY hj e);obtain⟨j1,TK,W3,j2⟩:=mem_ready.1 hj;have:TK=oj:=Option.some.inj (W3.symm.trans ho);subst this;obtain⟨i1,oi',W4,i2⟩:=mem_ready.1 hm;have Qr:=PJ j TK ho (Ne.symm e) j1 fun e' Zx hb QO=>by
    have:=j2 e' Zx hb;rw[QO] at this;rw[getD_both i1] at this;cases this
   obtain⟨s2,k1,k2,k3,k4⟩:=Cg Qr hf hr hq hs;refine⟨TK,s2,ho,k1,ih _ s2 (jY hm (Ne.symm e)) (fun m om hom Pf hl PW=>PJ m om hom Pf ?_ PW) k4 k2 ?_⟩
   ·by_cases e2:j=m
    ·subst e2
     cases RS:listed.getD j true with
     | false=>rfl
     | true=>rw[RS] at j1;cases j1
    ·rwa [getD_set_ne true e2] at hl
   ·rw[Array.setIfInBounds_comm _ _ (Ne.symm e)];exact XA.Hl hK f _ s1 _ k3 hk
def MN (ops:Array Oper):List Nat→Array Bool→Bool
 | [],_=>true
 | i::r,listed=>(Region.ready .any ops listed).contains i && Region.free .any ops listed i && (match ops[i]? with
   | some o=>o.guard.isNone && ln o.op
   | none=>false) && MN ops r (listed.setIfInBounds i true)
theorem XA.pre {K:St→Prop}(hK:∀ s s',mX s s'→K s→K s'){g:Nat}:∀ (pre:List Nat) (L0:Array Bool) (s:St),MN ops pre L0=true→mZ s →
  TH P ak nt ops pre s (fun s'=>XA ak nt ops K g (cF pre L0) s')→XA ak nt ops K (pre.length+g) L0 s
 | [],L0,s,_,_,hk=>by rw[List.length_nil,Nat.zero_add];exact hk
 | i::r,L0,s,hp,hf,hk=>by
  simp only[MN,Bool.and_eq_true] at hp;obtain⟨⟨⟨h1,h2⟩,h3⟩,h4⟩:=hp;obtain⟨o,res,ho,hq,Zk⟩:=hk;rw[ho] at h3;simp only[Bool.and_eq_true] at h3;have hg:o.guard=none:=by simpa using h3.1
  obtain⟨hd,hq⟩:=hq;rcases hq with ⟨j,want,t,e1,_⟩ | ⟨_,c,rfl,hc⟩
  ·rw[hg] at e1;cases e1
  ·rcases hc with hc | ⟨cl,e,_⟩
   ·rw[show (i::r).length+g=(r.length+g)+1 by simp;omega];exact XA.hoist hK ho h3.2 hg hd (r.length+g) L0 s (by simpa using h1) (Region.free_spec ho h2) hf hc (XA.pre hK r _ _ h4 (hf.put _ _) Zk)
   ·rw[e] at h3;simp[ln] at h3
def KS (K:St→Prop)(s:St):Prop:=∃ s0,mX s0 s∧K s0
theorem KS.Hl {K:St→Prop}(s s':St)(h:mX s s')(hk:KS K s):KS K s':=by
 obtain⟨s0,h0,k⟩:=hk;exact⟨s0,h0.trans h,k⟩
end
end Go.Can
/- Steps of explored draws, for walks. No function of the program is mentioned here. -/
namespace Go.Can
open Go.RowKit
section
variable {P:Program}{C:Cx}{s:St}{ops:Array Oper}{ak:List (Nat×TI)}{nt:Nat}{K:St→Prop}{f:Nat}{listed:Array Bool}
theorem XA.step {i:Nat}{o:Oper}(ho:ops[i]? = some o)(h:xM (fun s'=>XA ak nt ops K f (listed.setIfInBounds i true) s') (j4 ak nt s o)):∃ o s',ops[i]? = some o∧j4 ak nt s o=some s'∧XA ak nt ops K f (listed.setIfInBounds i true) s':=by
 cases hs:j4 ak nt s o with
 | none=>rw[hs] at h;exact h.elim
 | some s'=>rw[hs] at h;exact⟨o,s',ho,hs,h⟩
end
end Go.Can
