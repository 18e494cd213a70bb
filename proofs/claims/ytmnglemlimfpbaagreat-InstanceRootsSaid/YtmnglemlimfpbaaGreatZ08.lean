/- append onto a slice that is named again afterwards (in place, or moved); append of made zeros; cells forgotten. No function of the program is mentioned here. -/
import Derived.Test.YtmnglemlimfpbaaGreatZ07
namespace Go.Can
open Go.RowKit
section
variable {P:Program}{C:Cx}{σ:Nat→Option OB}{s:St}{a:Act}{w:World}{ops:Array Oper}{aj:List (Nat×TI)}
theorem TL.some (ht:aF P aj){K:St→Prop}:∀ (k:Nat) {l:List Oper} {s:St},sj (fun s'=>TL P C ops (l.drop k) s' K) (oF aj C.nt ops (l.take k) s)→TL P C ops l s K
 | 0,_,_,h=>h
 | k+1,[],_,h=>h
 | k+1,o::l,s,h=>by
  rw[List.take_succ_cons,rI] at h
  cases hs:eL aj C.nt ops s o with
  | none=>rw[hs] at h;exact h.elim
  | some s'=>
   rw[hs] at h
   exact TL.step ht hs (TL.some ht k h)
def St.cut (s:St)(o:Nat)(ob:Ob)(k:Nat):St:={ s with heap:=ou s.heap o { ob with cells:=ob.cells.take k } }
theorem Le.cut {s:St}{o:Nat}{ob:Ob}(k:Nat)(ho:assoc s.heap o=some ob):Le C s (s.cut o ob k):=by
 intro a w ⟨σ,h⟩
 have hup:∀ {p y},assoc (ou s.heap o { ob with cells:=ob.cells.take k }) p=some y→(p=o∧y={ ob with cells:=ob.cells.take k })∨(p≠o∧assoc s.heap p=some y):=fun {p y} hp=>by
  rw[eD] at hp
  split at hp
  ·rename_i e;subst e;rw[ho] at hp;cases hp;exact .inl ⟨rfl,rfl⟩
  ·rename_i e;exact .inr ⟨Ne.symm e,hp⟩
 have hex:∀ {p y},assoc (ou s.heap o { ob with cells:=ob.cells.take k }) p=some y→∃ z,assoc s.heap p=some z:=fun {p y} hp=>by
  rcases hup hp with ⟨rfl,_⟩ | ⟨_,hp⟩
  ·exact⟨_,ho⟩
  ·exact⟨_,hp⟩
 refine⟨σ,h.kO,h.tm,h.os,h.tape,h.output,h.size,h.frame,?_,?_,?_,h.nx,h.ek,h.low,h.new⟩
 ·intro t c hc
  simp only[St.cut,oo]
  exact h.env t c hc
 ·intro p x hp
  simp only[St.cut] at hp ⊢
  rcases hup hp with ⟨rfl,rfl⟩ | ⟨_,hp'⟩
  ·obtain⟨B,m1,m2,m3,m4,m5⟩:=h.obj p ob ho
   refine⟨B,m1,m2,fun hn=>by simp[m3 hn],?_,fun b hb=>?_⟩
   ·rw[List.all_eq_true] at m4 ⊢
    exact fun x hx=>m4 x (List.mem_of_mem_take hx)
   ·obtain⟨cur,n1,n2,n3,n4,n5,n6⟩:=m5 b hb
    refine⟨cur,n1,n2,n3,n4,by simp only[List.length_take];omega,?_⟩
    simp only[oo]
    have:=aQ.take k _ _ n6
    rw[List.take_take] at this
    simpa only[List.length_take] using this
  ·obtain⟨B,m1,m2,m3,m4,m5⟩:=h.obj p x hp'
   refine⟨B,m1,m2,m3,m4,fun b hb=>?_⟩
   obtain⟨cur,n1,n2,n3,n4,n5,n6⟩:=m5 b hb
   exact⟨cur,n1,n2,n3,n4,n5,by simp only[oo];exact n6⟩
 ·intro p q x y b hp hq hbp hbq
  obtain⟨z1,hz1⟩:=hex hp
  obtain⟨z2,hz2⟩:=hex hq
  exact h.inj p q z1 z2 b hz1 hz2 hbp hbq
def App2 (s:St)(d:Option Tmp)(o n m:Nat)(ob:Ob)(news:List CV)(s':St):Prop:=
 s'=St.put { s with heap:=ou s.heap o { ob with cells:=ob.cells++news } } d (.bw o 0 (n+m))∨s'=(s.new ob.elem ob.sz (ob.cells++news)).put d (.bw s.nx 0 (n+m))
theorem app2_ok (ht:aF P aj){o:Oper}{cl:Call}{t e:TypeId}{x y:Operand}{p n m:Nat}{q:CV}{ob:Ob}{ie:TI}{news:List CV}(hd:aW C.nt o.dst=true)(ho:o.op=.call cl)(hcl:cl.callee=.builtin .append)(hargs:cl.args=#[x,y])(hts:cl.argTypes=#[t,t])
  (h1:dm aj t=some (.sl e)) (h2:assoc aj e=some ie) (h3:ev s x=some (.bw p 0 n)) (h4:ev s y=some q) (h5:cells? s q=some (news,m)) (h6:assoc s.heap p=some ob)
  (_b1:0<ie.size) (b2:0<ie.bytes) (b3:news.length=m*ie.size) (b4:ob.elem=e) (b5:ob.sz=ie.size) (b6:n*ie.size=ob.cells.length) (b7:(n+m)*ie.bytes≤140737488355328) (b8:0<m) :
  ∀ a w,Rel C s a w→∃ z w' s',(execOp a.eval o).run P w=.ok (.value z) w'∧App2 s o.dst p n m ob news s'∧Rel C s' (a.put o.dst z) w':=by
 rintro a w ⟨σ,h⟩
 subst b4
 have hd':∀ t,o.dst=some t→t<a.tmps.size:=fun t e=>by
  rw[h.tm]
  rw[e] at hd
  simpa [aW] using hd
 obtain⟨it,hit,hd1⟩:=Option.map_eq_some_iff.1 h1
 obtain⟨f,z,g1,g2,g3,g4,g5⟩:=(ht ob.elem ie h2).info
 obtain⟨k1,k2⟩:=cJ (w:=w) (F:=FB C σ s.heap) _ _ g5
 have hzs:z.cells.size=f.size:=by rw[g2,← (ht ob.elem ie h2).len,← bx.length _ _ k1];simp
 have hu:=du (ht t it hit) hd1
 obtain⟨us,u1,u2,u3⟩:=cells?_ok h (bq h h4) h5
 have ul:=aQ.length _ _ u1
 have uo:=aQ.gX _ _ u2 u1
 have hx:=bq h h3
 have hrun:∀ {v' w'},(Builtin.append_ #[t,t] o.type #[a.eval x,a.eval y]).run P w=.ok v' w'→(execOp a.eval o).run P w=.ok (.value v') w':=fun {v' w'} hr=>by
  simp[execOp,ho,resolve,hcl,hargs,hts,invoke,builtin,hr]
 have hm:n+m≤maxLen:=by
  have:n+m≤(n+m)*ie.bytes:=Nat.le_mul_of_pos_right _ b2
  simp only[maxLen];omega
 have hsmall:n+m≤9223372036854775807:=by simp only[maxLen] at hm;omega
 rcases u3 with ⟨c,_,hm0,_⟩ | ⟨ad,c,hy,hcell⟩
 ·omega
 have ul':us.length=m*f.size:=by rw[ul,b3,g2]
 -- what the growing arm leaves
 have grown:∀ (ek:Nat) (xs:List Value),xs.length=n*f.size→aQ w (FB C σ s.heap) σ ob.cells xs →
   Rel C ((s.new ob.elem ob.sz (ob.cells++news)).put o.dst (.bw s.nx 0 (n+m))) (a.put o.dst (.slice (some ⟨w.heap.size,0,none⟩) (n+m) (grownCap w (n+m) ek ob.elem)))
    (w.drew.alloc (.cells (xs.toArray++us.toArray++Builtin.zeroCells z.cells (grownCap w (n+m) ek ob.elem-(n+m))) ob.elem)):=by
  intro ek xs xl xr
  have hge:=grownCap_ge w (n+m) ek ob.elem
  have hcm:grownCap w (n+m) ek ob.elem≤maxLen:=grownCap_le_maxLen w (n+m) ek ob.elem hm
  have hsz:(xs.toArray++us.toArray++Builtin.zeroCells z.cells (grownCap w (n+m) ek ob.elem-(n+m))).size=grownCap w (n+m) ek ob.elem*f.size:=by
   simp only[Array.size_append,List.size_toArray,size_zeroCells,hzs,xl,ul',← Nat.add_mul]
   congr 1;omega
  obtain⟨_,_,_,_,m4,_⟩:=h.obj p ob h6
  have hlen:(ob.cells++news).length=(xs++us).length:=by rw[List.length_append,List.length_append,← aQ.length _ _ xr,ul]
  have hfr:=h.fresh (w':=w.drew.alloc (.cells (xs.toArray++us.toArray++Builtin.zeroCells z.cells (grownCap w (n+m) ek ob.elem-(n+m))) ob.elem)) (ob:=⟨ob.elem,ob.sz,ob.cells++news⟩) (B:=⟨some w.heap.size,grownCap w (n+m) ek ob.elem*f.size,ob.sz⟩)
   ⟨rfl,rfl,rfl,by simp,fun k hk _=>heap_alloc_old w.drew _ k hk⟩ rfl (by rw[List.all_append,m4,u2];rfl) (fun hn=>(by cases hn)) fun b hb=>by
    cases hb
    refine⟨Nat.le_refl _,_,heap_alloc_new w.drew _,hsz,?_,?_⟩
    ·rw[hsz]
     show (ob.cells++news).length≤_
     rw[hlen,List.length_append,xl,ul',← Nat.add_mul]
     exact Nat.mul_le_mul_right _ hge
    ·show aQ w (FB C σ s.heap) σ (ob.cells++news) _
     rw[show (⟨ob.elem,ob.sz,ob.cells++news⟩:Ob).cells.length=(xs++us).length from hlen]
     simp only[Array.toList_append]
     rw[List.take_append_of_le_length (by simp),List.take_of_length_le (by simp)]
     exact aQ.append _ _ _ _ xr u1
  refine⟨_,hfr.1.put hd' ?_⟩
  simp only[VR]
  refine⟨_,dc,grownCap w (n+m) ek ob.elem,rfl,hge,hcm,?_,fun _=>?_⟩
  ·rw[b5,g2];simp
  ·rw[b5,g2]
 simp only[VR] at hx
 obtain⟨B,hB,hx⟩:=hx
 obtain⟨B0,e1,e2,e3,e4,e5⟩:=h.obj p ob h6
 rw[hB] at e1;cases e1
 split at hx
 ·rename_i hn
  obtain⟨hv,_,rfl⟩:=hx
  have hr:=run_append_nil (P:=P) w t o.type ob.elem f z hu g1 g4 ad m c us ul' hcell b8 (by omega) (by
   have:=b7
   rw[g3];simp only[Nat.zero_add] at this;omega)
  have hg:=grown 0 [] (by simp) (by rw[e3 hn];simp[aQ])
  rw[← hv,← hy] at hr
  exact⟨_,_,_,hrun hr,.inr rfl,by simpa using hg⟩
 ·rename_i b hbb
  obtain⟨cap,hv,c1,c2,c3,c4⟩:=hx
  obtain⟨cur,n1,n2,n3,n4,n5,n6⟩:=e5 b hbb
  have hcr:=c4 trivial
  have hcs:cur.size=cap*f.size:=by rw[n2,← hcr,e2,b5,g2]
  have hlo:(cur.toList.take ob.cells.length).length=n*f.size:=by
   rw[List.length_take,g2,← b6]
   have:n*ie.size≤cap*ie.size:=Nat.mul_le_mul_right _ c1
   rw[g2] at hcs
   simp;omega
  by_cases hroom:n+m≤cap
  ·have hfit:n*f.size+us.length≤cur.size:=by rw[ul',hcs,← Nat.add_mul];exact Nat.mul_le_mul_right _ hroom
   have hr:=run_append_room (P:=P) w t o.type ob.elem f hu g1 b n cap cur n1 ad m c us ul' hcell uo hroom hfit
   rw[← hv,← hy] at hr
   have hnl:n*f.size=ob.cells.length:=by rw[g2];exact b6
   have hwr:=h.write h6 hB hbb (cs':=ob.cells++news) (us':=cur.toList.take (n*f.size)++us++cur.toList.drop (n*f.size+us.length)) (by
     simp only[List.length_append,List.length_take,List.length_drop,Array.length_toList];omega) (by
     simp only[List.length_append,List.length_take,List.length_drop,Array.length_toList];omega) (by
     have hl2:(ob.cells++news).length=(cur.toList.take (n*f.size)++us).length:=by
      rw[hnl,List.length_append,List.length_append,hlo,ul,hnl]
     rw[hl2,List.take_append_of_le_length (Nat.le_refl _),List.take_of_length_le (Nat.le_refl _),hnl]
     exact aQ.append _ _ _ _ n6 u1) (by rw[List.all_append,e4,u2];rfl)
   refine⟨_,_,_,hrun hr,.inl rfl,σ,hwr.put hd' ?_⟩
   simp only[VR]
   refine⟨B,hB,?_⟩
   rw[hbb]
   refine⟨cap,rfl,hroom,c2,?_,fun _=>hcr⟩
   simp only[Nat.zero_add];omega
  ·have holds:∀ j u,(cur.toList.take ob.cells.length)[j]? = some u→w.cell? ((⟨b,0,none⟩:Addr).add j)=some u:=fun j u hu=>by
    rw[add_lit,Nat.zero_add,cell_of_row w b j cur _ _ n1]
    rw[List.getElem?_take] at hu
    split at hu
    ·simpa using hu
    ·cases hu
   have hr:=run_append_grow (P:=P) w t o.type ob.elem f z hu g1 g4 ⟨b,0,none⟩ n cap _ hlo holds ad m c us ul' hcell (by omega) (by omega) (growslice_fits (by omega) (by rw[g3];exact b7))
   rw[← hv,← hy] at hr
   exact⟨_,_,_,hrun hr,.inr rfl,grown cap _ hlo n6⟩
end
end Go.Can
/- append of made zeros onto an own slice. No function of the program is mentioned here. -/
namespace Go.Can
open Go.RowKit
section
variable {P:Program}{C:Cx}{σ:Nat→Option OB}{s:St}{a:Act}{w:World}{ops:Array Oper}{aj:List (Nat×TI)}
theorem CX {m:Nat}(h:m≤9223372036854775807):IntKind.i64.wrap (m:Int)=m:=by
 simp[IntKind.wrap,IntKind.signed,IntKind.bits]
 omega
theorem pO (t it ty e:TypeId)(i:TypeInfo)(z:Value)(size bytes:Nat)(ht:P.underlying t=some (.slice e))(hit:P.underlying it=some (.int .i64))(hi:P.info? e=some i)(hz:i.zero=some z)
  (hsize:i.size=size) (hby:i.bytes=bytes) (hzs:z.cells.size=size) (hsz:0<size) (v:Value) (n:Nat) (xs:List Value) (hown:w.ownsRow 0 e size v n xs) (m:Nat) (hm:0<m)
  (h63:n+m≤maxLen) (hbytes:(n+m)*bytes≤140737488355328) (hb0:0<bytes) (h1:∀ u∈(Builtin.zeroCells z.cells m).toList,u.oneCell'=true) :
  ∃ v' w',(Builtin.append_ #[t,it] ty #[v,.int .i64 m]).run P w=.ok v' w'∧w'.ownsRow 0 e size v' (n+m) (xs++(Builtin.zeroCells z.cells m).toList)∧w.grownBy w' v.ownBlock∧(v'.ownBlock=v.ownBlock∨v'.ownBlock=some w.heap.size):=by
 subst hsize
 subst hby
 have hsmall:n+m≤9223372036854775807:=by simp only[maxLen] at h63;omega
 have hwm:IntKind.i64.wrap (m:Int)=m:=CX (by omega)
 have hmz:¬ ((m:Int)<0):=by omega
 have hms:m*i.size≠0:=Nat.ne_of_gt (Nat.mul_pos hm hsz)
 have hm0:m≠0:=by omega
 have hs0:i.size≠0:=by omega
 have hmb:¬ ((281474976710656:Int)<(m:Int)*(i.bytes:Int)):=by
  have h2:m*i.bytes≤(n+m)*i.bytes:=Nat.mul_le_mul_right _ (by omega)
  have h3:((m*i.bytes:Nat):Int)=(m:Int)*(i.bytes:Int):=by simp
  omega
 have hnl:(Builtin.zeroCells z.cells m).toList.length=m*i.size:=by simp[size_zeroCells,hzs]
 have hlen:(xs++(Builtin.zeroCells z.cells m).toList).length=(n+m)*i.size:=by rw[List.length_append,hown.1,hnl,Nat.add_mul]
 have grown:∀ (ek:Nat),ek<n+m→∀ (row:Option Nat),
   (w.drew.alloc (.cells (xs.toArray++Builtin.zeroCells z.cells m++Builtin.zeroCells z.cells (grownCap w (n+m) ek e-(n+m))) e)).ownsRow 0 e i.size
    (.slice (some ⟨w.heap.size,0,none⟩) (n+m) (grownCap w (n+m) ek e)) (n+m) (xs++(Builtin.zeroCells z.cells m).toList)∧
   w.grownBy (w.drew.alloc (.cells (xs.toArray++Builtin.zeroCells z.cells m++Builtin.zeroCells z.cells (grownCap w (n+m) ek e-(n+m))) e)) row:=by
  intro ek _ row
  have hge:=grownCap_ge w (n+m) ek e
  have hcm:grownCap w (n+m) ek e≤maxLen:=grownCap_le_maxLen w (n+m) ek e h63
  refine⟨⟨hlen,.inr ⟨w.heap.size,_,_,rfl,Nat.zero_le _,heap_alloc_new w.drew _,hge,hcm,?_,?_⟩⟩,⟨rfl,rfl,rfl,by simp,fun k hk _=>heap_alloc_old w.drew _ k hk⟩⟩
  ·simp only[Array.size_append,List.size_toArray,size_zeroCells,hzs,hown.1,← Nat.add_mul]
   congr 1
   omega
  ·simp only[Array.toList_append,List.append_assoc]
   rw[← List.append_assoc,← hlen]
   exact List.take_left
 rcases hown.2 with ⟨rfl,rfl⟩ | ⟨g,cap,cur,rfl,hbg,hg,hnc,hcm,hcs,htake⟩
 ·have hx:xs=[]:=List.eq_nil_of_length_eq_zero (by simpa using hown.1)
  subst hx
  have h48:¬ (281474976710656<Builtin.nextslicecap m 0*i.bytes):=by
   rw[nextslicecap_zero hm]
   have:=hbytes
   simp only[Nat.zero_add] at this;omega
  have h63':¬ (9223372036854775807<(m:Int)):=by omega
  have hr:(Builtin.append_ #[t,it] ty #[.slice none 0 0,.int .i64 m]).run P w=.ok (.slice (some ⟨w.heap.size,0,none⟩) m (grownCap w m 0 e))
    (w.drew.alloc (.cells (Builtin.zeroCells z.cells m++Builtin.zeroCells z.cells (grownCap w m 0 e-m)) e)):=by
   simp[Builtin.append_,run_underlying ht,run_underlying hit,sizeOf,typeInfo,zeroValue,hi,hz,asInt,asIntOf,hwm,hmz,hmb,hm0,h48,h63',Question.forced,run_firstCells_none,newRow,grownCap]
   exact fun h=>absurd h hms
  have hgr:=grown 0 (by omega) (Value.ownBlock (.slice none 0 0))
  simp only[Nat.zero_add] at hgr ⊢
  have ea:([]:List Value).toArray++Builtin.zeroCells z.cells m=Builtin.zeroCells z.cells m:=by simp
  rw[ea] at hgr
  exact⟨_,_,hr,hgr.1,hgr.2,.inr rfl⟩
 ·by_cases hroom:n+m≤cap
  ·have hfit:n*i.size+(Builtin.zeroCells z.cells m).toList.length≤cur.size:=by rw[hnl,hcs,← Nat.add_mul];exact Nat.mul_le_mul_right _ hroom
   have hst:=run_storeCells_at P g (n*i.size) e (Builtin.zeroCells z.cells m).toList 0 cur w hg (by simpa using hfit) h1
   simp only[Nat.add_zero] at hst
   have hr:(Builtin.append_ #[t,it] ty #[.slice (some ⟨g,0,none⟩) n cap,.int .i64 m]).run P w =
     .ok (.slice (some ⟨g,0,none⟩) (n+m) cap) (w.setRow g (cur.toList.take (n*i.size)++(Builtin.zeroCells z.cells m).toList++cur.toList.drop (n*i.size+(Builtin.zeroCells z.cells m).toList.length)).toArray):=by
    simp[Builtin.append_,run_underlying ht,run_underlying hit,sizeOf,typeInfo,zeroValue,hi,hz,asInt,asIntOf,hwm,hmz,hmb,hroom,Addr.add_lit,hst]
    exact fun h=>absurd h hms
   refine⟨_,_,hr,⟨hlen,.inr ⟨g,cap,_,rfl,hbg,setRow_heap w g cur _ e _ hg,hroom,hcm,?_,?_⟩⟩,⟨rfl,rfl,rfl,by simp,fun k _ hk=>setRow_other w g k _ (fun e=>hk (by simp[Value.ownBlock,e]))⟩,Or.inl rfl⟩
   ·simp only[List.size_toArray,List.length_append,List.length_take,List.length_drop,Array.length_toList]
    simp only[Array.length_toList] at hfit
    omega
   ·rw[htake,← hlen]
    exact List.take_left
  ·have holds:∀ j u,xs[j]? = some u→w.cell? ((⟨g,0,none⟩:Addr).add j)=some u:=hown.cells (g:=g) rfl
   have hfo:=run_firstCells_some (P:=P) w.drew i.size n ⟨g,0,none⟩ n cap xs hown.1 (by simpa using holds)
   have h48:¬ (281474976710656<Builtin.nextslicecap (n+m) cap*i.bytes):=by
    have:=growslice_fits (show cap<n+m by omega) hbytes
    omega
   have h63':¬ (9223372036854775807<((n:Int)+(m:Int))):=by omega
   have hr:(Builtin.append_ #[t,it] ty #[.slice (some ⟨g,0,none⟩) n cap,.int .i64 m]).run P w=.ok (.slice (some ⟨w.heap.size,0,none⟩) (n+m) (grownCap w (n+m) cap e))
     (w.drew.alloc (.cells (xs.toArray++Builtin.zeroCells z.cells m++Builtin.zeroCells z.cells (grownCap w (n+m) cap e-(n+m))) e)):=by
    simp[Builtin.append_,run_underlying ht,run_underlying hit,sizeOf,typeInfo,zeroValue,hi,hz,asInt,asIntOf,hwm,hmz,hmb,hroom,h48,h63',Question.forced,hfo,newRow,grownCap]
    exact fun h=>absurd h hms
   have hgr:=grown cap (by omega) (Value.ownBlock (.slice (some ⟨g,0,none⟩) n cap))
   exact⟨_,_,hr,hgr.1,hgr.2,Or.inr rfl⟩
def AppZ (s:St)(d:Option Tmp)(o n m:Nat)(ob:Ob)(zs:List CV):St:=
 St.put { env:=s.env,heap:=(s.nx,{ ob with cells:=ob.cells++aX zs m })::gD s.heap o,nx:=s.nx+1 } d (.bw s.nx 0 (n+m))
def AppZS (s:St)(d:Option Tmp)(o n m:Nat)(ob:Ob)(zs:List CV)(s':St):Prop:=s'=AppZ s d o n m ob zs
theorem GU (ht:aF P aj){o:Oper}{cl:Call}{t it e:TypeId}{x y:Operand}{p n m:Nat}{ob:Ob}{ie ii:TI}{zs:List CV}(hd:aW C.nt o.dst=true)(ho:o.op=.call cl)(hcl:cl.callee=.builtin .append)(hargs:cl.args=#[x,y])(hts:cl.argTypes=#[t,it])
  (h1:dm aj t=some (.sl e)) (h2:assoc aj e=some ie) (hi1:assoc aj it=some ii) (hi2:ii.d=.int .i64) (h3:ev s x=some (.bw p 0 n)) (h4:ev s y=some (.int .i64 m)) (h6:assoc s.heap p=some ob)
  (b1:0<ie.size) (b2:0<ie.bytes) (b4:ob.elem=e) (b5:ob.sz=ie.size) (b6:n*ie.size=ob.cells.length) (b7:(n+m)*ie.bytes≤140737488355328) (b8:0<m) (b11:ie.zero=zs) :
  ∀ a w,Rel C s a w→∃ z w' s',(execOp a.eval o).run P w=.ok (.value z) w'∧AppZS s o.dst p n m ob zs s'∧Rel C s' (a.put o.dst z) w':=by
 rintro a w ⟨σ,h⟩
 subst b4
 subst b11
 have hd':∀ t,o.dst=some t→t<a.tmps.size:=fun t e=>by
  rw[h.tm]
  rw[e] at hd
  simpa [aW] using hd
 obtain⟨itt,hit,hd1⟩:=Option.map_eq_some_iff.1 h1
 obtain⟨f,z,g1,g2,g3,g4,g5⟩:=(ht ob.elem ie h2).info
 obtain⟨k1,k2⟩:=cJ (w:=w) (F:=FB C σ s.heap) _ _ g5
 have hzl:z.cells.size=ie.zero.length:=by simpa using bx.length _ _ k1
 have hzs:z.cells.size=ie.size:=by rw[hzl,(ht ob.elem ie h2).len]
 have hu:=du (ht t itt hit) hd1
 have hui:P.underlying it=some (.int .i64):=by
  obtain⟨d,q1,q2⟩:=(ht it ii hi1).uy
  rw[hi2] at q2
  cases d<;>simp only[qH] at q2<;>first | cases q2 | skip
  exact q1
 have hx:=bq h h3
 have hy:=bq h h4
 simp only[VR] at hx hy
 have hrun:∀ {v' w'},(Builtin.append_ #[t,it] o.type #[a.eval x,a.eval y]).run P w=.ok v' w'→(execOp a.eval o).run P w=.ok (.value v') w':=fun {v' w'} hr=>by
  simp[execOp,ho,resolve,hcl,hargs,hts,invoke,builtin,hr]
 have hm:n+m≤maxLen:=by
  have:n+m≤(n+m)*ie.bytes:=Nat.le_mul_of_pos_right _ b2
  simp only[maxLen];omega
 have hzz:Builtin.zeroCells z.cells m=madeCells z.cells (m*z.cells.size):=rfl
 have hz1:aQ w (FB C σ s.heap) σ (aX ie.zero m) (Builtin.zeroCells z.cells m).toList:=by
  rw[hzz];exact kz (aQ.cb _ _ k1) m
 have hz2:=jg k2 m
 have uo:=aQ.gX _ _ hz2 hz1
 have ul:=aQ.length _ _ hz1
 obtain⟨B,hB,hx⟩:=hx
 obtain⟨B0,e1,e2,e3,e4,e5⟩:=h.obj p ob h6
 rw[hB] at e1;cases e1
 have hown:∃ xs,w.ownsRow 0 ob.elem ie.size (a.eval x) n xs∧aQ w (FB C σ s.heap) σ ob.cells xs∧(a.eval x).ownBlock=B.gK:=by
  split at hx
  ·rename_i hn
   obtain⟨e,_,rfl⟩:=hx
   rw[e,e3 hn,hn]
   exact⟨[],World.ownsRow_nil w 0 _ _,by simp[aQ],rfl⟩
  ·rename_i b hbb
   obtain⟨cap,e,c1,c2,c3,c4⟩:=hx
   obtain⟨cur,n1,n2,n3,n4,n5,n6⟩:=e5 b hbb
   rw[e,hbb]
   have hcr:=c4 trivial
   refine⟨cur.toList.take ob.cells.length,⟨?_,.inr ⟨b,cap,cur,rfl,Nat.zero_le _,n1,c1,c2,?_,by rw[b6]⟩⟩,n6,rfl⟩
   ·rw[List.length_take,b6];simp;omega
   ·rw[n2,← hcr,e2,b5]
 obtain⟨xs,x1,x2,x3⟩:=hown
 have xl:=aQ.length _ _ x2
 obtain⟨v',w',r1,r2,r3,r4⟩:=pO (P:=P) t it o.type ob.elem f z ie.size ie.bytes hu hui g1 g4 g2 g3 hzs b1 _ n xs x1 m b8 hm b7 b2 uo
 rw[x3] at r3 r4
 rw[← hy] at r1
 obtain⟨B',b1',b2',b3',b4'⟩:=me r2
 have hfr:=h.grow (B':=B') h6 hB r3 (by rw[b1',b5]) (cs':=ob.cells++aX ie.zero m) (fun g hg=>by
   rw[b2'] at hg
   rcases r4 with r4 | r4<;>rw[r4] at hg
   ·exact .inl hg
   ·exact .inr (by simpa using hg.symm)) (by rw[List.all_append,e4,hz2];rfl) (fun hn=>by
   have:=(b3' hn).2.2
   obtain⟨y1,y2⟩:=List.append_eq_nil_iff.1 this
   rw[y1] at xl;rw[y2] at ul
   rw[List.eq_nil_of_length_eq_zero xl.symm,List.eq_nil_of_length_eq_zero ul.symm];rfl) fun b hb'=>by
   obtain⟨cap,cur,e1,e2,e3,e4,e5,e6,e7⟩:=b4' b hb'
   have hlen:(ob.cells++aX ie.zero m).length=(xs++(Builtin.zeroCells z.cells m).toList).length:=by rw[List.length_append,List.length_append,xl,ul]
   refine⟨cur,e2,e5,?_,?_⟩
   ·rw[e5,← e6,List.length_append,← b6,eQ,(ht ob.elem ie h2).len,← Nat.add_mul]
    exact Nat.mul_le_mul_right _ e3
   ·rw[hlen,e7]
    exact aQ.append _ _ _ _ x2 hz1
 refine⟨v',w',_,hrun r1,rfl,_,hfr.put hd' ?_⟩
 simp only[VR]
 refine⟨B',dc,?_⟩
 split
 ·rename_i hn
  obtain⟨e1,e2,_⟩:=b3' hn
  exact⟨e1,trivial,e2⟩
 ·rename_i b hb'
  obtain⟨cap,cur,e1,e2,e3,e4,e5,e6,e7⟩:=b4' b hb'
  refine⟨cap,e1,e3,e4,?_,fun _=>?_⟩<;>rw[b1']<;>omega
end
end Go.Can
/- A region that draws, all its orders explored: after the moves and places ahead, each operation that is ready may come next. No function of the program is mentioned here. -/
namespace Go.Can
open Go.RowKit
section
variable {P:Program}{C:Cx}{s:St}{a:Act}{w:World}{ops:Array Oper}{aj:List (Nat×TI)}
def zO (Kw:Act→World→Prop)(Q':Exit→Act→World→Prop):Exit→Act→World→Prop
 | .normal=>Kw
 | e=>Q' e
theorem xb {o:Oper}{Kw:Act→World→Prop}{Q':Exit→Act→World→Prop}(h:o.wp P a w Kw (zO Kw Q')):o.wp P a w Kw Q':=by
 unfold Oper.wp at *
 generalize (execOp a.eval o).run P w=r at *
 cases r with
 | ok n w'=>
  cases n<;>simp only[Oper.upon] at h ⊢<;>
   first
    | exact h
    | exact Calls.mono h (fun e w'' he=>by cases e<;>exact he)
    | exact Rows.mono h (fun _ _ he=>he)
 | halt x w'=>cases x<;>simp only[Oper.upon] at h ⊢<;>exact h
theorem vm {i:Nat}{o:Oper}{Kw:Act→World→Prop}{Q':Exit→Act→World→Prop}(ho:ops[i]? = some o)(h:wpList P ops (zO Kw Q') [o] a w):wpOp P ops Q' i Kw a w:=by
 unfold wpOp
 simp only[ho]
 unfold wpList at h
 have e:(wpList P ops (zO Kw Q') []:Act→World→Prop)=Kw:=rfl
 rw[e] at h
 split
 ·rename_i hw
  rw[if_pos hw] at h
  exact h.imp xb fun⟨h1,h2⟩=>⟨h1,h2⟩
 ·rename_i hw
  rw[if_neg hw] at h
  exact h
def TX (P:Program)(C:Cx)(ops:Array Oper)(K:St→Prop):Nat→Array Bool→St→Prop
 | 0,listed,s=>Region.ready .any ops listed=[]∧K s
 | f+1,listed,s=>(Region.ready .any ops listed=[]→K s)∧∀ i∈Region.ready .any ops listed,∃ o,ops[i]? = some o∧TL P C ops [o] s fun s'=>TX P C ops K f (listed.setIfInBounds i true) s'
theorem Hz {K:St→Prop}{Q':Exit→Act→World→Prop}(hK:∀ s a w,K s→Rel C s a w→Q' .normal a w):∀ (f:Nat) (listed:Array Bool) (s:St) (a:Act) (w:World),TX P C ops K f listed s→Rel C s a w→wpAny P .any ops Q' f listed a w
 | 0,_,s,a,w,h,hr=>⟨h.1,hK s a w h.2 hr⟩
 | f+1,listed,s,a,w,h,hr=>by
  refine⟨fun he=>hK s a w (h.1 he) hr,fun i hi=>?_⟩
  obtain⟨o,ho,ht⟩:=h.2 i hi
  exact vm ho (ht a w _ hr fun s' a' w' hs' hr'=>Hz hK f _ s' a' w' hs' hr')
theorem TX.go {K:St→Prop}{f:Nat}{listed:Array Bool}(r:Nat)(rs:List Nat)(hr:Region.ready .any ops listed=r::rs)(h:∀ i∈r::rs,∃ o,ops[i]? = some o∧TL P C ops [o] s fun s'=>TX P C ops K f (listed.setIfInBounds i true) s'):TX P C ops K (f+1) listed s:=
 ⟨fun he=>(by rw[hr] at he;cases he),fun i hi=>h i (by rw[hr] at hi;exact hi)⟩
theorem TX.end {K:St→Prop}{f:Nat}{listed:Array Bool}(hr:Region.ready .any ops listed=[])(h:K s):TX P C ops K f listed s:=by
 cases f with
 | zero=>exact⟨hr,h⟩
 | succ f=>exact⟨fun _=>h,fun i hi=>(by rw[hr] at hi;cases hi)⟩
theorem T.explore (ht:aF P aj)(hm:P.follows .mixedOrders=true){id:Nat}{l:List Oper}{Q:Exit→St→Prop}(pre:List Nat)(hs:Region.noSelect l.toArray=true)(hp:xK l.toArray pre (Array.replicate l.toArray.size false)=true)(hl:pre.length≤l.toArray.size)
  (h:TH P aj C.nt l.toArray pre s fun s'=>TX P C l.toArray (Q .normal) (l.toArray.size-pre.length) (cf pre (Array.replicate l.toArray.size false)) s'):T P C (.region id l.toArray true) s Q:=by
 intro a w hr
 refine wp_mono (Q:=fun e a' w'=>e=.normal∧∃ s',Q .normal s'∧Rel C s' a' w') (wp_region_any hm ?_) (fun e a' w' ⟨he,s',k1,k2⟩=>by subst he;exact⟨s',k1,k2⟩)
 have:=vL (P:=P) (aj:=aj) (C:=C) (Q':=fun e a' w'=>e=.normal∧∃ s',Q .normal s'∧Rel C s' a' w') ht hs (fun c a w h=>by cases h.1) (g:=l.toArray.size-pre.length) pre (Array.replicate l.toArray.size false) s a { w with drawn:=w.drawn+1 } hp hr.drew h
  (fun s' a' hs' hr'=>Hz (fun s'' a w hk hr=>⟨rfl,s'',hk,hr⟩) _ _ s' a' _ hs' hr')
 rwa [show pre.length+(l.toArray.size-pre.length)=l.toArray.size by omega] at this
end
end Go.Can
