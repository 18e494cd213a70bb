/- append onto a slice that i -/
import Derived.Test.YtlkmbdfhdknlgaaGreatV08
namespace Go.Can
open Go.RowKit List
section
variable {P:Program}{C:Cx}{σ:Nat->Option OB}{s:St}{a:Act}{w:World}{ops:Array Oper}{av:List (Nat×TI)}
theorem TL.exec {o:Oper}{l:List Oper}{K:St->Prop}(_hd:bl C.nt o.dst=true)(hg:bW ops s o=some true)(S:St->Prop)
  (hx:∀ a w,Rel C s a w->∃ z w' s',(execOp a.eval o).run P w=.ok (.value z) w'/\S s'/\Rel C s' (a.put o.dst z) w') (h:∀ s',S s'->TL P C ops l s' K):TL P C ops (o::l) s K:=by
 intro a w Q hr hQ;have hw:Region.wanted o (yielded ops a.tmps)=true:=by
  unfold bW at hg;split at hg
  ·rename_i e;simp[Region.wanted,e]
  ·rename_i j want e;split at hg
   ·cases hg
   rename_i t hj;exact iR hr e hj hg
 obtain⟨z,w',s',k1,k2,k3⟩:=hx a w hr;unfold wpList;rw[if_pos hw];refine .inl ?_;unfold Oper.wp;rw[k1];exact h s' k2 _ _ Q k3 hQ
theorem TL.some (ht:aD P av){K:St->Prop}:∀ (k:Nat) {l:List Oper} {s:St},xI (λ s'=>TL P C ops (l.drop k) s' K) (xi av C.nt ops (l.take k) s)->TL P C ops l s K
 | 0,_,_,h=>h
 | k+1,[],_,h=>h
 | k+1,o::l,s,h=>by
  rw[take_succ_cons,uS] at h
  cases hs:gB av C.nt ops s o with
  | none=>rw[hs] at h;exact h.elim
  | some s'=>
   rw[hs] at h;exact TL.step ht hs (TL.some ht k h)
def St.cut (s:St)(o:Nat)(ob:Ob)(k:Nat):St:={ s with heap:=sM s.heap o { ob with cells:=ob.cells.take k } }
theorem Le.cut {s:St}{o:Nat}{ob:Ob}(k:Nat)(ho:assoc s.heap o=some ob):Le C s (s.cut o ob k):=by
 intro a w ⟨σ,h⟩;have WT:∀ {p y},assoc (sM s.heap o { ob with cells:=ob.cells.take k }) p=some y->(p=o/\y={ ob with cells:=ob.cells.take k })\/(p≠o/\assoc s.heap p=some y):=λ {p y} hp=>by
  rw[fF] at hp;split at hp
  ·rename_i e;subst e;rw[ho] at hp;cases hp;exact .inl ⟨rfl,rfl⟩
  ·rename_i e;exact .inr ⟨Ne.symm e,hp⟩
 have hex:∀ {p y},assoc (sM s.heap o { ob with cells:=ob.cells.take k }) p=some y->∃ z,assoc s.heap p=some z:=λ {p y} hp=>by
  rcases WT hp with ⟨rfl,_⟩ | ⟨_,hp⟩
  ·exact⟨_,ho⟩
  ·exact⟨_,hp⟩
 refine⟨σ,h.oz,h.tm,h.os,h.tape,h.output,h.size,h.frame,?_,?_,?_,h.nx,h.fX,h.low,h.new⟩
 ·intro t c hc;simp only[St.cut,qi];exact h.env t c hc
 ·intro p x hp;simp only[St.cut] at hp |-;rcases WT hp with ⟨rfl,rfl⟩ | ⟨_,SR⟩
  ·obtain⟨B,m1,m2,m3,m4,m5⟩:=h.obj p ob ho;refine⟨B,m1,m2,λ hn=>by simp[m3 hn],?_,λ b hb=>?_⟩
   ·rw[all_eq_true] at m4 |-;exact λ x hx=>m4 x (mem_of_mem_take hx)
   ·obtain⟨cur,n1,n2,n3,n4,n5,n6⟩:=m5 b hb;refine⟨cur,n1,n2,n3,n4,by simp only[length_take];omega,?_⟩;simp only[qi];have:=a7.take k _ _ n6;rw[take_take] at this
    simpa only[length_take] using this
  ·obtain⟨B,m1,m2,m3,m4,m5⟩:=h.obj p x SR;refine⟨B,m1,m2,m3,m4,λ b hb=>?_⟩;obtain⟨cur,n1,n2,n3,n4,n5,n6⟩:=m5 b hb;exact⟨cur,n1,n2,n3,n4,n5,by simp only[qi];exact n6⟩
 ·intro p q x y b hp hq Te TU;obtain⟨z1,Sc⟩:=hex hp;obtain⟨z2,Qs⟩:=hex hq;exact h.inj p q z1 z2 b Sc Qs Te TU
end
end Go.Can
/- append of made zeros onto an own slice. No function of the program is mentioned here. -/
namespace Go.Can
open Go.RowKit List
section
variable {P:Program}{C:Cx}{σ:Nat->Option OB}{s:St}{a:Act}{w:World}{ops:Array Oper}{av:List (Nat×TI)}
theorem Gm {m:Nat}(h:m<=9223372036854775807):IntKind.i64.wrap (m:Int)=m:=by
 simp[IntKind.wrap,IntKind.signed,IntKind.bits];omega
theorem rY (t it ty e:TypeId)(i:TypeInfo)(z:Value)(size bytes:Nat)(ht:P.underlying t=some (.slice e))(Ps:P.underlying it=some (.int .i64))(hi:P.info? e=some i)(hz:i.zero=some z)
  (UG:i.size=size) (Uq:i.bytes=bytes) (VH:z.cells.size=size) (O0:0<size) (v:Value) (n:Nat) (xs:List Value) (Po:w.ownsRow 0 e size v n xs) (m:Nat) (hm:0<m)
  (WD:n+m<=maxLen) (Sw:(n+m)*bytes<=140737488355328) (hb0:0<bytes) (h1:∀ u∈(Builtin.zeroCells z.cells m).toList,u.oneCell'=true) :
  ∃ v' w',(Builtin.append_ #[t,it] ty #[v,.int .i64 m]).run P w=.ok v' w'/\w'.ownsRow 0 e size v' (n+m) (xs++(Builtin.zeroCells z.cells m).toList)/\w.grownBy w' v.ownBlock/\(v'.ownBlock=v.ownBlock\/v'.ownBlock=some w.heap.size):=by
 subst UG;subst Uq;have hsmall:n+m<=9223372036854775807:=by simp only[maxLen] at WD;omega
 have hwm:IntKind.i64.wrap (m:Int)=m:=Gm yA;have X0:¬ ((m:Int)<0):=by omega
 have Qm:m*i.size≠0:=Nat.ne_of_gt (Nat.mul_pos hm O0);have SC:m≠0:=by omega
 have Se:i.size≠0:=by omega
 have RC:¬ ((281474976710656:Int)<(m:Int)*(i.bytes:Int)):=by
  have h2:m*i.bytes<=(n+m)*i.bytes:=Nat.mul_le_mul_right _ yA;have h3:((m*i.bytes:Nat):Int)=(m:Int)*(i.bytes:Int):=by simp
  omega
 have Vl:(Builtin.zeroCells z.cells m).toList.length=m*i.size:=by simp[size_zeroCells,VH]
 have hlen:(xs++(Builtin.zeroCells z.cells m).toList).length=(n+m)*i.size:=by rw[length_append,Po.1,Vl,Nat.add_mul]
 have grown:∀ (fX:Nat),fX<n+m->∀ (row:Option Nat),
   (w.drew.alloc (.cells (xs.toArray++Builtin.zeroCells z.cells m++Builtin.zeroCells z.cells (grownCap w (n+m) fX e-(n+m))) e)).ownsRow 0 e i.size
    (.slice (some ⟨w.heap.size,0,none⟩) (n+m) (grownCap w (n+m) fX e)) (n+m) (xs++(Builtin.zeroCells z.cells m).toList)/\
   w.grownBy (w.drew.alloc (.cells (xs.toArray++Builtin.zeroCells z.cells m++Builtin.zeroCells z.cells (grownCap w (n+m) fX e-(n+m))) e)) row:=by
  intro fX _ row;have SD:=grownCap_ge w (n+m) fX e;have Vq:grownCap w (n+m) fX e<=maxLen:=grownCap_le_maxLen w (n+m) fX e WD;refine⟨⟨hlen,.inr ⟨w.heap.size,_,_,rfl,Nat.zero_le _,heap_alloc_new w.drew _,SD,Vq,?_,?_⟩⟩,⟨rfl,rfl,rfl,by simp,λ k hk _=>heap_alloc_old w.drew _ k hk⟩⟩
  ·simp only[Array.size_append,size_toArray,size_zeroCells,VH,Po.1,<- Nat.add_mul];congr 1;omega
  ·simp only[Array.toList_append,append_assoc];rw[<- append_assoc,<- hlen];exact take_left
 rcases Po.2 with ⟨rfl,rfl⟩ | ⟨g,cap,cur,rfl,hbg,hg,Zd,Vq,PQ,TF⟩
 ·have hx:xs=[]:=eq_nil_of_length_eq_zero (by simpa using Po.1);subst hx;have h48:¬ (281474976710656<Builtin.nextslicecap m 0*i.bytes):=by
   rw[nextslicecap_zero hm];have:=Sw;simp only[Nat.zero_add] at this;omega
  have Xs:¬ (9223372036854775807<(m:Int)):=by omega
  have hr:(Builtin.append_ #[t,it] ty #[.slice none 0 0,.int .i64 m]).run P w=.ok (.slice (some ⟨w.heap.size,0,none⟩) m (grownCap w m 0 e))
    (w.drew.alloc (.cells (Builtin.zeroCells z.cells m++Builtin.zeroCells z.cells (grownCap w m 0 e-m)) e)):=by
   simp[Builtin.append_,run_underlying ht,run_underlying Ps,sizeOf,typeInfo,zeroValue,hi,hz,asInt,asIntOf,hwm,X0,RC,SC,h48,Xs,Question.forced,run_firstCells_none,newRow,grownCap];exact λ h=>absurd h Qm
  have Xi:=grown 0 yA (Value.ownBlock (.slice none 0 0));simp only[Nat.zero_add] at Xi |-;have ea:([]:List Value).toArray++Builtin.zeroCells z.cells m=Builtin.zeroCells z.cells m:=by simp
  rw[ea] at Xi;exact⟨_,_,hr,Xi.1,Xi.2,.inr rfl⟩
 ·by_cases TG:n+m<=cap
  ·have ZC:n*i.size+(Builtin.zeroCells z.cells m).toList.length<=cur.size:=by rw[Vl,PQ,<- Nat.add_mul];exact Nat.mul_le_mul_right _ TG
   have Pk:=run_storeCells_at P g (n*i.size) e (Builtin.zeroCells z.cells m).toList 0 cur w hg (by simpa using ZC) h1;simp only[Nat.add_zero] at Pk;have hr:(Builtin.append_ #[t,it] ty #[.slice (some ⟨g,0,none⟩) n cap,.int .i64 m]).run P w =
     .ok (.slice (some ⟨g,0,none⟩) (n+m) cap) (w.setRow g (cur.toList.take (n*i.size)++(Builtin.zeroCells z.cells m).toList++cur.toList.drop (n*i.size+(Builtin.zeroCells z.cells m).toList.length)).toArray):=by
    simp[Builtin.append_,run_underlying ht,run_underlying Ps,sizeOf,typeInfo,zeroValue,hi,hz,asInt,asIntOf,hwm,X0,RC,TG,Addr.add_lit,Pk];exact λ h=>absurd h Qm
   refine⟨_,_,hr,⟨hlen,.inr ⟨g,cap,_,rfl,hbg,setRow_heap w g cur _ e _ hg,TG,Vq,?_,?_⟩⟩,⟨rfl,rfl,rfl,by simp,λ k _ hk=>setRow_other w g k _ (λ e=>hk (by simp[Value.ownBlock,e]))⟩,Or.inl rfl⟩
   ·simp only[size_toArray,length_append,length_take,length_drop,Array.length_toList];simp only[Array.length_toList] at ZC;omega
   ·rw[TF,<- hlen];exact take_left
  ·have holds:∀ j u,xs[j]? = some u->w.cell? ((⟨g,0,none⟩:Addr).add j)=some u:=Po.cells (g:=g) rfl;have hfo:=run_firstCells_some (P:=P) w.drew i.size n ⟨g,0,none⟩ n cap xs Po.1 (by simpa using holds);have h48:¬ (281474976710656<Builtin.nextslicecap (n+m) cap*i.bytes):=by
    have:=growslice_fits (show cap<n+m by omega) Sw;omega
   have Xs:¬ (9223372036854775807<((n:Int)+(m:Int))):=by omega
   have hr:(Builtin.append_ #[t,it] ty #[.slice (some ⟨g,0,none⟩) n cap,.int .i64 m]).run P w=.ok (.slice (some ⟨w.heap.size,0,none⟩) (n+m) (grownCap w (n+m) cap e))
     (w.drew.alloc (.cells (xs.toArray++Builtin.zeroCells z.cells m++Builtin.zeroCells z.cells (grownCap w (n+m) cap e-(n+m))) e)):=by
    simp[Builtin.append_,run_underlying ht,run_underlying Ps,sizeOf,typeInfo,zeroValue,hi,hz,asInt,asIntOf,hwm,X0,RC,TG,h48,Xs,Question.forced,hfo,newRow,grownCap];exact λ h=>absurd h Qm
   have Xi:=grown cap yA (Value.ownBlock (.slice (some ⟨g,0,none⟩) n cap));exact⟨_,_,hr,Xi.1,Xi.2,Or.inr rfl⟩
def AppZ (s:St)(d:Option Tmp)(o n m:Nat)(ob:Ob)(zs:List CV):St:=
 St.put { env:=s.env,heap:=(s.nx,{ ob with cells:=ob.cells++aS zs m })::jU s.heap o,nx:=s.nx+1 } d (.bg s.nx 0 (n+m))
def AppZS (s:St)(d:Option Tmp)(o n m:Nat)(ob:Ob)(zs:List CV)(s':St):Prop:=s'=AppZ s d o n m ob zs
theorem KT (ht:aD P av){o:Oper}{cl:Call}{t it e:TypeId}{x y:Operand}{p n m:Nat}{ob:Ob}{ie ii:TI}{zs:List CV}(hd:bl C.nt o.dst=true)(ho:o.op=.call cl)(O2:cl.callee=.builtin .append)(OX:cl.args=#[x,y])(Qt:cl.argTypes=#[t,it])
  (h1:dM av t=some (.sl e)) (h2:assoc av e=some ie) (PH:assoc av it=some ii) (Qn:ii.d=.int .i64) (h3:ev s x=some (.bg p 0 n)) (h4:ev s y=some (.int .i64 m)) (h6:assoc s.heap p=some ob)
  (b1:0<ie.size) (b2:0<ie.bytes) (b4:ob.elem=e) (b5:ob.sz=ie.size) (b6:n*ie.size=ob.cells.length) (b7:(n+m)*ie.bytes<=140737488355328) (b8:0<m) (b11:ie.zero=zs) :
  ∀ a w,Rel C s a w->∃ z w' s',(execOp a.eval o).run P w=.ok (.value z) w'/\AppZS s o.dst p n m ob zs s'/\Rel C s' (a.put o.dst z) w':=by
 rintro a w ⟨σ,h⟩;subst b4;subst b11;have PG:∀ t,o.dst=some t->t<a.tmps.size:=λ t e=>by
  rw[h.tm];rw[e] at hd
  simpa [bl] using hd
 obtain⟨itt,Ps,Qa⟩:=Option.map_eq_some_iff.1 h1;obtain⟨f,z,g1,g2,g3,g4,g5⟩:=(ht ob.elem ie h2).info;obtain⟨k1,k2⟩:=dt (w:=w) (F:=FB C σ s.heap) _ _ g5;have XO:z.cells.size=ie.zero.length:=by simpa using ca.length _ _ k1
 have VH:z.cells.size=ie.size:=by rw[XO,(ht ob.elem ie h2).len]
 have hu:=dI (ht t itt Ps) Qa;have Q1:P.underlying it=some (.int .i64):=by
  obtain⟨d,q1,q2⟩:=(ht it ii PH).zJ;rw[Qn] at q2;cases d<;>simp only[ue] at q2<;>first | cases q2 | skip
  exact q1
 have hx:=bG h h3;have hy:=bG h h4;simp only[VR] at hx hy;have P1:∀ {v' w'},(Builtin.append_ #[t,it] o.type #[a.eval x,a.eval y]).run P w=.ok v' w'->(execOp a.eval o).run P w=.ok (.value v') w':=λ {v' w'} hr=>by
  simp[execOp,ho,resolve,O2,OX,Qt,invoke,builtin,hr]
 have hm:n+m<=maxLen:=by
  have:n+m<=(n+m)*ie.bytes:=Nat.le_mul_of_pos_right _ b2;simp only[maxLen];omega
 have hzz:Builtin.zeroCells z.cells m=madeCells z.cells (m*z.cells.size):=rfl;have Sc:a7 w (FB C σ s.heap) σ (aS ie.zero m) (Builtin.zeroCells z.cells m).toList:=by
  rw[hzz];exact lP (a7.cS _ _ k1) m
 have Qs:=j3 k2 m;have uo:=a7.ja _ _ Qs Sc;have ul:=a7.length _ _ Sc;obtain⟨B,hB,hx⟩:=hx;obtain⟨B0,e1,e2,e3,e4,e5⟩:=h.obj p ob h6;rw[hB] at e1;cases e1;have Po:∃ xs,w.ownsRow 0 ob.elem ie.size (a.eval x) n xs/\a7 w (FB C σ s.heap) σ ob.cells xs/\(a.eval x).ownBlock=B.j7:=by
  split at hx
  ·rename_i hn;obtain⟨e,_,rfl⟩:=hx;rw[e,e3 hn,hn];exact⟨[],World.ownsRow_nil w 0 _ _,by simp[a7],rfl⟩
  ·rename_i b Tf;obtain⟨cap,e,c1,c2,c3,c4⟩:=hx;obtain⟨cur,n1,n2,n3,n4,n5,n6⟩:=e5 b Tf;rw[e,Tf];have Rw:=c4 trivial;refine⟨cur.toList.take ob.cells.length,⟨?_,.inr ⟨b,cap,cur,rfl,Nat.zero_le _,n1,c1,c2,?_,by rw[b6]⟩⟩,n6,rfl⟩
   ·rw[length_take,b6];simp;omega
   ·rw[n2,<- Rw,e2,b5]
 obtain⟨xs,x1,x2,x3⟩:=Po;have xl:=a7.length _ _ x2;obtain⟨v',w',r1,r2,r3,r4⟩:=rY (P:=P) t it o.type ob.elem f z ie.size ie.bytes hu Q1 g1 g4 g2 g3 VH b1 _ n xs x1 m b8 hm b7 b2 uo;rw[x3] at r3 r4;rw[<- hy] at r1;obtain⟨B',b1',b2',b3',b4'⟩:=oa r2;have PB:=h.grow (B':=B') h6 hB r3 (by rw[b1',b5]) (QH:=ob.cells++aS ie.zero m) (λ g hg=>by
   rw[b2'] at hg;rcases r4 with r4 | r4<;>rw[r4] at hg
   ·exact .inl hg
   ·exact .inr (by simpa using hg.symm)) (by rw[all_append,e4,Qs];rfl) (λ hn=>by
   have:=(b3' hn).2.2;obtain⟨y1,y2⟩:=append_eq_nil_iff.1 this;rw[y1] at xl;rw[y2] at ul;rw[eq_nil_of_length_eq_zero xl.symm,eq_nil_of_length_eq_zero ul.symm];rfl) λ b Pf=>by
   obtain⟨cap,cur,e1,e2,e3,e4,e5,e6,e7⟩:=b4' b Pf;have hlen:(ob.cells++aS ie.zero m).length=(xs++(Builtin.zeroCells z.cells m).toList).length:=by rw[length_append,length_append,xl,ul]
   refine⟨cur,e2,e5,?_,?_⟩
   ·rw[e5,<- e6,length_append,<- b6,fE,(ht ob.elem ie h2).len,<- Nat.add_mul];exact Nat.mul_le_mul_right _ e3
   ·rw[hlen,e7];exact a7.append _ _ _ _ x2 Sc
 refine⟨v',w',_,P1 r1,rfl,_,PB.put PG ?_⟩;simp only[VR];refine⟨B',dN,?_⟩;split
 ·rename_i hn;obtain⟨e1,e2,_⟩:=b3' hn;exact⟨e1,trivial,e2⟩
 ·rename_i b Pf;obtain⟨cap,cur,e1,e2,e3,e4,e5,e6,e7⟩:=b4' b Pf;refine⟨cap,e1,e3,e4,?_,λ _=>?_⟩<;>rw[b1']<;>omega
end
end Go.Can
/- A region that draws, all its orders explored: after the moves and places ahead, each operation that is ready may come next. No function of the program is mentioned here. -/
namespace Go.Can
open Go.RowKit
section
variable {P:Program}{C:Cx}{s:St}{a:Act}{w:World}{ops:Array Oper}{av:List (Nat×TI)}
def C4 (Kw:Act->World->Prop)(Q':Exit->Act->World->Prop):Exit->Act->World->Prop
 | .normal=>Kw
 | e=>Q' e
theorem zQ {o:Oper}{Kw:Act->World->Prop}{Q':Exit->Act->World->Prop}(h:o.wp P a w Kw (C4 Kw Q')):o.wp P a w Kw Q':=by
 unfold Oper.wp at *;generalize (execOp a.eval o).run P w=r at *
 cases r with
 | ok n w'=>
  cases n<;>simp only[Oper.upon] at h |-<;>
   first
    | exact h
    | exact Calls.mono h (λ e w'' he=>by cases e<;>exact he)
    | exact Rows.mono h (λ _ _ he=>he)
 | halt x w'=>cases x<;>simp only[Oper.upon] at h |-<;>exact h
theorem yp {i:Nat}{o:Oper}{Kw:Act->World->Prop}{Q':Exit->Act->World->Prop}(ho:ops[i]? = some o)(h:wpList P ops (C4 Kw Q') [o] a w):wpOp P ops Q' i Kw a w:=by
 unfold wpOp;simp only[ho];unfold wpList at h;have e:(wpList P ops (C4 Kw Q') []:Act->World->Prop)=Kw:=rfl;rw[e] at h;split
 ·rename_i hw;rw[if_pos hw] at h;exact h.imp zQ λ⟨h1,h2⟩=>⟨h1,h2⟩
 ·rename_i hw;rw[if_neg hw] at h;exact h
def TX (P:Program)(C:Cx)(ops:Array Oper)(K:St->Prop):Nat->Array Bool->St->Prop
 | 0,listed,s=>Region.ready .any ops listed=[]/\K s
 | f+1,listed,s=>(Region.ready .any ops listed=[]->K s)/\∀ i∈Region.ready .any ops listed,∃ o,ops[i]? = some o/\TL P C ops [o] s λ s'=>TX P C ops K f (listed.setIfInBounds i true) s'
theorem LK {K:St->Prop}{Q':Exit->Act->World->Prop}(hK:∀ s a w,K s->Rel C s a w->Q' .normal a w):∀ (f:Nat) (listed:Array Bool) (s:St) (a:Act) (w:World),TX P C ops K f listed s->Rel C s a w->wpAny P .any ops Q' f listed a w
 | 0,_,s,a,w,h,hr=>⟨h.1,hK s a w h.2 hr⟩
 | f+1,listed,s,a,w,h,hr=>by
  refine⟨λ he=>hK s a w (h.1 he) hr,λ i hi=>?_⟩;obtain⟨o,ho,ht⟩:=h.2 i hi;exact yp ho (ht a w _ hr λ s' a' w' SP Pu=>LK hK f _ s' a' w' SP Pu)
theorem TX.go {K:St->Prop}{f:Nat}{listed:Array Bool}(r:Nat)(rs:List Nat)(hr:Region.ready .any ops listed=r::rs)(h:∀ i∈r::rs,∃ o,ops[i]? = some o/\TL P C ops [o] s λ s'=>TX P C ops K f (listed.setIfInBounds i true) s'):TX P C ops K (f+1) listed s:=
 ⟨λ he=>(by rw[hr] at he;cases he),λ i hi=>h i (by rw[hr] at hi;exact hi)⟩
theorem TX.end {K:St->Prop}{f:Nat}{listed:Array Bool}(hr:Region.ready .any ops listed=[])(h:K s):TX P C ops K f listed s:=by
 cases f with
 | zero=>exact⟨hr,h⟩
 | succ f=>exact⟨λ _=>h,λ i hi=>(by rw[hr] at hi;cases hi)⟩
theorem T.explore (ht:aD P av)(hm:P.follows .mixedOrders=true){id:Nat}{l:List Oper}{Q:Exit->St->Prop}(pre:List Nat)(hs:Region.noSelect l.toArray=true)(hp:CF l.toArray pre (Array.replicate l.toArray.size false)=true)(hl:pre.length<=l.toArray.size)
  (h:TH P av C.nt l.toArray pre s λ s'=>TX P C l.toArray (Q .normal) (l.toArray.size-pre.length) (dk pre (Array.replicate l.toArray.size false)) s'):T P C (.region id l.toArray true) s Q:=by
 intro a w hr;refine wp_mono (Q:=λ e a' w'=>e=.normal/\∃ s',Q .normal s'/\Rel C s' a' w') (wp_region_any hm ?_) (λ e a' w' ⟨he,s',k1,k2⟩=>by subst he;exact⟨s',k1,k2⟩);have:=yW (P:=P) (av:=av) (C:=C) (Q':=λ e a' w'=>e=.normal/\∃ s',Q .normal s'/\Rel C s' a' w') ht hs (λ c a w h=>by cases h.1) (g:=l.toArray.size-pre.length) pre (Array.replicate l.toArray.size false) s a { w with drawn:=w.drawn+1 } hp hr.drew h
  (λ s' a' SP Pu=>LK (λ Q5 a w hk hr=>⟨rfl,Q5,hk,hr⟩) _ _ s' a' _ SP Pu)
 rwa [show pre.length+(l.toArray.size-pre.length)=l.toArray.size by omega] at this
end
section
variable {P:Program}{C:Cx}{s:St}{a:Act}{w:World}{ops:Array Oper}{av:List (Nat×TI)}{nt:Nat}
def BL (av:List (Nat×TI))(s:St):Op->Option (Ob×(Nat->CV))
 | .box e x=>match ev s x with
  | some c=>if ez c then none else some (⟨e,0,c.cells⟩,λ m=>.ax m 0)
  | none=>none
 | .buildSlice t len parts=>match dM av t with
  | some (.sl e)=>match assoc av e,iy s parts.toList with
   | some ie,some cs=>if len*ie.size<=16777216/\len<=16777216 then (nw (λ i=>some (i*ie.size,ie.size)) (aS ie.zero len) cs).map λ out=>(⟨e,ie.size,out⟩,λ m=>.bg m 0 len) else none
   | _,_=>none
  | _=>none
 | _=>none
theorem Dh {s':St}(op:Op)(h:∀ x∈op.operands,ev s x=ev s' x):BL av s op=BL av s' op:=by
 cases op<;>first | rfl | skip
 case box e x=>simp only[BL];rw[h x Rn]
 case buildSlice t len parts=>
  simp only[BL];rw[jV parts.toList λ x hx=>h x.2 yEa]
end
end Go.Can
/- Steps of explored draws, for walks. No function of the program is mentioned here. -/
namespace Go.Can
open Go.RowKit List
section
variable {P:Program}{C:Cx}{s:St}{ops:Array Oper}{av:List (Nat×TI)}{nt:Nat}{K:St->Prop}{f:Nat}{listed:Array Bool}
theorem TX.one {i:Nat}{o:Oper}(hr:Region.ready .any ops listed=[i])(ho:ops[i]? = some o)(h:TL P C ops [o] s λ s'=>TX P C ops K f (listed.setIfInBounds i true) s'):TX P C ops K (f+1) listed s:=
 TX.go i [] hr λ k hk=>by
  simp only[mem_singleton] at hk;subst hk;exact⟨o,ho,h⟩
theorem TX.two {i j:Nat}{o o':Oper}(hr:Region.ready .any ops listed=[i,j])(ho:ops[i]? = some o)(Pt:ops[j]? = some o')(h:TL P C ops [o] s λ s'=>TX P C ops K f (listed.setIfInBounds i true) s')(h':TL P C ops [o'] s λ s'=>TX P C ops K f (listed.setIfInBounds j true) s'):TX P C ops K (f+1) listed s:=
 TX.go i [j] hr λ k hk=>by
  simp only[mem_cons,not_mem_nil,or_false] at hk;rcases hk with rfl | rfl
  ·exact⟨o,ho,h⟩
  ·exact⟨o',Pt,h'⟩
end
section
variable {av:List (Nat×TI)}{s s':St}
def names (o:Nat):CV->Bool
 | .bg p _ _=>p == o
 | .ax p _=>p == o
 | _=>false
theorem CP {c:CV}{cs:List CV}(h:gS s c=some cs)(hh:∀ o ob,names o c=true->assoc s.heap o=some ob->assoc s'.heap o=some ob):gS s' c=some cs:=by
 cases c<;>simp only[gS] at h |-<;>first | exact h | skip
 rename_i o off
 cases ho:assoc s.heap o with
 | none=>rw[ho] at h;cases h
 | some y=>rw[hh o y (by simp[names]) ho];rw[ho] at h;exact h
theorem Bx {t:TypeId}{c r:CV}{lo hi:Option Operand}(h1:∀ y,lo=some y->ev s y=ev s' y)(h2:∀ y,hi=some y->ev s y=ev s' y)(h:lJ av s t c lo hi=some r)(hh:∀ o ob,names o c=true->assoc s.heap o=some ob->assoc s'.heap o=some ob):lJ av s' t c lo hi=some r:=by
 cases c<;>simp only[lJ,jX h1,jX h2] at h |-<;>first | exact h | skip
 case bg o off n=>
  cases ho:assoc s.heap o with
  | some y=>rw[hh o y (by simp[names]) ho];rw[ho] at h;exact h
  | none=>
   rw[ho] at h;exfalso;split at h
   ·split at h
    ·rename_i e;cases e
    ·cases h
   ·cases h
 case ax o f=>
  cases ho:assoc s.heap o with
  | some y=>rw[hh o y (by simp[names]) ho];rw[ho] at h;exact h
  | none=>
   rw[ho] at h;exfalso;split at h
   ·split at h
    ·rename_i e;cases e
    ·cases h
   ·cases h
theorem zl (H:List (Nat×Ob))(x:Operand):ev { s with heap:=H } x=ev s x:=by cases x<;>rfl
theorem vQ (H:List (Nat×Ob))(xs:List Operand):Bk { s with heap:=H } xs=Bk s xs:=je xs λ x _=>zl H x
theorem BB (H:List (Nat×Ob))(xs:List (Nat×Operand)):iy { s with heap:=H } xs=iy s xs:=jV xs λ x _=>zl H x.2
theorem wV (H:List (Nat×Ob))(b:Builtin)(xs:List Operand)(ts:List TypeId):iz av { s with heap:=H } b xs ts=iz av s b xs ts:=by
 unfold iz;split
 ·split
  ·rw[zl]
  ·rfl
 ·rw[vQ]
 ·rw[vQ]
 ·rfl
theorem sS (op:Op)(h:∀ x∈op.operands,ev s x=ev s' x)(n1:∀ t x,op≠.load t x)(n2:∀ t x lo hi mx,op≠.slice t x lo hi mx):fp av s op=fp av s' op:=by
 have k:=u9 (av:=av) (s:=s) (s':={ s' with heap:=s.heap }) rfl op (λ x hx=>by rw[h x hx];cases x<;>rfl);rw[k];cases op<;>first | rfl | skip
 all_goals first | exact absurd rfl (n1 _ _) | exact absurd rfl (n2 _ _ _ _ _) | skip
 case makeFunc f first cap=>
  cases f<;>first | rfl | skip
  simp only[fp,vQ]
 all_goals
  simp only[fp,sF,BB,wV]
theorem E5 {op:Op}(h:∀ x∈op.operands,ev s x=ev s' x){c:CV}(hq:fp av s op=some c)(hh:∀ x∈op.operands,∀ v,ev s x=some v->∀ o ob,names o v=true->assoc s.heap o=some ob->assoc s'.heap o=some ob):fp av s' op=some c:=by
 cases op
 case load t x=>
  have hx:=h x Rn;have hk:=hh x Rn;simp only[fp] at hq |-;rw[<- hx]
  cases hv:ev s x with
  | none=>rw[hv] at hq;simp at hq
  | some d=>
   rw[hv] at hq
   cases ht:assoc av t with
   | none=>rw[ht] at hq;simp at hq
   | some ii=>
    rw[ht] at hq;simp only at hq |-
    cases hy:gS s d with
    | none=>rw[hy] at hq;cases hq
    | some cs=>rw[CP hy (hk d hv)];rw[hy] at hq;exact hq
 case slice t x lo hi mx=>
  cases mx with
  | some _=>exact hq
  | none=>
   have hx:=h x Rn;have hk:=hh x Rn;have h1:∀ y,lo=some y->ev s y=ev s' y:=λ y e=>h y (by subst e;simp[Op.operands]);have h2:∀ y,hi=some y->ev s y=ev s' y:=λ y e=>h y (by subst e;simp[Op.operands]);simp only[fp] at hq |-;rw[<- hx]
   cases hv:ev s x with
   | none=>rw[hv] at hq;simp at hq
   | some d=>rw[hv] at hq;exact Bx h1 h2 hq (hk d hv)
 all_goals exact (sS _ h (λ _ _ e=>by cases e) (λ _ _ _ _ _ e=>by cases e)).symm.trans hq
end
end Go.Can
/- A region that draws, its readings hoisted past new objects and past stores into other objects. No function of the program is mentioned here. -/
/- The exploration of a draw with readings hoisted past new objects and stores elsewhere. No function of the program is mentioned here. -/
namespace Go.Can
open Go.RowKit
def iter (g:St->Option (Exit×St)):Nat->St->Option (Exit×St)
 | 0,_=>none
 | n+1,s=>match g s with
  | some (.normal,s')=>iter g n s'
  | r=>r
def AW (l:Nat)(g:St->Option (Exit×St)):Nat->St->Option (Exit×St)
 | 0,_=>none
 | n+1,s=>match g s with
  | some (.goto m,s')=>if m=l then AW l g n s' else none
  | r=>r
def outB (id:Nat):Exit×St->Exit×St
 | (.exit i,s)=>if i=id then (.normal,s) else (.exit i,s)
 | r=>r
def nE (Sb:Nat->Array Oper->Bool->St->Option St):Nat->Code->St->Option (Exit×St)
 | 0,_,_=>none
 | _+1,.skip,s=>some (.normal,s)
 | _+1,.region id ops d,s=>(Sb id ops d s).map λ s'=>(.normal,s')
 | f+1,.seq x y,s=>match nE Sb f x s with
  | some (.normal,s')=>nE Sb f y s'
  | r=>r
 | f+1,.cond c x y,s=>match ev s c with
  | some (.bool b)=>nE Sb f (if b then x else y) s
  | _=>none
 | f+1,.block id c,s=>(nE Sb f c s).map (outB id)
 | f+1,.scope c,s=>match nE Sb f c s with
  | some (.goto l,s')=>match findLabel c l with
   | some rest=>AW l (nE Sb f rest) f s'
   | none=>none
  | r=>r
 | f+1,.loop c,s=>iter (nE Sb f c) f s
 | _+1,.exit id,s=>some (.exit id,s)
 | _+1,.ret,s=>some (.ret,s)
 | _+1,.label _,s=>some (.normal,s)
 | _+1,.goto l,s=>some (.goto l,s)
 | _+1,_,_=>none
section
variable {P:Program}{C:Cx}{s:St}{av:List (Nat×TI)}{Sb:Nat->Array Oper->Bool->St->Option St}
def gT (gd:Nat->Array Oper->Bool->Bool):Code->Bool
 | .region id ops d=>gd id ops d
 | .seq x y=>gT gd x && gT gd y
 | .cond _ x y=>gT gd x && gT gd y
 | .block _ c=>gT gd c
 | .loop c=>gT gd c
 | .scope c=>gT gd c
 | _=>true
def IS (P:Program)(C:Cx)(gd:Nat->Array Oper->Bool->Bool)(Sb:Nat->Array Oper->Bool->St->Option St):Prop:=∀ id ops d s s',gd id ops d=true->Sb id ops d s=some s'->T P C (.region id ops d) s λ e x=>e=.normal/\x=s'
def Ends (r:Exit×St):Exit->St->Prop:=λ e x=>e=r.1/\x=r.2
theorem p5 {gd:Nat->Array Oper->Bool->Bool}{l:Nat}:∀ (c rest:Code),gT gd c=true->findLabel c l=some rest->gT gd rest=true
 | .seq a b,rest,hg,h=>by
  simp only[gT,Bool.and_eq_true] at hg;simp only[findLabel] at h;split at h
  ·rename_i r hr;cases h;simp only[gT,Bool.and_eq_true];exact⟨p5 a r hg.1 hr,hg.2⟩
  ·exact p5 b rest hg.2 h
 | .label l',rest,_,h=>by
  simp only[findLabel] at h;split at h
  ·cases h;rfl
  ·cases h
 | .skip,_,_,h=>by simp[findLabel] at h
 | .region _ _ _,_,_,h=>by simp[findLabel] at h
 | .cond _ _ _,_,_,h=>by simp[findLabel] at h
 | .block _ _,_,_,h=>by simp[findLabel] at h
 | .loop _,_,_,h=>by simp[findLabel] at h
 | .rangeFunc _ _ _ _,_,_,h=>by simp[findLabel] at h
 | .exit _,_,_,h=>by simp[findLabel] at h
 | .scope _,_,_,h=>by simp[findLabel] at h
 | .goto _,_,_,h=>by simp[findLabel] at h
 | .ret,_,_,h=>by simp[findLabel] at h
theorem T.GF {c:Code}{Q:Exit->St->Prop}(h:T P C c s λ e x=>(∀ l,e≠.goto l)/\Q e x):T P C (.scope c) s Q:=λ a w hr=>
 wp_scope_straight (wp_mono (h a w hr) λ e a' w' ⟨s',q,r⟩=>by
  cases e with
  | goto l=>exact absurd rfl (q.1 l)
  | _=>exact⟨s',q.2,r⟩)
theorem Eb {gd:Nat->Array Oper->Bool->Bool}(hR:IS P C gd Sb):∀ (f:Nat) (c:Code) (s:St) (r:Exit×St),gT gd c=true->nE Sb f c s=some r->T P C c s (Ends r)
 | 0,_,_,_,_,h=>by simp[nE] at h
 | f+1,c,s,r,hG,h=>by
  have ih:=Eb hR f;cases c<;>simp only[nE] at h<;>first | cases h | skip
  case skip=>exact T.skip ⟨rfl,rfl⟩
  case exit=>exact T.exit ⟨rfl,rfl⟩
  case ret=>exact T.ret ⟨rfl,rfl⟩
  case label=>exact T.label ⟨rfl,rfl⟩
  case goto=>exact T.goto ⟨rfl,rfl⟩
  case region id ops d=>
   obtain⟨s',h1,rfl⟩:=Option.map_eq_some_iff.1 h;exact hR id ops d s s' hG h1
  case seq x y=>
   simp only[gT,Bool.and_eq_true] at hG;refine T.seq ?_
   cases hx:nE Sb f x s with
   | none=>rw[hx] at h;cases h
   | some q=>
    rw[hx] at h;obtain⟨e,s1⟩:=q;refine T.mono (ih x s _ hG.1 hx) ?_;rintro e' s' ⟨e1,e2⟩;simp only at e1 e2;subst e1;subst e2;cases e'<;>simp only at h<;>first
     | exact ih y s' r hG.2 h
     | (cases h;exact⟨rfl,rfl⟩)
  case cond c x y=>
   split at h
   ·rename_i b hb;simp only[gT,Bool.and_eq_true] at hG;exact T.cond hb (ih _ s r (by cases b<;>simp[hG.1,hG.2]) h)
   ·cases h
  case block id c=>
   obtain⟨q,h1,rfl⟩:=Option.map_eq_some_iff.1 h;refine T.block (T.mono (ih c s q (by simpa only[gT] using hG) h1) ?_);rintro e' s' ⟨e1,e2⟩;obtain⟨e,s1⟩:=q;simp only at e1 e2;subst e1;subst e2;cases e'<;>simp only[qe,outB]<;>first
    | exact⟨rfl,rfl⟩
    | (split<;>exact⟨rfl,rfl⟩)
  case scope c=>
   simp only[gT] at hG
   cases hx:nE Sb f c s with
   | none=>rw[hx] at h;cases h
   | some q=>
    rw[hx] at h;obtain⟨e,s1⟩:=q;have k:=ih c s _ hG hx;cases e<;>simp only at h
    case goto l=>
     cases hl:findLabel c l with
     | none=>rw[hl] at h;cases h
     | some rest=>
      rw[hl] at h;refine T.Jw l (λ n s=>AW l (nE Sb f rest) n s=some r) hl (T.mono k ?_) λ n s hn=>?_
      ·rintro e' s' ⟨e1,e2⟩;simp only at e1 e2;subst e1;subst e2;exact⟨rfl,f,aa.here h⟩
      ·cases n with
       | zero=>simp[AW] at hn
       | succ n=>
        simp only[AW] at hn
        cases hy:nE Sb f rest s with
        | none=>rw[hy] at hn;cases hn
        | some q=>
         rw[hy] at hn;obtain⟨e,s2⟩:=q;refine T.mono (ih rest s _ (p5 c rest hG hl) hy) ?_;rintro e' s' ⟨e1,e2⟩;simp only at e1 e2;subst e1;subst e2;cases e'<;>simp only at hn
         case goto m=>
          split at hn
          ·rename_i e;exact⟨e,n,Nat.lt_succ_self n,aa.here hn⟩
          ·cases hn
         all_goals
          cases hn;exact⟨rfl,rfl⟩
    all_goals
     cases h;refine T.GF (T.mono k ?_);rintro e' s' ⟨e1,e2⟩;simp only at e1 e2;subst e1;subst e2;exact⟨λ l e=>(by cases e),rfl,rfl⟩
  case loop c=>
   refine T.loop (λ n s=>iter (nE Sb f c) n s=some r) h λ n s hn=>?_
   cases n with
   | zero=>simp[iter] at hn
   | succ n=>
    simp only[iter] at hn
    cases hx:nE Sb f c s with
    | none=>rw[hx] at hn;cases hn
    | some q=>
     rw[hx] at hn;obtain⟨e,s1⟩:=q;refine T.mono (ih c s _ (by simpa only[gT] using hG) hx) ?_;rintro e' s' ⟨e1,e2⟩;simp only at e1 e2;subst e1;subst e2;cases e'<;>simp only at hn<;>first
      | exact⟨n,Nat.lt_succ_self n,hn⟩
      | (cases hn;exact⟨rfl,rfl⟩)
end
end Go.Can
