/- Further operations: conversions, interfaces, maps that are o -/
import Derived.Test.YtmnglemlimfpbaaGreatZ09
import Derived.Laws.IdiomStrings
namespace Go.Can
open Go.RowKit
section
variable {P:Program}{C:Cx}{σ:Nat→Option OB}{s:St}{a:Act}{w:World}{ops:Array Oper}{aq:List (Nat×TI)}
def pQ (P:Program)(C:Cx)(o:Oper)(s s':St):Prop:=∀ a w,Rel C s a w →
 ∃ w',((∃ z,(execOp a.eval o).run P w=.ok (.value z) w'∧Rel C s' (a.put o.dst z) w')∨((execOp a.eval o).run P w=.ok .skip w'∧Rel C s' (a.put o.dst undef) w'))
theorem pQ.le {o:Oper}{s1 s':St}(hl:Le C s s1)(h:pQ P C o s1 s'):pQ P C o s s':=fun a w hr=>h a w (hl a w hr)
theorem pQ.Iy (ht:ay P aq){o:Oper}{s':St}(hd:aU C.nt o.dst=true)(h:kW aq s o=some s'):pQ P C o s s':=fun _ _ hr=>wD ht hr hd h
theorem lU {o:Oper}{l:List Oper}{K:St→Prop}{s':St}(hg:bU ops s o=some true)(hx:pQ P C o s s')(h:TL P C ops l s' K):TL P C ops (o::l) s K:=by
 intro a w Q hr hQ
 have hw:Region.wanted o (yielded ops a.tmps)=true:=by
  unfold bU at hg
  split at hg
  ·rename_i e;simp[Region.wanted,e]
  ·rename_i j want e
   split at hg
   ·cases hg
   rename_i t hj
   exact jQ hr e hj hg
 unfold wpList
 rw[if_pos hw]
 refine .inl ?_
 obtain⟨w',h1 | h1⟩:=hx a w hr
 ·obtain⟨z,k1,k2⟩:=h1
  unfold Oper.wp
  rw[k1]
  exact h _ _ Q k2 hQ
 ·obtain⟨k1,k2⟩:=h1
  unfold Oper.wp
  rw[k1]
  exact h _ _ Q k2 hQ
def bytesOf:List CV→Option (List UInt8)
 | []=>some []
 | .int .u8 n::r=>if 0≤n∧n<256 then (bytesOf r).map (UInt8.ofNat n.toNat :: ·) else none
 | _=>none
theorem vw {F:Nat→Prop}:∀ (cs:List CV) (l:List UInt8) (us:List Value),bytesOf cs=some l→aS w F σ cs us→us=l.map fun b=>Value.int .u8 (b.toNat:Int)
 | [],l,us,h,hr=>by
  simp only[bytesOf] at h
  cases h
  simpa [aS] using hr
 | c::cs,l,us,h,hr=>by
  simp only[aS] at hr
  obtain⟨v,r,rfl,h1,h2⟩:=hr
  unfold bytesOf at h
  split at h
  ·rename_i e;cases e
  ·rename_i n r' e
   cases e
   split at h
   ·rename_i hn
    obtain⟨l',h3,rfl⟩:=Option.map_eq_some_iff.1 h
    simp only[VR] at h1
    subst h1
    rw[vw cs l' r h3 h2]
    simp only[List.map_cons,List.cons.injEq,Value.int.injEq,true_and,and_true]
    have:(UInt8.ofNat n.toNat).toNat=n.toNat:=by
     have e:(UInt8.ofNat n.toNat).toNat=n.toNat % 256:=UInt8.toNat_ofNat'
     rw[e]
     omega
    rw[this]
    omega
   ·cases h
  ·cases h
def qC (aq:List (Nat×TI))(s:St)(a b:TypeId)(x:Operand):Option CV:=
 match ev s x,dz aq a,dz aq b with
 | some (.int _ n),some _,some (.int k)=>some (.int k (k.wrap n))
 | some (.str v),some _,some .str=>some (.str v)
 | some c,some (.sl e),some .str=>match dz aq e,cells? s c with
  | some (.int .u8),some (cs,m)=>if cs.length=m then (bytesOf cs).map fun l=>.str ⟨l.toArray⟩ else none
  | _,_=>none
 | _,_,_=>none
theorem eL (ht:ay P aq){t:TypeId}{d:TD}(h:dz aq t=some d):∃ i,assoc aq t=some i∧i.d=d∧∃ u,P.underlying t=some u∧sD u=d:=by
 obtain⟨i,h1,h2⟩:=Option.map_eq_some_iff.1 h
 obtain⟨u,h3,h4⟩:=(ht t i h1).y7
 exact⟨i,h1,h2,u,h3,h4.trans h2⟩
theorem sQ {t:TypeId}{k:IntKind}(ht:ay P aq)(h:dz aq t=some (.int k)):P.underlying t=some (.int k):=by
 obtain⟨_,_,_,u,h1,h2⟩:=eL ht h
 cases u<;>simp only[sD] at h2<;>first | cases h2 | skip
 exact h1
theorem AW (ht:ay P aq)(h:aG C σ s a w){t u:TypeId}{x:Operand}{c:CV}(hc:qC aq s t u x=some c):∃ z,(convert t u (a.eval x)).run P w=.ok z w∧VR w (FB C σ s.heap) σ c z:=by
 unfold qC at hc
 split at hc
 ·rename_i k0 n d k hx h1 h2
  cases hc
  have hv:=bz h hx
  simp only[VR] at hv
  obtain⟨_,_,_,ud,g1,_⟩:=eL ht h1
  have g2:=sQ ht h2
  refine⟨.int k (k.wrap n),?_,dO _ _⟩
  rw[hv]
  simp[convert,run_underlying g1,run_underlying g2,Conv.intToInt]
 ·rename_i v d hx h1 h2
  cases hc
  have hv:=bz h hx
  simp only[VR] at hv
  obtain⟨_,_,_,ud,g1,_⟩:=eL ht h1
  obtain⟨i,i1,i2,_⟩:=eL ht h2
  have g2:=ma (ht u i i1) i2
  refine⟨.string v,?_,y4 _⟩
  rw[hv]
  simp[convert,run_underlying g1,run_underlying g2]
 ·rename_i c' e _ hx h1 h2
  split at hc
  ·rename_i cs m he hcs
   split at hc
   ·rename_i hlen
    obtain⟨l,hl,rfl⟩:=Option.map_eq_some_iff.1 hc
    obtain⟨i1,a1,a2,_⟩:=eL ht h1
    obtain⟨i2,b1,b2,_⟩:=eL ht h2
    have g1:=dE (ht t i1 a1) a2
    have g2:=ma (ht u i2 b1) b2
    have g3:=sQ ht he
    obtain⟨us,k1,_,k3⟩:=cells?_ok h (bz h hx) hcs
    have hus:=vw _ _ _ hl k1
    have hll:l.length=m:=by
     have:=aS.length _ _ k1
     rw[hus,List.length_map] at this
     omega
    refine⟨.string ⟨l.toArray⟩,?_,y4 _⟩
    rcases k3 with ⟨cp,e1,e2,e3⟩ | ⟨ad,cp,e1,e2⟩
    ·have:l=[]:=List.eq_nil_of_length_eq_zero yA
     subst this
     rw[e1,run_convert_bytes_string w t u e none 0 cp g1 g3 g2]
     rfl
    ·rw[e1]
     subst hll
     refine run_convert_bytes_back w t u e ad cp l g1 g3 g2 fun j hj=>?_
     refine e2 j _ ?_
     rw[hus]
     simp[hj]
   ·cases hc
  ·cases hc
 ·cases hc
def pM (b:ByteArray):List CV:=b.data.toList.map fun x=>.int .u8 (x.toNat:Int)
theorem EB {F:Nat→Prop}(b:ByteArray):bJ w F (pM b) (b.data.toList.map fun x=>Value.int .u8 (x.toNat:Int))∧(pM b).all one=true:=by
 unfold pM
 generalize b.data.toList=l
 induction l with
 | nil=>simp[bJ]
 | cons x r ih=>
  simp only[List.map_cons,bJ,List.all_cons,ih.2,Bool.and_true]
  exact⟨⟨_,_,rfl,by simp[bY],ih.1⟩,rfl⟩
theorem ep {o:Oper}(hd:aU C.nt o.dst=true)(h:aG C σ s a w){c:CV}{v:Value}(hv:VR w (FB C σ s.heap) σ c v):Rel C (s.put o.dst c) (a.put o.dst v) w:=
 ⟨σ,h.put (fun t e=>by rw[h.tm];rw[e] at hd;simpa [aU] using hd) hv⟩
theorem x5 (ht:ay P aq){o:Oper}{t u e:TypeId}{x:Operand}{b:ByteArray}(hd:aU C.nt o.dst=true)(ho:o.op=.convert t u x)(hx:ev s x=some (.str b))(h1:dz aq t=some .str)(h2:dz aq u=some (.sl e))(h3:dz aq e=some (.int .u8))(hm:b.size≤1000000) :
  pQ P C o s (s.put o.dst (.av (pM b) b.size)):=by
 rintro a w ⟨σ,h⟩
 obtain⟨i1,a1,a2,_⟩:=eL ht h1
 obtain⟨i2,b1,b2,_⟩:=eL ht h2
 have g1:=ma (ht t i1 a1) a2
 have g2:=dE (ht u i2 b1) b2
 have g3:=sQ ht h3
 have hv:=bz h hx
 simp only[VR] at hv
 have hrun:=run_bytes_of_string (P:=P) w t u e b g1 g2 g3
 have hb:Below w.heap.size w (w.drew.alloc (.cells (bytesRow b (grownCap w b.size 0 e)) e ((bytesRow b (grownCap w b.size 0 e)).size,(bytesRow b (grownCap w b.size 0 e)).size+1))):=
  ⟨rfl,rfl,rfl,by simp,fun k hk=>heap_alloc_old w.drew _ k hk⟩
 have hnew:(w.drew.alloc (.cells (bytesRow b (grownCap w b.size 0 e)) e ((bytesRow b (grownCap w b.size 0 e)).size,(bytesRow b (grownCap w b.size 0 e)).size+1))).heap[w.heap.size]? = some (.cells (bytesRow b (grownCap w b.size 0 e)) e ((bytesRow b (grownCap w b.size 0 e)).size,(bytesRow b (grownCap w b.size 0 e)).size+1)):=heap_alloc_new w.drew _
 revert hb hnew
 generalize hw':(w.drew.alloc (.cells (bytesRow b (grownCap w b.size 0 e)) e ((bytesRow b (grownCap w b.size 0 e)).size,(bytesRow b (grownCap w b.size 0 e)).size+1)))=w'
 rw[hw'] at hrun
 intro hb hnew
 refine⟨w',.inl ⟨.slice (some ⟨w.heap.size,0,none⟩) b.size (grownCap w b.size 0 e),by simp[execOp,ho,hv,hrun],ep hd (h.below hb) ?_⟩⟩
 obtain⟨k1,k2⟩:=EB (w:=w') (F:=FB C σ s.heap) b
 simp only[VR,bY]
 have hge:b.size≤grownCap w b.size 0 e:=grownCap_ge w b.size 0 e
 refine⟨_,_,rfl,hge,grownCap_le_maxLen w _ _ _ (by simp only[maxLen];omega),.inr ⟨_,rfl,?_⟩⟩
 refine iq _ _ _ k1 k2 (fun hf=>?_) fun j v hj=>?_
 ·have:=xO h _ hf
  simp at this
 ·rw[add_lit,Nat.zero_add,cell_of_row w' _ _ _ _ _ hnew]
  rw[List.getElem?_map] at hj
  obtain⟨y,hy,rfl⟩:=Option.map_eq_some_iff.1 hj
  have hlt:j<b.data.size:=by simpa using (List.getElem?_eq_some_iff.1 hy).1
  rw[bytesRow_at b _ j hlt]
  have:y=b.data[j]:=by
   have:=(List.getElem?_eq_some_iff.1 hy).2
   simpa using this.symm
  rw[this]
def GV (s:St)(o:Nat)(ob:Ob)(d:Option Tmp)(off n:Nat):St:=(s.cG o ob).put d (.av ((ob.cells.drop off).take (n*ob.sz)) n)
theorem CZ (ht:ay P aq){o:Oper}{t e:TypeId}{x:Operand}{p off n:Nat}{ob:Ob}(hd:aU C.nt o.dst=true)(ho:o.op=.convert t t x)(hx:ev s x=some (.bx p off n))(hn:0<n)(h2:dz aq t=some (.sl e))(h3:dz aq e=some (.int .u8))
  (hob:assoc s.heap p=some ob) (htr:trees ob.cells=true):pQ P C o s (GV s p ob o.dst off n):=by
 rintro a w ⟨σ,h⟩
 obtain⟨i2,b1,b2,_⟩:=eL ht h2
 have g2:=dE (ht t i2 b1) b2
 have g3:=sQ ht h3
 have hv:=bz h hx
 have hfv:=hv
 simp only[VR] at hv
 obtain⟨B,hB,hv⟩:=hv
 obtain⟨B',e1,e2,e3,e4,e5⟩:=h.obj p ob hob
 rw[hB] at e1;cases e1
 cases hblk:B.jX with
 | none=>rw[hblk] at hv;simp only at hv;omega
 | some b=>
  rw[hblk] at hv
  simp only at hv
  obtain⟨cap,hv,c1,c2,c3,c4⟩:=hv
  obtain⟨cur,n1,n2,n3,n4,n5,n6⟩:=e5 b hblk
  have hlt:=(Array.getElem?_eq_some_iff.1 n1).1
  have hsh:w.shape? b=some (ob.elem,cur.size):=by unfold World.shape?;rw[n1]
  let w':World:=w.freeze ⟨b,cur.size,none⟩ 1
  have hw':w'.heap=w.heap.modify b (fun | .cells c elem (lo,hi)=>.cells c elem (if lo == hi then (cur.size,cur.size+1) else (min lo cur.size,max hi (cur.size+1))) | o=>o):=rfl
  have hother:∀ k,k≠b→w'.heap[k]? = w.heap[k]?:=fun k hk=>by
   rw[hw',Array.getElem?_modify,if_neg (Ne.symm hk)]
  have hself:w'.heap[b]? = some (.cells cur ob.elem (cur.size,cur.size+1)):=by
   rw[hw',Array.getElem?_modify,if_pos rfl,n1]
   rfl
  have hcell:∀ ad,w'.cell? ad=w.cell? ad:=fun ad=>by
   by_cases hk:ad.block=b
   ·unfold World.cell?
    rw[hk,hself,n1]
   ·exact World.cell?_of_block (hother _ hk)
  have hk:∀ F:Nat→Prop,cF w w' F F:=fun F=>⟨fun ad u hf hu=>⟨by rw[hcell];exact hu,hf⟩,fun r x hf hu hx=>by
   have hne:r≠b:=fun e=>by subst e;rw[n1] at hu;cases hu;exact hx _ _ _ rfl
   exact⟨by rw[hother r hne];exact hu,hf⟩⟩
  have h':=h.cG hob htr
  have hnb:∀ q y,assoc (s.cG p ob).heap q=some y→aV σ q≠some b:=fun q y hq hb=>by
   obtain⟨hne,z,hz,_⟩:=fL _ _ _ hq
   exact hne (h.inj q p z ob b hz hob hb (by simp[aV,hB,hblk]))
  have h2':aG C σ (s.cG p ob) a w':=by
   refine⟨h'.nq,h'.tm,h'.os,h'.tape,h'.output,?_,?_,?_,?_,h'.inj,h'.nx,h'.fj,h'.low,h'.new⟩
   ·rw[hw',Array.size_modify];exact h'.size
   ·intro k hk1 hk2
    rw[hother k (fun e=>?_)]
    ·exact h'.frame k hk1 hk2
    ·subst e
     rcases n4 with n4 | n4
     ·exact hk2 n4
     ·omega
   ·intro t c hc
    obtain⟨v,k1,k2⟩:=h'.env t c hc
    exact⟨v,k1,VR.bp (hk _) c v (fun _ _=>rfl) k2⟩
   ·intro q y hq
    obtain⟨B2,m1,m2,m3,m4,m5⟩:=h'.obj q y hq
    refine⟨B2,m1,m2,m3,m4,fun b2 hb2=>?_⟩
    obtain⟨cur2,q1,q2,q3,q4,q5,q6⟩:=m5 b2 hb2
    have hne:b2≠b:=fun e=>hnb q y hq (by simp[aV,m1,hb2,e])
    exact⟨cur2,by rw[hother b2 hne];exact q1,q2,q3,q4,q5,aS.bp (hk _) _ _ (fun _ _=>rfl) q6⟩
  have hval:VR w' (FB C σ (s.cG p ob).heap) σ (.av ((ob.cells.drop off).take (n*ob.sz)) n) (a.eval x):=by
   cases x with
   | tmp t=>
    have hfz:assoc (s.cG p ob).env t=some (.av ((ob.cells.drop off).take (n*ob.sz)) n):=by
     have hx':assoc s.env t=some (.bx p off n):=hx
     have:∀ l:List (Nat×CV),assoc l t=some (.bx p off n)→assoc (vY p ob.cells ob.sz l) t=some (.av ((ob.cells.drop off).take (n*ob.sz)) n):=by
      intro l
      induction l with
      | nil=>intro h;cases h
      | cons y r ih=>
       obtain⟨k,c⟩:=y
       intro hl
       simp only[vY,assoc] at hl ⊢
       split at hl
       ·rename_i e;cases hl;rw[if_pos e];simp[cL]
       ·rename_i e;rw[if_neg e];exact ih hl
     exact this s.env hx'
    obtain⟨v,k1,k2⟩:=h2'.env t _ hfz
    have:a.eval (.tmp t)=v:=by simp[Act.eval,k1]
    rw[this]
    exact k2
   | const v=>exact absurd hx (by
     simp only[ev]
     intro hc
     have:=mD (w:=w) (F:=fun _=>False) hc
     simp[bY] at this)
   | func f=>cases hx
   | global g=>cases hx
  have hrun:(execOp a.eval o).run P w=.ok (.value (a.eval x)) w':=by
   rw[hv]
   simp[execOp,ho,hv,convert,run_underlying g2,run_underlying g3,markStringish,hsh,w']
  exact⟨w',.inl ⟨_,hrun,ep hd h2' hval⟩⟩
theorem Ak (ht:ay P aq){o:Oper}{t:TypeId}{x:Operand}{c:CV}{d:TD}(hd:aU C.nt o.dst=true)(ho:o.op=.makeInterface t x)(hx:ev s x=some c)(h1:dz aq t=some d)(hn:d=.KD→False):pQ P C o s (s.put o.dst (.iface t [c])):=by
 rintro a w ⟨σ,h⟩
 obtain⟨i1,a1,a2,u,g1,g2⟩:=eL ht h1
 have hv:=bz h hx
 refine⟨w,.inl ⟨.iface t (a.eval x),?_,ep hd h ?_⟩⟩
 ·have hu:(underlying t).run P w=.ok u w:=bq g1 w
  have:(Instr.makeInterface t (a.eval x)).run P w=.ok (.iface t (a.eval x)) w:=by
   unfold Instr.makeInterface
   simp only[Sem.run_bind,hu,Result.andThen_ok]
   cases u<;>first | rfl | (exact absurd g2.symm hn)
  simp[execOp,ho,this]
 ·simp only[VR,aS]
  exact⟨[a.eval x],rfl,a.eval x,[],rfl,hv,rfl⟩
theorem Lo (ht:ay P aq){o:Oper}{cl:Call}{t e:TypeId}{x:Operand}(hd:aU C.nt o.dst=true)(ho:o.op=.call cl)(hcl:cl.callee=.builtin .cap)(hargs:cl.args=#[x])(hts:cl.argTypes=#[t])(hx:ev s x=some .ah)(h1:dz aq t=some (.sl e)):pQ P C o s (s.put o.dst (.int .i64 0)):=by
 rintro a w ⟨σ,h⟩
 obtain⟨i1,a1,a2,_⟩:=eL ht h1
 have g1:=dE (ht t i1 a1) a2
 have hv:=bz h hx
 simp only[VR] at hv
 refine⟨w,.inl ⟨.int .i64 0,?_,ep hd h (dO _ _)⟩⟩
 simp[execOp,ho,resolve,hcl,hargs,hts,invoke,builtin,Builtin.cap_,run_underlying g1,hv,goInt]
theorem aG.CB (h:aG C σ s a w)(x:Obj):aG C (sig σ s.nx ⟨some w.heap.size,0,0⟩) ⟨s.env,s.heap,s.nx+1⟩ a (w.alloc x)∧¬ FB C (sig σ s.nx ⟨some w.heap.size,0,0⟩) s.heap w.heap.size:=by
 have hn:σ s.nx=none:=h.nx s.nx (Nat.le_refl _)
 have hg:w.grownBy (w.alloc x) none:=nS _
 have hold:∀ {p x},assoc s.heap p=some x→p≠s.nx:=fun {p x} hp e=>by
  subst e
  obtain⟨B',e1,_⟩:=h.obj _ _ hp
  rw[hn] at e1;cases e1
 have hsg:∀ {p},p≠s.nx→sig σ s.nx ⟨some w.heap.size,0,0⟩ p=σ p:=fun {p} hp=>by simp[sig,hp]
 have hF:∀ b',FB C (sig σ s.nx ⟨some w.heap.size,0,0⟩) s.heap b'→FB C σ s.heap b':=by
  rintro b' (hb | ⟨p,y,hp,hb⟩)
  ·exact .inl hb
  ·simp only[aV,hsg (hold hp)] at hb
   exact .inr ⟨p,y,hp,hb⟩
 have hk:cF w (w.alloc x) (FB C σ s.heap) (FB C (sig σ s.nx ⟨some w.heap.size,0,0⟩) s.heap):=kN hg (fun b e=>by cases e) fun b' hb'=>.inl (hF b' hb')
 refine⟨⟨h.nq,h.tm,h.os,h.tape,h.output,Nat.le_trans h.size hg.size,?_,?_,?_,?_,?_,?_,Nat.le_trans h.low (Nat.le_succ _),?_⟩,fun hf=>?_⟩
 ·intro k hk1 hk2
  rw[hg.block k (Nat.lt_of_lt_of_le hk1 h.size) yAa]
  exact h.frame k hk1 hk2
 ·intro t c hc
  obtain⟨v,k1,k2⟩:=h.env t c hc
  exact⟨v,k1,VR.bp hk c v (sS hn k2) k2⟩
 ·intro q y hq
  obtain⟨B2,m1,m2,m3,m4,m5⟩:=h.obj q y hq
  refine⟨B2,by rw[hsg (hold hq)];exact m1,m2,m3,m4,fun b2 hb2=>?_⟩
  obtain⟨cur2,q1,q2,q3,q4,q5,q6⟩:=m5 b2 hb2
  exact⟨cur2,by rw[hg.block b2 (Array.getElem?_eq_some_iff.1 q1).1 yAa];exact q1,q2,q3,q4,q5,aS.bp hk _ _ (nB hn q6) q6⟩
 ·intro p q y z b' hp hq hbp hbq
  simp only[aV,hsg (hold hp)] at hbp
  simp only[aV,hsg (hold hq)] at hbq
  exact h.inj p q y z b' hp hq hbp hbq
 ·intro p hp
  have:p≠s.nx:=fun e=>by subst e;exact absurd hp yAa
  rw[hsg this]
  exact h.nx p (Nat.le_of_succ_le hp)
 ·intro p hp
  have:=h.low
  rw[hsg (show p≠s.nx by omega)]
  exact h.fj p hp
 ·intro p B b' hp hB hb
  by_cases e:p=s.nx
  ·subst e
   rw[dw] at hB;cases hB
   simp only[Option.some.injEq] at hb
   subst hb
   exact .inr h.size
  ·rw[hsg e] at hB;exact h.new p B b' hp hB hb
 ·have:=xO h _ (hF _ hf)
  omega
theorem KP {o:Oper}{t:TypeId}(hd:aU C.nt o.dst=true)(ho:o.op=.makeMap t none):pQ P C o s (St.put ⟨s.env,s.heap,s.nx+1⟩ o.dst (.mp s.nx [])):=by
 rintro a w ⟨σ,h⟩
 obtain⟨h',hf⟩:=h.CB (.map #[] 0)
 refine⟨w.alloc (.map #[] 0),.inl ⟨.map (some w.heap.size),?_,ep hd h' ?_⟩⟩
 ·simp[execOp,ho,Instr.makeMap]
 ·simp only[VR]
  exact⟨_,w.heap.size,#[],0,dw,rfl,rfl,heap_alloc_new w _,rfl,List.nodup_nil,hf⟩
theorem FR (ht:ay P aq){o:Oper}{t:TypeId}{x:Operand}{b:ByteArray}(hd:aU C.nt o.dst=true)(ho:o.op=.range t x)(hx:ev s x=some (.str b))(h1:dz aq t=some .str):pQ P C o s (St.put ⟨s.env,s.heap,s.nx+1⟩ o.dst (.iter s.nx b 0)):=by
 rintro a w ⟨σ,h⟩
 obtain⟨i1,a1,a2,_⟩:=eL ht h1
 have g1:=ma (ht t i1 a1) a2
 have hv:=bz h hx
 simp only[VR] at hv
 obtain⟨h',hf⟩:=h.CB (.stringIter b 0)
 refine⟨w.alloc (.stringIter b 0),.inl ⟨.pointer (some ⟨w.heap.size,0,none⟩),?_,ep hd h' ?_⟩⟩
 ·simp[execOp,ho,Instr.range,run_underlying g1,hv]
 ·simp only[VR]
  exact⟨_,w.heap.size,dw,rfl,rfl,heap_alloc_new w _,hf⟩
def uU (k:Nat):CV→Bool
 | .iter k' _ _=>k' == k
 | _=>false
def xa (k:Nat)(b:ByteArray)(p:Nat):List (Nat×CV)→List (Nat×CV)
 | []=>[]
 | (t,c)::r=>(t,if uU k c then .iter k b p else c)::xa k b p r
theorem su {k:Nat}{b:ByteArray}{p:Nat}:∀ (l:List (Nat×CV)) (t:Nat) (c:CV),assoc (xa k b p l) t=some c→∃ d,assoc l t=some d∧c=if uU k d then .iter k b p else d
 | [],t,c,h=>by simp[xa,assoc] at h
 | (u,d)::r,t,c,h=>by
  simp only[xa,assoc] at h ⊢
  split at h
  ·rename_i e;cases h;rw[if_pos e];exact⟨d,rfl,rfl⟩
  ·rename_i e;rw[if_neg e];exact su r t c h
def JH:CV→Bool
 | .mp _ _=>true
 | _=>false
def F9 (s:St)(k:Nat):Bool:=(s.env.all fun x=>lh x.2 || uU k x.2 || JH x.2) && s.heap.all fun x=>jG x.2.cells
def Hh (s:St)(d:Option Tmp)(k:Nat)(b:ByteArray)(p:Nat):Option St:=
 if p<b.size then if F9 s k then some (St.put { s with env:=xa k b (p+(Utf8.decode b p).2) s.env } d (.cr [.bool true,.int .i64 p,.int .i32 (Utf8.decode b p).1])) else none
 else some (s.put d (.cr [.bool false]))
theorem cz {o:Oper}{x:Operand}{k p:Nat}{b:ByteArray}{s':St}(hd:aU C.nt o.dst=true)(ho:o.op=.next x true)(hx:ev s x=some (.iter k b p))(hk0:C.n0≤k)(hs:Hh s o.dst k b p=some s'):pQ P C o s s':=by
 rintro a w ⟨σ,h⟩
 have hv:=bz h hx
 simp only[VR] at hv
 obtain⟨B,r,hB,hb,hv,hr,hf⟩:=hv
 have hget:w.heap[r]? = some (.stringIter b p):=hr
 have hrl:=(Array.getElem?_eq_some_iff.1 hr).1
 unfold Hh at hs
 split at hs
 ·rename_i hlt
  split at hs
  ·rename_i hok
   cases hs
   simp only[F9,Bool.and_eq_true,List.all_eq_true,Bool.or_eq_true] at hok
   let w':World:={ w with heap:=w.heap.setIfInBounds r (.stringIter b (p+(Utf8.decode b p).2)) }
   have hother:∀ j,j≠r→w'.heap[j]? = w.heap[j]?:=fun j hj=>by
    simp[w',Ne.symm hj]
   have hself:w'.heap[r]? = some (.stringIter b (p+(Utf8.decode b p).2)):=by
    simp[w',hrl]
   have hsz:w'.heap.size=w.heap.size:=by simp[w']
   have hkc:∀ F:Nat→Prop,mP w w' F F:=fun F ad u hf hu=>by
    have hne:ad.block≠r:=fun e=>by
     unfold World.cell? at hu
     rw[e,hr] at hu
     cases hu
    exact⟨by rw[World.cell?_of_block (hother _ hne)];exact hu,hf⟩
   have h':aG C σ { s with env:=xa k b (p+(Utf8.decode b p).2) s.env } a w':=by
    refine⟨h.nq,h.tm,h.os,h.tape,h.output,by rw[hsz];exact h.size,?_,?_,?_,h.inj,h.nx,h.fj,h.low,h.new⟩
    ·intro j hj1 hj2
     rw[hother j (fun e=>?_)]
     ·exact h.frame j hj1 hj2
     ·subst e
      rcases h.new k B j hk0 hB hb with n4 | n4
      ·exact hj2 n4
      ·omega
    ·intro t c hc
     obtain⟨d,hd',rfl⟩:=su _ _ _ hc
     obtain⟨v,k1,k2⟩:=h.env t d hd'
     refine⟨v,k1,?_⟩
     by_cases hi:uU k d=true
     ·rw[if_pos hi]
      cases d<;>simp only[uU,Bool.false_eq_true] at hi
      rename_i k' b' p'
      have:k'=k:=by simpa using hi
      subst this
      simp only[VR] at k2 ⊢
      obtain⟨B2,r2,q1,q2,q3,q4,q5⟩:=k2
      rw[hB] at q1;cases q1
      rw[hb] at q2;cases q2
      exact⟨B,r,hB,hb,q3,hself,q5⟩
     ·rw[if_neg hi]
      rcases hok.1 _ (bB _ _ _ hd') with (q | q) | q
      ·exact VR.nQ (hkc _) _ _ q k2
      ·exact absurd q hi
      ·cases d<;>simp only[JH,Bool.false_eq_true] at q
       simp only[VR] at k2 ⊢
       obtain⟨B2,r2,arr,clock,q1,q2,q3,q4,q5,q6,q7⟩:=k2
       have hne:r2≠r:=fun e=>by rw[e,hr] at q4;cases q4
       exact⟨B2,r2,arr,clock,q1,q2,q3,by rw[hother r2 hne];exact q4,q5,q6,q7⟩
    ·intro q y hq
     obtain⟨B2,m1,m2,m3,m4,m5⟩:=h.obj q y hq
     refine⟨B2,m1,m2,m3,m4,fun b2 hb2=>?_⟩
     obtain⟨cur2,q1,q2,q3,q4,q5,q6⟩:=m5 b2 hb2
     have hne:b2≠r:=fun e=>by subst e;rw[hr] at q1;cases q1
     exact⟨cur2,by rw[hother b2 hne];exact q1,q2,q3,q4,q5,aS.nQ (hkc _) _ _ (hok.2 _ (bB _ _ _ hq)) q6⟩
   refine⟨w',.inl ⟨.tuple #[.bool true,goInt p,.int .i32 (Utf8.decode b p).1],?_,ep hd h' ?_⟩⟩
   ·simp[execOp,ho,hv,Instr.next,getObj,setObj,Sem.run,hget,hlt,w']
   ·simp only[VR,aS]
    exact⟨[_,_,_],rfl,_,_,rfl,rfl,_,_,rfl,rfl,_,_,rfl,rfl,rfl⟩
  ·cases hs
 ·rename_i hge
  cases hs
  refine⟨w,.inl ⟨.tuple #[.bool false],?_,ep hd h ?_⟩⟩
  ·simp[execOp,ho,hv,Instr.next,getObj,Sem.run,hget,hge]
  ·simp only[VR,aS]
   exact⟨[_],rfl,_,_,rfl,rfl,rfl⟩
end
section
variable {P:Program}{C:Cx}{s:St}{ops:Array Oper}{aq:List (Nat×TI)}
def Dt (aq:List (Nat×TI))(s:St)(d:Option Tmp)(x y:Operand)(t it:TypeId):Option St:=
 match dz aq t,dz aq it,ev s x,ev s y with
 | some (.sl e),some (.int .i64),some (.bx p 0 n),some (.int .i64 mi)=>match assoc aq e,assoc s.heap p with
  | some ie,some ob=>if 0<ie.size∧0<ie.bytes∧ob.elem=e∧ob.sz=ie.size∧n*ie.size=ob.cells.length∧(n+mi.toNat)*ie.bytes≤140737488355328∧0<mi then some (AppZ s d p n mi.toNat ob ie.zero) else none
  | _,_=>none
 | _,_,_,_=>none
theorem A9 (ht:ay P aq){o:Oper}{cl:Call}{t it:TypeId}{x y:Operand}{s':St}(hd:aU C.nt o.dst=true)(ho:o.op=.call cl)(hcl:cl.callee=.builtin .append)(hargs:cl.args=#[x,y])(hts:cl.argTypes=#[t,it])(h:Dt aq s o.dst x y t it=some s'):pQ P C o s s':=by
 unfold Dt at h
 split at h
 ·rename_i e p n mi h1 h2 h3 h4
  split at h
  ·rename_i ie ob h5 h6
   split at h
   ·rename_i hc
    cases h
    obtain⟨c1,c2,c3,c4,c5,c6,c7⟩:=hc
    obtain⟨ii,hi1,hi2⟩:=Option.map_eq_some_iff.1 h2
    have hm:((mi.toNat:Nat):Int)=mi:=by omega
    intro a w hr
    obtain⟨z,w',s',k1,k2,k3⟩:=Jm (P:=P) (C:=C) (s:=s) ht (m:=mi.toNat) hd ho hcl hargs hts h1 h5 hi1 hi2 h3 (by rw[hm];exact h4) h6 c1 c2 c3 c4 c5 c6 yA rfl a w hr
    cases k2
    exact⟨w',.inl ⟨z,k1,k3⟩⟩
   ·cases h
  ·cases h
 ·cases h
def Lt (aq:List (Nat×TI))(s:St)(o:Oper)(x y:Operand)(t it:TypeId):Option St:=
 match Dt aq s o.dst x y t it with
 | some s'=>some s'
 | none=>match x,ev s x with
  | .tmp tx,some .ah=>match dz aq t with
   | some (.sl e)=>match assoc aq e with
    | some ie=>match assoc s.env tx with
     | some .ah=>Dt aq (s.own tx e ie.size) o.dst x y t it
     | _=>none
    | none=>none
   | _=>none
  | _,some (.bx p _ n)=>match assoc s.heap p with
   | some ob=>kW aq (s.cut p ob (n*ob.sz)) o
   | none=>none
  | _,_=>none
theorem Jl (ht:ay P aq){o:Oper}{cl:Call}{t it:TypeId}{x y:Operand}{s':St}(hd:aU C.nt o.dst=true)(ho:o.op=.call cl)(hcl:cl.callee=.builtin .append)(hargs:cl.args=#[x,y])(hts:cl.argTypes=#[t,it])(h:Lt aq s o x y t it=some s'):pQ P C o s s':=by
 unfold Lt at h
 split at h
 ·rename_i s1 h1
  cases h
  exact A9 ht hd ho hcl hargs hts h1
 ·split at h
  ·rename_i tx _ hx
   split at h
   ·rename_i e h1
    split at h
    ·rename_i ie h2
     split at h
     ·rename_i h3
      exact pQ.le (Le.own tx e ie.size h3) (A9 ht hd ho hcl hargs hts h)
     ·cases h
    ·cases h
   ·cases h
  ·rename_i p _ n _ hx
   split at h
   ·rename_i ob h1
    exact pQ.le (Le.cut _ h1) (pQ.Iy ht hd h)
   ·cases h
  ·cases h
def Cs (n0:Nat)(aq:List (Nat×TI))(s:St)(o:Oper):Option St:=
 match o.op with
 | .convert t u x=>match qC aq s t u x with
  | some c=>some (s.put o.dst c)
  | none=>match ev s x,dz aq t,dz aq u with
   | some (.str b),some .str,some (.sl e)=>match dz aq e with
    | some (.int .u8)=>if b.size≤1000000 then some (s.put o.dst (.av (pM b) b.size)) else none
    | _=>none
   | some (.bx p off n),some (.sl e),_=>if t=u∧0<n then match dz aq e,assoc s.heap p with
     | some (.int .u8),some ob=>if trees ob.cells=true then some (GV s p ob o.dst off n) else none
     | _,_=>none
    else none
   | _,_,_=>none
 | .makeInterface t x=>match ev s x,dz aq t with
  | some _,some .KD=>none
  | some c,some _=>some (s.put o.dst (.iface t [c]))
  | _,_=>none
 | .makeMap _ none=>some (St.put ⟨s.env,s.heap,s.nx+1⟩ o.dst (.mp s.nx []))
 | .range t x=>match ev s x,dz aq t with
  | some (.str b),some .str=>some (St.put ⟨s.env,s.heap,s.nx+1⟩ o.dst (.iter s.nx b 0))
  | _,_=>none
 | .next x true=>match ev s x with
  | some (.iter k b p)=>if n0≤k then Hh s o.dst k b p else none
  | _=>none
 | .call cl=>match cl.callee with
  | .builtin .append=>match cl.args.toList,cl.argTypes.toList with
   | [x,y],[t,it]=>Lt aq s o x y t it
   | _,_=>none
  | .builtin .cap=>match cl.args.toList,cl.argTypes.toList with
   | [x],[t]=>match ev s x,dz aq t with
    | some .ah,some (.sl _)=>some (s.put o.dst (.int .i64 0))
    | _,_=>none
   | _,_=>none
  | _=>none
 | _=>none
theorem zb (ht:ay P aq){o:Oper}{s':St}(hd:aU C.nt o.dst=true)(h:Cs C.n0 aq s o=some s'):pQ P C o s s':=by
 have toA:∀ {α:Type} {x:Array α} {l:List α},x.toList=l→x=l.toArray:=fun {α x l} e=>by rw[← e]
 unfold Cs at h
 split at h
 ·rename_i t u x ho
  split at h
  ·rename_i c hc
   cases h
   rintro a w ⟨σ,hr⟩
   obtain⟨z,k1,k2⟩:=AW ht hr hc
   exact⟨w,.inl ⟨z,by simp[execOp,ho,k1],ep hd hr k2⟩⟩
  ·split at h
   ·rename_i b e hx h1 h2
    split at h
    ·rename_i h3
     split at h
     ·rename_i hm
      cases h
      exact x5 ht hd ho hx h1 h2 h3 hm
     ·cases h
    ·cases h
   ·rename_i p off n e _ hx h1
    split at h
    ·rename_i hc
     obtain⟨rfl,hn⟩:=hc
     split at h
     ·rename_i ob h3 h4
      split at h
      ·rename_i h5
       cases h
       exact CZ ht hd ho hx hn h1 h3 h4 h5
      ·cases h
     ·cases h
    ·cases h
   ·cases h
 ·rename_i t x ho
  split at h
  ·cases h
  ·rename_i c d hn hx h1
   cases h
   exact Ak ht hd ho hx h1 (fun e=>hn e)
  ·cases h
 ·rename_i t ho
  cases h
  exact KP hd ho
 ·rename_i t x ho
  split at h
  ·rename_i b hx h1
   cases h
   exact FR ht hd ho hx h1
  ·cases h
 ·rename_i x ho
  split at h
  ·rename_i k b p hx
   split at h
   ·rename_i hk
    exact cz hd ho hx hk h
   ·cases h
  ·cases h
 ·rename_i cl ho
  split at h
  ·rename_i hcl
   split at h
   ·rename_i x y t it ha hts
    exact Jl ht hd ho hcl (toA ha) (toA hts) h
   ·cases h
  ·rename_i hcl
   split at h
   ·rename_i x t ha hts
    split at h
    ·rename_i e hx h1
     cases h
     exact Lo ht hd ho hcl (toA ha) (toA hts) hx h1
    ·cases h
   ·cases h
  ·cases h
 ·cases h
end
def cg (o:Oper):Option Call:=match o.op with
 | .call c=>match c.callee with
  | .builtin _=>none
  | _=>some c
 | _=>none
theorem gM {o:Oper}{c:Call}(h:cg o=some c):o.op=.call c:=by
 unfold cg at h
 split at h
 ·rename_i c' hop
  split at h
  ·cases h
  ·cases h;exact hop
 ·cases h
abbrev gf:=FuncId→List CV→List (Nat×Ob)→Nat→Option (CV×List (Nat×Ob)×Nat)
section
variable {P:Program}{C:Cx}{s:St}{aq:List (Nat×TI)}{ops:Array Oper}{call:gf}
def kr (P:Program)(aq:List (Nat×TI))(call:gf):Prop:=∀ g cs H n x H' n',call g cs H n=some (x,H',n')→Body P aq g cs H n fun r s'=>r=x∧s'.heap=H'∧s'.nx=n'
theorem TL.again {id:Nat}{l:List Oper}{s':St}(h:TL P C l.toArray l s fun x=>x=s'):T P C (.region id l.toArray false) s fun e x=>e=.normal∧x=s':=
 T.region fun a w Q hr hQ=>h a w Q hr fun x a' w' hx hr'=>hQ x a' w' ⟨rfl,hx⟩ hr'
end
end Go.Can
