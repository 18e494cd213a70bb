/- An interpreter over canonical states, and that what it says is so. Regions are run by a function that is taken ('reg'). No function of the program is mentioned here. | Further operations: conversions, interfaces, maps that are only made, ranges over strings, appends onto a beginning and onto nil. No function of the program is mentioned here. | The further operations as one step. No function of the -/
import Derived.Test.YtmnglemlimfpbaaGreatZ09
import Derived.Laws.IdiomStrings
namespace Go.Can
open Go.RowKit
def iter (g:St→Option (Exit×St)):Nat→St→Option (Exit×St)
 | 0,_=>none
 | n+1,s=>match g s with
  | some (.normal,s')=>iter g n s'
  | r=>r
def x9 (l:Nat)(g:St→Option (Exit×St)):Nat→St→Option (Exit×St)
 | 0,_=>none
 | n+1,s=>match g s with
  | some (.goto m,s')=>if m=l then x9 l g n s' else none
  | r=>r
def outB (id:Nat):Exit×St→Exit×St
 | (.exit i,s)=>if i=id then (.normal,s) else (.exit i,s)
 | r=>r
def lP (reg:Nat→Array Oper→Bool→St→Option St):Nat→Code→St→Option (Exit×St)
 | 0,_,_=>none
 | _+1,.skip,s=>some (.normal,s)
 | _+1,.region id ops d,s=>(reg id ops d s).map fun s'=>(.normal,s')
 | f+1,.seq x y,s=>match lP reg f x s with
  | some (.normal,s')=>lP reg f y s'
  | r=>r
 | f+1,.cond c x y,s=>match ev s c with
  | some (.bool b)=>lP reg f (if b then x else y) s
  | _=>none
 | f+1,.block id c,s=>(lP reg f c s).map (outB id)
 | f+1,.scope c,s=>match lP reg f c s with
  | some (.goto l,s')=>match findLabel c l with
   | some rest=>x9 l (lP reg f rest) f s'
   | none=>none
  | r=>r
 | f+1,.loop c,s=>iter (lP reg f c) f s
 | _+1,.exit id,s=>some (.exit id,s)
 | _+1,.ret,s=>some (.ret,s)
 | _+1,.label _,s=>some (.normal,s)
 | _+1,.goto l,s=>some (.goto l,s)
 | _+1,_,_=>none
section
variable {P:Program}{C:Cx}{s:St}{aj:List (Nat×TI)}{reg:Nat→Array Oper→Bool→St→Option St}
def gg (gd:Nat→Array Oper→Bool→Bool):Code→Bool
 | .region id ops d=>gd id ops d
 | .seq x y=>gg gd x && gg gd y
 | .cond _ x y=>gg gd x && gg gd y
 | .block _ c=>gg gd c
 | .loop c=>gg gd c
 | .scope c=>gg gd c
 | _=>true
def Fq (P:Program)(C:Cx)(gd:Nat→Array Oper→Bool→Bool)(reg:Nat→Array Oper→Bool→St→Option St):Prop:=∀ id ops d s s',gd id ops d=true→reg id ops d s=some s'→T P C (.region id ops d) s fun e x=>e=.normal∧x=s'
def Ends (r:Exit×St):Exit→St→Prop:=fun e x=>e=r.1∧x=r.2
theorem nX {gd:Nat→Array Oper→Bool→Bool}{l:Nat}:∀ (c rest:Code),gg gd c=true→findLabel c l=some rest→gg gd rest=true
 | .seq a b,rest,hg,h=>by
  simp only[gg,Bool.and_eq_true] at hg
  simp only[findLabel] at h
  split at h
  ·rename_i r hr
   cases h
   simp only[gg,Bool.and_eq_true]
   exact⟨nX a r hg.1 hr,hg.2⟩
  ·exact nX b rest hg.2 h
 | .label l',rest,_,h=>by
  simp only[findLabel] at h
  split at h
  ·cases h;rfl
  ·cases h
 | .skip,_,_,h=>by simp[findLabel] at h
 | .region _ _ _,_,_,h=>by simp[findLabel] at h
 | .cond _ _ _,_,_,h=>by simp[findLabel] at h
 | .block _ _,_,_,h=>by simp[findLabel] at h
 | .loop _,_,_,h=>by simp[findLabel] at h
 | .rangeFunc _ _ _ _,_,_,h=>by simp[findLabel] at h
 | .exit _,_,_,h=>by simp[findLabel] at h
 | .scope _,_,_,h=>by simp[findLabel] at h
 | .goto _,_,_,h=>by simp[findLabel] at h
 | .ret,_,_,h=>by simp[findLabel] at h
theorem T.Dc {c:Code}{Q:Exit→St→Prop}(h:T P C c s fun e x=>(∀ l,e≠.goto l)∧Q e x):T P C (.scope c) s Q:=fun a w hr=>
 wp_scope_straight (wp_mono (h a w hr) fun e a' w' ⟨s',q,r⟩=>by
  cases e with
  | goto l=>exact absurd rfl (q.1 l)
  | _=>exact⟨s',q.2,r⟩)
theorem Bb {gd:Nat→Array Oper→Bool→Bool}(hR:Fq P C gd reg):∀ (f:Nat) (c:Code) (s:St) (r:Exit×St),gg gd c=true→lP reg f c s=some r→T P C c s (Ends r)
 | 0,_,_,_,_,h=>by simp[lP] at h
 | f+1,c,s,r,hG,h=>by
  have ih:=Bb hR f
  cases c<;>simp only[lP] at h<;>first | cases h | skip
  case skip=>exact T.skip ⟨rfl,rfl⟩
  case exit=>exact T.exit ⟨rfl,rfl⟩
  case ret=>exact T.ret ⟨rfl,rfl⟩
  case label=>exact T.label ⟨rfl,rfl⟩
  case goto=>exact T.goto ⟨rfl,rfl⟩
  case region id ops d=>
   obtain⟨s',h1,rfl⟩:=Option.map_eq_some_iff.1 h
   exact hR id ops d s s' hG h1
  case seq x y=>
   simp only[gg,Bool.and_eq_true] at hG
   refine T.seq ?_
   cases hx:lP reg f x s with
   | none=>rw[hx] at h;cases h
   | some q=>
    rw[hx] at h
    obtain⟨e,s1⟩:=q
    refine T.mono (ih x s _ hG.1 hx) ?_
    rintro e' s' ⟨e1,e2⟩
    simp only at e1 e2
    subst e1
    subst e2
    cases e'<;>simp only at h<;>first
     | exact ih y s' r hG.2 h
     | (cases h;exact⟨rfl,rfl⟩)
  case cond c x y=>
   split at h
   ·rename_i b hb
    simp only[gg,Bool.and_eq_true] at hG
    exact T.cond hb (ih _ s r (by cases b<;>simp[hG.1,hG.2]) h)
   ·cases h
  case block id c=>
   obtain⟨q,h1,rfl⟩:=Option.map_eq_some_iff.1 h
   refine T.block (T.mono (ih c s q (by simpa only[gg] using hG) h1) ?_)
   rintro e' s' ⟨e1,e2⟩
   obtain⟨e,s1⟩:=q
   simp only at e1 e2
   subst e1
   subst e2
   cases e'<;>simp only[oc,outB]<;>first
    | exact⟨rfl,rfl⟩
    | (split<;>exact⟨rfl,rfl⟩)
  case scope c=>
   simp only[gg] at hG
   cases hx:lP reg f c s with
   | none=>rw[hx] at h;cases h
   | some q=>
    rw[hx] at h
    obtain⟨e,s1⟩:=q
    have k:=ih c s _ hG hx
    cases e<;>simp only at h
    case goto l=>
     cases hl:findLabel c l with
     | none=>rw[hl] at h;cases h
     | some rest=>
      rw[hl] at h
      refine T.FV l (fun n s=>x9 l (lP reg f rest) n s=some r) hl (T.mono k ?_) fun n s hn=>?_
      ·rintro e' s' ⟨e1,e2⟩
       simp only at e1 e2
       subst e1
       subst e2
       exact⟨rfl,f,ae.here h⟩
      ·cases n with
       | zero=>simp[x9] at hn
       | succ n=>
        simp only[x9] at hn
        cases hy:lP reg f rest s with
        | none=>rw[hy] at hn;cases hn
        | some q=>
         rw[hy] at hn
         obtain⟨e,s2⟩:=q
         refine T.mono (ih rest s _ (nX c rest hG hl) hy) ?_
         rintro e' s' ⟨e1,e2⟩
         simp only at e1 e2
         subst e1
         subst e2
         cases e'<;>simp only at hn
         case goto m=>
          split at hn
          ·rename_i e;exact⟨e,n,Nat.lt_succ_self n,ae.here hn⟩
          ·cases hn
         all_goals
          cases hn
          exact⟨rfl,rfl⟩
    all_goals
     cases h
     refine T.Dc (T.mono k ?_)
     rintro e' s' ⟨e1,e2⟩
     simp only at e1 e2
     subst e1
     subst e2
     exact⟨fun l e=>(by cases e),rfl,rfl⟩
  case loop c=>
   refine T.loop (fun n s=>iter (lP reg f c) n s=some r) h fun n s hn=>?_
   cases n with
   | zero=>simp[iter] at hn
   | succ n=>
    simp only[iter] at hn
    cases hx:lP reg f c s with
    | none=>rw[hx] at hn;cases hn
    | some q=>
     rw[hx] at hn
     obtain⟨e,s1⟩:=q
     refine T.mono (ih c s _ (by simpa only[gg] using hG) hx) ?_
     rintro e' s' ⟨e1,e2⟩
     simp only at e1 e2
     subst e1
     subst e2
     cases e'<;>simp only at hn<;>first
      | exact⟨n,Nat.lt_succ_self n,hn⟩
      | (cases hn;exact⟨rfl,rfl⟩)
end
end Go.Can
namespace Go.Can
open Go.RowKit
section
variable {P:Program}{C:Cx}{σ:Nat→Option OB}{s:St}{a:Act}{w:World}{ops:Array Oper}{aj:List (Nat×TI)}
def pA (P:Program)(C:Cx)(o:Oper)(s s':St):Prop:=∀ a w,Rel C s a w →
 ∃ w',((∃ z,(execOp a.eval o).run P w=.ok (.value z) w'∧Rel C s' (a.put o.dst z) w')∨((execOp a.eval o).run P w=.ok .skip w'∧Rel C s' (a.put o.dst undef) w'))
theorem pA.le {o:Oper}{s1 s':St}(hl:Le C s s1)(h:pA P C o s1 s'):pA P C o s s':=fun a w hr=>h a w (hl a w hr)
theorem pA.Gb (ht:aF P aj){o:Oper}{s':St}(hd:aW C.nt o.dst=true)(h:jX aj s o=some s'):pA P C o s s':=fun _ _ hr=>uC ht hr hd h
theorem mq {o:Oper}{l:List Oper}{K:St→Prop}{s':St}(hg:bK ops s o=some true)(hx:pA P C o s s')(h:TL P C ops l s' K):TL P C ops (o::l) s K:=by
 intro a w Q hr hQ
 have hw:Region.wanted o (yielded ops a.tmps)=true:=by
  unfold bK at hg
  split at hg
  ·rename_i e;simp[Region.wanted,e]
  ·rename_i j want e
   split at hg
   ·cases hg
   rename_i t hj
   exact jh hr e hj hg
 unfold wpList
 rw[if_pos hw]
 refine .inl ?_
 obtain⟨w',h1 | h1⟩:=hx a w hr
 ·obtain⟨z,k1,k2⟩:=h1
  unfold Oper.wp
  rw[k1]
  exact h _ _ Q k2 hQ
 ·obtain⟨k1,k2⟩:=h1
  unfold Oper.wp
  rw[k1]
  exact h _ _ Q k2 hQ
def bytesOf:List CV→Option (List UInt8)
 | []=>some []
 | .int .u8 n::r=>if 0≤n∧n<256 then (bytesOf r).map (UInt8.ofNat n.toNat :: ·) else none
 | _=>none
theorem tf {F:Nat→Prop}:∀ (cs:List CV) (l:List UInt8) (us:List Value),bytesOf cs=some l→aQ w F σ cs us→us=l.map fun b=>Value.int .u8 (b.toNat:Int)
 | [],l,us,h,hr=>by
  simp only[bytesOf] at h
  cases h
  simpa [aQ] using hr
 | c::cs,l,us,h,hr=>by
  simp only[aQ] at hr
  obtain⟨v,r,rfl,h1,h2⟩:=hr
  unfold bytesOf at h
  split at h
  ·rename_i e;cases e
  ·rename_i n r' e
   cases e
   split at h
   ·rename_i hn
    obtain⟨l',h3,rfl⟩:=Option.map_eq_some_iff.1 h
    simp only[VR] at h1
    subst h1
    rw[tf cs l' r h3 h2]
    simp only[List.map_cons,List.cons.injEq,Value.int.injEq,true_and,and_true]
    have:(UInt8.ofNat n.toNat).toNat=n.toNat:=by
     have e:(UInt8.ofNat n.toNat).toNat=n.toNat % 256:=UInt8.toNat_ofNat'
     rw[e]
     omega
    rw[this]
    omega
   ·cases h
  ·cases h
def pj (aj:List (Nat×TI))(s:St)(a b:TypeId)(x:Operand):Option CV:=
 match ev s x,dm aj a,dm aj b with
 | some (.int _ n),some _,some (.int k)=>some (.int k (k.wrap n))
 | some (.str v),some _,some .str=>some (.str v)
 | some c,some (.sl e),some .str=>match dm aj e,cells? s c with
  | some (.int .u8),some (cs,m)=>if cs.length=m then (bytesOf cs).map fun l=>.str ⟨l.toArray⟩ else none
  | _,_=>none
 | _,_,_=>none
theorem ej (ht:aF P aj){t:TypeId}{d:TD}(h:dm aj t=some d):∃ i,assoc aj t=some i∧i.d=d∧∃ u,P.underlying t=some u∧qH u=d:=by
 obtain⟨i,h1,h2⟩:=Option.map_eq_some_iff.1 h
 obtain⟨u,h3,h4⟩:=(ht t i h1).uy
 exact⟨i,h1,h2,u,h3,h4.trans h2⟩
theorem qR {t:TypeId}{k:IntKind}(ht:aF P aj)(h:dm aj t=some (.int k)):P.underlying t=some (.int k):=by
 obtain⟨_,_,_,u,h1,h2⟩:=ej ht h
 cases u<;>simp only[qH] at h2<;>first | cases h2 | skip
 exact h1
theorem yJ (ht:aF P aj)(h:aH C σ s a w){t u:TypeId}{x:Operand}{c:CV}(hc:pj aj s t u x=some c):∃ z,(convert t u (a.eval x)).run P w=.ok z w∧VR w (FB C σ s.heap) σ c z:=by
 unfold pj at hc
 split at hc
 ·rename_i k0 n d k hx h1 h2
  cases hc
  have hv:=bq h hx
  simp only[VR] at hv
  obtain⟨_,_,_,ud,g1,_⟩:=ej ht h1
  have g2:=qR ht h2
  refine⟨.int k (k.wrap n),?_,dp _ _⟩
  rw[hv]
  simp[convert,run_underlying g1,run_underlying g2,Conv.intToInt]
 ·rename_i v d hx h1 h2
  cases hc
  have hv:=bq h hx
  simp only[VR] at hv
  obtain⟨_,_,_,ud,g1,_⟩:=ej ht h1
  obtain⟨i,i1,i2,_⟩:=ej ht h2
  have g2:=kU (ht u i i1) i2
  refine⟨.string v,?_,wV _⟩
  rw[hv]
  simp[convert,run_underlying g1,run_underlying g2]
 ·rename_i c' e _ hx h1 h2
  split at hc
  ·rename_i cs m he hcs
   split at hc
   ·rename_i hlen
    obtain⟨l,hl,rfl⟩:=Option.map_eq_some_iff.1 hc
    obtain⟨i1,a1,a2,_⟩:=ej ht h1
    obtain⟨i2,b1,b2,_⟩:=ej ht h2
    have g1:=du (ht t i1 a1) a2
    have g2:=kU (ht u i2 b1) b2
    have g3:=qR ht he
    obtain⟨us,k1,_,k3⟩:=cells?_ok h (bq h hx) hcs
    have hus:=tf _ _ _ hl k1
    have hll:l.length=m:=by
     have:=aQ.length _ _ k1
     rw[hus,List.length_map] at this
     omega
    refine⟨.string ⟨l.toArray⟩,?_,wV _⟩
    rcases k3 with ⟨cp,e1,e2,e3⟩ | ⟨ad,cp,e1,e2⟩
    ·have:l=[]:=List.eq_nil_of_length_eq_zero (by omega)
     subst this
     rw[e1,run_convert_bytes_string w t u e none 0 cp g1 g3 g2]
     rfl
    ·rw[e1]
     subst hll
     refine run_convert_bytes_back w t u e ad cp l g1 g3 g2 fun j hj=>?_
     refine e2 j _ ?_
     rw[hus]
     simp[hj]
   ·cases hc
  ·cases hc
 ·cases hc
def oa (b:ByteArray):List CV:=b.data.toList.map fun x=>.int .u8 (x.toNat:Int)
theorem Cp {F:Nat→Prop}(b:ByteArray):bx w F (oa b) (b.data.toList.map fun x=>Value.int .u8 (x.toNat:Int))∧(oa b).all one=true:=by
 unfold oa
 generalize b.data.toList=l
 induction l with
 | nil=>simp[bx]
 | cons x r ih=>
  simp only[List.map_cons,bx,List.all_cons,ih.2,Bool.and_true]
  exact⟨⟨_,_,rfl,by simp[bM],ih.1⟩,rfl⟩
theorem eG {o:Oper}(hd:aW C.nt o.dst=true)(h:aH C σ s a w){c:CV}{v:Value}(hv:VR w (FB C σ s.heap) σ c v):Rel C (s.put o.dst c) (a.put o.dst v) w:=
 ⟨σ,h.put (fun t e=>by rw[h.tm];rw[e] at hd;simpa [aW] using hd) hv⟩
theorem vu (ht:aF P aj){o:Oper}{t u e:TypeId}{x:Operand}{b:ByteArray}(hd:aW C.nt o.dst=true)(ho:o.op=.convert t u x)(hx:ev s x=some (.str b))(h1:dm aj t=some .str)(h2:dm aj u=some (.sl e))(h3:dm aj e=some (.int .u8))(hm:b.size≤1000000) :
  pA P C o s (s.put o.dst (.ax (oa b) b.size)):=by
 rintro a w ⟨σ,h⟩
 obtain⟨i1,a1,a2,_⟩:=ej ht h1
 obtain⟨i2,b1,b2,_⟩:=ej ht h2
 have g1:=kU (ht t i1 a1) a2
 have g2:=du (ht u i2 b1) b2
 have g3:=qR ht h3
 have hv:=bq h hx
 simp only[VR] at hv
 have hrun:=run_bytes_of_string (P:=P) w t u e b g1 g2 g3
 have hb:Below w.heap.size w (w.drew.alloc (.cells (bytesRow b (grownCap w b.size 0 e)) e ((bytesRow b (grownCap w b.size 0 e)).size,(bytesRow b (grownCap w b.size 0 e)).size+1))):=
  ⟨rfl,rfl,rfl,by simp,fun k hk=>heap_alloc_old w.drew _ k hk⟩
 have hnew:(w.drew.alloc (.cells (bytesRow b (grownCap w b.size 0 e)) e ((bytesRow b (grownCap w b.size 0 e)).size,(bytesRow b (grownCap w b.size 0 e)).size+1))).heap[w.heap.size]? = some (.cells (bytesRow b (grownCap w b.size 0 e)) e ((bytesRow b (grownCap w b.size 0 e)).size,(bytesRow b (grownCap w b.size 0 e)).size+1)):=heap_alloc_new w.drew _
 revert hb hnew
 generalize hw':(w.drew.alloc (.cells (bytesRow b (grownCap w b.size 0 e)) e ((bytesRow b (grownCap w b.size 0 e)).size,(bytesRow b (grownCap w b.size 0 e)).size+1)))=w'
 rw[hw'] at hrun
 intro hb hnew
 refine⟨w',.inl ⟨.slice (some ⟨w.heap.size,0,none⟩) b.size (grownCap w b.size 0 e),by simp[execOp,ho,hv,hrun],eG hd (h.below hb) ?_⟩⟩
 obtain⟨k1,k2⟩:=Cp (w:=w') (F:=FB C σ s.heap) b
 simp only[VR,bM]
 have hge:b.size≤grownCap w b.size 0 e:=grownCap_ge w b.size 0 e
 refine⟨_,_,rfl,hge,grownCap_le_maxLen w _ _ _ (by simp only[maxLen];omega),.inr ⟨_,rfl,?_⟩⟩
 refine gH _ _ _ k1 k2 (fun hf=>?_) fun j v hj=>?_
 ·have:=tC h _ hf
  simp at this
 ·rw[add_lit,Nat.zero_add,cell_of_row w' _ _ _ _ _ hnew]
  rw[List.getElem?_map] at hj
  obtain⟨y,hy,rfl⟩:=Option.map_eq_some_iff.1 hj
  have hlt:j<b.data.size:=by simpa using (List.getElem?_eq_some_iff.1 hy).1
  rw[bytesRow_at b _ j hlt]
  have:y=b.data[j]:=by
   have:=(List.getElem?_eq_some_iff.1 hy).2
   simpa using this.symm
  rw[this]
def Hj (s:St)(o:Nat)(ob:Ob)(d:Option Tmp)(off n:Nat):St:=(s.eM o ob).put d (.ax ((ob.cells.drop off).take (n*ob.sz)) n)
theorem Gm (ht:aF P aj){o:Oper}{t e:TypeId}{x:Operand}{p off n:Nat}{ob:Ob}(hd:aW C.nt o.dst=true)(ho:o.op=.convert t t x)(hx:ev s x=some (.bw p off n))(hn:0<n)(h2:dm aj t=some (.sl e))(h3:dm aj e=some (.int .u8))
  (hob:assoc s.heap p=some ob) (htr:trees ob.cells=true):pA P C o s (Hj s p ob o.dst off n):=by
 rintro a w ⟨σ,h⟩
 obtain⟨i2,b1,b2,_⟩:=ej ht h2
 have g2:=du (ht t i2 b1) b2
 have g3:=qR ht h3
 have hv:=bq h hx
 have hfv:=hv
 simp only[VR] at hv
 obtain⟨B,hB,hv⟩:=hv
 obtain⟨B',e1,e2,e3,e4,e5⟩:=h.obj p ob hob
 rw[hB] at e1;cases e1
 cases hblk:B.gK with
 | none=>rw[hblk] at hv;simp only at hv;omega
 | some b=>
  rw[hblk] at hv
  simp only at hv
  obtain⟨cap,hv,c1,c2,c3,c4⟩:=hv
  obtain⟨cur,n1,n2,n3,n4,n5,n6⟩:=e5 b hblk
  have hlt:=(Array.getElem?_eq_some_iff.1 n1).1
  have hsh:w.shape? b=some (ob.elem,cur.size):=by unfold World.shape?;rw[n1]
  let w':World:=w.freeze ⟨b,cur.size,none⟩ 1
  have hw':w'.heap=w.heap.modify b (fun | .cells c elem (lo,hi)=>.cells c elem (if lo == hi then (cur.size,cur.size+1) else (min lo cur.size,max hi (cur.size+1))) | o=>o):=rfl
  have hother:∀ k,k≠b→w'.heap[k]? = w.heap[k]?:=fun k hk=>by
   rw[hw',Array.getElem?_modify,if_neg (Ne.symm hk)]
  have hself:w'.heap[b]? = some (.cells cur ob.elem (cur.size,cur.size+1)):=by
   rw[hw',Array.getElem?_modify,if_pos rfl,n1]
   rfl
  have hcell:∀ ad,w'.cell? ad=w.cell? ad:=fun ad=>by
   by_cases hk:ad.block=b
   ·unfold World.cell?
    rw[hk,hself,n1]
   ·exact World.cell?_of_block (hother _ hk)
  have hk:∀ F:Nat→Prop,bO w w' F F:=fun F=>⟨fun ad u hf hu=>⟨by rw[hcell];exact hu,hf⟩,fun r x hf hu hx=>by
   have hne:r≠b:=fun e=>by subst e;rw[n1] at hu;cases hu;exact hx _ _ _ rfl
   exact⟨by rw[hother r hne];exact hu,hf⟩⟩
  have h':=h.eM hob htr
  have hnb:∀ q y,assoc (s.eM p ob).heap q=some y→aJ σ q≠some b:=fun q y hq hb=>by
   obtain⟨hne,z,hz,_⟩:=fo _ _ _ hq
   exact hne (h.inj q p z ob b hz hob hb (by simp[aJ,hB,hblk]))
  have h2':aH C σ (s.eM p ob) a w':=by
   refine⟨h'.kO,h'.tm,h'.os,h'.tape,h'.output,?_,?_,?_,?_,h'.inj,h'.nx,h'.ek,h'.low,h'.new⟩
   ·rw[hw',Array.size_modify];exact h'.size
   ·intro k hk1 hk2
    rw[hother k (fun e=>?_)]
    ·exact h'.frame k hk1 hk2
    ·subst e
     rcases n4 with n4 | n4
     ·exact hk2 n4
     ·omega
   ·intro t c hc
    obtain⟨v,k1,k2⟩:=h'.env t c hc
    exact⟨v,k1,VR.keep (hk _) c v (fun _ _=>rfl) k2⟩
   ·intro q y hq
    obtain⟨B2,m1,m2,m3,m4,m5⟩:=h'.obj q y hq
    refine⟨B2,m1,m2,m3,m4,fun b2 hb2=>?_⟩
    obtain⟨cur2,q1,q2,q3,q4,q5,q6⟩:=m5 b2 hb2
    have hne:b2≠b:=fun e=>hnb q y hq (by simp[aJ,m1,hb2,e])
    exact⟨cur2,by rw[hother b2 hne];exact q1,q2,q3,q4,q5,aQ.keep (hk _) _ _ (fun _ _=>rfl) q6⟩
  have hval:VR w' (FB C σ (s.eM p ob).heap) σ (.ax ((ob.cells.drop off).take (n*ob.sz)) n) (a.eval x):=by
   cases x with
   | tmp t=>
    have hfz:assoc (s.eM p ob).env t=some (.ax ((ob.cells.drop off).take (n*ob.sz)) n):=by
     have hx':assoc s.env t=some (.bw p off n):=hx
     have:∀ l:List (Nat×CV),assoc l t=some (.bw p off n)→assoc (um p ob.cells ob.sz l) t=some (.ax ((ob.cells.drop off).take (n*ob.sz)) n):=by
      intro l
      induction l with
      | nil=>intro h;cases h
      | cons y r ih=>
       obtain⟨k,c⟩:=y
       intro hl
       simp only[um,assoc] at hl ⊢
       split at hl
       ·rename_i e;cases hl;rw[if_pos e];simp[cm]
       ·rename_i e;rw[if_neg e];exact ih hl
     exact this s.env hx'
    obtain⟨v,k1,k2⟩:=h2'.env t _ hfz
    have:a.eval (.tmp t)=v:=by simp[Act.eval,k1]
    rw[this]
    exact k2
   | const v=>exact absurd hx (by
     simp only[ev]
     intro hc
     have:=n8 (w:=w) (F:=fun _=>False) hc
     simp[bM] at this)
   | func f=>cases hx
   | global g=>cases hx
  have hrun:(execOp a.eval o).run P w=.ok (.value (a.eval x)) w':=by
   rw[hv]
   simp[execOp,ho,hv,convert,run_underlying g2,run_underlying g3,markStringish,hsh,w']
  exact⟨w',.inl ⟨_,hrun,eG hd h2' hval⟩⟩
theorem El (ht:aF P aj){o:Oper}{t:TypeId}{x:Operand}{c:CV}{d:TD}(hd:aW C.nt o.dst=true)(ho:o.op=.makeInterface t x)(hx:ev s x=some c)(h1:dm aj t=some d)(hn:d=.Ie→False):pA P C o s (s.put o.dst (.iface t [c])):=by
 rintro a w ⟨σ,h⟩
 obtain⟨i1,a1,a2,u,g1,g2⟩:=ej ht h1
 have hv:=bq h hx
 refine⟨w,.inl ⟨.iface t (a.eval x),?_,eG hd h ?_⟩⟩
 ·have hu:(underlying t).run P w=.ok u w:=bj g1 w
  have:(Instr.makeInterface t (a.eval x)).run P w=.ok (.iface t (a.eval x)) w:=by
   unfold Instr.makeInterface
   simp only[Sem.run_bind,hu,Result.andThen_ok]
   cases u<;>first | rfl | (exact absurd g2.symm hn)
  simp[execOp,ho,this]
 ·simp only[VR,aQ]
  exact⟨[a.eval x],rfl,a.eval x,[],rfl,hv,rfl⟩
theorem IZ (ht:aF P aj){o:Oper}{cl:Call}{t e:TypeId}{x:Operand}(hd:aW C.nt o.dst=true)(ho:o.op=.call cl)(hcl:cl.callee=.builtin .cap)(hargs:cl.args=#[x])(hts:cl.argTypes=#[t])(hx:ev s x=some .ai)(h1:dm aj t=some (.sl e)):pA P C o s (s.put o.dst (.int .i64 0)):=by
 rintro a w ⟨σ,h⟩
 obtain⟨i1,a1,a2,_⟩:=ej ht h1
 have g1:=du (ht t i1 a1) a2
 have hv:=bq h hx
 simp only[VR] at hv
 refine⟨w,.inl ⟨.int .i64 0,?_,eG hd h (dp _ _)⟩⟩
 simp[execOp,ho,resolve,hcl,hargs,hts,invoke,builtin,Builtin.cap_,run_underlying g1,hv,goInt]
theorem aH.Ak (h:aH C σ s a w)(x:Obj):aH C (sig σ s.nx ⟨some w.heap.size,0,0⟩) ⟨s.env,s.heap,s.nx+1⟩ a (w.alloc x)∧¬ FB C (sig σ s.nx ⟨some w.heap.size,0,0⟩) s.heap w.heap.size:=by
 have hn:σ s.nx=none:=h.nx s.nx (Nat.le_refl _)
 have hg:w.grownBy (w.alloc x) none:=ml _
 have hold:∀ {p x},assoc s.heap p=some x→p≠s.nx:=fun {p x} hp e=>by
  subst e
  obtain⟨B',e1,_⟩:=h.obj _ _ hp
  rw[hn] at e1;cases e1
 have hsg:∀ {p},p≠s.nx→sig σ s.nx ⟨some w.heap.size,0,0⟩ p=σ p:=fun {p} hp=>by simp[sig,hp]
 have hF:∀ b',FB C (sig σ s.nx ⟨some w.heap.size,0,0⟩) s.heap b'→FB C σ s.heap b':=by
  rintro b' (hb | ⟨p,y,hp,hb⟩)
  ·exact .inl hb
  ·simp only[aJ,hsg (hold hp)] at hb
   exact .inr ⟨p,y,hp,hb⟩
 have hk:bO w (w.alloc x) (FB C σ s.heap) (FB C (sig σ s.nx ⟨some w.heap.size,0,0⟩) s.heap):=jO hg (fun b e=>by cases e) fun b' hb'=>.inl (hF b' hb')
 refine⟨⟨h.kO,h.tm,h.os,h.tape,h.output,Nat.le_trans h.size hg.size,?_,?_,?_,?_,?_,?_,Nat.le_trans h.low (Nat.le_succ _),?_⟩,fun hf=>?_⟩
 ·intro k hk1 hk2
  rw[hg.block k (Nat.lt_of_lt_of_le hk1 h.size) (by simp)]
  exact h.frame k hk1 hk2
 ·intro t c hc
  obtain⟨v,k1,k2⟩:=h.env t c hc
  exact⟨v,k1,VR.keep hk c v (qU hn k2) k2⟩
 ·intro q y hq
  obtain⟨B2,m1,m2,m3,m4,m5⟩:=h.obj q y hq
  refine⟨B2,by rw[hsg (hold hq)];exact m1,m2,m3,m4,fun b2 hb2=>?_⟩
  obtain⟨cur2,q1,q2,q3,q4,q5,q6⟩:=m5 b2 hb2
  exact⟨cur2,by rw[hg.block b2 (Array.getElem?_eq_some_iff.1 q1).1 (by simp)];exact q1,q2,q3,q4,q5,aQ.keep hk _ _ (l7 hn q6) q6⟩
 ·intro p q y z b' hp hq hbp hbq
  simp only[aJ,hsg (hold hp)] at hbp
  simp only[aJ,hsg (hold hq)] at hbq
  exact h.inj p q y z b' hp hq hbp hbq
 ·intro p hp
  have:p≠s.nx:=fun e=>by subst e;exact absurd hp (by simp)
  rw[hsg this]
  exact h.nx p (Nat.le_of_succ_le hp)
 ·intro p hp
  have:=h.low
  rw[hsg (show p≠s.nx by omega)]
  exact h.ek p hp
 ·intro p B b' hp hB hb
  by_cases e:p=s.nx
  ·subst e
   rw[dc] at hB;cases hB
   simp only[Option.some.injEq] at hb
   subst hb
   exact .inr h.size
  ·rw[hsg e] at hB;exact h.new p B b' hp hB hb
 ·have:=tC h _ (hF _ hf)
  omega
theorem D1 {o:Oper}{t:TypeId}(hd:aW C.nt o.dst=true)(ho:o.op=.makeMap t none):pA P C o s (St.put ⟨s.env,s.heap,s.nx+1⟩ o.dst (.mp s.nx [])):=by
 rintro a w ⟨σ,h⟩
 obtain⟨h',hf⟩:=h.Ak (.map #[] 0)
 refine⟨w.alloc (.map #[] 0),.inl ⟨.map (some w.heap.size),?_,eG hd h' ?_⟩⟩
 ·simp[execOp,ho,Instr.makeMap]
 ·simp only[VR]
  exact⟨_,w.heap.size,#[],0,dc,rfl,rfl,heap_alloc_new w _,rfl,List.nodup_nil,hf⟩
theorem DC (ht:aF P aj){o:Oper}{t:TypeId}{x:Operand}{b:ByteArray}(hd:aW C.nt o.dst=true)(ho:o.op=.range t x)(hx:ev s x=some (.str b))(h1:dm aj t=some .str):pA P C o s (St.put ⟨s.env,s.heap,s.nx+1⟩ o.dst (.iter s.nx b 0)):=by
 rintro a w ⟨σ,h⟩
 obtain⟨i1,a1,a2,_⟩:=ej ht h1
 have g1:=kU (ht t i1 a1) a2
 have hv:=bq h hx
 simp only[VR] at hv
 obtain⟨h',hf⟩:=h.Ak (.stringIter b 0)
 refine⟨w.alloc (.stringIter b 0),.inl ⟨.pointer (some ⟨w.heap.size,0,none⟩),?_,eG hd h' ?_⟩⟩
 ·simp[execOp,ho,Instr.range,run_underlying g1,hv]
 ·simp only[VR]
  exact⟨_,w.heap.size,dc,rfl,rfl,heap_alloc_new w _,hf⟩
def sH (k:Nat):CV→Bool
 | .iter k' _ _=>k' == k
 | _=>false
def uT (k:Nat)(b:ByteArray)(p:Nat):List (Nat×CV)→List (Nat×CV)
 | []=>[]
 | (t,c)::r=>(t,if sH k c then .iter k b p else c)::uT k b p r
theorem qB {k:Nat}{b:ByteArray}{p:Nat}:∀ (l:List (Nat×CV)) (t:Nat) (c:CV),assoc (uT k b p l) t=some c→∃ d,assoc l t=some d∧c=if sH k d then .iter k b p else d
 | [],t,c,h=>by simp[uT,assoc] at h
 | (u,d)::r,t,c,h=>by
  simp only[uT,assoc] at h ⊢
  split at h
  ·rename_i e;cases h;rw[if_pos e];exact⟨d,rfl,rfl⟩
  ·rename_i e;rw[if_neg e];exact qB r t c h
def Hg:CV→Bool
 | .mp _ _=>true
 | _=>false
def DQ (s:St)(k:Nat):Bool:=(s.env.all fun x=>cE x.2 || sH k x.2 || Hg x.2) && s.heap.all fun x=>cZ x.2.cells
def EZ (s:St)(d:Option Tmp)(k:Nat)(b:ByteArray)(p:Nat):Option St:=
 if p<b.size then if DQ s k then some (St.put { s with env:=uT k b (p+(Utf8.decode b p).2) s.env } d (.df [.bool true,.int .i64 p,.int .i32 (Utf8.decode b p).1])) else none
 else some (s.put d (.df [.bool false]))
theorem cc {o:Oper}{x:Operand}{k p:Nat}{b:ByteArray}{s':St}(hd:aW C.nt o.dst=true)(ho:o.op=.next x true)(hx:ev s x=some (.iter k b p))(hk0:C.n0≤k)(hs:EZ s o.dst k b p=some s'):pA P C o s s':=by
 rintro a w ⟨σ,h⟩
 have hv:=bq h hx
 simp only[VR] at hv
 obtain⟨B,r,hB,hb,hv,hr,hf⟩:=hv
 have hget:w.heap[r]? = some (.stringIter b p):=hr
 have hrl:=(Array.getElem?_eq_some_iff.1 hr).1
 unfold EZ at hs
 split at hs
 ·rename_i hlt
  split at hs
  ·rename_i hok
   cases hs
   simp only[DQ,Bool.and_eq_true,List.all_eq_true,Bool.or_eq_true] at hok
   let w':World:={ w with heap:=w.heap.setIfInBounds r (.stringIter b (p+(Utf8.decode b p).2)) }
   have hother:∀ j,j≠r→w'.heap[j]? = w.heap[j]?:=fun j hj=>by
    simp[w',Ne.symm hj]
   have hself:w'.heap[r]? = some (.stringIter b (p+(Utf8.decode b p).2)):=by
    simp[w',hrl]
   have hsz:w'.heap.size=w.heap.size:=by simp[w']
   have hkc:∀ F:Nat→Prop,jC w w' F F:=fun F ad u hf hu=>by
    have hne:ad.block≠r:=fun e=>by
     unfold World.cell? at hu
     rw[e,hr] at hu
     cases hu
    exact⟨by rw[World.cell?_of_block (hother _ hne)];exact hu,hf⟩
   have h':aH C σ { s with env:=uT k b (p+(Utf8.decode b p).2) s.env } a w':=by
    refine⟨h.kO,h.tm,h.os,h.tape,h.output,by rw[hsz];exact h.size,?_,?_,?_,h.inj,h.nx,h.ek,h.low,h.new⟩
    ·intro j hj1 hj2
     rw[hother j (fun e=>?_)]
     ·exact h.frame j hj1 hj2
     ·subst e
      rcases h.new k B j hk0 hB hb with n4 | n4
      ·exact hj2 n4
      ·omega
    ·intro t c hc
     obtain⟨d,hd',rfl⟩:=qB _ _ _ hc
     obtain⟨v,k1,k2⟩:=h.env t d hd'
     refine⟨v,k1,?_⟩
     by_cases hi:sH k d=true
     ·rw[if_pos hi]
      cases d<;>simp only[sH,Bool.false_eq_true] at hi
      rename_i k' b' p'
      have:k'=k:=by simpa using hi
      subst this
      simp only[VR] at k2 ⊢
      obtain⟨B2,r2,q1,q2,q3,q4,q5⟩:=k2
      rw[hB] at q1;cases q1
      rw[hb] at q2;cases q2
      exact⟨B,r,hB,hb,q3,hself,q5⟩
     ·rw[if_neg hi]
      rcases hok.1 _ (a7 _ _ _ hd') with (q | q) | q
      ·exact VR.jP (hkc _) _ _ q k2
      ·exact absurd q hi
      ·cases d<;>simp only[Hg,Bool.false_eq_true] at q
       simp only[VR] at k2 ⊢
       obtain⟨B2,r2,arr,clock,q1,q2,q3,q4,q5,q6,q7⟩:=k2
       have hne:r2≠r:=fun e=>by rw[e,hr] at q4;cases q4
       exact⟨B2,r2,arr,clock,q1,q2,q3,by rw[hother r2 hne];exact q4,q5,q6,q7⟩
    ·intro q y hq
     obtain⟨B2,m1,m2,m3,m4,m5⟩:=h.obj q y hq
     refine⟨B2,m1,m2,m3,m4,fun b2 hb2=>?_⟩
     obtain⟨cur2,q1,q2,q3,q4,q5,q6⟩:=m5 b2 hb2
     have hne:b2≠r:=fun e=>by subst e;rw[hr] at q1;cases q1
     exact⟨cur2,by rw[hother b2 hne];exact q1,q2,q3,q4,q5,aQ.jP (hkc _) _ _ (hok.2 _ (a7 _ _ _ hq)) q6⟩
   refine⟨w',.inl ⟨.tuple #[.bool true,goInt p,.int .i32 (Utf8.decode b p).1],?_,eG hd h' ?_⟩⟩
   ·simp[execOp,ho,hv,Instr.next,getObj,setObj,Sem.run,hget,hlt,w']
   ·simp only[VR,aQ]
    exact⟨[_,_,_],rfl,_,_,rfl,rfl,_,_,rfl,rfl,_,_,rfl,rfl,rfl⟩
  ·cases hs
 ·rename_i hge
  cases hs
  refine⟨w,.inl ⟨.tuple #[.bool false],?_,eG hd h ?_⟩⟩
  ·simp[execOp,ho,hv,Instr.next,getObj,Sem.run,hget,hge]
  ·simp only[VR,aQ]
   exact⟨[_],rfl,_,_,rfl,rfl,rfl⟩
end
end Go.Can
namespace Go.Can
open Go.RowKit
section
variable {P:Program}{C:Cx}{s:St}{ops:Array Oper}{aj:List (Nat×TI)}
def Bo (aj:List (Nat×TI))(s:St)(d:Option Tmp)(x y:Operand)(t it:TypeId):Option St:=
 match dm aj t,dm aj it,ev s x,ev s y with
 | some (.sl e),some (.int .i64),some (.bw p 0 n),some (.int .i64 mi)=>match assoc aj e,assoc s.heap p with
  | some ie,some ob=>if 0<ie.size∧0<ie.bytes∧ob.elem=e∧ob.sz=ie.size∧n*ie.size=ob.cells.length∧(n+mi.toNat)*ie.bytes≤140737488355328∧0<mi then some (AppZ s d p n mi.toNat ob ie.zero) else none
  | _,_=>none
 | _,_,_,_=>none
theorem yN (ht:aF P aj){o:Oper}{cl:Call}{t it:TypeId}{x y:Operand}{s':St}(hd:aW C.nt o.dst=true)(ho:o.op=.call cl)(hcl:cl.callee=.builtin .append)(hargs:cl.args=#[x,y])(hts:cl.argTypes=#[t,it])(h:Bo aj s o.dst x y t it=some s'):pA P C o s s':=by
 unfold Bo at h
 split at h
 ·rename_i e p n mi h1 h2 h3 h4
  split at h
  ·rename_i ie ob h5 h6
   split at h
   ·rename_i hc
    cases h
    obtain⟨c1,c2,c3,c4,c5,c6,c7⟩:=hc
    obtain⟨ii,hi1,hi2⟩:=Option.map_eq_some_iff.1 h2
    have hm:((mi.toNat:Nat):Int)=mi:=by omega
    intro a w hr
    obtain⟨z,w',s',k1,k2,k3⟩:=GU (P:=P) (C:=C) (s:=s) ht (m:=mi.toNat) hd ho hcl hargs hts h1 h5 hi1 hi2 h3 (by rw[hm];exact h4) h6 c1 c2 c3 c4 c5 c6 (by omega) rfl a w hr
    cases k2
    exact⟨w',.inl ⟨z,k1,k3⟩⟩
   ·cases h
  ·cases h
 ·cases h
def I4 (aj:List (Nat×TI))(s:St)(o:Oper)(x y:Operand)(t it:TypeId):Option St:=
 match Bo aj s o.dst x y t it with
 | some s'=>some s'
 | none=>match x,ev s x with
  | .tmp tx,some .ai=>match dm aj t with
   | some (.sl e)=>match assoc aj e with
    | some ie=>match assoc s.env tx with
     | some .ai=>Bo aj (s.own tx e ie.size) o.dst x y t it
     | _=>none
    | none=>none
   | _=>none
  | _,some (.bw p _ n)=>match assoc s.heap p with
   | some ob=>jX aj (s.cut p ob (n*ob.sz)) o
   | none=>none
  | _,_=>none
theorem GS (ht:aF P aj){o:Oper}{cl:Call}{t it:TypeId}{x y:Operand}{s':St}(hd:aW C.nt o.dst=true)(ho:o.op=.call cl)(hcl:cl.callee=.builtin .append)(hargs:cl.args=#[x,y])(hts:cl.argTypes=#[t,it])(h:I4 aj s o x y t it=some s'):pA P C o s s':=by
 unfold I4 at h
 split at h
 ·rename_i s1 h1
  cases h
  exact yN ht hd ho hcl hargs hts h1
 ·split at h
  ·rename_i tx _ hx
   split at h
   ·rename_i e h1
    split at h
    ·rename_i ie h2
     split at h
     ·rename_i h3
      exact pA.le (Le.own tx e ie.size h3) (yN ht hd ho hcl hargs hts h)
     ·cases h
    ·cases h
   ·cases h
  ·rename_i p _ n _ hx
   split at h
   ·rename_i ob h1
    exact pA.le (Le.cut _ h1) (pA.Gb ht hd h)
   ·cases h
  ·cases h
def Ae (n0:Nat)(aj:List (Nat×TI))(s:St)(o:Oper):Option St:=
 match o.op with
 | .convert t u x=>match pj aj s t u x with
  | some c=>some (s.put o.dst c)
  | none=>match ev s x,dm aj t,dm aj u with
   | some (.str b),some .str,some (.sl e)=>match dm aj e with
    | some (.int .u8)=>if b.size≤1000000 then some (s.put o.dst (.ax (oa b) b.size)) else none
    | _=>none
   | some (.bw p off n),some (.sl e),_=>if t=u∧0<n then match dm aj e,assoc s.heap p with
     | some (.int .u8),some ob=>if trees ob.cells=true then some (Hj s p ob o.dst off n) else none
     | _,_=>none
    else none
   | _,_,_=>none
 | .makeInterface t x=>match ev s x,dm aj t with
  | some _,some .Ie=>none
  | some c,some _=>some (s.put o.dst (.iface t [c]))
  | _,_=>none
 | .makeMap _ none=>some (St.put ⟨s.env,s.heap,s.nx+1⟩ o.dst (.mp s.nx []))
 | .range t x=>match ev s x,dm aj t with
  | some (.str b),some .str=>some (St.put ⟨s.env,s.heap,s.nx+1⟩ o.dst (.iter s.nx b 0))
  | _,_=>none
 | .next x true=>match ev s x with
  | some (.iter k b p)=>if n0≤k then EZ s o.dst k b p else none
  | _=>none
 | .call cl=>match cl.callee with
  | .builtin .append=>match cl.args.toList,cl.argTypes.toList with
   | [x,y],[t,it]=>I4 aj s o x y t it
   | _,_=>none
  | .builtin .cap=>match cl.args.toList,cl.argTypes.toList with
   | [x],[t]=>match ev s x,dm aj t with
    | some .ai,some (.sl _)=>some (s.put o.dst (.int .i64 0))
    | _,_=>none
   | _,_=>none
  | _=>none
 | _=>none
theorem xa (ht:aF P aj){o:Oper}{s':St}(hd:aW C.nt o.dst=true)(h:Ae C.n0 aj s o=some s'):pA P C o s s':=by
 have toA:∀ {α:Type} {x:Array α} {l:List α},x.toList=l→x=l.toArray:=fun {α x l} e=>by rw[← e]
 unfold Ae at h
 split at h
 ·rename_i t u x ho
  split at h
  ·rename_i c hc
   cases h
   rintro a w ⟨σ,hr⟩
   obtain⟨z,k1,k2⟩:=yJ ht hr hc
   exact⟨w,.inl ⟨z,by simp[execOp,ho,k1],eG hd hr k2⟩⟩
  ·split at h
   ·rename_i b e hx h1 h2
    split at h
    ·rename_i h3
     split at h
     ·rename_i hm
      cases h
      exact vu ht hd ho hx h1 h2 h3 hm
     ·cases h
    ·cases h
   ·rename_i p off n e _ hx h1
    split at h
    ·rename_i hc
     obtain⟨rfl,hn⟩:=hc
     split at h
     ·rename_i ob h3 h4
      split at h
      ·rename_i h5
       cases h
       exact Gm ht hd ho hx hn h1 h3 h4 h5
      ·cases h
     ·cases h
    ·cases h
   ·cases h
 ·rename_i t x ho
  split at h
  ·cases h
  ·rename_i c d hn hx h1
   cases h
   exact El ht hd ho hx h1 (fun e=>hn e)
  ·cases h
 ·rename_i t ho
  cases h
  exact D1 hd ho
 ·rename_i t x ho
  split at h
  ·rename_i b hx h1
   cases h
   exact DC ht hd ho hx h1
  ·cases h
 ·rename_i x ho
  split at h
  ·rename_i k b p hx
   split at h
   ·rename_i hk
    exact cc hd ho hx hk h
   ·cases h
  ·cases h
 ·rename_i cl ho
  split at h
  ·rename_i hcl
   split at h
   ·rename_i x y t it ha hts
    exact GS ht hd ho hcl (toA ha) (toA hts) h
   ·cases h
  ·rename_i hcl
   split at h
   ·rename_i x t ha hts
    split at h
    ·rename_i e hx h1
     cases h
     exact IZ ht hd ho hcl (toA ha) (toA hts) hx h1
    ·cases h
   ·cases h
  ·cases h
 ·cases h
end
end Go.Can
namespace Go.Can
open Go.RowKit
def bV (o:Oper):Option Call:=match o.op with
 | .call c=>match c.callee with
  | .builtin _=>none
  | _=>some c
 | _=>none
theorem fW {o:Oper}{c:Call}(h:bV o=some c):o.op=.call c:=by
 unfold bV at h
 split at h
 ·rename_i c' hop
  split at h
  ·cases h
  ·cases h;exact hop
 ·cases h
abbrev fF:=FuncId→List CV→List (Nat×Ob)→Nat→Option (CV×List (Nat×Ob)×Nat)
section
variable {P:Program}{C:Cx}{s:St}{aj:List (Nat×TI)}{ops:Array Oper}{call:fF}
def jD (P:Program)(aj:List (Nat×TI))(call:fF):Prop:=∀ g cs H n x H' n',call g cs H n=some (x,H',n')→Body P aj g cs H n fun r s'=>r=x∧s'.heap=H'∧s'.nx=n'
theorem TL.again {id:Nat}{l:List Oper}{s':St}(h:TL P C l.toArray l s fun x=>x=s'):T P C (.region id l.toArray false) s fun e x=>e=.normal∧x=s':=
 T.region fun a w Q hr hQ=>h a w Q hr fun x a' w' hx hr'=>hQ x a' w' ⟨rfl,hx⟩ hr'
end
end Go.Can
