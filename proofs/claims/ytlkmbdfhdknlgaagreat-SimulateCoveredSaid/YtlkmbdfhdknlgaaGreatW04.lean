/- Lemmas. -/
import Derived.Test.YtlkmbdfhdknlgaaGreatW03
import Derived.Laws.IdiomStrings
namespace Go.Can
open Go.RowKit List
def iter (g:St->Option (Exit×St)):Nat->St->Option (Exit×St)
 | 0,_=>none
 | n+1,s=>match g s with
  | some (.normal,s')=>iter g n s'
  | r=>r
def C1 (l:Nat)(g:St->Option (Exit×St)):Nat->St->Option (Exit×St)
 | 0,_=>none
 | n+1,s=>match g s with
  | some (.goto m,s')=>if m=l then C1 l g n s' else none
  | r=>r
def outB (id:Nat):Exit×St->Exit×St
 | (.exit i,s)=>if i=id then (.normal,s) else (.exit i,s)
 | r=>r
def oP (VK:Nat->Array Oper->Bool->St->Option St):Nat->Code->St->Option (Exit×St)
 | 0,_,_=>none
 | _+1,.skip,s=>some (.normal,s)
 | _+1,.region id ops d,s=>(VK id ops d s).map λ s'=>(.normal,s')
 | f+1,.seq x y,s=>match oP VK f x s with
  | some (.normal,s')=>oP VK f y s'
  | r=>r
 | f+1,.cond c x y,s=>match ev s c with
  | some (.bool b)=>oP VK f (if b then x else y) s
  | _=>none
 | f+1,.block id c,s=>(oP VK f c s).map (outB id)
 | f+1,.scope c,s=>match oP VK f c s with
  | some (.goto l,s')=>match findLabel c l with
   | some rest=>C1 l (oP VK f rest) f s'
   | none=>none
  | r=>r
 | f+1,.loop c,s=>iter (oP VK f c) f s
 | _+1,.exit id,s=>some (.exit id,s)
 | _+1,.ret,s=>some (.ret,s)
 | _+1,.label _,s=>some (.normal,s)
 | _+1,.goto l,s=>some (.goto l,s)
 | _+1,_,_=>none
section
variable {P:Program}{C:Cx}{s:St}{av:List (Nat×TI)}{VK:Nat->Array Oper->Bool->St->Option St}
def iB (gd:Nat->Array Oper->Bool->Bool):Code->Bool
 | .region id ops d=>gd id ops d
 | .seq x y=>iB gd x && iB gd y
 | .cond _ x y=>iB gd x && iB gd y
 | .block _ c=>iB gd c
 | .loop c=>iB gd c
 | .scope c=>iB gd c
 | _=>true
def Mb (P:Program)(C:Cx)(gd:Nat->Array Oper->Bool->Bool)(VK:Nat->Array Oper->Bool->St->Option St):Prop:=∀ id ops d s s',gd id ops d=true->VK id ops d s=some s'->T P C (.region id ops d) s λ e x=>e=.normal/\x=s'
def Ends (r:Exit×St):Exit->St->Prop:=λ e x=>e=r.1/\x=r.2
theorem q9 {gd:Nat->Array Oper->Bool->Bool}{l:Nat}:∀ (c rest:Code),iB gd c=true->findLabel c l=some rest->iB gd rest=true
 | .seq a b,rest,hg,h=>by
  simp only[iB,Bool.and_eq_true] at hg;simp only[findLabel] at h;split at h
  .rename_i r hr;cases h;simp only[iB,Bool.and_eq_true];exact⟨q9 a r hg.1 hr,hg.2⟩
  .exact q9 b rest hg.2 h
 | .label l',rest,_,h=>by
  simp only[findLabel] at h;split at h
  .cases h;rfl
  .cases h
 | .skip,_,_,h=>by simp[findLabel] at h
 | .region _ _ _,_,_,h=>by simp[findLabel] at h
 | .cond _ _ _,_,_,h=>by simp[findLabel] at h
 | .block _ _,_,_,h=>by simp[findLabel] at h
 | .loop _,_,_,h=>by simp[findLabel] at h
 | .rangeFunc _ _ _ _,_,_,h=>by simp[findLabel] at h
 | .exit _,_,_,h=>by simp[findLabel] at h
 | .scope _,_,_,h=>by simp[findLabel] at h
 | .goto _,_,_,h=>by simp[findLabel] at h
 | .ret,_,_,h=>by simp[findLabel] at h
theorem T.Ju {c:Code}{Q:Exit->St->Prop}(h:T P C c s λ e x=>(∀ l,e≠.goto l)/\Q e x):T P C (.scope c) s Q:=λ a w hr=>
 wp_scope_straight (wp_mono (h a w hr) λ e a' w' ⟨s',q,r⟩=>by
  cases e with
  | goto l=>exact absurd rfl (q.1 l)
  | _=>exact⟨s',q.2,r⟩)
theorem GX {gd:Nat->Array Oper->Bool->Bool}(hR:Mb P C gd VK):∀ (f:Nat) (c:Code) (s:St) (r:Exit×St),iB gd c=true->oP VK f c s=some r->T P C c s (Ends r)
 | 0,_,_,_,_,h=>by simp[oP] at h
 | f+1,c,s,r,hG,h=>by
  have ih:=GX hR f;cases c<;>simp only[oP] at h<;>first | cases h | skip
  case skip=>exact T.skip ⟨rfl,rfl⟩
  case exit=>exact T.exit ⟨rfl,rfl⟩
  case ret=>exact T.ret ⟨rfl,rfl⟩
  case label=>exact T.label ⟨rfl,rfl⟩
  case goto=>exact T.goto ⟨rfl,rfl⟩
  case region id ops d=>
   obtain⟨s',h1,rfl⟩:=Option.map_eq_some_iff.1 h;exact hR id ops d s s' hG h1
  case seq x y=>
   simp only[iB,Bool.and_eq_true] at hG;refine T.seq ?_
   cases hx:oP VK f x s with
   | none=>rw[hx] at h;cases h
   | some q=>
    rw[hx] at h;obtain⟨e,s1⟩:=q;refine T.mono (ih x s _ hG.1 hx) ?_;rintro e' s' ⟨e1,e2⟩;simp only at e1 e2;subst e1;subst e2;cases e'<;>simp only at h<;>first
     | exact ih y s' r hG.2 h
     | (cases h;exact⟨rfl,rfl⟩)
  case cond c x y=>
   split at h
   .rename_i b hb;simp only[iB,Bool.and_eq_true] at hG;exact T.cond hb (ih _ s r (by cases b<;>simp[hG.1,hG.2]) h)
   .cases h
  case block id c=>
   obtain⟨q,h1,rfl⟩:=Option.map_eq_some_iff.1 h;refine T.block (T.mono (ih c s q (by simpa only[iB] using hG) h1) ?_);rintro e' s' ⟨e1,e2⟩;obtain⟨e,s1⟩:=q;simp only at e1 e2;subst e1;subst e2;cases e'<;>simp only[rJ,outB]<;>first
    | exact⟨rfl,rfl⟩
    | (split<;>exact⟨rfl,rfl⟩)
  case scope c=>
   simp only[iB] at hG
   cases hx:oP VK f c s with
   | none=>rw[hx] at h;cases h
   | some q=>
    rw[hx] at h;obtain⟨e,s1⟩:=q;have k:=ih c s _ hG hx;cases e<;>simp only at h
    case goto l=>
     cases hl:findLabel c l with
     | none=>rw[hl] at h;cases h
     | some rest=>
      rw[hl] at h;refine T.MV l (λ n s=>C1 l (oP VK f rest) n s=some r) hl (T.mono k ?_) λ n s hn=>?_
      .rintro e' s' ⟨e1,e2⟩;simp only at e1 e2;subst e1;subst e2;exact⟨rfl,f,aa.here h⟩
      .cases n with
       | zero=>simp[C1] at hn
       | succ n=>
        simp only[C1] at hn
        cases hy:oP VK f rest s with
        | none=>rw[hy] at hn;cases hn
        | some q=>
         rw[hy] at hn;obtain⟨e,s2⟩:=q;refine T.mono (ih rest s _ (q9 c rest hG hl) hy) ?_;rintro e' s' ⟨e1,e2⟩;simp only at e1 e2;subst e1;subst e2;cases e'<;>simp only at hn
         case goto m=>
          split at hn
          .rename_i e;exact⟨e,n,Nat.lt_succ_self n,aa.here hn⟩
          .cases hn
         all_goals
          cases hn;exact⟨rfl,rfl⟩
    all_goals
     cases h;refine T.Ju (T.mono k ?_);rintro e' s' ⟨e1,e2⟩;simp only at e1 e2;subst e1;subst e2;exact⟨λ l e=>(by cases e),rfl,rfl⟩
  case loop c=>
   refine T.loop (λ n s=>iter (oP VK f c) n s=some r) h λ n s hn=>?_
   cases n with
   | zero=>simp[iter] at hn
   | succ n=>
    simp only[iter] at hn
    cases hx:oP VK f c s with
    | none=>rw[hx] at hn;cases hn
    | some q=>
     rw[hx] at hn;obtain⟨e,s1⟩:=q;refine T.mono (ih c s _ (by simpa only[iB] using hG) hx) ?_;rintro e' s' ⟨e1,e2⟩;simp only at e1 e2;subst e1;subst e2;cases e'<;>simp only at hn<;>first
      | exact⟨n,Nat.lt_succ_self n,hn⟩
      | (cases hn;exact⟨rfl,rfl⟩)
end
section
variable {P:Program}{C:Cx}{U:Nat->Option OB}{s:St}{a:Act}{w:World}{ops:Array Oper}{av:List (Nat×TI)}
def rO (P:Program)(C:Cx)(o:Oper)(s s':St):Prop:=∀ a w,Rel C s a w ->
 ∃ w',((∃ z,(execOp a.eval o).run P w=.ok (.value z) w'/\Rel C s' (a.put o.dst z) w')\/((execOp a.eval o).run P w=.ok .skip w'/\Rel C s' (a.put o.dst undef) w'))
theorem rO.le {o:Oper}{s1 s':St}(hl:Le C s s1)(h:rO P C o s1 s'):rO P C o s s':=λ a w hr=>h a w (hl a w hr)
theorem rO.Nu (ht:aF P av){o:Oper}{s':St}(hd:bj C.nt o.dst=true)(h:oV av s o=some s'):rO P C o s s':=λ _ _ hr=>ze ht hr hd h
theorem gW {o:Oper}{l:List Oper}{K:St->Prop}{s':St}(hg:ca ops s o=some true)(hx:rO P C o s s')(h:TL P C ops l s' K):TL P C ops (o::l) s K:=by
 intro a w Q hr hQ;have hw:Region.wanted o (yielded ops a.tmps)=true:=by
  unfold ca at hg;split at hg
  .rename_i e;simp[Region.wanted,e]
  .rename_i j want e;split at hg
   .cases hg
   rename_i t hj;exact kN hr e hj hg
 unfold wpList;rw[if_pos hw];refine .inl ?_;obtain⟨w',h1 | h1⟩:=hx a w hr
 .obtain⟨z,k1,k2⟩:=h1;unfold Oper.wp;rw[k1];exact h _ _ Q k2 hQ
 .obtain⟨k1,k2⟩:=h1;unfold Oper.wp;rw[k1];exact h _ _ Q k2 hQ
def bytesOf:List CV->Option (List UInt8)
 | []=>some []
 | .int .u8 n::r=>if 0<=n/\n<256 then (bytesOf r).map (UInt8.ofNat n.toNat :: ·) else none
 | _=>none
theorem ym {F:Nat->Prop}:∀ (cs:List CV) (l:List UInt8) (us:List Value),bytesOf cs=some l->aZ w F U cs us->us=l.map λ b=>Value.int .u8 (b.toNat:Int)
 | [],l,us,h,hr=>by
  simp only[bytesOf] at h;cases h
  simpa [aZ] using hr
 | c::cs,l,us,h,hr=>by
  simp only[aZ] at hr;obtain⟨v,r,rfl,h1,h2⟩:=hr;unfold bytesOf at h;split at h
  .rename_i e;cases e
  .rename_i n r' e;cases e;split at h
   .rename_i hn;obtain⟨l',h3,rfl⟩:=Option.map_eq_some_iff.1 h;simp only[VR] at h1;subst h1;rw[ym cs l' r h3 h2];simp only[map_cons,cons.injEq,Value.int.injEq,true_and,and_true];have:(UInt8.ofNat n.toNat).toNat=n.toNat:=by
     have e:(UInt8.ofNat n.toNat).toNat=n.toNat % 256:=UInt8.toNat_ofNat';rw[e];omega
    rw[this];omega
   .cases h
  .cases h
def s7 (av:List (Nat×TI))(s:St)(a b:TypeId)(x:Operand):Option CV:=
 match ev s x,dO av a,dO av b with
 | some (.int _ n),some _,some (.int k)=>some (.int k (k.wrap n))
 | some (.str v),some _,some .str=>some (.str v)
 | some c,some (.sl e),some .str=>match dO av e,cells? s c with
  | some (.int .u8),some (cs,m)=>if cs.length=m then (bytesOf cs).map λ l=>.str ⟨l.toArray⟩ else none
  | _,_=>none
 | _,_,_=>none
theorem fv (ht:aF P av){t:TypeId}{d:TD}(h:dO av t=some d):∃ i,assoc av t=some i/\i.d=d/\∃ u,P.underlying t=some u/\vH u=d:=by
 obtain⟨i,h1,h2⟩:=Option.map_eq_some_iff.1 h;obtain⟨u,h3,h4⟩:=(ht t i h1).BF;exact⟨i,h1,h2,u,h3,h4.trans h2⟩
theorem vW {t:TypeId}{k:IntKind}(ht:aF P av)(h:dO av t=some (.int k)):P.underlying t=some (.int k):=by
 obtain⟨_,_,_,u,h1,h2⟩:=fv ht h;cases u<;>simp only[vH] at h2<;>first | cases h2 | skip
 exact h1
theorem DE (ht:aF P av)(h:aQ C U s a w){t u:TypeId}{x:Operand}{c:CV}(hc:s7 av s t u x=some c):∃ z,(convert t u (a.eval x)).run P w=.ok z w/\VR w (FB C U s.heap) U c z:=by
 unfold s7 at hc;split at hc
 .rename_i k0 n d k hx h1 h2;cases hc;have hv:=bH h hx;simp only[VR] at hv;obtain⟨_,_,_,ud,g1,_⟩:=fv ht h1;have g2:=vW ht h2;refine⟨.int k (k.wrap n),?_,dY _ _⟩;rw[hv];simp[convert,run_underlying g1,run_underlying g2,Conv.intToInt]
 .rename_i v d hx h1 h2;cases hc;have hv:=bH h hx;simp only[VR] at hv;obtain⟨_,_,_,ud,g1,_⟩:=fv ht h1;obtain⟨i,i1,i2,_⟩:=fv ht h2;have g2:=nD (ht u i i1) i2;refine⟨.string v,?_,BA _⟩;rw[hv];simp[convert,run_underlying g1,run_underlying g2]
 .rename_i c' e _ hx h1 h2;split at hc
  .rename_i cs m he S8;split at hc
   .rename_i hlen;obtain⟨l,hl,rfl⟩:=Option.map_eq_some_iff.1 hc;obtain⟨i1,a1,a2,_⟩:=fv ht h1;obtain⟨i2,b1,b2,_⟩:=fv ht h2;have g1:=dK (ht t i1 a1) a2;have g2:=nD (ht u i2 b1) b2;have g3:=vW ht he;obtain⟨us,k1,_,k3⟩:=cells?_ok h (bH h hx) S8;have Yf:=ym _ _ _ hl k1;have TY:l.length=m:=by
     have:=aZ.length _ _ k1;rw[Yf,length_map] at this;omega
    refine⟨.string ⟨l.toArray⟩,?_,BA _⟩;rcases k3 with ⟨cp,e1,e2,e3⟩ | ⟨ad,cp,e1,e2⟩
    .have:l=[]:=eq_nil_of_length_eq_zero yA;subst this;rw[e1,run_convert_bytes_string w t u e none 0 cp g1 g3 g2];rfl
    .rw[e1];subst TY;refine run_convert_bytes_back w t u e ad cp l g1 g3 g2 λ j hj=>?_;refine e2 j _ ?_;rw[Yf];simp[hj]
   .cases hc
  .cases hc
 .cases hc
def rF (b:ByteArray):List CV:=b.data.toList.map λ x=>.int .u8 (x.toNat:Int)
theorem IC {F:Nat->Prop}(b:ByteArray):bX w F (rF b) (b.data.toList.map λ x=>Value.int .u8 (x.toNat:Int))/\(rF b).all one=true:=by
 unfold rF;generalize b.data.toList=l
 induction l with
 | nil=>simp[bX]
 | cons x r ih=>
  simp only[map_cons,bX,all_cons,ih.2,Bool.and_true];exact⟨⟨_,_,rfl,by simp[cj],ih.1⟩,rfl⟩
theorem ef {o:Oper}(hd:bj C.nt o.dst=true)(h:aQ C U s a w){c:CV}{v:Value}(hv:VR w (FB C U s.heap) U c v):Rel C (s.put o.dst c) (a.put o.dst v) w:=
 ⟨U,h.put (λ t e=>by rw[h.tm];rw[e] at hd;simpa [bj] using hd) hv⟩
theorem Ap (ht:aF P av){o:Oper}{t u e:TypeId}{x:Operand}{b:ByteArray}(hd:bj C.nt o.dst=true)(ho:o.op=.convert t u x)(hx:ev s x=some (.str b))(h1:dO av t=some .str)(h2:dO av u=some (.sl e))(h3:dO av e=some (.int .u8))(hm:b.size<=1000000) :
  rO P C o s (s.put o.dst (.az (rF b) b.size)):=by
 rintro a w ⟨U,h⟩;obtain⟨i1,a1,a2,_⟩:=fv ht h1;obtain⟨i2,b1,b2,_⟩:=fv ht h2;have g1:=nD (ht t i1 a1) a2;have g2:=dK (ht u i2 b1) b2;have g3:=vW ht h3;have hv:=bH h hx;simp only[VR] at hv;have T9:=run_bytes_of_string (P:=P) w t u e b g1 g2 g3;have hb:Below w.heap.size w (w.drew.alloc (.cells (bytesRow b (grownCap w b.size 0 e)) e ((bytesRow b (grownCap w b.size 0 e)).size,(bytesRow b (grownCap w b.size 0 e)).size+1))):=
  ⟨rfl,rfl,rfl,by simp,λ k hk=>heap_alloc_old w.drew _ k hk⟩
 have Te:(w.drew.alloc (.cells (bytesRow b (grownCap w b.size 0 e)) e ((bytesRow b (grownCap w b.size 0 e)).size,(bytesRow b (grownCap w b.size 0 e)).size+1))).heap[w.heap.size]? = some (.cells (bytesRow b (grownCap w b.size 0 e)) e ((bytesRow b (grownCap w b.size 0 e)).size,(bytesRow b (grownCap w b.size 0 e)).size+1)):=heap_alloc_new w.drew _;revert hb Te;generalize Tj:(w.drew.alloc (.cells (bytesRow b (grownCap w b.size 0 e)) e ((bytesRow b (grownCap w b.size 0 e)).size,(bytesRow b (grownCap w b.size 0 e)).size+1)))=w';rw[Tj] at T9;intro hb Te;refine⟨w',.inl ⟨.slice (some ⟨w.heap.size,0,none⟩) b.size (grownCap w b.size 0 e),by simp[execOp,ho,hv,T9],ef hd (h.below hb) ?_⟩⟩;obtain⟨k1,k2⟩:=IC (w:=w') (F:=FB C U s.heap) b;simp only[VR,cj];have WD:b.size<=grownCap w b.size 0 e:=grownCap_ge w b.size 0 e;refine⟨_,_,rfl,WD,grownCap_le_maxLen w _ _ _ (by simp only[maxLen];omega),.inr ⟨_,rfl,?_⟩⟩;refine gJ _ _ _ k1 k2 (λ hf=>?_) λ j v hj=>?_
 .have:=DX h _ hf;simp at this
 .rw[add_lit,Nat.zero_add,cell_of_row w' _ _ _ _ _ Te];rw[getElem?_map] at hj;obtain⟨y,hy,rfl⟩:=Option.map_eq_some_iff.1 hj;have P1:j<b.data.size:=by simpa using (List.getElem?_eq_some_iff.1 hy).1
  rw[bytesRow_at b _ j P1];have:y=b.data[j]:=by
   have:=(List.getElem?_eq_some_iff.1 hy).2
   simpa using this.symm
  rw[this]
def Lh (s:St)(o:Nat)(ob:Ob)(d:Option Tmp)(off n:Nat):St:=(s.di o ob).put d (.az ((ob.cells.drop off).take (n*ob.sz)) n)
theorem GA (ht:aF P av){o:Oper}{t e:TypeId}{x:Operand}{p off n:Nat}{ob:Ob}(hd:bj C.nt o.dst=true)(ho:o.op=.convert t t x)(hx:ev s x=some (.a7 p off n))(hn:0<n)(h2:dO av t=some (.sl e))(h3:dO av e=some (.int .u8))
  (Uv:assoc s.heap p=some ob) (SJ:trees ob.cells=true):rO P C o s (Lh s p ob o.dst off n):=by
 rintro a w ⟨U,h⟩;obtain⟨i2,b1,b2,_⟩:=fv ht h2;have g2:=dK (ht t i2 b1) b2;have g3:=vW ht h3;have hv:=bH h hx;have XJ:=hv;simp only[VR] at hv;obtain⟨B,hB,hv⟩:=hv;obtain⟨B',e1,e2,e3,e4,e5⟩:=h.obj p ob Uv;rw[hB] at e1;cases e1
 cases TW:B.kW with
 | none=>rw[TW] at hv;simp only at hv;omega
 | some b=>
  rw[TW] at hv;simp only at hv;obtain⟨cap,hv,c1,c2,c3,c4⟩:=hv;obtain⟨cur,n1,n2,n3,n4,n5,n6⟩:=e5 b TW;have P1:=(Array.getElem?_eq_some_iff.1 n1).1;have hsh:w.shape? b=some (ob.elem,cur.size):=by unfold World.shape?;rw[n1]
  let w':World:=w.freeze ⟨b,cur.size,none⟩ 1
  have Tj:w'.heap=w.heap.modify b (λ | .cells c elem (lo,hi)=>.cells c elem (if lo == hi then (cur.size,cur.size+1) else (min lo cur.size,max hi (cur.size+1))) | o=>o):=rfl;have S7:∀ k,k≠b->w'.heap[k]? = w.heap[k]?:=λ k hk=>by
   rw[Tj,Array.getElem?_modify,if_neg (Ne.symm hk)]
  have Uu:w'.heap[b]? = some (.cells cur ob.elem (cur.size,cur.size+1)):=by
   rw[Tj,Array.getElem?_modify,if_pos rfl,n1];rfl
  have UR:∀ ad,w'.cell? ad=w.cell? ad:=λ ad=>by
   by_cases hk:ad.block=b
   .unfold World.cell?;rw[hk,Uu,n1]
   .exact World.cell?_of_block (S7 _ hk)
  have hk:∀ F:Nat->Prop,cL w w' F F:=λ F=>⟨λ ad u hf hu=>⟨by rw[UR];exact hu,hf⟩,λ r x hf hu hx=>by
   have SL:r≠b:=λ e=>by subst e;rw[n1] at hu;cases hu;exact hx _ _ _ rfl
   exact⟨by rw[S7 r SL];exact hu,hf⟩⟩
  have h':=h.di Uv SJ;have Zs:∀ q y,assoc (s.di p ob).heap q=some y->a6 U q≠some b:=λ q y hq hb=>by
   obtain⟨SL,z,hz,_⟩:=gB _ _ _ hq;exact SL (h.inj q p z ob b hz Uv hb (by simp[a6,hB,TW]))
  have Wc:aQ C U (s.di p ob) a w':=by
   refine⟨h'.pB,h'.tm,h'.os,h'.tape,h'.output,?_,?_,?_,?_,h'.inj,h'.nx,h'.gH,h'.low,h'.new⟩
   .rw[Tj,Array.size_modify];exact h'.size
   .intro k WQ X0;rw[S7 k (λ e=>?_)]
    .exact h'.frame k WQ X0
    .subst e;rcases n4 with n4 | n4
     .exact X0 n4
     .omega
   .intro t c hc;obtain⟨v,k1,k2⟩:=h'.env t c hc;exact⟨v,k1,VR.bD (hk _) c v (λ _ _=>rfl) k2⟩
   .intro q y hq;obtain⟨B2,m1,m2,m3,m4,m5⟩:=h'.obj q y hq;refine⟨B2,m1,m2,m3,m4,λ b2 T0=>?_⟩;obtain⟨Xb,q1,q2,q3,q4,q5,q6⟩:=m5 b2 T0;have SL:b2≠b:=λ e=>Zs q y hq (by simp[a6,m1,T0,e]);exact⟨Xb,by rw[S7 b2 SL];exact q1,q2,q3,q4,q5,aZ.bD (hk _) _ _ (λ _ _=>rfl) q6⟩
  have Us:VR w' (FB C U (s.di p ob).heap) U (.az ((ob.cells.drop off).take (n*ob.sz)) n) (a.eval x):=by
   cases x with
   | tmp t=>
    have hfz:assoc (s.di p ob).env t=some (.az ((ob.cells.drop off).take (n*ob.sz)) n):=by
     have Ur:assoc s.env t=some (.a7 p off n):=hx;have:∀ l:List (Nat×CV),assoc l t=some (.a7 p off n)->assoc (yX p ob.cells ob.sz l) t=some (.az ((ob.cells.drop off).take (n*ob.sz)) n):=by
      intro l
      induction l with
      | nil=>intro h;cases h
      | cons y r ih=>
       obtain⟨k,c⟩:=y;intro hl;simp only[yX,assoc] at hl |-;split at hl
       .rename_i e;cases hl;rw[if_pos e];simp[cC]
       .rename_i e;rw[if_neg e];exact ih hl
     exact this s.env Ur
    obtain⟨v,k1,k2⟩:=Wc.env t _ hfz;have:a.eval (.tmp t)=v:=by simp[Act.eval,k1]
    rw[this];exact k2
   | const v=>exact absurd hx (by
     simp only[ev];intro hc;have:=od (w:=w) (F:=λ _=>False) hc;simp[cj] at this)
   | func f=>cases hx
   | global g=>
    simp only[ev,Option.bind_eq_some_iff,Option.map_eq_some_iff] at hx;obtain⟨_,_,_,_,h⟩:=hx;cases h
  have T9:(execOp a.eval o).run P w=.ok (.value (a.eval x)) w':=by
   rw[hv];simp[execOp,ho,hv,convert,run_underlying g2,run_underlying g3,markStringish,hsh,w']
  exact⟨w',.inl ⟨_,T9,ef hd Wc Us⟩⟩
theorem gU (ht:aF P av){o:Oper}{t:TypeId}{x:Operand}{c:CV}{d:TD}(hd:bj C.nt o.dst=true)(ho:o.op=.makeInterface t x)(hx:ev s x=some c)(h1:dO av t=some d)(hn:d=.Qo->False):rO P C o s (s.put o.dst (.iface t [c])):=by
 rintro a w ⟨U,h⟩;obtain⟨i1,a1,a2,u,g1,g2⟩:=fv ht h1;have hv:=bH h hx;refine⟨w,.inl ⟨.iface t (a.eval x),?_,ef hd h ?_⟩⟩
 .have hu:(underlying t).run P w=.ok u w:=bB g1 w;have:(Instr.makeInterface t (a.eval x)).run P w=.ok (.iface t (a.eval x)) w:=by
   unfold Instr.makeInterface;simp only[Sem.run_bind,hu,Result.andThen_ok];cases u<;>first | rfl | (exact absurd g2.symm hn)
  simp[execOp,ho,this]
 .simp only[VR,aZ];exact⟨[a.eval x],rfl,a.eval x,[],rfl,hv,rfl⟩
theorem Ra (ht:aF P av){o:Oper}{cl:Call}{t e:TypeId}{x:Operand}(hd:bj C.nt o.dst=true)(ho:o.op=.call cl)(SA:cl.callee=.builtin .cap)(Sx:cl.args=#[x])(TS:cl.argTypes=#[t])(hx:ev s x=some .aj)(h1:dO av t=some (.sl e)):rO P C o s (s.put o.dst (.int .i64 0)):=by
 rintro a w ⟨U,h⟩;obtain⟨i1,a1,a2,_⟩:=fv ht h1;have g1:=dK (ht t i1 a1) a2;have hv:=bH h hx;simp only[VR] at hv;refine⟨w,.inl ⟨.int .i64 0,?_,ef hd h (dY _ _)⟩⟩;simp[execOp,ho,resolve,SA,Sx,TS,invoke,builtin,Builtin.cap_,run_underlying g1,hv,goInt]
theorem aQ.F2 (h:aQ C U s a w)(x:Obj):aQ C (sig U s.nx ⟨some w.heap.size,0,0⟩) ⟨s.env,s.heap,s.nx+1⟩ a (w.alloc x)/\¬ FB C (sig U s.nx ⟨some w.heap.size,0,0⟩) s.heap w.heap.size:=by
 have hn:U s.nx=none:=h.nx s.nx (Nat.le_refl _);have hg:w.grownBy (w.alloc x) none:=py _;have hold:∀ {p x},assoc s.heap p=some x->p≠s.nx:=λ {p x} hp e=>by
  subst e;obtain⟨B',e1,_⟩:=h.obj _ _ hp;rw[hn] at e1;cases e1
 have Xz:∀ {p},p≠s.nx->sig U s.nx ⟨some w.heap.size,0,0⟩ p=U p:=λ {p} hp=>by simp[sig,hp]
 have hF:∀ b',FB C (sig U s.nx ⟨some w.heap.size,0,0⟩) s.heap b'->FB C U s.heap b':=by
  rintro b' (hb | ⟨p,y,hp,hb⟩)
  .exact .inl hb
  .simp only[a6,Xz (hold hp)] at hb;exact .inr ⟨p,y,hp,hb⟩
 have hk:cL w (w.alloc x) (FB C U s.heap) (FB C (sig U s.nx ⟨some w.heap.size,0,0⟩) s.heap):=lW hg (λ b e=>by cases e) λ b' SS=>.inl (hF b' SS);refine⟨⟨h.pB,h.tm,h.os,h.tape,h.output,Nat.le_trans h.size hg.size,?_,?_,?_,?_,?_,?_,Nat.le_trans h.low (Nat.le_succ _),?_⟩,λ hf=>?_⟩
 .intro k WQ X0;rw[hg.block k (Nat.lt_of_lt_of_le WQ h.size) xr];exact h.frame k WQ X0
 .intro t c hc;obtain⟨v,k1,k2⟩:=h.env t c hc;exact⟨v,k1,VR.bD hk c v (vY hn k2) k2⟩
 .intro q y hq;obtain⟨B2,m1,m2,m3,m4,m5⟩:=h.obj q y hq;refine⟨B2,by rw[Xz (hold hq)];exact m1,m2,m3,m4,λ b2 T0=>?_⟩;obtain⟨Xb,q1,q2,q3,q4,q5,q6⟩:=m5 b2 T0;exact⟨Xb,by rw[hg.block b2 (Array.getElem?_eq_some_iff.1 q1).1 xr];exact q1,q2,q3,q4,q5,aZ.bD hk _ _ (oY hn q6) q6⟩
 .intro p q y z b' hp hq WU Xs;simp only[a6,Xz (hold hp)] at WU;simp only[a6,Xz (hold hq)] at Xs;exact h.inj p q y z b' hp hq WU Xs
 .intro p hp;have:p≠s.nx:=λ e=>by subst e;exact absurd hp xr
  rw[Xz this];exact h.nx p (Nat.le_of_succ_le hp)
 .intro p hp;have:=h.low;rw[Xz (show p≠s.nx by omega)];exact h.gH p hp
 .intro p B b' hp hB hb;by_cases e:p=s.nx
  .subst e;rw[dP] at hB;cases hB;simp only[Option.some.injEq] at hb;subst hb;exact .inr h.size
  .rw[Xz e] at hB;exact h.new p B b' hp hB hb
 .have:=DX h _ (hF _ hf);omega
theorem QB {o:Oper}{t:TypeId}(hd:bj C.nt o.dst=true)(ho:o.op=.makeMap t none):rO P C o s (St.put ⟨s.env,s.heap,s.nx+1⟩ o.dst (.mp s.nx [])):=by
 rintro a w ⟨U,h⟩;obtain⟨h',hf⟩:=h.F2 (.map #[] 0);refine⟨w.alloc (.map #[] 0),.inl ⟨.map (some w.heap.size),?_,ef hd h' ?_⟩⟩
 .simp[execOp,ho,Instr.makeMap]
 .simp only[VR];exact⟨_,w.heap.size,#[],0,dP,rfl,rfl,heap_alloc_new w _,rfl,nodup_nil,hf⟩
theorem J1 (ht:aF P av){o:Oper}{t:TypeId}{x:Operand}{b:ByteArray}(hd:bj C.nt o.dst=true)(ho:o.op=.range t x)(hx:ev s x=some (.str b))(h1:dO av t=some .str):rO P C o s (St.put ⟨s.env,s.heap,s.nx+1⟩ o.dst (.iter s.nx b 0)):=by
 rintro a w ⟨U,h⟩;obtain⟨i1,a1,a2,_⟩:=fv ht h1;have g1:=nD (ht t i1 a1) a2;have hv:=bH h hx;simp only[VR] at hv;obtain⟨h',hf⟩:=h.F2 (.stringIter b 0);refine⟨w.alloc (.stringIter b 0),.inl ⟨.pointer (some ⟨w.heap.size,0,none⟩),?_,ef hd h' ?_⟩⟩
 .simp[execOp,ho,Instr.range,run_underlying g1,hv]
 .simp only[VR];exact⟨_,w.heap.size,dP,rfl,rfl,heap_alloc_new w _,hf⟩
def xP (k:Nat):CV->Bool
 | .iter k' _ _=>k' == k
 | _=>false
def zE (k:Nat)(b:ByteArray)(p:Nat):List (Nat×CV)->List (Nat×CV)
 | []=>[]
 | (t,c)::r=>(t,if xP k c then .iter k b p else c)::zE k b p r
theorem vB {k:Nat}{b:ByteArray}{p:Nat}:∀ (l:List (Nat×CV)) (t:Nat) (c:CV),assoc (zE k b p l) t=some c->∃ d,assoc l t=some d/\c=if xP k d then .iter k b p else d
 | [],t,c,h=>by simp[zE,assoc] at h
 | (u,d)::r,t,c,h=>by
  simp only[zE,assoc] at h |-;split at h
  .rename_i e;cases h;rw[if_pos e];exact⟨d,rfl,rfl⟩
  .rename_i e;rw[if_neg e];exact vB r t c h
def O6:CV->Bool
 | .mp _ _=>true
 | _=>false
def Kr (s:St)(k:Nat):Bool:=(s.env.all λ x=>mw x.2 || xP k x.2 || O6 x.2) && s.heap.all λ x=>ky x.2.cells
def LJ (s:St)(d:Option Tmp)(k:Nat)(b:ByteArray)(p:Nat):Option St:=
 if p<b.size then if Kr s k then some (St.put { s with env:=zE k b (p+(Utf8.decode b p).2) s.env } d (.cF [.bool true,.int .i64 p,.int .i32 (Utf8.decode b p).1])) else none
 else some (s.put d (.cF [.bool false]))
theorem cQ {o:Oper}{x:Operand}{k p:Nat}{b:ByteArray}{s':St}(hd:bj C.nt o.dst=true)(ho:o.op=.next x true)(hx:ev s x=some (.iter k b p))(hk0:C.n0<=k)(hs:LJ s o.dst k b p=some s'):rO P C o s s':=by
 rintro a w ⟨U,h⟩;have hv:=bH h hx;simp only[VR] at hv;obtain⟨B,r,hB,hb,hv,hr,hf⟩:=hv;have Ux:w.heap[r]? = some (.stringIter b p):=hr;have hrl:=(Array.getElem?_eq_some_iff.1 hr).1;unfold LJ at hs;split at hs
 .rename_i P1;split at hs
  .rename_i SU;cases hs;simp only[Kr,Bool.and_eq_true,all_eq_true,Bool.or_eq_true] at SU;let w':World:={ w with heap:=w.heap.setIfInBounds r (.stringIter b (p+(Utf8.decode b p).2)) }
   have S7:∀ j,j≠r->w'.heap[j]? = w.heap[j]?:=λ j hj=>by
    simp[w',Ne.symm hj]
   have Uu:w'.heap[r]? = some (.stringIter b (p+(Utf8.decode b p).2)):=by
    simp[w',hrl]
   have SB:w'.heap.size=w.heap.size:=by simp[w']
   have hkc:∀ F:Nat->Prop,oD w w' F F:=λ F ad u hf hu=>by
    have SL:ad.block≠r:=λ e=>by
     unfold World.cell? at hu;rw[e,hr] at hu;cases hu
    exact⟨by rw[World.cell?_of_block (S7 _ SL)];exact hu,hf⟩
   have h':aQ C U { s with env:=zE k b (p+(Utf8.decode b p).2) s.env } a w':=by
    refine⟨h.pB,h.tm,h.os,h.tape,h.output,by rw[SB];exact h.size,?_,?_,?_,h.inj,h.nx,h.gH,h.low,h.new⟩
    .intro j hj1 hj2;rw[S7 j (λ e=>?_)]
     .exact h.frame j hj1 hj2
     .subst e;rcases h.new k B j hk0 hB hb with n4 | n4
      .exact hj2 n4
      .omega
    .intro t c hc;obtain⟨d,Td,rfl⟩:=vB _ _ _ hc;obtain⟨v,k1,k2⟩:=h.env t d Td;refine⟨v,k1,?_⟩;by_cases hi:xP k d=true
     .rw[if_pos hi];cases d<;>simp only[xP,Bool.false_eq_true] at hi;rename_i k' b' p';have:k'=k:=by simpa using hi
      subst this;simp only[VR] at k2 |-;obtain⟨B2,r2,q1,q2,q3,q4,q5⟩:=k2;rw[hB] at q1;cases q1;rw[hb] at q2;cases q2;exact⟨B,r,hB,hb,q3,Uu,q5⟩
     .rw[if_neg hi];rcases SU.1 _ (bA _ _ _ Td) with (q | q) | q
      .exact VR.pw (hkc _) _ _ q k2
      .exact absurd q hi
      .cases d<;>simp only[O6,Bool.false_eq_true] at q;simp only[VR] at k2 |-;obtain⟨B2,r2,arr,clock,q1,q2,q3,q4,q5,q6,q7⟩:=k2;have SL:r2≠r:=λ e=>by rw[e,hr] at q4;cases q4
       exact⟨B2,r2,arr,clock,q1,q2,q3,by rw[S7 r2 SL];exact q4,q5,q6,q7⟩
    .intro q y hq;obtain⟨B2,m1,m2,m3,m4,m5⟩:=h.obj q y hq;refine⟨B2,m1,m2,m3,m4,λ b2 T0=>?_⟩;obtain⟨Xb,q1,q2,q3,q4,q5,q6⟩:=m5 b2 T0;have SL:b2≠r:=λ e=>by subst e;rw[hr] at q1;cases q1
     exact⟨Xb,by rw[S7 b2 SL];exact q1,q2,q3,q4,q5,aZ.pw (hkc _) _ _ (SU.2 _ (bA _ _ _ hq)) q6⟩
   refine⟨w',.inl ⟨.tuple #[.bool true,goInt p,.int .i32 (Utf8.decode b p).1],?_,ef hd h' ?_⟩⟩
   .simp[execOp,ho,hv,Instr.next,getObj,setObj,Sem.run,Ux,P1,w']
   .simp only[VR,aZ];exact⟨[_,_,_],rfl,_,_,rfl,rfl,_,_,rfl,rfl,_,_,rfl,rfl,rfl⟩
  .cases hs
 .rename_i WD;cases hs;refine⟨w,.inl ⟨.tuple #[.bool false],?_,ef hd h ?_⟩⟩
  .simp[execOp,ho,hv,Instr.next,getObj,Sem.run,Ux,WD]
  .simp only[VR,aZ];exact⟨[_],rfl,_,_,rfl,rfl,rfl⟩
end
section
variable {P:Program}{C:Cx}{s:St}{ops:Array Oper}{av:List (Nat×TI)}
def He (av:List (Nat×TI))(s:St)(d:Option Tmp)(x y:Operand)(t it:TypeId):Option St:=
 match dO av t,dO av it,ev s x,ev s y with
 | some (.sl e),some (.int .i64),some (.a7 p 0 n),some (.int .i64 mi)=>match assoc av e,assoc s.heap p with
  | some ie,some ob=>if 0<ie.size/\0<ie.bytes/\ob.elem=e/\ob.sz=ie.size/\n*ie.size=ob.cells.length/\(n+mi.toNat)*ie.bytes<=140737488355328/\0<mi then some (AppZ s d p n mi.toNat ob ie.zero) else none
  | _,_=>none
 | _,_,_,_=>none
theorem DN (ht:aF P av){o:Oper}{cl:Call}{t it:TypeId}{x y:Operand}{s':St}(hd:bj C.nt o.dst=true)(ho:o.op=.call cl)(SA:cl.callee=.builtin .append)(Sx:cl.args=#[x,y])(TS:cl.argTypes=#[t,it])(h:He av s o.dst x y t it=some s'):rO P C o s s':=by
 unfold He at h;split at h
 .rename_i e p n mi h1 h2 h3 h4;split at h
  .rename_i ie ob h5 h6;split at h
   .rename_i hc;cases h;obtain⟨c1,c2,c3,c4,c5,c6,c7⟩:=hc;obtain⟨ii,Tf,TQ⟩:=Option.map_eq_some_iff.1 h2;have hm:((mi.toNat:Nat):Int)=mi:=by omega
    intro a w hr;obtain⟨z,w',s',k1,k2,k3⟩:=Oy (P:=P) (C:=C) (s:=s) ht (m:=mi.toNat) hd ho SA Sx TS h1 h5 Tf TQ h3 (by rw[hm];exact h4) h6 c1 c2 c3 c4 c5 c6 yA rfl a w hr;cases k2;exact⟨w',.inl ⟨z,k1,k3⟩⟩
   .cases h
  .cases h
 .cases h
def Re (av:List (Nat×TI))(s:St)(o:Oper)(x y:Operand)(t it:TypeId):Option St:=
 match He av s o.dst x y t it with
 | some s'=>some s'
 | none=>match x,ev s x with
  | .tmp tx,some .aj=>match dO av t with
   | some (.sl e)=>match assoc av e with
    | some ie=>match assoc s.env tx with
     | some .aj=>He av (s.own tx e ie.size) o.dst x y t it
     | _=>none
    | none=>none
   | _=>none
  | _,some (.a7 p _ n)=>match assoc s.heap p with
   | some ob=>oV av (s.cut p ob (n*ob.sz)) o
   | none=>none
  | _,_=>none
theorem Ox (ht:aF P av){o:Oper}{cl:Call}{t it:TypeId}{x y:Operand}{s':St}(hd:bj C.nt o.dst=true)(ho:o.op=.call cl)(SA:cl.callee=.builtin .append)(Sx:cl.args=#[x,y])(TS:cl.argTypes=#[t,it])(h:Re av s o x y t it=some s'):rO P C o s s':=by
 unfold Re at h;split at h
 .rename_i s1 h1;cases h;exact DN ht hd ho SA Sx TS h1
 .split at h
  .rename_i tx _ hx;split at h
   .rename_i e h1;split at h
    .rename_i ie h2;split at h
     .rename_i h3;exact rO.le (Le.own tx e ie.size h3) (DN ht hd ho SA Sx TS h)
     .cases h
    .cases h
   .cases h
  .rename_i p _ n _ hx;split at h
   .rename_i ob h1;exact rO.le (Le.cut _ h1) (rO.Nu ht hd h)
   .cases h
  .cases h
def FN (n0:Nat)(av:List (Nat×TI))(s:St)(o:Oper):Option St:=
 match o.op with
 | .convert t u x=>match s7 av s t u x with
  | some c=>some (s.put o.dst c)
  | none=>match ev s x,dO av t,dO av u with
   | some (.str b),some .str,some (.sl e)=>match dO av e with
    | some (.int .u8)=>if b.size<=1000000 then some (s.put o.dst (.az (rF b) b.size)) else none
    | _=>none
   | some (.a7 p off n),some (.sl e),_=>if t=u/\0<n then match dO av e,assoc s.heap p with
     | some (.int .u8),some ob=>if trees ob.cells=true then some (Lh s p ob o.dst off n) else none
     | _,_=>none
    else none
   | _,_,_=>none
 | .makeInterface t x=>match ev s x,dO av t with
  | some _,some .Qo=>none
  | some c,some _=>some (s.put o.dst (.iface t [c]))
  | _,_=>none
 | .makeMap _ none=>some (St.put ⟨s.env,s.heap,s.nx+1⟩ o.dst (.mp s.nx []))
 | .range t x=>match ev s x,dO av t with
  | some (.str b),some .str=>some (St.put ⟨s.env,s.heap,s.nx+1⟩ o.dst (.iter s.nx b 0))
  | _,_=>none
 | .next x true=>match ev s x with
  | some (.iter k b p)=>if n0<=k then LJ s o.dst k b p else none
  | _=>none
 | .call cl=>match cl.callee with
  | .builtin .append=>match cl.args.toList,cl.argTypes.toList with
   | [x,y],[t,it]=>Re av s o x y t it
   | _,_=>none
  | .builtin .cap=>match cl.args.toList,cl.argTypes.toList with
   | [x],[t]=>match ev s x,dO av t with
    | some .aj,some (.sl _)=>some (s.put o.dst (.int .i64 0))
    | _,_=>none
   | _,_=>none
  | _=>none
 | _=>none
theorem BM (ht:aF P av){o:Oper}{s':St}(hd:bj C.nt o.dst=true)(h:FN C.n0 av s o=some s'):rO P C o s s':=by
 have toA:∀ {α:Type} {x:Array α} {l:List α},x.toList=l->x=l.toArray:=λ {α x l} e=>by rw[<- e]
 unfold FN at h;split at h
 .rename_i t u x ho;split at h
  .rename_i c hc;cases h;rintro a w ⟨U,hr⟩;obtain⟨z,k1,k2⟩:=DE ht hr hc;exact⟨w,.inl ⟨z,by simp[execOp,ho,k1],ef hd hr k2⟩⟩
  .split at h
   .rename_i b e hx h1 h2;split at h
    .rename_i h3;split at h
     .rename_i hm;cases h;exact Ap ht hd ho hx h1 h2 h3 hm
     .cases h
    .cases h
   .rename_i p off n e _ hx h1;split at h
    .rename_i hc;obtain⟨rfl,hn⟩:=hc;split at h
     .rename_i ob h3 h4;split at h
      .rename_i h5;cases h;exact GA ht hd ho hx hn h1 h3 h4 h5
      .cases h
     .cases h
    .cases h
   .cases h
 .rename_i t x ho;split at h
  .cases h
  .rename_i c d hn hx h1;cases h;exact gU ht hd ho hx h1 (λ e=>hn e)
  .cases h
 .rename_i t ho;cases h;exact QB hd ho
 .rename_i t x ho;split at h
  .rename_i b hx h1;cases h;exact J1 ht hd ho hx h1
  .cases h
 .rename_i x ho;split at h
  .rename_i k b p hx;split at h
   .rename_i hk;exact cQ hd ho hx hk h
   .cases h
  .cases h
 .rename_i cl ho;split at h
  .rename_i SA;split at h
   .rename_i x y t it ha TS;exact Ox ht hd ho SA (toA ha) (toA TS) h
   .cases h
  .rename_i SA;split at h
   .rename_i x t ha TS;split at h
    .rename_i e hx h1;cases h;exact Ra ht hd ho SA (toA ha) (toA TS) hx h1
    .cases h
   .cases h
  .cases h
 .cases h
end
def cz (o:Oper):Option Call:=match o.op with
 | .call c=>match c.callee with
  | .builtin _=>none
  | _=>some c
 | _=>none
theorem iy {o:Oper}{c:Call}(h:cz o=some c):o.op=.call c:=by
 unfold cz at h;split at h
 .rename_i c' SG;split at h
  .cases h
  .cases h;exact SG
 .cases h
abbrev gD:=FuncId->List CV->List (Nat×Ob)->Nat->Option (CV×List (Nat×Ob)×Nat)
section
variable {P:Program}{C:Cx}{s:St}{av:List (Nat×TI)}{ops:Array Oper}{call:gD}
def g7 (P:Program)(av:List (Nat×TI))(call:gD):Prop:=∀ g cs H n x H' n',call g cs H n=some (x,H',n')->Body P av g cs H n λ r s'=>r=x/\s'.heap=H'/\s'.nx=n'
theorem TL.again {id:Nat}{l:List Oper}{s':St}(h:TL P C l.toArray l s λ x=>x=s'):T P C (.region id l.toArray false) s λ e x=>e=.normal/\x=s':=
 T.region λ a w Q hr hQ=>h a w Q hr λ x a' w' hx S0=>hQ x a' w' ⟨rfl,hx⟩ S0
end
def xK (g:CV->Option CV):List CV->Option (List CV)
 | []=>some []
 | c::cs=>match g c with
  | some d=>match xK g cs with
   | some ds=>some (d::ds)
   | none=>none
  | none=>none
def deep (H:List (Nat×Ob)):Nat->CV->Option CV
 | 0,_=>none
 | f+1,c=>if tree c then some c else match c with
  | .a7 o off n=>match assoc H o with
   | some ob=>match (if trees ob.cells then some ob.cells else xK (deep H f) ob.cells) with
    | some cells=>some (.az ((cells.drop off).take (n*ob.sz)) n)
    | none=>none
   | none=>none
  | .ax o off=>match assoc H o with
   | some ob=>match (if trees ob.cells then some ob.cells else xK (deep H f) ob.cells) with
    | some cells=>some (.cM (cells.drop off))
    | none=>none
   | none=>none
  | .agg cs=>match xK (deep H f) cs with
   | some ds=>some (.agg ds)
   | none=>none
  | .iface t cs=>match xK (deep H f) cs with
   | some ds=>some (.iface t ds)
   | none=>none
  | .fn g cs=>match xK (deep H f) cs with
   | some ds=>some (.fn g ds)
   | none=>none
  | .cF cs=>match xK (deep H f) cs with
   | some ds=>some (.cF ds)
   | none=>none
  | _=>none
section
variable {P:Program}{C:Cx}{U:Nat->Option OB}{s:St}{a:Act}{w:World}{ops:Array Oper}{av:List (Nat×TI)}
theorem p8 {F F':Nat->Prop}{g:CV->Option CV}(hg:∀ c d v,g c=some d->VR w F U c v->cj w F' d v/\one d=one c):∀ (cs ds:List CV) (vs:List Value),xK g cs=some ds->aZ w F U cs vs->bX w F' ds vs/\ds.all one=cs.all one
 | [],ds,vs,h,hv=>by
  simp only[xK] at h;cases h;exact⟨by simpa [aZ,bX] using hv,rfl⟩
 | c::cs,ds,vs,h,hv=>by
  simp only[xK] at h;split at h
  .rename_i d h1;split at h
   .rename_i ds' h2;cases h;simp only[aZ,bX] at hv |-;obtain⟨v,r,e,k1,k2⟩:=hv;obtain⟨q1,q2⟩:=hg c d v h1 k1;obtain⟨q3,q4⟩:=p8 hg cs ds' r h2 k2;exact⟨⟨v,r,e,q1,q3⟩,by simp only[all_cons,q2,q4]⟩
   .cases h
  .cases h
theorem GW (h:aQ C U s a w):∀ (f:Nat) (c d:CV) (v:Value),deep s.heap f c=some d->VR w (FB C U s.heap) U c v->cj w C.F d v/\one d=one c
 | 0,_,_,_,h,_=>by simp[deep] at h
 | f+1,c,d,v,hd,hv=>by
  have ih:=GW h f;have hk:oD w w (FB C U s.heap) C.F:=λ ad u hf hu=>⟨hu,λ hF=>hf (.inl hF)⟩;have obj:∀ {o ob B b cells},assoc s.heap o=some ob->U o=some B->B.kW=some b->(if trees ob.cells then some ob.cells else xK (deep s.heap f) ob.cells)=some cells->∀ k,fH w C.F (cells.drop k) ⟨b,k,none⟩:=λ {o ob B b cells} ho hB hb ht k=>by
   obtain⟨B',e1,_,_,e4,e5⟩:=h.obj o ob ho;rw[hB] at e1;cases e1;obtain⟨cur,k1,k2,k3,k4,k5,k6⟩:=e5 b hb;have h1:bX w C.F cells (cur.toList.take ob.cells.length)/\cells.all one=true:=by
    split at ht
    .rename_i SJ;cases ht;exact⟨bX.bD hk _ _ (aZ.eL _ _ SJ k6),e4⟩
    .obtain⟨q1,q2⟩:=p8 ih _ _ _ ht k6;exact⟨q1,q2.trans e4⟩
   have hl:cells.length=ob.cells.length:=by
    rw[<- bX.length _ _ h1.1,aZ.length _ _ k6]
   have h2:fH w C.F cells ⟨b,0,none⟩:=gJ _ _ _ h1.1 h1.2 k3 λ j u hu=>by
    rw[add_lit,Nat.zero_add,cell_of_row w b j cur _ _ k1];rw[getElem?_take] at hu;split at hu
    .simpa using hu
    .cases hu
   have:=h2.drop k;rwa [add_lit,Nat.zero_add] at this
  simp only[deep] at hd;split at hd
  .rename_i ht;cases hd;exact⟨cj.bD hk _ _ (VR.eL _ _ ht hv),rfl⟩
  .split at hd
   .rename_i o off n _;split at hd
    .rename_i ob ho;split at hd
     .rename_i cells hc;cases hd;refine⟨?_,rfl⟩;simp only[VR] at hv;obtain⟨B,hB,hv⟩:=hv;split at hv
      .obtain⟨rfl,rfl,rfl⟩:=hv;simp only[cj];exact⟨none,0,rfl,Nat.le_refl _,Nat.zero_le _,.inl ⟨trivial,by simp⟩⟩
      .rename_i b hb;obtain⟨cap,rfl,h1,h2,_⟩:=hv;simp only[cj];exact⟨_,cap,rfl,h1,h2,.inr ⟨_,rfl,fH.take _ _ _ (obj ho hB hb hc off)⟩⟩
     .cases hd
    .cases hd
   .rename_i o off _;split at hd
    .rename_i ob ho;split at hd
     .rename_i cells hc;cases hd;refine⟨?_,rfl⟩;simp only[VR] at hv;obtain⟨B,b,hB,hb,rfl⟩:=hv;simp only[cj];exact⟨_,rfl,obj ho hB hb hc off⟩
     .cases hd
    .cases hd
   .rename_i cs;split at hd
    .rename_i ds hds;cases hd;simp only[VR] at hv;obtain⟨vs,e,r,h1⟩:=hv;obtain⟨q1,q2⟩:=p8 ih _ _ _ hds r;simp only[cj];exact⟨⟨vs,e,q1,q2.trans h1⟩,rfl⟩
    .cases hd
   .rename_i t cs;split at hd
    .rename_i ds hds;cases hd;simp only[VR] at hv;obtain⟨vs,e,r⟩:=hv;obtain⟨q1,q2⟩:=p8 ih _ _ _ hds r;simp only[cj];exact⟨⟨vs,e,q1⟩,rfl⟩
    .cases hd
   .rename_i g cs;split at hd
    .rename_i ds hds;cases hd;simp only[VR] at hv;obtain⟨vs,e,r⟩:=hv;obtain⟨q1,q2⟩:=p8 ih _ _ _ hds r;simp only[cj];exact⟨⟨vs,e,q1⟩,rfl⟩
    .cases hd
   .rename_i cs;split at hd
    .rename_i ds hds;cases hd;simp only[VR] at hv;obtain⟨vs,e,r⟩:=hv;obtain⟨q1,q2⟩:=p8 ih _ _ _ hds r;simp only[cj];exact⟨⟨vs,e,q1⟩,rfl⟩
    .cases hd
   .cases hd
def doneD (av:List (Nat×TI))(f:Func)(r:CV):Exit->St->Prop
 | .normal,s=>∃ r0 k,bJ av f s=some r0/\deep s.heap k r0=some r
 | .ret,s=>∃ r0 k,bJ av f s=some r0/\deep s.heap k r0=some r
 | _,_=>False
theorem ae.Nv (UT : aF P av) {f : FuncId} {fn : Func} {c : Code} {args : List CV} {r : CV} (hf : P.funcs[f]? = some fn) (hb : fn.body = some c) (hn : (fn.name == "runtime.NumGoroutine") = false)
  (ha:args.length<=fn.ntmps) (h:∀ C:Cx,C.nt=fn.ntmps->C.n0=0->T P C c (enter args) (doneD av fn r)):ae P f args r:=by
 refine⟨⟨fn,hf,hn,by simp[hb]⟩,λ F vs w hF hv=>?_⟩;have hl:=bX.length _ _ hv;let C:Cx:=⟨w,F,λ _=>False,hF,fn.ntmps,λ _=>none,0⟩
 have h0:aQ C (λ _=>none) (enter args) { tmps:=vs.toArray++Array.replicate (fn.ntmps-vs.toArray.size) undef,defers:=[] } w:=by
  refine⟨rfl,by simp[C];omega,rfl,rfl,rfl,Nat.le_refl _,λ _ _ _=>rfl,?_,?_,?_,λ _ _=>rfl,λ _ h=>absurd h (Nat.not_lt_zero _),Nat.zero_le _,λ _ _ _ _ h=>by cases h⟩
  .intro t c hc;obtain⟨_,h2⟩:=fW args 0 t c hc;obtain⟨v,h3,h4⟩:=bX.get _ _ hv t c yC;refine⟨v,?_,VR.cJ _ _ (cj.bD (cL.same λ b hb=>?_).1 c v h4)⟩
   .have P1:=(List.getElem?_eq_some_iff.1 h3).1;simp only;rw[Array.getElem?_append_left (by simpa using P1)]
    simpa using h3
   .rcases hb with hF | ⟨o,ob,ho,_⟩
    .exact hF
    .simp[enter,assoc] at ho
  .intro o ob ho;simp[enter,assoc] at ho
  .intro o o' ob SN b ho;simp[enter,assoc] at ho
 refine calls_of_wp hf hb (wp_mono (h C rfl rfl _ _ ⟨_,h0⟩) λ e a' w' ⟨s',q,U,hr⟩=>?_);have fin:(∃ r0 k,bJ av fn s'=some r0/\deep s'.heap k r0=some r)->a'.defers=[]/\∃ v,(results fn a'.tmps).run P w'=.ok v w'/\(∃ Wf,Ending.returned v=.returned Wf/\Below w.heap.size w w'/\cj w' F r Wf):=λ⟨r0,k,hq,hd⟩=>by
  obtain⟨v,k1,k2⟩:=iI (P:=P) UT hr hq;exact⟨hr.pB,v,k1,v,rfl,⟨hr.os,hr.tape,hr.output,hr.size,λ k hk=>hr.frame k hk (λ hx=>hx)⟩,(GW hr _ _ _ _ hd k2).1⟩
 cases e with
 | normal=>exact fin q
 | ret=>exact fin q
 | exit _=>exact q.elim
 | goto _=>exact q.elim
 | panic _=>exact q.elim
 | outgrown=>exact q.elim
def ql (P:Program)(C:Cx)(s:St)(o:Oper)(g:FuncId)(cs:List CV):Prop:=
 ∀ U a w,aQ C U s a w->∃ vs:List Value,(execOp a.eval o).run P w=.ok (.enter g vs.toArray) w/\aZ w (FB C U s.heap) U cs vs
theorem ql.value {o:Oper}{c:Call}{g:FuncId}{cs:List CV}(ho:o.op=.call c)(SP:bK s c=some (g,cs))(he:ka P g):ql P C s o g cs:=by
 intro U a w hr;obtain⟨fn,h1,h2,h3⟩:=he;unfold bK at SP;split at SP
 .rename_i f U0;split at SP
  .rename_i g' Ue Uh hfe S8;cases SP;have XJ:=bH hr hfe;simp only[VR] at XJ;obtain⟨us,e,hu⟩:=XJ;have Sx:=rv hr _ _ S8;refine⟨c.args.toList.map a.eval++us,?_,aZ.append _ _ _ _ Sx hu⟩;have e2:(c.args.toList.map a.eval).toArray=c.args.map a.eval:=by rw[<- map_toArray]
   simp only[execOp,ho,resolve,U0,e,Deferred.ofValue,Sem.run_bind,Sem.run_pure,Result.andThen_ok,invoke,callFunc,run_program,h1,h2,h3,Bool.false_eq_true,if_false];rw[<- e2];simp
  .cases SP
 .cases SP
structure BB (P:Program)(t:TypeId)(name:String)(g:FuncId):Prop where
 row:∃ i m,P.info? t=some i/\i.methods.find? (·.name == name)=some m/\m.path.toList=[]/\m.path.isEmpty=true/\m.func=some (g,false)
 BF:∃ d,P.underlying t=some d/\∀ e,d≠.pointer e
abbrev jh:=List ((Nat×String)×FuncId)
def jM (P:Program)(mt:jh):Prop:=∀ x∈mt,BB P x.1.1 x.1.2 x.2
def zI:jh->Nat->String->Option FuncId
 | [],_,_=>none
 | ((t,n),g)::r,u,m=>if t=u/\n=m then some g else zI r u m
theorem zH:∀ (mt:jh) (u:Nat) (m:String) (g:FuncId),zI mt u m=some g->((u,m),g)∈mt
 | [],_,_,_,h=>by simp[zI] at h
 | ((t,n),g')::r,u,m,g,h=>by
  simp only[zI] at h;split at h
  .rename_i e;obtain⟨rfl,rfl⟩:=e;cases h;exact mem_cons_self
  .exact mem_cons_of_mem _ (zH r u m g h)
def jF (mt:jh)(s:St)(c:Call):Option (FuncId×List CV):=match c.callee with
 | .value _=>bK s c
 | .invoke r name=>match ev s r,BK s c.args.toList with
  | some (.iface t [x]),some cs=>match zI mt t name with
   | some g=>some (g,x::cs)
   | none=>none
  | _,_=>none
 | _=>none
theorem EA {t:TypeId}{name:String}{g:FuncId}(h:BB P t name g)(v:Value)(n:Nat)(w:World):(method (n+1) t v name).run P w=.ok (g,v) w:=by
 obtain⟨⟨i,m,h1,h2,h3,h4,h5⟩,d,h6,h7⟩:=h;unfold method;simp only[Sem.run_bind,xe h1,Result.andThen_ok,h2,h3,follow,Sem.run_pure,h5,receiverAt,bB h6,Place.get]
theorem ql.to {mt:jh}(VD:jM P mt){o:Oper}{c:Call}{g:FuncId}{cs:List CV}(ho:o.op=.call c)(SP:jF mt s c=some (g,cs))(he:ka P g):ql P C s o g cs:=by
 unfold jF at SP;split at SP
 .exact ql.value ho SP he
 .rename_i r name U0;split at SP
  .rename_i t x Uh hr S8;split at SP
   .rename_i g' hm;cases SP;intro U a w h;obtain⟨fn,h1,h2,h3⟩:=he;have hv:=bH h hr;simp only[VR,aZ] at hv;obtain⟨vs,e,v,r',rfl,hv,rfl⟩:=hv;simp only[Sd] at e;have Sx:=rv h _ _ S8;refine⟨v::c.args.toList.map a.eval,?_,by simp only[aZ];exact⟨v,_,rfl,hv,Sx⟩⟩;have e2:(c.args.toList.map a.eval).toArray=c.args.map a.eval:=by rw[<- map_toArray]
    have Zt:=EA (VD _ (zH _ _ _ _ hm)) v (P.types.size+99) w;have hme':(method (P.types.size+Made.depth) t v name).run P w=.ok (g,v) w:=Zt;have hex:(#[Value.iface t v]++c.args.map a.eval)[0]? = some (Value.iface t v):=by rw[Array.getElem?_append_left xr];rfl
    have hex2:(#[Value.iface t v]++c.args.map a.eval).extract 1 (#[Value.iface t v]++c.args.map a.eval).size=c.args.map a.eval:=by
     apply Array.ext';simp[take_of_length_le]
    simp only[execOp,ho,resolve,U0,e,Sem.run_bind,Sem.run_pure,Result.andThen_ok,invoke,hex,hex2,callMethod,run_program,hme',callFunc,h1,h2,h3,Bool.false_eq_true,if_false];rw[<- e2];simp
   .cases SP
  .cases SP
 .cases SP
theorem eW {o:Oper}(hr:Rel C s a w)(hg:ca ops s o=some true):Region.wanted o (yielded ops a.tmps)=true:=by
 unfold ca at hg;split at hg
 .rename_i e;simp[Region.wanted,e]
 .rename_i j want e;split at hg
  .cases hg
  rename_i t hj;exact kN hr e hj hg
theorem callE (UT:aF P av){o:Oper}{l:List Oper}{g:FuncId}{cs:List CV}{K:St->Prop}{R:CV->St->Prop}(hd:bj C.nt o.dst=true)(hg:ca ops s o=some true)(he:ql P C s o g cs)(hb:Body P av g cs s.heap s.nx R)
  (hK:∀ r s',R r s'->TL P C ops l (St.put ⟨s.env,s'.heap,s'.nx⟩ o.dst r) K):TL P C ops (o::l) s K:=by
 intro a w Q hr hQ;have hw:=eW (ops:=ops) hr hg;obtain⟨U,hr⟩:=hr;unfold wpList;rw[if_pos hw];refine .inl ?_;obtain⟨fn,code,hf,T5,hn,hlen,hT⟩:=hb;obtain⟨vs,I1,Tr⟩:=he U a w hr;have hF:=Nk hr;have h0:=hr.inner hF fn.ntmps Tr hlen;have Xa:Calls P g vs.toArray w λ e w'=>∃ v r s',e=.returned v/\R r s'/\∃ σ',aQ C σ' ⟨s.env,s'.heap,s'.nx⟩ a w'/\VR w' (FB C σ' s'.heap) σ' r v:=by
  refine calls_of_wp hf T5 (wp_mono (hT (C.inner w U s.heap fn.ntmps hF s.nx) rfl rfl _ _ ⟨_,h0⟩) λ e a' w' ⟨s1,q,σ1,TU⟩=>?_);have fin:aa (C.inner w U s.heap fn.ntmps hF s.nx) (λ s'=>∃ r,bJ av fn s'=some r/\R r s') s1->a'.defers=[]/\∃ v,(results fn a'.tmps).run P w'=.ok v w'/\(∃ Wf r s',Ending.returned v=.returned Wf/\R r s'/\∃ σ',aQ C σ' ⟨s.env,s'.heap,s'.nx⟩ a w'/\VR w' (FB C σ' s'.heap) σ' r Wf):=λ⟨s2,⟨r,q1,q2⟩,hl⟩=>by
   obtain⟨σ2,Tb⟩:=hl _ _ ⟨σ1,TU⟩;obtain⟨v,k1,k2⟩:=iI (P:=P) UT Tb q1;exact⟨Tb.pB,v,k1,v,r,s2,rfl,q2,σ2,hr.back Tb,k2⟩
  cases e with
  | normal=>exact fin q
  | ret=>exact fin q
  | exit _=>exact q.elim
  | goto _=>exact q.elim
  | panic _=>exact q.elim
  | outgrown=>exact q.elim
 unfold Oper.wp;rw[I1];refine Xa.mono λ e w' ⟨v,r,s',he,hR,σ',S0,hv⟩=>?_;subst he;refine hK r s' hR _ w' Q ⟨σ',S0.put ?_ hv⟩ hQ;intro t e;rw[S0.tm];rw[e] at hd
 simpa [bj] using hd
theorem Ga {o:Oper}{g:FuncId}{cs:List CV}{r:CV}(he:ql P C s o g cs)(ht:trees cs=true)(hp:ae P g cs r)(h:aQ C U s a w)(K:Act->World->Prop)(Q:Exit->Act->World->Prop)
  (hK:∀ v w',aQ C U s a w'->VR w' (FB C U s.heap) U r v->K (a.put o.dst v) w'):o.wp P a w K Q:=by
 obtain⟨vs,I1,Tr⟩:=he U a w h;unfold Oper.wp;rw[I1];refine (hp.2 (FB C U s.heap) _ w (FJ h) (aZ.eL _ _ ht Tr)).mono λ e w' ⟨v,he,hb,hv⟩=>?_;subst he;exact hK v w' (h.below hb) (VR.cJ _ _ hv)
theorem OU {o:Oper}{l:List Oper}{g:FuncId}{cs:List CV}{r:CV}{K:St->Prop}(hd:bj C.nt o.dst=true)(hg:ca ops s o=some true)(he:ql P C s o g cs)(ht:trees cs=true)(hp:ae P g cs r)(h:TL P C ops l (s.put o.dst r) K):TL P C ops (o::l) s K:=by
 intro a w Q hr hQ;have hw:=eW (ops:=ops) hr hg;obtain⟨U,hr⟩:=hr;unfold wpList;rw[if_pos hw];refine .inl (Ga he ht hp hr _ _ λ v w' S0 hv=>h _ _ Q (ef hd S0 hv) hQ)
end
structure FS where
 e:Nat->Option CV
 h:Nat->Option Ob
 n:Nat
structure Ef where
 r:Option CV
 w:List (Nat×Option Ob)
 k:Nat
structure Vw where
 t:List Nat
 o:List Nat
 n:Bool
 a:Option (Nat×Nat)
def lH (h:Nat->Option Ob)(w:List (Nat×Option Ob)):Nat->Option Ob:=λ p=>match assoc w p with
 | some y=>y
 | none=>h p
def ap (d:Option Tmp)(E:Ef)(x:FS):FS:=⟨j4 x.e d E.r,lH x.h E.w,x.n+E.k⟩
def eP (V:Vw)(x y:FS):Prop:=(∀ t∈V.t,x.e t=y.e t)/\(∀ o∈V.o,x.h o=y.h o)/\(V.n=true->x.n=y.n)/\(∀ r,V.a=some r->∀ o,o<r.1\/r.2<=o->x.h o=y.h o)
structure IS (d d':Option Tmp)(E E':Ef)(V V':Vw):Prop where
 s1:∀ t,d=some t->t∉V'.t
 s2:∀ t,d'=some t->t∉V.t
 s3:∀ t,d=some t->d'≠some t
 h1:∀ o y,assoc E.w o=some y->o∉V'.o
 h2:∀ o y,assoc E'.w o=some y->o∉V.o
 h3:∀ o y,assoc E.w o=some y->assoc E'.w o=none
 n1:V'.n=true->E.k=0
 n2:V.n=true->E'.k=0
 a1:∀ r,V'.a=some r->∀ o y,assoc E.w o=some y->r.1<=o/\o<r.2
 a2:∀ r,V.a=some r->∀ o y,assoc E'.w o=some y->r.1<=o/\o<r.2
theorem eP.refl (V:Vw)(x:FS):eP V x x:=⟨λ _ _=>rfl,λ _ _=>rfl,λ _=>rfl,λ _ _ _ _=>rfl⟩
theorem eP.symm {V:Vw}{x y:FS}(h:eP V x y):eP V y x:=⟨λ t ht=>(h.1 t ht).symm,λ o ho=>(h.2.1 o ho).symm,λ hn=>(h.2.2.1 hn).symm,λ r ha o ho=>(h.2.2.2 r ha o ho).symm⟩
theorem eP.trans {V:Vw}{x y z:FS}(h:eP V x y)(k:eP V y z):eP V x z:=⟨λ t ht=>(h.1 t ht).trans (k.1 t ht),λ o ho=>(h.2.1 o ho).trans (k.2.1 o ho),λ hn=>(h.2.2.1 hn).trans (k.2.2.1 hn),λ r ha o ho=>(h.2.2.2 r ha o ho).trans (k.2.2.2 r ha o ho)⟩
theorem Hf {d d':Option Tmp}{E E':Ef}{V V':Vw}(h:IS d d' E E' V V')(x:FS):ap d E (ap d' E' x)=ap d' E' (ap d E x):=by
 unfold ap;congr 1
 .funext t;simp only[j4];by_cases h1:d=some t
  .rw[if_pos h1,if_neg (h.s3 t h1),if_pos h1]
  .rw[if_neg h1,if_neg h1]
 .funext p;simp only[lH]
  cases h1:assoc E.w p with
  | none=>rfl
  | some y=>rw[h.h3 p y h1]
 .simp only;omega
theorem pJ {V:Vw}{d:Option Tmp}{E:Ef}(h1:∀ t,d=some t->t∉V.t)(h2:∀ o y,assoc E.w o=some y->o∉V.o)(h3:V.n=true->E.k=0)(h4:∀ r,V.a=some r->∀ o y,assoc E.w o=some y->r.1<=o/\o<r.2)(x:FS):eP V (ap d E x) x:=by
 refine⟨λ t ht=>?_,λ o ho=>?_,λ hn=>?_,λ r ha o ho=>?_⟩
 .simp only[ap,j4];rw[if_neg (λ e=>h1 t e ht)]
 .simp only[ap,lH]
  cases h5:assoc E.w o with
  | none=>rfl
  | some y=>exact absurd ho (h2 o y h5)
 .simp only[ap,h3 hn];rfl
 .simp only[ap,lH]
  cases h5:assoc E.w o with
  | none=>rfl
  | some y=>have:=h4 r ha o y h5;omega
theorem L6 {V:Vw}{d:Option Tmp}{E:Ef}{x y:FS}(h:eP V x y):eP V (ap d E x) (ap d E y):=by
 refine⟨λ t ht=>?_,λ o ho=>?_,λ hn=>?_,λ r ha o ho=>?_⟩
 .simp only[ap,j4];rw[h.1 t ht]
 .simp only[ap,lH];rw[h.2.1 o ho]
 .simp only[ap];rw[h.2.2.1 hn]
 .simp only[ap,lH];rw[h.2.2.2 r ha o ho]
def ch (dst:Nat->Option Tmp)(E:Nat->Ef)(L:Nat->Bool):List Nat->FS->FS
 | [],x=>x
 | i::r,x=>ch dst E L r (if L i then ap (dst i) (E i) x else x)
section
variable {dst:Nat->Option Tmp}{E:Nat->Ef}
theorem ep {L:Nat->Bool}:∀ (l m:List Nat) (x:FS),ch dst E L (l++m) x=ch dst E L m (ch dst E L l x)
 | [],_,_=>rfl
 | i::r,m,x=>by simp only[cons_append,ch];exact ep r m _
theorem gw {L L':Nat->Bool}:∀ (l:List Nat) (x:FS),(∀ i∈l,L i=L' i)->ch dst E L l x=ch dst E L' l x
 | [],_,_=>rfl
 | i::r,x,h=>by
  simp only[ch];rw[h i xr];exact gw r _ λ j hj=>h j (by simp[hj])
theorem ru:∀ (l:List Nat) (x:FS),ch dst E (λ _=>false) l x=x
 | [],_=>rfl
 | _::r,x=>by simp only[ch,Bool.false_eq_true,if_false];exact ru r x
theorem iD {V:Vw}{L L':Nat->Bool}:∀ (l:List Nat) (x y:FS),(∀ i∈l,L i≠L' i->∀ z,eP V (ap (dst i) (E i) z) z)->eP V x y->eP V (ch dst E L l x) (ch dst E L' l y)
 | [],_,_,_,h=>h
 | i::r,x,y,hd,h=>by
  simp only[ch];refine iD r _ _ (λ j hj=>hd j (by simp[hj])) ?_;cases h1:L i<;>cases h2:L' i<;>simp only[Bool.false_eq_true,if_false,if_true]
  .exact h
  .exact h.trans (hd i xr (by rw[h1,h2];simp) y).symm
  .exact (hd i xr (by rw[h1,h2];simp) x).trans h
  .exact L6 h
theorem nY {L:Nat->Bool}{d:Option Tmp}{G:Ef}:∀ (l:List Nat) (x:FS),(∀ j∈l,L j=true->∀ z,ap d G (ap (dst j) (E j) z)=ap (dst j) (E j) (ap d G z))->ch dst E L l (ap d G x)=ap d G (ch dst E L l x)
 | [],_,_=>rfl
 | j::r,x,h=>by
  simp only[ch];cases h1:L j<;>simp only[Bool.false_eq_true,if_false,if_true]
  .exact nY r x λ k hk=>h k (by simp[hk])
  .rw[<- h j xr h1 x];exact nY r _ λ k hk=>h k (by simp[hk])
end
def u6 (ops:Array Oper)(listed:Array Bool):Prop:=∀ j oj,ops[j]? = some oj->listed.getD j false=true->∀ e∈oj.after,Region.binds .any e=true->listed.getD e.on false=true
def D8 (ops:Array Oper)(j i:Nat):Prop:=∀ listed:Array Bool,u6 ops listed->(∀ oj,ops[j]? = some oj->∀ e∈oj.after,Region.binds .any e=true->listed.getD e.on false=true)->listed.getD i false=true
theorem Hu {P:Program}{ops:Array Oper}{ord:List Nat}{dst:Nat->Option Tmp}{E:Nat->Ef}{V:Nat->Vw}{x0:FS}{R:Array Bool->FS->Act->World->Prop}{Q':Exit->Act->World->Prop}
  (hn:ord.Nodup) (UY:∀ j,j<ops.size->j∈ord) (P1:∀ i∈ord,i<ops.size)
  (ZV:∀ pre i post,ord=pre++i::post->∀ oi,ops[i]? = some oi->∀ e∈oi.after,Region.binds .any e=true->e.on∈pre)
  (YE:∀ pre i post,ord=pre++i::post->∀ j∈post,D8 ops j i\/IS (dst i) (dst j) (E i) (E j) (V i) (V j))
  (cW:∀ pre i post,ord=pre++i::post->∀ (listed:Array Bool) (x:FS) (a:Act) (w:World) (K:Act->World->Prop),listed.size=ops.size->listed.getD i false=false->R listed x a w->eP (V i) x (ch dst E (λ _=>true) pre x0) ->
   (∀ a' w',R (listed.setIfInBounds i true) (ap (dst i) (E i) x) a' w'->K a' w')->wpOp P ops Q' i K a w)
  (WG:∀ (listed:Array Bool) (a:Act) (w:World),R listed (ch dst E (λ _=>true) ord x0) a w->Q' .normal a w) :
  ∀ (m:Nat) (listed:Array Bool) (a:Act) (w:World),listed.size=ops.size->u6 ops listed->(ord.countP λ j=>!listed.getD j false)=m->R listed (ch dst E (λ j=>listed.getD j false) ord x0) a w->wpAny P .any ops Q' m listed a w:=by
 intro m
 induction m with
 | zero=>
  intro listed a w SB SA hc hR;have Tr:∀ j∈ord,listed.getD j false=true:=λ j hj=>by
   have:=countP_eq_zero.1 hc j hj
   simpa using this
  refine⟨?_,WG listed a w ?_⟩
  .rw[eq_nil_iff_forall_not_mem];intro j hj;have h1:=getD_both (mem_ready.1 hj).1;obtain⟨_,o,ho,_⟩:=mem_ready.1 hj;rw[Tr j (UY j (Array.getElem?_eq_some_iff.1 ho).1)] at h1;cases h1
  .rwa [gw ord x0 (L':=λ _=>true) λ i hi=>Tr i hi] at hR
 | succ m ih=>
  intro listed a w SB SA hc hR;have hex:∃ i∈ord,listed.getD i false=false:=by
   have:0<ord.countP λ j=>!listed.getD j false:=by omega
   obtain⟨i,hi,h⟩:=countP_pos_iff.1 this;exact⟨i,hi,by simpa using h⟩
  refine⟨λ h0=>?_,λ i hi=>?_⟩
  .exfalso;have:∀ (l pre:List Nat),ord=pre++l->(∀ j∈pre,listed.getD j false=true)->(∃ i∈l,listed.getD i false=false)->False:=by
    intro l
    induction l with
    | nil=>rintro pre _ _ ⟨i,hi,_⟩;cases hi
    | cons k r ihl=>
     intro pre ho hp hx
     cases hk:listed.getD k false with
     | true=>
      refine ihl (pre++[k]) (by simp[ho]) ?_ ?_
      .intro j hj;rcases mem_append.1 hj with hj | hj
       .exact hp j hj
       .have:j=k:=by simpa using hj
        subst this;exact hk
      .obtain⟨i,hi,hu⟩:=hx;rcases mem_cons.1 hi with e | hi
       .subst e;rw[hk] at hu;cases hu
       .exact⟨i,hi,hu⟩
     | false=>
      have SO:=P1 k (by rw[ho];simp);have SU:ops[k]? = some ops[k]:=by simp[SO]
      have:k∈Region.ready .any ops listed:=by
       refine mem_ready.2 ⟨qC (by rw[SB];exact SO) hk,_,SU,λ e he hb=>?_⟩;exact hp _ (ZV pre k r ho _ SU e he hb)
      rw[h0] at this;cases this
   exact this ord [] rfl xr hex
  .have U9:listed.getD i false=false:=getD_both (mem_ready.1 hi).1;obtain⟨_,oi,Xm,Uj⟩:=mem_ready.1 hi;have Vu:i∈ord:=UY i (Array.getElem?_eq_some_iff.1 Xm).1;obtain⟨pre,post,XE⟩:=append_of_mem Vu;have VP:=hn;rw[XE,nodup_append,nodup_cons] at VP;have Wt:∀ k∈post,listed.getD k false=true->IS (dst i) (dst k) (E i) (E k) (V i) (V k):=λ k hk hl=>by
    rcases YE pre i post XE k hk with h | h
    .have:=h listed SA λ ok SU e he hb=>SA k ok SU hl e he hb;rw[U9] at this;cases this
    .exact h
   have hpre:∀ k∈pre,listed.getD k false=false->IS (dst k) (dst i) (E k) (E i) (V k) (V i):=λ k hk hl=>by
    obtain⟨p1,p2,hp⟩:=append_of_mem hk;have ho2:ord=p1++k::(p2++i::post):=by rw[XE,hp];simp
    rcases YE p1 k _ ho2 i xr with h | h
    .have:=h listed SA λ ok SU e he hb=>by
      rw[Xm] at SU;cases SU;exact Uj e he hb
     rw[hl] at this;cases this
    .exact h
   have Vb:ch dst E (λ j=>listed.getD j false) ord x0=ch dst E (λ j=>listed.getD j false) post (ch dst E (λ j=>listed.getD j false) pre x0):=by
    rw[XE,ep];simp only[ch,U9,Bool.false_eq_true,if_false]
   refine cW pre i post XE listed _ a w _ SB U9 hR ?_ λ a' w' hR'=>?_
   .rw[Vb];have e1:eP (V i) (ch dst E (λ j=>listed.getD j false) post (ch dst E (λ j=>listed.getD j false) pre x0)) (ch dst E (λ j=>listed.getD j false) pre x0):=by
     have:=iD (V:=V i) (dst:=dst) (E:=E) (L:=λ j=>listed.getD j false) (L':=λ _=>false) post _ _ (λ k hk SL z=>by
      have hl:listed.getD k false=true:=by cases h:listed.getD k false<;>simp_all
      have h:=Wt k hk hl;exact pJ h.s2 h.h2 h.n2 h.a2 z) (eP.refl (V i) (ch dst E (λ j=>listed.getD j false) pre x0))
     rwa [ru] at this
    refine e1.trans (iD pre _ _ (λ k hk SL z=>?_) (eP.refl _ _));have hl:listed.getD k false=false:=by cases h:listed.getD k false<;>simp_all
    have h:=hpre k hk hl;exact pJ h.s1 h.h1 h.n1 h.a1 z
   .have Jz:i<listed.size:=by rw[SB];exact P1 i Vu
    refine ih _ a' w' (by simpa using SB) ?_ ?_ ?_
    .intro j oj hj hl e he hb;by_cases XH:i=j
     .subst XH;have:oj=oi:=Option.some.inj (hj.symm.trans Xm);subst this;exact getD_set_true (Uj e he hb)
     .rw[getD_set_ne false XH] at hl;exact getD_set_true (SA j oj hj hl e he hb)
    .have:=count_set ord i listed hn Vu Jz U9;omega
    .have Uu:(listed.setIfInBounds i true).getD i false=true:=by simp[Jz]
     have key:ch dst E (λ j=>(listed.setIfInBounds i true).getD j false) ord x0=ap (dst i) (E i) (ch dst E (λ j=>listed.getD j false) ord x0):=by
      rw[Vb,XE,ep];simp only[ch,Uu,if_true];rw[gw pre x0 (L':=λ j=>listed.getD j false) λ k hk=>getD_set_ne false (λ e=>by subst e;exact VP.2.2 i hk i xr rfl)];rw[gw post _ (L':=λ j=>listed.getD j false) λ k hk=>getD_set_ne false (λ e=>by subst e;exact VP.2.1.1 hk)];exact nY post _ λ k hk hl z=>Hf (Wt k hk hl) z
     rw[key];exact hR'
def fs (s:St):FS:=⟨assoc s.env,assoc s.heap,s.nx⟩
def rN:List (Nat×Option Ob)->List (Nat×Ob)->List (Nat×Ob)
 | [],H=>H
 | (o,some x)::r,H=>(o,x)::kC (rN r H) o
 | (o,none)::r,H=>kC (rN r H) o
theorem ov (H:List (Nat×Ob)):∀ (w:List (Nat×Option Ob)) (p:Nat),assoc (rN w H) p=lH (assoc H) w p
 | [],p=>rfl
 | (o,some x)::r,p=>by
  simp only[rN,assoc,lH];by_cases e:o=p
  .rw[if_pos e,if_pos e]
  .rw[if_neg e,if_neg e,fG,if_neg e,ov H r p,lH]
 | (o,none)::r,p=>by
  simp only[rN,assoc,lH];rw[fG];by_cases e:o=p
  .rw[if_pos e,if_pos e]
  .rw[if_neg e,if_neg e,ov H r p,lH]
def Sr (d:Option Tmp)(E:Ef)(s:St):St:=qu ⟨s.env,rN E.w s.heap,s.nx+E.k⟩ d E.r
theorem Ld (d:Option Tmp)(E:Ef)(s:St):fs (Sr d E s)=ap d E (fs s):=by
 unfold fs Sr ap;congr 1
 .funext t;exact yr t
 .funext p;rw[p5.1];exact ov s.heap E.w p
 .rw[p5.2]
theorem pz (s:St)(d:Option Tmp)(c:CV):fs (s.put d c)=ap d ⟨some c,[],0⟩ (fs s):=Ld d ⟨some c,[],0⟩ s
def mA:CV->List Nat
 | .a7 o _ _=>[o]
 | .ax o _=>[o]
 | _=>[]
theorem wu {o:Nat}{c:CV}(h:names o c=true):o∈mA c:=by
 cases c<;>simp_all [names,mA]
def M7 (s:St)(op:Op):List Nat:=op.operands.toList.flatMap λ x=>match ev s x with
 | some v=>mA v
 | none=>[]
theorem Gy {s:St}{op:Op}{x:Operand}{v:CV}{o:Nat}(hx:x∈op.operands)(hv:ev s x=some v)(hn:names o v=true):o∈M7 s op:=by
 unfold M7;refine mem_flatMap.2 ⟨x,by simpa using hx,?_⟩;rw[hv];exact wu hn
def J0 (s:St)(op:Op):List Nat:=match op with
 | .load _ _=>M7 s op
 | .slice _ _ _ _ _=>M7 s op
 | _=>[]
def tz (av:List (Nat×TI))(s:St):Op->Option (Ob×(Nat->CV))
 | .alloc e=>match assoc av e with
  | some ie=>some (⟨e,0,ie.zero⟩,λ m=>.ax m 0)
  | none=>none
 | .makeSlice t l c=>match dO av t,ev s l,ev s c with
  | some (.sl e),some (.int _ n),some (.int _ m)=>match assoc av e with
   | some ie=>if n=m/\0<=n/\(ie.bytes:Int)*n<=281474976710656/\n<=9223372036854775807 then some (⟨e,ie.size,aY ie.zero n.toNat⟩,λ m=>.a7 m 0 n.toNat) else none
   | none=>none
  | _,_,_=>none
 | op=>DK av s op
def Q1 (av:List (Nat×TI))(s:St)(t:TypeId)(x v:Operand):Option (Nat×Ob):=
 match ev s x,ev s v,assoc av t with
 | some (.ax p off),some c,some i=>match assoc s.heap p with
  | none=>none
  | some ob=>if eI c then none else if c.cells.length=i.size/\off+c.cells.length<=ob.cells.length then some (p,{ ob with cells:=gX ob.cells off c.cells }) else none
 | _,_,_=>none
def CC (s:St):CV->Option Ob
 | .a7 o _ _=>assoc s.heap o
 | _=>none
def tM (av:List (Nat×TI))(t:TypeId)(p:CV)(obp:Option Ob)(src:Option (List CV×Nat)):Option (Ob×Nat×Option Nat):=
 match dO av t with
 | some (.sl e)=>match assoc av e,src with
  | some ie,some (news,m)=>if 0<ie.size/\0<ie.bytes/\news.length=m*ie.size then
    match p with
    | .aj=>if m*ie.bytes<=140737488355328 then some (⟨e,ie.size,news⟩,m,none) else none
    | .a7 o off n=>match obp with
     | none=>none
     | some ob=>if off=0/\ob.elem=e/\ob.sz=ie.size/\n*ie.size=ob.cells.length/\(n+m)*ie.bytes<=140737488355328 then some ({ ob with cells:=ob.cells++news },n+m,some o) else none
    | _=>none
   else none
  | _,_=>none
 | _=>none
def rmL:Option Nat->List (Nat×Option Ob)
 | some o=>[(o,none)]
 | none=>[]
def N9 (H:List (Nat×Ob)):Option Nat->List (Nat×Ob)
 | some o=>kC H o
 | none=>H
theorem FF {av:List (Nat×TI)}{s:St}{d:Option Tmp}{t:TypeId}{x y:Operand}{p q:CV}{ob:Ob}{k:Nat}{rm:Option Nat}(hx:ev s x=some p)(hy:ev s y=some q)(h:tM av t p (CC s p) (cells? s q)=some (ob,k,rm)) :
  qj av s d t x y=some (St.put { env:=s.env,heap:=(s.nx,ob)::N9 s.heap rm,nx:=s.nx+1 } d (.a7 s.nx 0 k)):=by
 unfold tM at h;unfold qj;split at h
 .rename_i e ht;split at h
  .rename_i ie news m h1 h2;split at h
   .rename_i hc;split at h
    .split at h
     .rename_i hb;cases h;simp only[ht,hx,hy,h1,h2];rw[if_pos hc,if_pos hb];rfl
     .cases h
    .rename_i o off n;split at h
     .cases h
     .rename_i SN Uv;split at h
      .rename_i hb;cases h;simp only[CC] at Uv;simp only[ht,hx,hy,h1,h2];rw[if_pos hc];simp only[Uv];rw[if_pos hb];rfl
      .cases h
    .cases h
   .cases h
  .cases h
 .cases h
mutual
def Bs:CV->CV->Bool
 | .int k n,.int k' n'=>decide (k=k') && n == n'
 | .bool a,.bool b=>a == b
 | .str a,.str b=>a.data.toList == b.data.toList
 | .agg a,.agg b=>uV a b
 | .az a n,.az b m=>n == m && uV a b
 | .aj,.aj=>true
 | .cM a,.cM b=>uV a b
 | .bL,.bL=>true
 | .fn f a,.fn g b=>f == g && uV a b
 | .cH,.cH=>true
 | .iface f a,.iface g b=>f == g && uV a b
 | .cF a,.cF b=>uV a b
 | .a7 o f n,.a7 p g m=>o == p && f == g && n == m
 | .ax o f,.ax p g=>o == p && f == g
 | .any,.any=>true
 | _,_=>false
def uV:List CV->List CV->Bool
 | [],[]=>true
 | a::r,b::q=>Bs a b && uV r q
 | _,_=>false
end
mutual
theorem Q8:∀ (a b:CV),Bs a b=true->a=b
 | .int k n,b,h=>by cases b<;>simp_all [Bs]
 | .bool a,b,h=>by cases b<;>simp_all [Bs]
 | .str a,b,h=>by
  cases b<;>simp only[Bs,Bool.false_eq_true] at h;rename_i b;have:a.data.toList=b.data.toList:=by simpa using h
  have h2:a.data=b.data:=Array.toList_inj.1 this;have:a=b:=ByteArray.ext h2;rw[this]
 | .agg a,b,h=>by
  cases b<;>simp only[Bs,Bool.false_eq_true] at h;rw[kE _ _ h]
 | .az a n,b,h=>by
  cases b<;>simp only[Bs,Bool.false_eq_true,Bool.and_eq_true,beq_iff_eq] at h;rw[kE _ _ h.2,h.1]
 | .aj,b,h=>by cases b<;>simp_all [Bs]
 | .cM a,b,h=>by
  cases b<;>simp only[Bs,Bool.false_eq_true] at h;rw[kE _ _ h]
 | .bL,b,h=>by cases b<;>simp_all [Bs]
 | .fn f a,b,h=>by
  cases b<;>simp only[Bs,Bool.false_eq_true,Bool.and_eq_true,beq_iff_eq] at h;rw[kE _ _ h.2,h.1]
 | .cH,b,h=>by cases b<;>simp_all [Bs]
 | .iface f a,b,h=>by
  cases b<;>simp only[Bs,Bool.false_eq_true,Bool.and_eq_true,beq_iff_eq] at h;rw[kE _ _ h.2,h.1]
 | .iter _ _ _,b,h=>by cases b<;>simp_all [Bs]
 | .mp _ _,b,h=>by cases b<;>simp_all [Bs]
 | .cF a,b,h=>by
  cases b<;>simp only[Bs,Bool.false_eq_true] at h;rw[kE _ _ h]
 | .a7 o f n,b,h=>by cases b<;>simp_all [Bs]
 | .ax o f,b,h=>by cases b<;>simp_all [Bs]
 | .any,b,h=>by cases b<;>simp_all [Bs]
theorem kE:∀ (a b:List CV),uV a b=true->a=b
 | [],b,h=>by cases b<;>simp_all [uV]
 | x::r,b,h=>by
  cases b with
  | nil=>simp[uV] at h
  | cons y q=>
   simp only[uV,Bool.and_eq_true] at h;rw[Q8 x y h.1,kE r q h.2]
end
def oeq:Option Ob->Option Ob->Bool
 | some a,some b=>a.elem == b.elem && a.sz == b.sz && uV a.cells b.cells
 | none,none=>true
 | _,_=>false
theorem Qv {a b:Option Ob}(h:oeq a b=true):a=b:=by
 cases a<;>cases b<;>simp only[oeq,Bool.false_eq_true,Bool.and_eq_true,beq_iff_eq] at h
 .rfl
 .rename_i x y;obtain⟨⟨h1,h2⟩,h3⟩:=h;have h4:=kE _ _ h3;cases x;cases y;simp only at h1 h2 h4;subst h1;subst h2;subst h4;rfl
def l7 (H H':List (Nat×Ob)):List (Nat×Ob)->List (Nat×Option Ob)->List (Nat×Option Ob)
 | [],l=>l
 | (o,_)::r,l=>if oeq (assoc H o) (assoc H' o) then l7 H H' r l else (o,assoc H' o)::l7 H H' r l
def vz (H H':List (Nat×Ob)):List (Nat×Option Ob):=l7 H H' H' (l7 H H' H [])
theorem mb (H H':List (Nat×Ob)):∀ (l:List (Nat×Ob)) (m:List (Nat×Option Ob)) (p:Nat) (y:Option Ob),(∀ p y,assoc m p=some y->y=assoc H' p)->assoc (l7 H H' l m) p=some y->y=assoc H' p
 | [],m,p,y,hm,h=>hm p y h
 | (o,_)::r,m,p,y,hm,h=>by
  simp only[l7] at h;split at h
  .exact mb H H' r m p y hm h
  .simp only[assoc] at h;split at h
   .rename_i e;cases h;rw[e]
   .exact mb H H' r m p y hm h
theorem n8 (H H':List (Nat×Ob)):∀ (l:List (Nat×Ob)) (m:List (Nat×Option Ob)) (p:Nat),assoc (l7 H H' l m) p=none->assoc m p=none/\(assoc l p=none\/assoc H p=assoc H' p)
 | [],m,p,h=>⟨h,.inl rfl⟩
 | (o,_)::r,m,p,h=>by
  simp only[l7] at h;split at h
  .rename_i he;obtain⟨h1,h2⟩:=n8 H H' r m p h;refine⟨h1,?_⟩;simp only[assoc];by_cases e:o=p
   .subst e;exact .inr (Qv he)
   .rw[if_neg e];exact h2
  .simp only[assoc] at h;split at h
   .cases h
   .rename_i e;obtain⟨h1,h2⟩:=n8 H H' r m p h;refine⟨h1,?_⟩;simp only[assoc];rw[if_neg e];exact h2
theorem Ls (H H':List (Nat×Ob))(p:Nat):lH (assoc H) (vz H H') p=assoc H' p:=by
 unfold lH vz
 cases h:assoc (l7 H H' H' (l7 H H' H [])) p with
 | some y=>
  simp only;exact mb H H' H' _ p y (λ q z hz=>mb H H' H [] q z (λ _ _ h=>by cases h) hz) h
 | none=>
  simp only;obtain⟨h1,h2⟩:=n8 H H' H' _ p h;obtain⟨_,h3⟩:=n8 H H' H [] p h1;rcases h2 with h2 | h2
  .rcases h3 with h3 | h3
   .rw[h2,h3]
   .exact h3
  .exact h2
theorem n9 (H H':List (Nat×Ob)){p:Nat}{y:Option Ob}:∀ (l:List (Nat×Ob)) (m:List (Nat×Option Ob)),assoc l p=none->assoc m p=none->assoc (l7 H H' l m) p=some y->False
 | [],m,_,hm,h=>by simp only[l7] at h;rw[hm] at h;cases h
 | (o,x)::r,m,hl,hm,h=>by
  simp only[assoc] at hl;split at hl
  .cases hl
  .rename_i e;simp only[l7] at h;split at h
   .exact n9 H H' r m hl hm h
   .simp only[assoc] at h;rw[if_neg e] at h;exact n9 H H' r m hl hm h
theorem Fk {H H':List (Nat×Ob)}{p:Nat}{y:Option Ob}(h1:assoc H p=none)(h2:assoc H' p=none)(h:assoc (vz H H') p=some y):False:=by
 unfold vz at h;refine n9 H H' H' _ h2 ?_ h
 cases hc:assoc (l7 H H' H []) p with
 | none=>rfl
 | some z=>exact (n9 H H' H [] h1 rfl hc).elim
def fq (cs:List CV):List Nat:=cs.flatMap λ c=>match c with
 | .agg ds=>ds.flatMap mA
 | c=>mA c
def IX (lo hi:Nat)(bD:List Nat)(o:Nat):Bool:=decide (o<lo) || decide (hi<=o) || bD.contains o
def uv (lo hi:Nat)(bD:List Nat):List (Nat×Ob)->List (Nat×Ob)
 | []=>[]
 | (o,x)::r=>if IX lo hi bD o then (o,x)::uv lo hi bD r else uv lo hi bD r
def EX (lo hi:Nat)(bD:List Nat):List (Nat×Ob)->List (Nat×Ob)
 | []=>[]
 | (o,x)::r=>if IX lo hi bD o then EX lo hi bD r else (o,x)::EX lo hi bD r
theorem ou (lo hi:Nat)(bD:List Nat):∀ (H:List (Nat×Ob)) (p:Nat),assoc (uv lo hi bD H) p=if IX lo hi bD p then assoc H p else none
 | [],p=>by simp[uv,assoc]
 | (o,x)::r,p=>by
  simp only[uv];by_cases e:o=p
  .subst e;by_cases h:IX lo hi bD o=true
   .simp[h,assoc]
   .rw[if_neg h,ou lo hi bD r o];simp[h]
  .split
   .simp only[assoc];rw[if_neg e,if_neg e];exact ou lo hi bD r p
   .simp only[assoc];rw[if_neg e];exact ou lo hi bD r p
theorem gA (lo hi:Nat)(bD:List Nat):∀ (H:List (Nat×Ob)) (p:Nat),assoc (EX lo hi bD H) p=if IX lo hi bD p then none else assoc H p
 | [],p=>by simp[EX,assoc]
 | (o,x)::r,p=>by
  simp only[EX];by_cases e:o=p
  .subst e;by_cases h:IX lo hi bD o=true
   .rw[if_pos h,gA lo hi bD r o];simp[h]
   .simp[h,assoc]
  .split
   .simp only[assoc];rw[if_neg e];exact gA lo hi bD r p
   .simp only[assoc];rw[if_neg e,if_neg e];exact gA lo hi bD r p
theorem iK {α:Type}:∀ (l m:List (Nat×α)) (p:Nat),assoc (l++m) p=match assoc l p with
  | some y=>some y
  | none=>assoc m p
 | [],_,_=>rfl
 | (o,x)::r,m,p=>by
  simp only[cons_append,assoc];by_cases e:o=p
  .rw[if_pos e,if_pos e]
  .rw[if_neg e,if_neg e];exact iK r m p
def GY (av:List (Nat×TI))(s:St):Op->Option (CV×List Nat)
 | .convert t u x=>match s7 av s t u x with
  | some c=>some (c,match ev s x with | some v=>mA v | none=>[])
  | none=>none
 | _=>none
def x7 (av:List (Nat×TI))(mt:jh)(ops:Array Oper)(call:gD)(pc:FuncId->List CV->Option CV)(lo hi m:Nat)(s:St)(o:Oper):Option (Ef×List Nat×Bool×Option (Nat×Nat)):=
 match ca ops s o with
 | none=>none
 | some false=>some (⟨some (.cF []),[],0⟩,[],false,none)
 | some true=>match cz o with
  | some c=>match jF mt s c with
   | some (g,cs)=>match (if trees cs then pc g cs else none) with
    | some r=>some (⟨some r,[],0⟩,[],false,none)
    | none=>match call g cs (uv lo hi (fq cs) s.heap) s.nx with
     | some (x,H,n)=>if s.nx<=n/\(H.all λ y=>IX lo hi (fq cs) y.1)=true then some (⟨some x,vz (uv lo hi (fq cs) s.heap) H,n-s.nx⟩,fq cs,true,some (lo,hi)) else none
     | none=>none
   | none=>none
  | none=>match fD av s o.op with
   | some c=>some (⟨some c,[],0⟩,J0 s o.op,false,none)
   | none=>match GY av s o.op with
    | some (c,rs)=>some (⟨some c,[],0⟩,rs,false,none)
    | none=>match tz av s o.op with
    | some (ob,f)=>some (⟨some (f m),[(m,some ob)],0⟩,[],false,none)
    | none=>match o.op with
     | .store t x v=>match Q1 av s t x v with
      | some (p,ob)=>some (⟨none,[(p,some ob)],0⟩,[p],false,none)
      | none=>none
     | .call cl=>match cl.callee,cl.args.toList,cl.argTypes.toList with
      | .builtin .append,[x,y],[t,t']=>if t=t' then match ev s x,ev s y with
        | some p,some q=>match tM av t p (CC s p) (cells? s q) with
         | some (ob,k,rm)=>some (⟨some (.a7 s.nx 0 k),(s.nx,some ob)::rmL rm,1⟩,mA p++mA q,true,none)
         | none=>none
        | _,_=>none
       else none
      | _,_,_=>none
     | _=>none
section
variable {P:Program}{C:Cx}{U:Nat->Option OB}{s:St}{a:Act}{w:World}{ops:Array Oper}{av:List (Nat×TI)}{mt:jh}{pc:FuncId->List CV->Option CV}
theorem aQ.Q6 (h:aQ C U s a w){s':St}(he:fs s'=fs s):aQ C U s' a w:=by
 unfold fs at he;simp only[FS.mk.injEq] at he;obtain⟨h1,h2,h3⟩:=he;have X6:FB C U s'.heap=FB C U s.heap:=by
  unfold FB;rw[h2]
 refine⟨h.pB,h.tm,h.os,h.tape,h.output,h.size,h.frame,?_,?_,?_,?_,h.gH,by rw[h3];exact h.low,h.new⟩
 .intro t c hc;rw[h1] at hc;rw[X6];exact h.env t c hc
 .intro o ob ho;rw[h2] at ho;have:=h.obj o ob ho;unfold ObR at this |-;rw[X6];exact this
 .intro o o' ob SN b ho Tc;rw[h2] at ho Tc;exact h.inj o o' ob SN b ho Tc
 .intro o ho;rw[h3] at ho;exact h.nx o ho
theorem oz (h:aQ C U s a w){m:Nat}(hm:U m=none)(V6:C.n0<=m)(VC:m<s.nx){e:TypeId}{sz:Nat}{cs:List CV}{us:Array Value}(hr:aZ w (FB C U s.heap) U cs us.toList)(h1:cs.all one=true) :
  aQ C (sig U m ⟨some w.heap.size,us.size,sz⟩) { s with heap:=(m,⟨e,sz,cs⟩)::s.heap } a (w.alloc (.cells us e)):=by
 have hl:=aZ.length _ _ hr;refine (h.GO hm V6 VC (Nat.le_refl _) (py _) (ob:=⟨e,sz,cs⟩) (B:=⟨some w.heap.size,us.size,sz⟩) rfl h1 xr λ b hb=>?_).1;simp only[Option.some.injEq] at hb;subst hb;exact⟨Nat.le_refl _,us,heap_alloc_new w _,rfl,by simp only;simp at hl;omega,by simp only;rw[<- hl,take_of_length_le (Nat.le_refl _)];exact hr⟩
theorem H8 (ht:aF P av)(h:aQ C U s a w){m:Nat}(hm:U m=none)(V6:C.n0<=m)(VC:m<s.nx){o:Oper}(hd:∀ t,o.dst=some t->t<a.tmps.size){ob:Ob}{f:Nat->CV}(hv:tz av s o.op=some (ob,f)) :
  ∃ z w' B,(execOp a.eval o).run P w=.ok (.value z) w'/\aQ C (sig U m B) (St.put { s with heap:=(m,ob)::s.heap } o.dst (f m)) (a.put o.dst z) w':=by
 cases ho:o.op<;>rw[ho] at hv<;>simp only[tz,DK] at hv<;>first | cases hv | skip
 case alloc e=>
  split at hv
  .rename_i ie Rz;cases hv;obtain⟨fi,z,g1,_,_,g4,g5⟩:=(ht e ie Rz).info;obtain⟨k1,k2⟩:=dr (w:=w) (F:=FB C U s.heap) _ _ g5;have Te:=oz h hm V6 VC (e:=e) (sz:=0) (aZ.cJ _ _ k1) k2;refine⟨.pointer (some ⟨w.heap.size,0,none⟩),_,_,?_,Te.put hd ?_⟩
   .simp[execOp,ho,Instr.alloc,iV g1 g4,newVar,newRow]
   .simp only[VR];exact⟨_,_,dP,rfl,rfl⟩
  .cases hv
 case box e x=>
  split at hv
  .rename_i c hx;split at hv
   .cases hv
   .rename_i Vx;cases hv;obtain⟨f1,f2⟩:=VR.flat c _ (λ cs e=>by subst e;simp[eI] at Vx) (λ k s p e=>by subst e;simp[eI] at Vx) (bH h hx);have Te:=oz h hm V6 VC (e:=e) (sz:=0) f1 f2;refine⟨.pointer (some ⟨w.heap.size,0,none⟩),_,_,?_,Te.put hd ?_⟩
    .simp[execOp,ho,Instr.box,newVar,newRow]
    .simp only[VR];exact⟨_,_,dP,rfl,rfl⟩
  .cases hv
 case buildSlice t len parts=>
  split at hv
  .rename_i e Td;obtain⟨it,SW,Td⟩:=Option.map_eq_some_iff.1 Td;split at hv
   .rename_i ie cs Rz S8;split at hv
    .rename_i hb;obtain⟨out,Wu,hv⟩:=Option.map_eq_some_iff.1 hv;cases hv;obtain⟨fi,z,g1,g2,g3,g4,g5⟩:=(ht e ie Rz).info;obtain⟨k1,k2⟩:=dr (w:=w) (F:=FB C U s.heap) _ _ g5;have SB:z.cells.size=ie.size:=by rw[<- (ht e ie Rz).len,<- bX.length _ _ k1];simp
     have hz:=mM (U:=U) (aZ.cJ _ _ k1) len;obtain⟨l1,l2⟩:=nq h _ _ S8;obtain⟨us,m1,m2,m3⟩:=pF _ cs (parts.toList.map λ p=>(p.1,a.eval p.2)) _ out (madeCells z.cells (len*z.cells.size)) (by simpa using l1) l2 hz (kM k2 len) Wu;have Te:=oz h hm V6 VC (e:=e) (sz:=ie.size) m2 m3;have Yf:us.size=len*ie.size:=by
      have:=aZ.length _ _ m2;rw[oe _ _ _ _ Wu,fV,(ht e ie Rz).len] at this
      simpa using this
     have hp:(parts.map λ (x:Nat×Operand)=>(x.1,a.eval x.2)).toList=parts.toList.map λ (p:Nat×Operand)=>(p.1,a.eval p.2):=by simp
     rw[SB] at m1;refine⟨.slice (some ⟨w.heap.size,0,none⟩) len len,_,_,?_,Te.put hd ?_⟩
     .simp only[execOp,ho,Instr.buildSlice,Sem.run_bind,bB (dK (ht t it SW) Td),Result.andThen_ok,cT g1,g2,hp];rw[if_neg (by have:=hb.1;omega)];by_cases h0:len*ie.size=0
      .have e0:madeCells z.cells 0=#[]:=by simp[madeCells]
       have e2:(Array.range 0).map (λ _=>(default:Value))=#[]:=by simp[Array.range_zero']
       rw[h0,e0] at m1;simp[h0,e2,m1,newRow]
      .have e1:(Array.range (len*ie.size)).map (λ x=>z.cells[x % z.cells.size]!)=madeCells z.cells (len*ie.size):=rfl;simp[h0,iV g1 g4,e1,m1,newRow]
     .simp only[VR];exact⟨_,dP,len,rfl,Nat.le_refl _,by have:=hb.2;simp only[maxLen];omega,by simp[Yf],λ _=>Yf.symm⟩
    .cases hv
   .cases hv
  .cases hv
 case makeSlice t l c=>
  split at hv
  .rename_i e k n k' m' Td hl TF;obtain⟨it,SW,Td⟩:=Option.map_eq_some_iff.1 Td;split at hv
   .rename_i ie Rz;split at hv
    .rename_i hb;obtain⟨rfl,h0,YN,h63⟩:=hb;cases hv;obtain⟨fi,z,g1,g2,g3,g4,g5⟩:=(ht e ie Rz).info;obtain⟨k1,k2⟩:=dr (w:=w) (F:=FB C U s.heap) _ _ g5;have kl:=bH h hl;have kc:=bH h TF;simp only[VR] at kl kc;have SB:fi.size=z.cells.size:=by rw[g2,<- (ht e ie Rz).len,<- bX.length _ _ k1];simp
     have hz:=mM (U:=U) (aZ.cJ _ _ k1) n.toNat;have hr:=run_make (P:=P) w t e fi z (dK (ht t it SW) Td) g1 g4 k k' n n h0 (Int.le_refl _) (by rw[g3];exact YN) h63;have Te:=oz h hm V6 VC (e:=e) (sz:=ie.size) hz (kM k2 n.toNat);have hrm:z.cells.size=ie.size:=by rw[<- SB,g2]
     rw[SB] at hr;refine⟨.slice (some ⟨w.heap.size,0,none⟩) n.toNat n.toNat,_,_,by simp only[execOp,ho,kl,kc,Sem.run_bind,hr,Result.andThen_ok,Sem.run_pure],Te.put hd ?_⟩;simp only[VR];refine⟨_,dP,n.toNat,rfl,Nat.le_refl _,by simp only[maxLen];omega,?_,λ _=>?_⟩
     .simp[size_madeCells,hrm]
     .simp[size_madeCells,hrm]
    .cases hv
   .cases hv
  .cases hv
end
end Go.Can
