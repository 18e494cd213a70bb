/- An object of one's own gets another number, wherever it is n -/
import Derived.Test.YtlkmbdfhdknlgaaGreatDoorZ16
namespace Go.Can
mutual
theorem a9 (n:Nat):∀ c:CV,tree c=true→ba n c=true
 | .bp _ _ _,h=>by simp[tree] at h
 | .aq _ _,h=>by simp[tree] at h
 | .iter _ _ _,h=>by simp[tree] at h
 | .mp _ _,h=>by simp[tree] at h
 | .agg cs,h=>by
  simp only[tree] at h;simp only[ba];exact gy n cs h
 | .fn _ cs,h=>by
  simp only[tree] at h;simp only[ba];exact gy n cs h
 | .iface _ cs,h=>by
  simp only[tree] at h;simp only[ba];exact gy n cs h
 | .dI cs,h=>by
  simp only[tree] at h;simp only[ba];exact gy n cs h
 | .int _ _,_=>rfl
 | .bool _,_=>rfl
 | .str _,_=>rfl
 | .az _ _,_=>rfl
 | .aj,_=>rfl
 | .cF _,_=>rfl
 | .bw,_=>rfl
 | .cr,_=>rfl
 | .any,_=>rfl
theorem gy (n:Nat):∀ cs:List CV,trees cs=true→a6 n cs=true
 | [],_=>rfl
 | c::cs,h=>by
  simp only[trees,Bool.and_eq_true] at h;simp only[a6,Bool.and_eq_true];exact⟨a9 n c h.1,gy n cs h.2⟩
end
mutual
theorem l7 (n:Nat):∀ c:CV,tree c=true→aJ n c=true
 | .bp _ _ _,h=>by simp[tree] at h
 | .aq _ _,h=>by simp[tree] at h
 | .iter _ _ _,h=>by simp[tree] at h
 | .mp _ _,h=>by simp[tree] at h
 | .agg cs,h=>by
  simp only[tree] at h;simp only[aJ];exact iP n cs h
 | .fn _ cs,h=>by
  simp only[tree] at h;simp only[aJ];exact iP n cs h
 | .iface _ cs,h=>by
  simp only[tree] at h;simp only[aJ];exact iP n cs h
 | .dI cs,h=>by
  simp only[tree] at h;simp only[aJ];exact iP n cs h
 | .int _ _,_=>rfl
 | .bool _,_=>rfl
 | .str _,_=>rfl
 | .az _ _,_=>rfl
 | .aj,_=>rfl
 | .cF _,_=>rfl
 | .bw,_=>rfl
 | .cr,_=>rfl
 | .any,_=>rfl
theorem iP (n:Nat):∀ cs:List CV,trees cs=true→dL n cs=true
 | [],_=>rfl
 | c::cs,h=>by
  simp only[trees,Bool.and_eq_true] at h;simp only[dL,Bool.and_eq_true];exact⟨l7 n c h.1,iP n cs h.2⟩
end
def dg (o q:Nat):CV→CV
 | .bp p off n=>.bp (if p=o then q else p) off n
 | .aq p off=>.aq (if p=o then q else p) off
 | c=>c
def kU (o q:Nat):CV→Bool
 | .bp p _ _=>p != q
 | .aq p _=>p != q
 | c=>aJ o c && aJ q c
def kf (o q:Nat):CV→CV
 | .agg cs=>.agg (cs.map (dg o q))
 | c=>dg o q c
def zi (o q:Nat):CV→Bool
 | .agg cs=>cs.all (kU o q)
 | c=>kU o q c
def wX (o q:Nat):List (Nat×CV)→List (Nat×CV)
 | []=>[]
 | (t,c)::r=>(t,kf o q c)::wX o q r
def yi (o q:Nat):List (Nat×Ob)→List (Nat×Ob)
 | []=>[]
 | (k,ob)::r=>(if k=o then q else k,⟨ob.elem,ob.sz,ob.cells.map (dg o q)⟩)::yi o q r
def okH (o q:Nat):List (Nat×Ob)→Bool
 | []=>true
 | (_,ob)::r=>ob.cells.all (kU o q) && okH o q r
section
variable {P:Program}{C:Cx}{σ:Nat→Option OB}{s:St}{a:Act}{w:World}
theorem GV (o q:Nat)(c:CV):one (dg o q c)=one c:=by cases c<;>rfl
theorem qV (o q:Nat)(cs:List CV):(cs.map (dg o q)).all one=cs.all one:=by
 induction cs with
 | nil=>rfl
 | cons c cs ih=>simp only[List.map_cons,List.all_cons,GV,ih]
theorem VR.dg {F F':Nat→Prop}{σ':Nat→Option OB}{o q:Nat}(hk:cz w w F F')(hq:σ' q=σ o)(Ok:∀ p,p≠q→σ' p=σ p){c:CV}{v:Value}(Om:kU o q c=true)(h:VR w F σ c v):VR w F' σ' (dg o q c) v:=by
 have gen:aJ q c=true→VR w F' σ' c v:=fun hn=>VR.bl hk _ _ (fun p hp=>Ok p fun e=>by subst e;rw[hn] at hp;cases hp) h
 cases c with
 | bp p off n=>
  simp only[kU,bne_iff_ne,ne_eq] at Om;simp only[Can.dg];split
  ·rename_i e;subst e;simp only[VR] at h ⊢;obtain⟨B,h1,h2⟩:=h;exact⟨B,by rw[hq];exact h1,h2⟩
  ·exact gen (by simpa [aJ] using Om)
 | aq p off=>
  simp only[kU,bne_iff_ne,ne_eq] at Om;simp only[Can.dg];split
  ·rename_i e;subst e;simp only[VR] at h ⊢;obtain⟨B,b,h1,h2⟩:=h;exact⟨B,b,by rw[hq];exact h1,h2⟩
  ·exact gen (by simpa [aJ] using Om)
 | _=>
  simp only[kU,Bool.and_eq_true] at Om;exact gen Om.2
theorem aT.dg {F F':Nat→Prop}{σ':Nat→Option OB}{o q:Nat}(hk:cz w w F F')(hq:σ' q=σ o)(Ok:∀ p,p≠q→σ' p=σ p):∀ {cs:List CV} {vs:List Value},cs.all (kU o q)=true→aT w F σ cs vs→aT w F' σ' (cs.map (Can.dg o q)) vs
 | [],_,_,h=>h
 | c::cs,_,Om,⟨v,r,e,h1,h2⟩=>by
  simp only[List.all_cons,Bool.and_eq_true] at Om;exact⟨v,r,e,VR.dg hk hq Ok Om.1 h1,aT.dg hk hq Ok Om.2 h2⟩
theorem VR.kf {F F':Nat→Prop}{σ':Nat→Option OB}{o q:Nat}(hk:cz w w F F')(hq:σ' q=σ o)(Ok:∀ p,p≠q→σ' p=σ p){c:CV}{v:Value}(Om:zi o q c=true)(h:VR w F σ c v):VR w F' σ' (kf o q c) v:=by
 cases c with
 | agg cs=>
  simp only[VR] at h;obtain⟨vs,h1,h2,h3⟩:=h;simp only[Can.kf,VR];exact⟨vs,h1,aT.dg hk hq Ok Om h2,by rw[qV];exact h3⟩
 | _=>
  simp only[zi] at Om;simp only[Can.kf];exact VR.dg hk hq Ok Om h
theorem sD (o q:Nat):∀ (e:List (Nat×CV)) (t:Nat) (c:CV),assoc (wX o q e) t=some c→∃ d,assoc e t=some d∧c=Can.kf o q d
 | [],_,_,h=>by simp[wX,assoc] at h
 | (k,d)::r,t,c,h=>by
  simp only[wX,assoc] at h ⊢;split at h
  ·rename_i e;rw[if_pos e];cases h;exact⟨d,rfl,rfl⟩
  ·rename_i e;rw[if_neg e];exact sD o q r t c h
theorem jP (o q:Nat):∀ (H:List (Nat×Ob)) (p:Nat) (ob:Ob),assoc H q=none→assoc (yi o q H) p=some ob→∃ p' Ov,assoc H p'=some Ov∧p=(if p'=o then q else p')∧ob=⟨Ov.elem,Ov.sz,Ov.cells.map (Can.dg o q)⟩
 | [],_,_,_,h=>by simp[yi,assoc] at h
 | (k,x)::r,p,ob,hq,h=>by
  by_cases hkq:k=q
  ·simp[assoc,hkq] at hq
  ·simp only[assoc,if_neg hkq] at hq;by_cases e:(if k=o then q else k)=p
   ·simp only[yi,assoc,if_pos e,Option.some.injEq] at h;exact⟨k,x,by simp[assoc],e.symm,h.symm⟩
   ·simp only[yi,assoc,if_neg e] at h;obtain⟨p',Ov,h1,h2,h3⟩:=jP o q r p ob hq h;refine⟨p',Ov,?_,h2,h3⟩;simp only[assoc];rw[if_neg fun e'=>e (by rw[h2,e'])];exact h1
theorem GZ (o q:Nat):∀ {H:List (Nat×Ob)},okH o q H=true→∀ p ob,assoc H p=some ob→ob.cells.all (kU o q)=true
 | [],_,p,ob,h=>by simp[assoc] at h
 | (k,x)::r,h,p,ob,hp=>by
  simp only[okH,Bool.and_eq_true] at h;simp only[assoc] at hp;split at hp
  ·cases hp;exact h.1
  ·exact GZ o q h.2 p ob hp
theorem Le.oJ (o q:Nat){ob:Ob}(ho:assoc s.heap o=Option.some ob)(hq:assoc s.heap q=Option.none)(hn:C.n0≤q)(hx:q<s.nx)(he:(s.env.all fun x=>zi o q x.2)=true)(hH:okH o q s.heap=true):Le C s ⟨wX o q s.env,yi o q s.heap,s.nx⟩:=by
 intro a w ⟨σ,h⟩;rw[List.all_eq_true] at he;obtain⟨σ',hσ⟩:∃ σ':Nat→Option OB,∀ x,σ' x=if x=q then σ o else σ x:=⟨_,fun _=>rfl⟩
 have s1:σ' q=σ o:=by rw[hσ,if_pos rfl]
 have s2:∀ p,p≠q→σ' p=σ p:=fun p hp=>by rw[hσ,if_neg hp]
 have s3:∀ p,p≠q→σ' (if p=o then q else p)=σ p:=fun p hp=>by
  split
  ·rename_i e;rw[s1,e]
  ·exact s2 p hp
 have Tt:∀ p x,assoc s.heap p=some x→p≠q:=fun p x hp e=>by rw[e,hq] at hp;cases hp
 have hF:∀ b,FB C σ' (yi o q s.heap) b→FB C σ s.heap b:=by
  rintro b (hb | ⟨p,x,hp,hb⟩)
  ·exact .inl hb
  ·obtain⟨p',y,h1,h2,h3⟩:=jP o q s.heap p x hq hp;refine .inr ⟨p',y,h1,?_⟩;unfold aU at hb ⊢;rwa [h2,s3 p' (Tt p' y h1)] at hb
 have hk:cz w w (FB C σ s.heap) (FB C σ' (yi o q s.heap)):=cz.same hF;refine⟨σ',h.oA,h.tm,h.os,h.tape,h.output,h.size,h.frame,?_,?_,?_,?_,?_,h.low,?_⟩
 ·intro t c hc;obtain⟨d,hd,rfl⟩:=sD o q s.env t c hc;obtain⟨v,k1,k2⟩:=h.env t d hd;exact⟨v,k1,VR.kf hk s1 s2 (he _ (bG _ _ _ hd)) k2⟩
 ·intro p x hp;obtain⟨p',y,h1,h2,h3⟩:=jP o q s.heap p x hq hp;obtain⟨B,m1,m2,m3,m4,m5⟩:=h.obj p' y h1;subst h3;refine⟨B,by rw[h2,s3 p' (Tt p' y h1)];exact m1,m2,fun hb=>by simp[m3 hb],by simp only[qV];exact m4,fun b hb=>?_⟩;obtain⟨cur,n1,n2,n3,n4,n5,n6⟩:=m5 b hb;refine⟨cur,n1,n2,n3,n4,by simpa using n5,?_⟩;simp only[List.length_map];exact aT.dg hk s1 s2 (GZ o q hH p' y h1) n6
 ·intro p p1 x x1 b hp QM hb Pq;obtain⟨p',y,h1,h2,h3⟩:=jP o q s.heap p x hq hp;obtain⟨p1',y1,g1,g2,g3⟩:=jP o q s.heap p1 x1 hq QM;unfold aU at hb Pq;rw[h2,s3 p' (Tt p' y h1)] at hb;rw[g2,s3 p1' (Tt p1' y1 g1)] at Pq;have:=h.inj p' p1' y y1 b h1 g1 hb Pq;rw[h2,g2,this]
 ·intro p hp;simp only at hp;rw[s2 p yA];exact h.nx p hp
 ·intro p hp;rw[s2 p yA];exact h.gO p hp
 ·intro p B b hp hB hb;by_cases e:p=q
  ·subst e;rw[s1] at hB;obtain⟨B',m1,_,_,_,m5⟩:=h.obj o ob ho;rw[m1] at hB;cases hB;obtain⟨cur,_,_,_,n4,_⟩:=m5 b hb;exact n4
  ·rw[s2 p e] at hB;exact h.new p B b hp hB hb
@[simp] theorem ren1_int (o q:Nat)(k:IntKind)(n:Int):dg o q (.int k n)=(.int k n):=rfl
@[simp] theorem ok1_int (o q:Nat)(k:IntKind)(n:Int):kU o q (.int k n)=(aJ o (.int k n) && aJ q (.int k n)):=rfl
@[simp] theorem renC_int (o q:Nat)(k:IntKind)(n:Int):kf o q (.int k n)=(.int k n):=rfl
@[simp] theorem okC_int (o q:Nat)(k:IntKind)(n:Int):zi o q (.int k n)=(aJ o (.int k n) && aJ q (.int k n)):=rfl
@[simp] theorem Nk (o q:Nat)(b:Bool):dg o q (.bool b)=(.bool b):=rfl
@[simp] theorem ok1_bool (o q:Nat)(b:Bool):kU o q (.bool b)=(aJ o (.bool b) && aJ q (.bool b)):=rfl
@[simp] theorem Nh (o q:Nat)(b:Bool):kf o q (.bool b)=(.bool b):=rfl
@[simp] theorem okC_bool (o q:Nat)(b:Bool):zi o q (.bool b)=(aJ o (.bool b) && aJ q (.bool b)):=rfl
@[simp] theorem ren1_str (o q:Nat)(s:ByteArray):dg o q (.str s)=(.str s):=rfl
@[simp] theorem ok1_str (o q:Nat)(s:ByteArray):kU o q (.str s)=(aJ o (.str s) && aJ q (.str s)):=rfl
@[simp] theorem renC_str (o q:Nat)(s:ByteArray):kf o q (.str s)=(.str s):=rfl
@[simp] theorem okC_str (o q:Nat)(s:ByteArray):zi o q (.str s)=(aJ o (.str s) && aJ q (.str s)):=rfl
@[simp] theorem ren1_agg (o q:Nat)(cs:List CV):dg o q (.agg cs)=(.agg cs):=rfl
@[simp] theorem ok1_agg (o q:Nat)(cs:List CV):kU o q (.agg cs)=(aJ o (.agg cs) && aJ q (.agg cs)):=rfl
@[simp] theorem renC_agg (o q:Nat)(cs:List CV):kf o q (.agg cs)=.agg (cs.map (dg o q)):=rfl
@[simp] theorem okC_agg (o q:Nat)(cs:List CV):zi o q (.agg cs)=cs.all (kU o q):=rfl
@[simp] theorem ren1_tsl (o q:Nat)(cs:List CV)(n:Nat):dg o q (.az cs n)=(.az cs n):=rfl
@[simp] theorem ok1_tsl (o q:Nat)(cs:List CV)(n:Nat):kU o q (.az cs n)=(aJ o (.az cs n) && aJ q (.az cs n)):=rfl
@[simp] theorem renC_tsl (o q:Nat)(cs:List CV)(n:Nat):kf o q (.az cs n)=(.az cs n):=rfl
@[simp] theorem okC_tsl (o q:Nat)(cs:List CV)(n:Nat):zi o q (.az cs n)=(aJ o (.az cs n) && aJ q (.az cs n)):=rfl
@[simp] theorem LK (o q:Nat)  : dg o q .aj=.aj:=rfl
@[simp] theorem Np (o q:Nat)  : kU o q .aj=(aJ o .aj && aJ q .aj):=rfl
@[simp] theorem LH (o q:Nat)  : kf o q .aj=.aj:=rfl
@[simp] theorem Nm (o q:Nat)  : zi o q .aj=(aJ o .aj && aJ q .aj):=rfl
@[simp] theorem Ni (o q:Nat)(cs:List CV):dg o q (.cF cs)=(.cF cs):=rfl
@[simp] theorem ok1_tptr (o q:Nat)(cs:List CV):kU o q (.cF cs)=(aJ o (.cF cs) && aJ q (.cF cs)):=rfl
@[simp] theorem Nf (o q:Nat)(cs:List CV):kf o q (.cF cs)=(.cF cs):=rfl
@[simp] theorem okC_tptr (o q:Nat)(cs:List CV):zi o q (.cF cs)=(aJ o (.cF cs) && aJ q (.cF cs)):=rfl
@[simp] theorem Kz (o q:Nat)  : dg o q .bw=.bw:=rfl
@[simp] theorem L2 (o q:Nat)  : kU o q .bw=(aJ o .bw && aJ q .bw):=rfl
@[simp] theorem Ky (o q:Nat)  : kf o q .bw=.bw:=rfl
@[simp] theorem L1 (o q:Nat)  : zi o q .bw=(aJ o .bw && aJ q .bw):=rfl
@[simp] theorem ren1_fn (o q:Nat)(f:FuncId)(cs:List CV):dg o q (.fn f cs)=(.fn f cs):=rfl
@[simp] theorem ok1_fn (o q:Nat)(f:FuncId)(cs:List CV):kU o q (.fn f cs)=(aJ o (.fn f cs) && aJ q (.fn f cs)):=rfl
@[simp] theorem renC_fn (o q:Nat)(f:FuncId)(cs:List CV):kf o q (.fn f cs)=(.fn f cs):=rfl
@[simp] theorem okC_fn (o q:Nat)(f:FuncId)(cs:List CV):zi o q (.fn f cs)=(aJ o (.fn f cs) && aJ q (.fn f cs)):=rfl
@[simp] theorem LL (o q:Nat)  : dg o q .cr=.cr:=rfl
@[simp] theorem Nq (o q:Nat)  : kU o q .cr=(aJ o .cr && aJ q .cr):=rfl
@[simp] theorem LI (o q:Nat)  : kf o q .cr=.cr:=rfl
@[simp] theorem Nn (o q:Nat)  : zi o q .cr=(aJ o .cr && aJ q .cr):=rfl
@[simp] theorem LM (o q:Nat)(t:TypeId)(cs:List CV):dg o q (.iface t cs)=(.iface t cs):=rfl
@[simp] theorem Nr (o q:Nat)(t:TypeId)(cs:List CV):kU o q (.iface t cs)=(aJ o (.iface t cs) && aJ q (.iface t cs)):=rfl
@[simp] theorem LJ (o q:Nat)(t:TypeId)(cs:List CV):kf o q (.iface t cs)=(.iface t cs):=rfl
@[simp] theorem No (o q:Nat)(t:TypeId)(cs:List CV):zi o q (.iface t cs)=(aJ o (.iface t cs) && aJ q (.iface t cs)):=rfl
@[simp] theorem ren1_tup (o q:Nat)(cs:List CV):dg o q (.dI cs)=(.dI cs):=rfl
@[simp] theorem ok1_tup (o q:Nat)(cs:List CV):kU o q (.dI cs)=(aJ o (.dI cs) && aJ q (.dI cs)):=rfl
@[simp] theorem renC_tup (o q:Nat)(cs:List CV):kf o q (.dI cs)=(.dI cs):=rfl
@[simp] theorem okC_tup (o q:Nat)(cs:List CV):zi o q (.dI cs)=(aJ o (.dI cs) && aJ q (.dI cs)):=rfl
@[simp] theorem ren1_osl (o q:Nat)(p f n:Nat):dg o q (.bp p f n)=.bp (if p=o then q else p) f n:=rfl
@[simp] theorem ok1_osl (o q:Nat)(p f n:Nat):kU o q (.bp p f n)=(p != q):=rfl
@[simp] theorem renC_osl (o q:Nat)(p f n:Nat):kf o q (.bp p f n)=.bp (if p=o then q else p) f n:=rfl
@[simp] theorem okC_osl (o q:Nat)(p f n:Nat):zi o q (.bp p f n)=(p != q):=rfl
@[simp] theorem Nj (o q:Nat)(p f:Nat):dg o q (.aq p f)=.aq (if p=o then q else p) f:=rfl
@[simp] theorem ok1_optr (o q:Nat)(p f:Nat):kU o q (.aq p f)=(p != q):=rfl
@[simp] theorem Ng (o q:Nat)(p f:Nat):kf o q (.aq p f)=.aq (if p=o then q else p) f:=rfl
@[simp] theorem okC_optr (o q:Nat)(p f:Nat):zi o q (.aq p f)=(p != q):=rfl
@[simp] theorem ren1_any (o q:Nat)  : dg o q .any=.any:=rfl
@[simp] theorem ok1_any (o q:Nat)  : kU o q .any=(aJ o .any && aJ q .any):=rfl
@[simp] theorem renC_any (o q:Nat)  : kf o q .any=.any:=rfl
@[simp] theorem okC_any (o q:Nat)  : zi o q .any=(aJ o .any && aJ q .any):=rfl
attribute [simp] wX yi okH
end
theorem a8 {α:Type}{f:α→List CV}{n:Nat}(hf:∀ x,(f x).length=n){m:List α}{i:Nat}{e:α}(h:m[i]? = some e)(k:Nat)(hk:k≤n):(m.flatMap f).drop (i*n+k)=(f e).drop k++(m.drop (i+1)).flatMap f:=by
 rw[← List.drop_drop,aD hf h,List.drop_append_of_le_length (by rw[hf];exact hk)]
theorem qq (o q:Nat)(c:CV)(h:tree c=true):kU o q c=true:=by
 cases c<;>first | (simp[tree] at h;done) | (simp only[kU,Bool.and_eq_true];exact⟨l7 _ _ h,l7 _ _ h⟩)
theorem EL (o q:Nat)(c:CV)(h:tree c=true):dg o q c=c:=by
 cases c<;>first | (simp[tree] at h;done) | rfl
theorem lB {cs:List CV}(h:trees cs=true):∀ c∈cs,tree c=true:=by
 induction cs with
 | nil=>simp
 | cons c cs ih=>
  simp only[trees,Bool.and_eq_true] at h;intro x hx;rcases List.mem_cons.1 hx with rfl | hx
  ·exact h.1
  ·exact ih h.2 x hx
theorem ah {cs:List CV}(h:trees cs=true)(n:Nat):cs.all (ba n)=true:=List.all_eq_true.2 fun c hc=>a9 n c (lB h c hc)
theorem bh {cs:List CV}(h:trees cs=true)(o q:Nat):cs.all (kU o q)=true:=List.all_eq_true.2 fun c hc=>qq o q c (lB h c hc)
theorem a7 {cs:List CV}(h:trees cs=true)(o q:Nat):cs.map (dg o q)=cs:=by
 have:∀ c∈cs,dg o q c=id c:=fun c hc=>EL o q c (lB h c hc);rw[List.map_congr_left this,List.map_id]
mutual
/-- The objects' numbers turned. -/
def dT (ρ:Nat→Nat):CV→CV
 | .int k n=>.int k n
 | .bool b=>.bool b
 | .str s=>.str s
 | .agg cs=>.agg (bV ρ cs)
 | .az cs n=>.az cs n
 | .aj=>.aj
 | .cF cs=>.cF cs
 | .bw=>.bw
 | .fn f cs=>.fn f (bV ρ cs)
 | .cr=>.cr
 | .iface t cs=>.iface t (bV ρ cs)
 | .iter k s p=>.iter (ρ k) s p
 | .mp k es=>.mp (ρ k) es
 | .dI cs=>.dI (bV ρ cs)
 | .bp o f n=>.bp (ρ o) f n
 | .aq o f=>.aq (ρ o) f
 | .any=>.any
def bV (ρ:Nat→Nat):List CV→List CV
 | []=>[]
 | c::cs=>dT ρ c::bV ρ cs
end
theorem oa (ρ:Nat→Nat):∀ cs:List CV,bV ρ cs=cs.map (dT ρ)
 | []=>rfl
 | c::cs=>by rw[bV,oa ρ cs,List.map_cons]
theorem Jw (ρ:Nat→Nat)(c:CV):one (dT ρ c)=one c:=by cases c<;>rfl
theorem fT (ρ:Nat→Nat)(cs:List CV):(bV ρ cs).all one=cs.all one:=by
 induction cs with
 | nil=>rfl
 | cons c cs ih=>simp only[bV,List.all_cons,Jw,ih]
mutual
theorem VR.cW {w:World}{F:Nat→Prop}{σ:Nat→Option OB}(ρ:Nat→Nat):∀ (c:CV) (v:Value),VR w F σ (dT ρ c) v↔VR w F (fun p=>σ (ρ p)) c v
 | .int _ _,v=>by simp only[dT,VR]
 | .bool _,v=>by simp only[dT,VR]
 | .str _,v=>by simp only[dT,VR]
 | .agg cs,v=>by
  simp only[dT,VR,fT];constructor
  ·rintro⟨vs,h1,h2,h3⟩;exact⟨vs,h1,(aT.cW ρ cs vs).1 h2,h3⟩
  ·rintro⟨vs,h1,h2,h3⟩;exact⟨vs,h1,(aT.cW ρ cs vs).2 h2,h3⟩
 | .az _ _,v=>by simp only[dT,VR]
 | .aj,v=>by simp only[dT,VR]
 | .cF _,v=>by simp only[dT,VR]
 | .bw,v=>by simp only[dT,VR]
 | .fn _ cs,v=>by
  simp only[dT,VR];constructor
  ·rintro⟨vs,h1,h2⟩;exact⟨vs,h1,(aT.cW ρ cs vs).1 h2⟩
  ·rintro⟨vs,h1,h2⟩;exact⟨vs,h1,(aT.cW ρ cs vs).2 h2⟩
 | .cr,v=>by simp only[dT,VR]
 | .iface _ cs,v=>by
  simp only[dT,VR];constructor
  ·rintro⟨vs,h1,h2⟩;exact⟨vs,h1,(aT.cW ρ cs vs).1 h2⟩
  ·rintro⟨vs,h1,h2⟩;exact⟨vs,h1,(aT.cW ρ cs vs).2 h2⟩
 | .iter _ _ _,v=>by simp only[dT,VR]
 | .mp _ _,v=>by simp only[dT,VR]
 | .dI cs,v=>by
  simp only[dT,VR];constructor
  ·rintro⟨vs,h1,h2⟩;exact⟨vs,h1,(aT.cW ρ cs vs).1 h2⟩
  ·rintro⟨vs,h1,h2⟩;exact⟨vs,h1,(aT.cW ρ cs vs).2 h2⟩
 | .bp _ _ _,v=>by simp only[dT,VR]
 | .aq _ _,v=>by simp only[dT,VR]
 | .any,v=>by simp only[dT,VR]
theorem aT.cW {w:World}{F:Nat→Prop}{σ:Nat→Option OB}(ρ:Nat→Nat):∀ (cs:List CV) (vs:List Value),aT w F σ (bV ρ cs) vs↔aT w F (fun p=>σ (ρ p)) cs vs
 | [],vs=>by simp only[bV,aT]
 | c::cs,vs=>by
  simp only[bV,aT];constructor
  ·rintro⟨v,r,h1,h2,h3⟩;exact⟨v,r,h1,(VR.cW ρ c v).1 h2,(aT.cW ρ cs r).1 h3⟩
  ·rintro⟨v,r,h1,h2,h3⟩;exact⟨v,r,h1,(VR.cW ρ c v).2 h2,(aT.cW ρ cs r).2 h3⟩
end
def cc (ρ:Nat→Nat)(ob:Ob):Ob:=⟨ob.elem,ob.sz,bV ρ ob.cells⟩
def cu (ρ:Nat→Nat):List (Nat×Ob)→List (Nat×Ob)
 | []=>[]
 | (k,ob)::r=>(ρ k,cc ρ ob)::cu ρ r
def cT (ρ:Nat→Nat):List (Nat×CV)→List (Nat×CV)
 | []=>[]
 | (t,c)::r=>(t,dT ρ c)::cT ρ r
theorem fH (ρ:Nat→Nat):∀ (e:List (Nat×CV)) (t:Nat),assoc (cT ρ e) t=(assoc e t).map (dT ρ)
 | [],t=>rfl
 | (k,c)::r,t=>by
  simp only[cT,assoc];split
  ·rfl
  ·exact fH ρ r t
theorem cd {ρ:Nat→Nat}(hi:∀ x y,ρ x=ρ y→x=y):∀ (H:List (Nat×Ob)) (o:Nat),assoc (cu ρ H) (ρ o)=(assoc H o).map (cc ρ)
 | [],o=>rfl
 | (k,c)::r,o=>by
  simp only[cu,assoc];by_cases h:k=o
  ·simp[h]
  ·have:¬ ρ k=ρ o:=fun e=>h (hi _ _ e);simp only[if_neg h,if_neg this];exact cd hi r o
theorem ed {ρ:Nat→Nat}:∀ (H:List (Nat×Ob)) (q:Nat) (ob:Ob),assoc (cu ρ H) q=some ob→∃ o,q=ρ o
 | [],q,ob,h=>by simp[cu,assoc] at h
 | (k,c)::r,q,ob,h=>by
  simp only[cu,assoc] at h;split at h
  ·rename_i e;exact⟨k,e.symm⟩
  ·exact ed r q ob h
section
variable {P:Program}{C:Cx}{σ:Nat→Option OB}{s:St}{a:Act}{w:World}{ops:Array Oper}{av:List (Nat×TI)}
theorem EH (ρ:Nat→Nat)(cs:List CV)(k:Nat):bV ρ (cs.drop k)=(bV ρ cs).drop k:=by rw[oa,oa,List.map_drop]
theorem EG (ρ:Nat→Nat)(cs:List CV)(k:Nat):bV ρ (cs.take k)=(bV ρ cs).take k:=by rw[oa,oa,List.map_take]
theorem gq (ρ:Nat→Nat)(cs:List CV):(bV ρ cs).length=cs.length:=by rw[oa,List.length_map]
theorem E6 {ρ:Nat→Nat}(hi:∀ x y,ρ x=ρ y→x=y)(e:List (Nat×CV))(H:List (Nat×Ob))(n m:Nat)(c:CV)(ht:∀ cs,c=.cF cs→bV ρ cs=cs):gF ⟨cT ρ e,cu ρ H,m⟩ (dT ρ c)=(gF ⟨e,H,n⟩ c).map (bV ρ):=by
 cases c with
 | cF cs=>
  simp only[dT,gF,Option.map_some,Option.some.injEq];exact (ht cs rfl).symm
 | aq o off=>
  simp only[dT,gF,cd hi]
  cases assoc H o with
  | none=>rfl
  | some ob=>simp[cc,EH]
 | _=>rfl
mutual
theorem bZ.tree {w:World}{F:Nat→Prop}:∀ (c:CV) (v:Value),bZ w F c v→Can.tree c=true
 | .int _ _,_,_=>rfl
 | .bool _,_,_=>rfl
 | .str _,_,_=>rfl
 | .agg cs,v,h=>by
  simp only[bZ] at h;obtain⟨vs,_,h2,_⟩:=h;simp only[Can.tree];exact bP.tree cs vs h2
 | .az _ _,_,_=>rfl
 | .aj,_,_=>rfl
 | .cF _,_,_=>rfl
 | .bw,_,_=>rfl
 | .fn _ cs,v,h=>by
  simp only[bZ] at h;obtain⟨vs,_,h2⟩:=h;simp only[Can.tree];exact bP.tree cs vs h2
 | .cr,_,_=>rfl
 | .iface _ cs,v,h=>by
  simp only[bZ] at h;obtain⟨vs,_,h2⟩:=h;simp only[Can.tree];exact bP.tree cs vs h2
 | .iter _ _ _,v,h=>by simp[bZ] at h
 | .mp _ _,v,h=>by simp[bZ] at h
 | .dI cs,v,h=>by
  simp only[bZ] at h;obtain⟨vs,_,h2⟩:=h;simp only[Can.tree];exact bP.tree cs vs h2
 | .bp _ _ _,v,h=>by simp[bZ] at h
 | .aq _ _,v,h=>by simp[bZ] at h
 | .any,_,_=>rfl
theorem bP.tree {w:World}{F:Nat→Prop}:∀ (cs:List CV) (vs:List Value),bP w F cs vs→trees cs=true
 | [],_,_=>rfl
 | c::cs,vs,h=>by
  simp only[bP] at h;obtain⟨v,r,_,h2,h3⟩:=h;simp only[trees,bZ.tree c v h2,bP.tree cs r h3,Bool.and_self]
end
theorem fa.tree {w:World}{F:Nat→Prop}:∀ (cs:List CV) (ad:Addr),fa w F cs ad→trees cs=true
 | [],_,_=>rfl
 | c::cs,ad,h=>by
  simp only[fa] at h;obtain⟨⟨u,_,_,h3⟩,_,h5⟩:=h;simp only[trees,bZ.tree c u h3,fa.tree cs _ h5,Bool.and_self]
mutual
theorem gQ (ρ:Nat→Nat):∀ c:CV,Can.tree c=true→dT ρ c=c
 | .int _ _,_=>rfl
 | .bool _,_=>rfl
 | .str _,_=>rfl
 | .agg cs,h=>by
  simp only[Can.tree] at h;rw[dT,ay ρ cs h]
 | .az _ _,_=>rfl
 | .aj,_=>rfl
 | .cF _,_=>rfl
 | .bw,_=>rfl
 | .fn _ cs,h=>by
  simp only[Can.tree] at h;rw[dT,ay ρ cs h]
 | .cr,_=>rfl
 | .iface _ cs,h=>by
  simp only[Can.tree] at h;rw[dT,ay ρ cs h]
 | .iter _ _ _,h=>by simp[Can.tree] at h
 | .mp _ _,h=>by simp[Can.tree] at h
 | .dI cs,h=>by
  simp only[Can.tree] at h;rw[dT,ay ρ cs h]
 | .bp _ _ _,h=>by simp[Can.tree] at h
 | .aq _ _,h=>by simp[Can.tree] at h
 | .any,_=>rfl
theorem ay (ρ:Nat→Nat):∀ cs:List CV,trees cs=true→bV ρ cs=cs
 | [],_=>rfl
 | c::cs,h=>by
  simp only[trees,Bool.and_eq_true] at h;rw[bV,gQ ρ c h.1,ay ρ cs h.2]
end
theorem Fo (ρ:Nat→Nat)(i:TI)(cs:List CV):lW i (bV ρ cs)=(lW i cs).map (dT ρ):=by
 unfold lW;rw[gq];split
 ·split
  ·simp[dT,EG]
  ·rfl
 ·cases cs<;>rfl
theorem Fl {ρ:Nat→Nat}(hi:∀ x y,ρ x=ρ y→x=y){e:List (Nat×CV)}{H:List (Nat×Ob)}{n m:Nat}(ht:∀ t cs,assoc e t=some (.cF cs)→bV ρ cs=cs)(r:ResultVar):pa av ⟨cT ρ e,cu ρ H,m⟩ r=(pa av ⟨e,H,n⟩ r).map (dT ρ):=by
 cases r with
 | tmp t=>exact fH ρ e t
 | cell x t=>
  simp only[pa,fH]
  cases hx:assoc e x with
  | none=>rfl
  | some c=>
   have hm:=E6 hi e H n m c fun cs hc=>ht x cs (by rw[hx,hc])
   cases ht':assoc av t with
   | none=>rfl
   | some i=>
    simp only[Option.map_some,hm]
    cases gF ⟨e,H,n⟩ c with
    | none=>rfl
    | some cs=>exact Fo ρ i cs
theorem xG {ρ:Nat→Nat}(hi:∀ x y,ρ x=ρ y→x=y){e:List (Nat×CV)}{H:List (Nat×Ob)}{n m:Nat}(ht:∀ t cs,assoc e t=some (.cF cs)→bV ρ cs=cs):∀ rs:List ResultVar,kE av ⟨cT ρ e,cu ρ H,m⟩ rs=(kE av ⟨e,H,n⟩ rs).map (bV ρ)
 | []=>rfl
 | r::rs=>by
  simp only[kE,Fl (n:=n) (m:=m) hi ht r,xG (n:=n) (m:=m) hi ht rs]
  cases pa av ⟨e,H,n⟩ r with
  | none=>rfl
  | some c=>cases kE av ⟨e,H,n⟩ rs<;>rfl
theorem qH {ρ:Nat→Nat}(hi:∀ x y,ρ x=ρ y→x=y){e:List (Nat×CV)}{H:List (Nat×Ob)}{n m:Nat}(ht:∀ t cs,assoc e t=some (.cF cs)→bV ρ cs=cs)(fn:Func):bm av fn ⟨cT ρ e,cu ρ H,m⟩=(bm av fn ⟨e,H,n⟩).map (dT ρ):=by
 simp only[bm,xG (n:=n) (m:=m) hi ht]
 cases kE av ⟨e,H,n⟩ fn.results.toList with
 | none=>rfl
 | some cs=>
  match cs with
  | []=>rfl
  | [c]=>rfl
  | c::d::r=>rfl
theorem xA (ρ:Nat→Nat)(args:List CV):(enter (bV ρ args)).env=cT ρ (enter args).env:=by
 have:∀ (args:List CV) (k:Nat),((bV ρ args).zipIdx k).map (fun x=>(x.2,x.1))=cT ρ ((args.zipIdx k).map fun x=>(x.2,x.1)):=by
  intro args
  induction args with
  | nil=>intro k;rfl
  | cons c cs ih=>intro k;simp only[bV,List.zipIdx_cons,List.map_cons,cT,ih]
 exact this args 0
theorem Body.oJ {ρ:Nat→Nat}(hi:∀ x y,ρ x=ρ y→x=y){f:FuncId}{args:List CV}{H:List (Nat×Ob)}{n n':Nat}{R:CV→St→Prop}(hρ:∀ p,p<n→ρ p<n')(h:Body P av f args H n R)(ha:a6 n args=true)(hH:dD n H=true)(hR:∀ r s,R r s→s.nx=n) :
  Body P av f (bV ρ args) (cu ρ H) n' fun r s=>∃ r1 s1,R r1 s1∧r=dT ρ r1∧s=⟨cT ρ s1.env,cu ρ s1.heap,n'⟩:=by
 obtain⟨fn,c,hf,hb,Pp,hl,hT⟩:=h;refine⟨fn,c,hf,hb,Pp,by rw[gq];exact hl,fun C' hC N8 a w ⟨σ,hr⟩=>?_⟩;rw[xA] at hr;have Of:∀ (t:Nat) c o,assoc (enter args).env t=some c→aJ o c=false→o<n:=fun t c o hc ho=>by
  obtain⟨_,h2⟩:=fS args 0 t c hc;have hm:c∈args:=List.mem_of_getElem? h2;rw[ch,List.all_eq_true] at ha;exact lG n c o (ha c hm) ho
 obtain⟨σt,hσt⟩:∃ σt:Nat→Option OB,σt=below (fun p=>σ (ρ p)) n fun _=>none:=⟨_,rfl⟩;have t1:∀ p,p<n→σt p=σ (ρ p):=fun p hp=>by rw[hσt];exact gw hp
 have t2:∀ p,n≤p→σt p=none:=fun p hp=>by rw[hσt];exact j9 hp
 have O1:∀ (G:List (Nat×Ob)),(∀ o ob,assoc G o=some ob→o<n)→∀ b,(C'.F b∨∃ o ob,assoc G o=some ob∧aU σt o=some b)↔FB C' σ (cu ρ G) b:=fun G hG b=>by
  unfold FB;constructor
  ·rintro (h | ⟨o,ob,ho,hx⟩)
   ·exact .inl h
   ·refine .inr ⟨ρ o,cc ρ ob,by rw[cd hi,ho];rfl,?_⟩;unfold aU at hx ⊢;rwa [t1 o (hG o ob ho)] at hx
  ·rintro (h | ⟨q,ob,hq,hx⟩)
   ·exact .inl h
   ·obtain⟨o,rfl⟩:=ed G q ob hq;rw[cd hi] at hq;obtain⟨Ov,ho,_⟩:=Option.map_eq_some_iff.1 hq;refine .inr ⟨o,Ov,ho,?_⟩;unfold aU at hx ⊢;rwa [t1 o (hG o Ov ho)]
 have Qa:∀ o ob,assoc H o=some ob→o<n:=fun o ob ho=>(iD hH o ob ho).1;have h0:aK ⟨C'.w0,C'.F,C'.own,C'.hF,C'.nt,σt,n⟩ σt ⟨(enter args).env,H,n⟩ a w:=by
  have hK:cz w w (FB C' σ (cu ρ H)) (FB ⟨C'.w0,C'.F,C'.own,C'.hF,C'.nt,σt,n⟩ σt H):=cz.same fun b hx=>(O1 H Qa b).1 hx;refine⟨hr.oA,hr.tm,hr.os,hr.tape,hr.output,hr.size,hr.frame,?_,?_,?_,fun o ho=>t2 o ho,fun _ _=>rfl,Nat.le_refl _,fun o B b ho hB _=>by rw[t2 o ho] at hB;cases hB⟩
  ·intro t c hc;obtain⟨v,k1,k2⟩:=hr.env t (dT ρ c) (by rw[fH,hc];rfl);refine⟨v,k1,?_⟩;exact VR.bl hK _ _ (fun o ho=>t1 o (Of t c o hc ho)) ((VR.cW ρ c v).1 k2)
  ·intro o ob ho;obtain⟨B,m1,m2,m3,m4,m5⟩:=hr.obj (ρ o) (cc ρ ob) (by rw[cd hi,ho];rfl);have Oa:=Qa o ob ho;refine⟨B,by rw[t1 o Oa];exact m1,m2,fun hb=>?_,by have:=m4;simp only[cc,fT] at this;exact this,fun b hb=>?_⟩
   ·have:=m3 hb;simp only[cc] at this;have hl:=gq ρ ob.cells;rw[this] at hl;exact List.eq_nil_of_length_eq_zero hl.symm
   ·obtain⟨cur,n1,n2,n3,n4,n5,n6⟩:=m5 b hb;simp only[cc,gq] at n5 n6;refine⟨cur,n1,n2,n3,n4,n5,?_⟩;exact aT.bl hK _ _ (fun p hp=>t1 p (eQ n _ p (iD hH o ob ho).2 hp)) ((aT.cW ρ _ _).1 n6)
  ·intro o o' ob Ov b ho OI hx O9;unfold aU at hx O9;rw[t1 o (Qa o ob ho)] at hx;rw[t1 o' (Qa o' Ov OI)] at O9;exact hi _ _ (hr.inj (ρ o) (ρ o') (cc ρ ob) (cc ρ Ov) b (by rw[cd hi,ho];rfl) (by rw[cd hi,OI];rfl) hx O9)
 refine wp_mono (hT ⟨C'.w0,C'.F,C'.own,C'.hF,C'.nt,σt,n⟩ hC rfl a w ⟨_,h0⟩) fun e a' w' ⟨s1,q,σ1,OX⟩=>?_;have fin:aa ⟨C'.w0,C'.F,C'.own,C'.hF,C'.nt,σt,n⟩ (fun s'=>∃ r,bm av fn s'=some r∧R r s') s1 →
   ∃ s',aa C' (fun s'=>∃ r,bm av fn s'=some r∧∃ r1 s1,R r1 s1∧r=dT ρ r1∧s'=⟨cT ρ s1.env,cu ρ s1.heap,n'⟩) s'∧Rel C' s' a' w':=fun⟨s2,⟨r,q1,q2⟩,hle⟩=>by
  obtain⟨σ2,OF⟩:=hle _ _ ⟨σ1,OX⟩;have R3:=hR r s2 q2;obtain⟨e2,H2,n2⟩:=s2;simp only at R3;subst R3;have hσ2:σ2=σt:=by
   funext p;rcases Nat.lt_or_ge p n2 with hp | hp
   ·exact OF.gO p hp
   ·rw[OF.nx p hp,t2 p hp]
  subst hσ2;have Oa:∀ o B,σ2 o=some B→o<n2:=fun o B hB=>Nat.lt_of_not_le fun hle=>by rw[OF.nx o hle] at hB;cases hB
  have Ta:∀ o ob,assoc H2 o=some ob→o<n2:=fun o ob ho=>by
   obtain⟨B,m1,_⟩:=OF.obj o ob ho;exact Oa o B m1
  have hK:cz w' w' (FB ⟨C'.w0,C'.F,C'.own,C'.hF,C'.nt,σ2,n2⟩ σ2 H2) (FB C' σ (cu ρ H2)):=cz.same fun b hx=>(O1 H2 Ta b).2 hx;refine⟨⟨cT ρ e2,cu ρ H2,n'⟩,aa.here ⟨dT ρ r,?_,r,_,q2,rfl,rfl⟩,σ,?_⟩
  ·rw[qH (n:=n2) hi (fun t cs hc=>?_),q1]
   ·rfl
   ·obtain⟨v,_,k2⟩:=OF.env t _ hc;simp only[VR,bZ] at k2;obtain⟨ad,_,h3⟩:=k2;exact ay ρ cs (fa.tree cs ad h3)
  ·refine⟨OF.oA,OF.tm,OF.os,OF.tape,OF.output,OF.size,OF.frame,?_,?_,?_,hr.nx,hr.gO,by rw[N8];exact Nat.le_refl _,hr.new⟩
   ·intro t c hc;simp only[fH] at hc;obtain⟨d,hd,rfl⟩:=Option.map_eq_some_iff.1 hc;obtain⟨v,k1,k2⟩:=OF.env t d hd;refine⟨v,k1,(VR.cW ρ d v).2 (VR.bl hK _ _ (fun o ho=>?_) k2)⟩;obtain⟨B,hB⟩:=VR.refs _ _ o k2 ho;exact (t1 o (Oa o B hB)).symm
   ·intro q ob hq;obtain⟨o,rfl⟩:=ed H2 q ob hq;simp only[cd hi] at hq;obtain⟨Ov,ho,rfl⟩:=Option.map_eq_some_iff.1 hq;obtain⟨B,m1,m2,m3,m4,m5⟩:=OF.obj o Ov ho;refine⟨B,by rw[← t1 o (Ta o Ov ho)];exact m1,m2,fun hb=>by simp only[cc,m3 hb];rfl,by simp only[cc,fT];exact m4,fun b hb=>?_⟩;obtain⟨cur,n1,Yf,n3,n4,n5,n6⟩:=m5 b hb;simp only[cc,gq];refine⟨cur,n1,Yf,n3,n4,n5,(aT.cW ρ _ _).2 (aT.bl hK _ _ (fun p hp=>?_) n6)⟩;obtain⟨B',Qr⟩:=aT.refs _ _ p n6 hp;exact (t1 p (Oa p B' Qr)).symm
   ·intro q q' ob Ov b hq PE hx O9;obtain⟨o,rfl⟩:=ed H2 q ob hq;obtain⟨o',rfl⟩:=ed H2 q' Ov PE;simp only[cd hi] at hq PE;obtain⟨x,ho,_⟩:=Option.map_eq_some_iff.1 hq;obtain⟨x',OI,_⟩:=Option.map_eq_some_iff.1 PE;unfold aU at hx O9;rw[← t1 o (Ta o x ho)] at hx;rw[← t1 o' (Ta o' x' OI)] at O9;rw[OF.inj o o' x x' b ho OI hx O9]
 cases e with
 | normal=>exact fin q
 | ret=>exact fin q
 | exit _=>exact q.elim
 | goto _=>exact q.elim
 | panic _=>exact q.elim
 | outgrown=>exact q.elim
def jb (a b p:Nat):Nat:=if p=a then b else if p=b then a else p
theorem I5 (a b:Nat):∀ x y,jb a b x=jb a b y→x=y:=by
 intro x y h;unfold jb at h;split at h<;>split at h<;>(try split at h)<;>(try split at h)<;>omega
theorem Lq {a b n m:Nat}(ha:a<n)(hb:b<m)(hn:n≤m):∀ p,p<n→jb a b p<m:=by
 intro p hp;unfold jb;split
 ·exact hb
 ·split<;>omega
theorem Body.retX {f:FuncId}{args:List CV}{H H1:List (Nat×Ob)}{n m:Nat}{r0:CV}(a b:Nat)(h:Body P av f args H n (jA r0 H1 n))(ha:a<n)(hb:b<m)(hn:n≤m)(hr:a6 n args=true)(hH:dD n H=true)(ht:tree r0=true) :
  Body P av f (bV (jb a b) args) (cu (jb a b) H) m (jA r0 (cu (jb a b) H1) m):=
 (Body.oJ (I5 a b) (Lq ha hb hn) h hr hH fun r s h=>h.2.2).ret fun r s ⟨r1,s1,h1,h2,h3⟩=>by
  obtain⟨k1,k2,k3⟩:=h1;subst h3;rw[h2,k1,gQ _ _ ht,k2];exact⟨rfl,rfl,rfl⟩
theorem TL.jj (Q8:aF P av){o:Oper}{l:List Oper}{c:Call}{g:FuncId}{args:List CV}{K:St→Prop}{r0:CV}{H1:List (Nat×Ob)}(a b:Nat)(ks:List Nat){H:List (Nat×Ob)}(n:Nat)(hb:Body P av g args H n (jA r0 H1 n))(hd:bt C.nt o.dst=true)(hg:b9 ops s o=Option.some true)(ho:o.op=.call c)(OG:bB s c=Option.some (g,bV (jb a b) args))
  (hp:fk s.heap ks=Option.some (cu (jb a b) H)) (han:a<n) (ZI:b<s.nx) (hn:n≤s.nx) (ha:a6 n args=true) (hH:dD n H=true) (ht:tree r0=true) (Q3:a6 s.nx (bV (jb a b) args)=true) (hH2:dD s.nx (cu (jb a b) H)=true) (hk:me ks (cu (jb a b) H1)=true)
  (hK:TL P C ops l (St.put ⟨s.env,cu (jb a b) H1++eB s.heap ks,s.nx⟩ o.dst r0) K):TL P C ops (o::l) s K:=
 TL.bS Q8 ks s.nx (hb.retX a b han ZI hn ha hH ht) hd hg ho OG hp (Nat.le_refl _) Q3 hH2 hk hK
variable {W:List rh}{nt N:Nat}{dyn:List (Nat×Nat)}{K:St→Prop}{i:Nat}{r:List Nat}{res:Nat→Er}
theorem RX.jj {o:Oper}{cl:Call}{g:FuncId}{args:List CV}{r0:CV}{H1:List (Nat×Ob)}(a b:Nat)(ks dw:List Nat){H:List (Nat×Ob)}(n:Nat)(hb:Body P av g args H n (jA r0 H1 n))(hi:ops[i]? = Option.some o)(hd:bt nt o.dst=true)(hg:b9 ops s o=Option.some true)(hu:cg o=Option.some cl)(OG:bB s cl=Option.some (g,bV (jb a b) args))
  (hp:fk s.heap ks=Option.some (cu (jb a b) H)) (han:a<n) (ZI:b<s.nx) (hn:n≤s.nx) (ha:a6 n args=true) (hH:dD n H=true) (ht:tree r0=true) (Q3:a6 s.nx (bV (jb a b) args)=true) (hH2:dD s.nx (cu (jb a b) H)=true) (hk:me ks (cu (jb a b) H1)=true) (hv:Bh dyn res i ks=true) (hc:(dw.all fun p=>ks.contains p)=true) (hs:∀ p∈ks,p∉dw→assoc (cu (jb a b) H1) p=assoc (cu (jb a b) H) p)
  (hK:vu W dyn res i (pP r0 ks dw (cu (jb a b) H1))∧mK av W nt ops N dyn (C7 P av W nt ops N dyn K) r (note dyn res i (pP r0 ks dw (cu (jb a b) H1))) (St.put ⟨s.env,cu (jb a b) H1++eB s.heap ks,s.nx⟩ o.dst r0)):RX P av W nt ops N dyn K (i::r) res s:=
 RX.bS ks dw s.nx (hb.retX a b han ZI hn ha hH ht) hi hd hg hu OG hp (Nat.le_refl _) Q3 hH2 hk hv hc hs hK
attribute [simp] cu jb
end
end Go.Can
namespace Go.Proofs.YtlkmbdfhdknlgaaGreatDoor
open Go.Can Go.aN
theorem xR (x n:Int)(h0:0<n)(h1:n≤4611686018427387904):(IntKind.i64.wrap (x.tmod n+n)).tmod n=x % n∧n≠0:=by
 have Pq : -n<x.tmod n:=by
  have:=Int.lt_tmod_of_pos x h0;omega
 have O2:x.tmod n<n:=Int.tmod_lt_of_pos x h0;have hw:=cf (x.tmod n+n) yA yA;refine⟨?_,by omega⟩;rw[hw,Int.tmod_eq_emod_of_nonneg yA,Int.add_emod_right,Int.tmod_def];simp
theorem cJ (x n:Int)(h0:0<n)(h1:n≤4611686018427387904):ae Tryz.prog 8 [I x,I n] (I (x % n)):=by
 refine ae.aH af Tryz.func8 rfl N4 (by simp[Tryz.ntmps8]) rfl fun C hC N8=>?_;rw[Tryz.ntmps8] at hC;obtain⟨ha,hn⟩:=xR x n h0 h1;apply ai;simp[hC];apply ai;simp[hC,hn,ha];apply T.ret;apply aa.here;simp[Tryz.results8]
theorem H7 (l:List Int)(n:Nat)(_hl:l.length≤9223372036854775807):ae Tryz.prog 21 [ints l,I n] (ints (l.take n)):=by
 refine ae.aH af Tryz.func21 rfl N4 (by simp[Tryz.ntmps21]) rfl fun C hC N8=>?_;rw[Tryz.ntmps21] at hC;apply ai;simp[hC];apply aL;simp[hC,ints];refine T.bg rfl (fun h=>?_) (fun h=>?_)
 ·have hn:n<l.length:=by simpa using h
  have Tp:n≤l.length:=by omega
  apply ai;simp[hC,hn,Tp];apply T.ret;apply aa.here;simp[Tryz.results21]
 ·have hn:l.length≤n:=by simpa using h
  apply T.skip;simp;apply ai;simp[hC];apply T.ret;apply aa.here;simp[Tryz.results21];exact⟨(List.take_of_length_le (by simpa using hn)).symm,(Nat.min_eq_right hn).symm⟩
def aA (L:List Int)(i:Nat):Ob:=⟨69,0,[ints L,I i]⟩
def bf (l:List ByteArray):Ob:=⟨9,1,l.map .str⟩
theorem ep (l:List ByteArray):trees (l.map CV.str)=true:=by
 induction l with
 | nil=>rfl
 | cons a r ih=>simp only[List.map_cons,trees,ih,tree,Bool.and_self]
@[simp] theorem nmOb_frz (l:List ByteArray)(o:Nat)(cs:List CV)(n:Nat):(⟨(bf l).elem,(bf l).sz,(bf l).cells.map (bQ o cs n)⟩:Ob)=bf l:=by simp[bf]
@[simp] theorem Nb (ρ:Nat→Nat)(l:List ByteArray):cc ρ (bf l)=bf l:=by
 simp only[cc,bf,ay ρ _ (ep l)]
@[simp] theorem LB (ρ:Nat→Nat)(L:List Int)(i:Nat):cc ρ (aA L i)=aA L i:=by
 simp only[cc,aA,ay ρ [ints L,I i] rfl]
@[simp] theorem JJ (l:List ByteArray)(n:Nat):(bf l).cells.all (ba n)=true:=ah (ep l) n
@[simp] theorem nmOb_lts (l:List ByteArray)(n:Nat):a6 n (bf l).cells=true:=by rw[ch];exact ah (ep l) n
@[simp] theorem Kp (l:List ByteArray)(n:Nat):l.all (ba n∘CV.str)=true:=List.all_eq_true.2 fun _ _=>rfl
@[simp] theorem K5 (l:List ByteArray)(o q:Nat):l.all (kU o q∘CV.str)=true:=List.all_eq_true.2 fun _ _=>rfl
@[simp] theorem FF (l:List ByteArray)(n o q:Nat):l.all (ba n∘dg o q∘CV.str)=true:=List.all_eq_true.2 fun _ _=>rfl
@[simp] theorem LN (o q:Nat):dg o q∘CV.str=CV.str:=rfl
@[simp] theorem nmOb_ok1 (l:List ByteArray)(o q:Nat):(bf l).cells.all (kU o q)=true:=bh (ep l) o q
@[simp] theorem E4 (l:List ByteArray)(o q:Nat):(bf l).cells.map (dg o q)=(bf l).cells:=a7 (ep l) o q
@[simp] theorem nmOb_eta (l:List ByteArray):(⟨(bf l).elem,(bf l).sz,(bf l).cells⟩:Ob)=bf l:=rfl
@[simp] theorem Nx (l:List ByteArray)(n o q:Nat):(bf l).cells.all (ba n∘dg o q)=true:=by rw[← List.all_map,E4];exact JJ l n
@[simp] theorem M7 (L:List Int)(i o:Nat)(cs:List CV)(n:Nat):(⟨(aA L i).elem,(aA L i).sz,(aA L i).cells.map (bQ o cs n)⟩:Ob)=aA L i:=by simp[aA,ints]
theorem bF (L:List Int)(i n:Nat)(_hi:i≤L.length)(hL:L.length≤1000)(hn:0<n)(Q2:n≤4611686018427387904) :
  Body Tryz.prog av 22 [.aq 0 0,I n] [(0,aA L i)] 1 (jA (I (bN L i n).1) [(0,aA L (bN L i n).2)] 1):=by
 refine Body.iV Tryz.func22 rfl N4 (by simp[Tryz.ntmps22]) fun C hC N8=>?_;rw[Tryz.ntmps22] at hC;apply ai;simp[hC];refine T.seq (T.seq ?_);refine T.rx af follows [0,1,2,3,4,5,6,7,8,9] [] N4 ?_;simp[hC,aA,ints];refine T.bg rfl (fun h=>?_) (fun h=>?_)
 ·have N6:L.length≤i:=by simpa using h
  have hx:bN L i n=(0,i):=by
   unfold bN;rw[List.getElem?_eq_none N6]
  apply ai;simp[hC];apply T.ret;refine aa.trim [4] [0] 1 N3 yA ⟨_,rfl,?_⟩;simp[jA,hx]
 ·have N6:i<L.length:=by simpa using h
  obtain⟨x,Sx⟩:∃ x,L[i]? = some x:=⟨L[i],List.getElem?_eq_getElem N6⟩;have hx:bN L i n=((x % (n:Int)).toNat,i+1):=by
   unfold bN;rw[Sx]
  have wi:=cf ((i:Int)+1) yA yA;have wj:((i:Int)+1)-1=(i:Int):=by omega
  have wk:=cf (i:Int) yA yA;have he:=Int.emod_nonneg x (show (n:Int)≠0 by omega);have het:(((x % (n:Int)).toNat:Nat):Int)=x % n:=Int.toNat_of_nonneg he;have hxd:(L.map vL).drop i=I x::(L.map vL).drop (i+1):=by
   rw[List.drop_eq_getElem_cons (by simpa using N6)];have:=(List.getElem?_eq_some_iff.1 Sx).2;simp[vL,this]
  apply T.skip;simp;apply ai;simp[hC,wi];apply T.seq;refine T.rx af follows [0,1,2,3,4,5,6,7,8,9,10,11,12,13] [] N4 ?_;simp[hC,wj,wk,N6,hxd];refine RX.call rfl N3 rfl rfl rfl rfl (cJ x n yA yA) ?_;simp;apply T.ret;refine aa.trim [4] [0] 1 N3 yA ⟨_,rfl,?_⟩;simp[jA,hx,het]
theorem EZ (L:List Int)(i:Nat)(hi:i≤L.length)(hL:L.length≤1000) :
  Body Tryz.prog av 122 [.aq 0 0] [(0,aA L i)] 1 (jA (I (vW L i).1) [(0,aA L (vW L i).2)] 1):=by
 refine Body.iV Tryz.func122 rfl N4 (by simp[Tryz.ntmps122]) fun C hC N8=>?_;rw[Tryz.ntmps122] at hC;apply ai;simp[hC];apply aL;simp[hC];refine TL.bS af [0] 1 (bF L i 8 hi hL yA yA) Oc rfl rfl rfl rfl N3 OP OO rfl (TL.go' af ?_);simp[hC];have Zj:=aV L 8 hi;refine T.bg rfl (fun h=>?_) (fun h=>?_)
 ·have h1:(bN L i 8).1=1:=by simp at h;omega
  apply ai;simp[hC];refine TL.bS af [0] 1 (bF L _ 4611686018427387904 Zj hL yA yA) Oc rfl rfl rfl rfl N3 OP OO rfl (TL.go' af ?_);simp[hC];apply T.ret;refine aa.trim [2] [0] 1 Sf yA ⟨_,rfl,?_⟩;simp[jA,vW,h1]
 ·have h1:¬ (bN L i 8).1=1:=by simp at h;omega
  apply T.skip;simp;apply ai;simp[hC];refine TL.bS af [0] 1 (bF L _ 4 Zj hL yA yA) Oc rfl rfl rfl rfl N3 OP OO rfl (TL.go' af ?_);simp[hC];apply T.ret;refine aa.trim [2] [0] 1 Sf yA ⟨_,rfl,?_⟩;simp[jA,vW,h1]
def FQ:List CV:=[.int .i64 0,.int .i64 0,.str ⟨#[]⟩,.aj]
theorem iT {ns:List ByteArray}{i:Nat}(h:i<ns.length):(ns.map CV.str).drop i=.str (ns.getD i eS)::(ns.map CV.str).drop (i+1):=by
 rw[List.drop_eq_getElem_cons QW];simp[h]
theorem HP (L:List Int)(ns:List ByteArray)(d i:Nat)(h:d=0∨(bN L i 10).1<2):qF L ns d i=qv L ns (bN L i 10).2:=by
 cases d with
 | zero=>rfl
 | succ d=>
  rw[qF,if_pos];rcases h with h | h
  ·cases h
  ·exact h
theorem aZ:∀ a b:List CV,trees (a++b)=(trees a && trees b)
 | [],b=>by simp[trees]
 | x::r,b=>by simp[trees,Bool.and_assoc]
@[simp] theorem bz (e:Ex):trees (bM e)=true:=by cases e<;>rfl
theorem drop8 (a:Ex)(x y z w:CV):List.drop 8 (bM a++[x,y,z,w])=[]:=List.drop_eq_nil_of_le (by simp[bK])
theorem qa (e:Ex):List.take 4 (bM e)=bM e:=List.take_of_length_le (by simp[bK])
theorem Eu (a b:Ex):List.take 8 (bM a++bM b)=bM a++bM b:=List.take_of_length_le (by simp[bK])
theorem GG (n:Nat)(e:Ex)(x:CV)(h:x∈bM e):ba n x=true:=by
 rw[bW] at h;simp only[List.mem_cons,List.not_mem_nil,or_false] at h;rcases h with rfl | rfl | rfl | rfl<;>rfl
theorem iM (n:Nat)(e:Ex):(bM e).all (ba n)=true:=List.all_eq_true.2 (GG n e)
@[simp] theorem nz_exC (e:Ex):(bM e).map nz=bM e:=by cases e<;>rfl
@[simp] theorem frz_exC (o:Nat)(cs:List CV)(n:Nat)(e:Ex):(bM e).map (bQ o cs n)=bM e:=by cases e<;>rfl
attribute [simp] qa Eu bK
theorem uA (L:List Int)(hL:L.length≤1000)(ns:List ByteArray)(Q1:ns.length≤1000):∀ (d i:Nat),d≤1000→i≤L.length →
  Body Tryz.prog av 103 [.aq 0 0,.bp 3 0 ns.length,I d] [(0,aA L i),(3,bf ns)] 4 (jA (.agg (bM (qF L ns d i).1)) [(0,aA L (qF L ns d i).2),(3,bf ns)] 4):=by
 intro d
 induction d using Nat.strongRecOn with
 | _ d ih=>
 intro i hd hi;refine Body.iV Tryz.func103 rfl N4 (by simp[Tryz.ntmps103]) fun C hC N8=>?_;rw[Tryz.ntmps103] at hC;apply ai;simp[hC];apply ai;simp[hC];refine TL.bS af [0] 1 (bF L i 10 hi hL yA yA) Oc rfl rfl rfl rfl N3 OP OO rfl (TL.go' af ?_);simp[hC];have OL:=aV L 10 hi;have hlf:=HP L ns d i;generalize hk:bN L i 10=k at OL hlf;apply eG;refine T.cut (fun s=>s=⟨[(10,.bool (decide (d=0) || decide (k.1<2))),(7,I k.1),(6,.aq 4 0),(0,.aq 0 0),(1,.bp 3 0 ns.length),(2,I d)],[(0,aA L k.2),(3,bf ns),(4,⟨131,0,FQ⟩)],5⟩) ?_ ?_
 ·by_cases h0:d=0
  ·apply aY;simp[hC,h0];refine aa.trim [10,7,6,0,1,2] [0,3,4] 5 Sf yA ?_;simp[FQ]
  ·apply aY;simp[hC,h0];refine aa.trim [10,7,6,0,1,2] [0,3,4] 5 Sf yA ?_;simp[FQ]
 ·rintro s rfl;refine T.bg rfl (fun h=>?_) (fun h=>?_)
  ·have hl:d=0∨k.1<2:=by simpa using h
   rw[hlf hl];clear hlf ih
      /- the leaf: is there a name to be taken? -/
   refine T.seq (T.cut (fun s=>s=⟨[(24,.bool (decide (0<ns.length∧(bN L k.2 2).1=1))),(6,.aq 4 0),(0,.aq 0 0),(1,.bp 3 0 ns.length)],[(0,aA L (if 0<ns.length then (bN L k.2 2).2 else k.2)),(3,bf ns),(4,⟨131,0,FQ⟩)],5⟩) ?_ ?_)
   ·by_cases Y0:0<ns.length
    ·apply aY;simp[hC,Y0];refine TL.bS af [0] 1 (bF L k.2 2 OL hL yA yA) Oc rfl rfl rfl rfl N3 OP OO rfl (TL.go' af ?_);simp[hC];refine aa.trim [24,6,0,1] [0,3,4] 5 (by simp[aA,FQ]) yA ?_;simp[FQ]
    ·apply aY;simp[hC,Y0];refine aa.trim [24,6,0,1] [0,3,4] 5 (by simp[aA,FQ]) yA ?_;simp[FQ]
   ·rintro s rfl;have Pe:=aV L 2 OL;refine T.bg rfl (fun h=>?_) (fun h=>?_)
    ·have hh:0<ns.length∧(bN L k.2 2).1=1:=by simpa using h
     have Oa:=cH L (bN L k.2 2).2 hh.1;have N7:=iT Oa;apply ai;simp[hC,hh.1];refine TL.bS af [0] 1 (bF L _ ns.length Pe hL yA yA) Oc rfl rfl rfl rfl N3 OP OO rfl (TL.go' af ?_);simp[hC,Oa,N7,bf,FQ];apply T.ret;refine aa.le (Le.nz [] [4]) ?_;simp;refine aa.le (Le.cV (o:=4) rfl rfl) ?_;simp;refine aa.trim [6] [0,3] 4 Sf yA ⟨_,rfl,?_⟩;simp[jA,qv,hh.1,hh.2,bM,eS,Oa]
    ·have hh:¬ (0<ns.length∧(bN L k.2 2).1=1):=by simpa using h
     have Rg:(if 0<ns.length then (bN L k.2 2).2 else k.2)≤L.length:=by
      split
      ·exact Pe
      ·exact OL
     apply T.skip;simp;apply ai;simp[hC];refine TL.bS af [0] 1 (EZ L _ Rg hL) Oc rfl rfl rfl rfl N3 OP OO rfl (TL.go' af ?_);simp[hC,FQ];apply T.ret;refine aa.le (Le.nz [] [4]) ?_;simp;refine aa.le (Le.cV (o:=4) rfl rfl) ?_;simp;refine aa.trim [6] [0,3] 4 Sf yA ⟨_,rfl,?_⟩;simp[jA,qv,hh,bM,eS]
  ·have Zz:¬ d=0∧¬ k.1<2:=by simpa using h
   obtain⟨e,rfl⟩:∃ e,d=e+1:=⟨d-1,by omega⟩;have he1:((e+1:Nat):Int)-1=(e:Int):=by omega
   have we:=cf (e:Int) yA yA;have ihe:=ih e yA;apply ai;simp[hC];refine T.bg rfl (fun h=>?_) (fun h=>?_)
   ·have hk4:k.1<4:=by simpa using h
    have hx:qF L ns (e+1) i=(.un (k.1 % 2) (qF L ns e k.2).1,(qF L ns e k.2).2):=by
     rw[qF,hk,if_neg Zz.2,if_pos hk4]
    have US:=nD L ns e OL;have wm:=cf (3+(k.1:Int) % 2) yA yA;have htm:(k.1:Int).tmod 2=(k.1:Int) % 2:=Int.tmod_eq_emod_of_nonneg yA;apply ai;simp[hC,we,htm,wm];refine TL.bS af [0,3] 4 (ihe k.2 yA OL) Oc rfl rfl rfl rfl N3 OP OO rfl (TL.go' af ?_);simp[hC,FQ,bK,aS];apply T.ret;refine aa.le (Le.trim [6] [0,3,4,5] 6 XW yA) ?_;simp;refine aa.le (Le.cV (o:=5) rfl (by simp only[bz])) ?_;simp;refine aa.le (Le.cV (o:=4) rfl rfl) ?_;simp;refine aa.trim [6] [0,3] 4 Sf yA ⟨_,rfl,?_⟩;simp[jA,hx,bM,eS]
   ·have hk4:¬ k.1<4:=by simpa using h
    have hx:qF L ns (e+1) i=(.bin (bN L k.2 13).1 (qF L ns e (bN L k.2 13).2).1 (qF L ns e (qF L ns e (bN L k.2 13).2).2).1,(qF L ns e (qF L ns e (bN L k.2 13).2).2).2):=by
     rw[qF,hk,if_neg Zz.2,if_neg hk4]
    have US:=aV L 13 OL;have VX:=nD L ns e US;have wb:=cf (5+((bN L k.2 13).1:Int)) yA (by have:=cH L k.2 (show 0<13 by omega);omega);apply T.skip;simp;apply ai;simp[hC];refine TL.bS af [0] 1 (bF L k.2 13 OL hL yA yA) Oc rfl rfl rfl rfl N3 OP OO rfl (TL.go' af ?_);simp[hC,wb,we];refine TL.bS af [0,3] 4 (ihe _ yA US) Oc rfl rfl rfl rfl N3 OP OO rfl (TL.go' af ?_);simp[hC,we];refine TL.bS af [0,3] 4 (ihe _ yA VX) Oc rfl rfl rfl rfl N3 OP OO rfl (TL.go' af ?_);simp[hC,FQ,bK,aS,drop8];apply T.ret;refine aa.le (Le.trim [6] [0,3,4,5] 6 XW yA) ?_;simp;refine aa.le (Le.cV (o:=5) rfl (by simp only[aZ,bz,Bool.and_self])) ?_;simp;refine aa.le (Le.cV (o:=4) rfl rfl) ?_;simp;refine aa.trim [6] [0,3] 4 Sf yA ⟨_,rfl,?_⟩;simp[jA,hx,bM,eS]
end Go.Proofs.YtlkmbdfhdknlgaaGreatDoor
namespace Go.Can
open Go.RowKit
section
variable {C:Cx}{σ:Nat→Option OB}{s:St}{w:World}
theorem aT.zJ {F:Nat→Prop}{c c':CV}(hc:∀ v,VR w F σ c v→VR w F σ c' v):∀ {cs:List CV} {vs:List Value} {i:Nat},cs[i]? = some c→aT w F σ cs vs→aT w F σ (cs.set i c') vs
 | [],_,_,h,_=>by simp at h
 | d::cs,_,0,h,⟨v,r,e,h1,h2⟩=>by
  simp only[List.getElem?_cons_zero,Option.some.injEq] at h;subst h;exact⟨v,r,e,hc v h1,h2⟩
 | d::cs,_,i+1,h,⟨v,r,e,h1,h2⟩=>by
  simp only[List.getElem?_cons_succ] at h;exact⟨v,r,e,h1,aT.zJ hc h h2⟩
theorem sP {c:CV}(hc:one c=true):∀ (cs:List CV) (i:Nat),cs.all one=true→(cs.set i c).all one=true
 | [],_,h=>h
 | d::cs,0,h=>by
  simp only[List.all_cons,Bool.and_eq_true] at h;simp only[List.set_cons_zero,List.all_cons,hc,h.2,Bool.and_self]
 | d::cs,i+1,h=>by
  simp only[List.all_cons,Bool.and_eq_true] at h;simp only[List.set_cons_succ,List.all_cons,h.1,Bool.true_and];exact sP hc cs i h.2
theorem Le.oL (o i:Nat)(e:TypeId)(sz:Nat){ob:Ob}(ho:assoc s.heap o=some ob)(hi:ob.cells[i]? = some .aj):Le C s ⟨s.env,(s.nx,⟨e,sz,[]⟩)::sy s.heap o ⟨ob.elem,ob.sz,ob.cells.set i (.bp s.nx 0 0)⟩,s.nx+1⟩:=by
 intro a w ⟨σ,hr⟩;obtain⟨h1,h2⟩:=hr.fresh (World.grownBy.refl w none) (ob:=⟨e,sz,[]⟩) (B:=⟨none,0,sz⟩) rfl rfl (fun _=>rfl) (fun b hb=>by cases hb);have Ok:¬ s.nx=o:=fun h=>by
  obtain⟨B,m1,_⟩:=hr.obj o ob ho;rw[hr.nx o yA] at m1;cases m1
 have hG:(s.nx,(⟨e,sz,[]⟩:Ob))::sy s.heap o ⟨ob.elem,ob.sz,ob.cells.set i (.bp s.nx 0 0)⟩=sy ((s.nx,⟨e,sz,[]⟩)::s.heap) o ⟨ob.elem,ob.sz,ob.cells.set i (.bp s.nx 0 0)⟩:=by
  simp only[sy,if_neg Ok]
 have hoG:assoc ((s.nx,(⟨e,sz,[]⟩:Ob))::s.heap) o=some ob:=by simp only[assoc,if_neg Ok,ho]
 rw[hG];have TQ:=pV (C:=C) (σ:=sig σ s.nx ⟨none,0,sz⟩) ((s.nx,(⟨e,sz,[]⟩:Ob))::s.heap) o ⟨ob.elem,ob.sz,ob.cells.set i (.bp s.nx 0 0)⟩;refine⟨_,h1.oA,h1.tm,h1.os,h1.tape,h1.output,h1.size,h1.frame,?_,?_,?_,h1.nx,h1.gO,h1.low,h1.new⟩
 ·intro t c hc;obtain⟨v,k1,k2⟩:=h1.env t c hc;exact⟨v,k1,by rw[TQ];exact k2⟩
 ·intro p x hp;simp only[e9] at hp;unfold ObR;rw[TQ];split at hp
  ·rename_i eo;subst eo;rw[hoG] at hp;simp only[Option.map_some,Option.some.injEq] at hp;subst hp;obtain⟨B,m1,m2,m3,m4,m5⟩:=h1.obj o ob hoG;refine⟨B,m1,m2,fun hb=>by simp[m3 hb] at hi,sP rfl _ _ m4,fun b hb=>?_⟩;obtain⟨cur,n1,n2,n3,n4,n5,n6⟩:=m5 b hb;refine⟨cur,n1,n2,n3,n4,by simpa using n5,?_⟩;simp only[List.length_set];refine aT.zJ (fun v hv=>?_) hi n6;simp only[VR] at hv ⊢;exact⟨⟨none,0,sz⟩,dr,hv,trivial,trivial⟩
  ·exact h1.obj p x hp
 ·intro p p' x x' b hp R1 hb Oy;have dom:∀ q y,assoc (sy ((s.nx,(⟨e,sz,[]⟩:Ob))::s.heap) o ⟨ob.elem,ob.sz,ob.cells.set i (.bp s.nx 0 0)⟩) q=some y→∃ z,assoc ((s.nx,(⟨e,sz,[]⟩:Ob))::s.heap) q=some z:=fun q y hq=>by
   rw[e9] at hq;split at hq
   ·rename_i eo;subst eo;exact⟨ob,hoG⟩
   ·exact⟨y,hq⟩
  obtain⟨z,hz⟩:=dom p x hp;obtain⟨z',Ps⟩:=dom p' x' R1;exact h1.inj p p' z z' b hz Ps hb Oy
theorem Le.up (n:Nat)(h:s.nx≤n):Le C s ⟨s.env,s.heap,n⟩:=by
 intro a w ⟨σ,hr⟩;exact⟨σ,hr.oA,hr.tm,hr.os,hr.tape,hr.output,hr.size,hr.frame,hr.env,hr.obj,hr.inj,fun o ho=>hr.nx o (Nat.le_trans h ho),hr.gO,Nat.le_trans hr.low h,hr.new⟩
end
section
variable {P:Program}{C:Cx}{s:St}{ops:Array Oper}{av:List (Nat×TI)}{Q:Exit→St→Prop}
def Hw (o:Oper):Bool:=match o.op with
 | .convert _ _ _=>true
 | _=>false
def cvS (av:List (Nat×TI))(s:St)(o:Oper):Option St:=match o.op with
 | .convert t u x=>match qM av s t u x with
  | some c=>some (s.put o.dst c)
  | none=>match ev s x,dG av t,dG av u with
   | some (.str b),some .str,some (.sl e)=>match dG av e with
    | some (.int .u8)=>if b.size≤1000000 then some (s.put o.dst (.az (pO b) b.size)) else none
    | _=>none
   | _,_,_=>none
 | _=>none
theorem Mv (ht:aF P av){o:Oper}{s':St}(hd:bt C.nt o.dst=true)(h:cvS av s o=some s'):sR P C o s s':=by
 refine zm ht hd ?_;unfold cvS at h;unfold CW;split at h
 ·rename_i t u x ho;rw[ho];simp only;split at h
  ·rename_i c hc;rw[hc];exact h
  ·rename_i hc;rw[hc];simp only;split at h
   ·rename_i b e h1 h2 h3;rw[h1,h2,h3];simp only;split at h
    ·rename_i h4;rw[h4];simp only;split at h
     ·rename_i hb;rw[if_pos hb];exact h
     ·cases h
    ·cases h
   ·cases h
 ·cases h
def IU (av:List (Nat×TI))(nt:Nat)(ops:Array Oper)(K:List Oper→St→Prop):List Oper→St→Prop
 | [],s=>K [] s
 | o::r,s=>if yH o then
   match b9 ops s o with
   | some false=>Dl (IU av nt ops K r) (gv av nt ops s o)
   | _=>K (o::r) s
  else if Hw o then
   match b9 ops s o with
   | some true=>if bt nt o.dst=true then Dl (IU av nt ops K r) (cvS av s o) else False
   | _=>Dl (IU av nt ops K r) (gv av nt ops s o)
  else Dl (IU av nt ops K r) (gv av nt ops s o)
theorem Cs (ht:aF P av){K:St→Prop}:∀ (l:List Oper) (s:St),IU av C.nt ops (Bx P C ops K) l s→TL P C ops l s K
 | [],s,h=>TL.nil h
 | o::r,s,h=>by
  have fin:Dl (IU av C.nt ops (Bx P C ops K) r) (gv av C.nt ops s o)→TL P C ops (o::r) s K:=fun h=>by
   cases hs:gv av C.nt ops s o with
   | none=>rw[hs] at h;exact h.elim
   | some s'=>rw[hs] at h;exact TL.step ht hs (Cs ht r s' h)
  unfold IU at h;split at h
  ·split at h
   ·exact fin h
   ·exact h
  ·split at h
   ·split at h
    ·rename_i hg;split at h
     ·rename_i hd
      cases hs:cvS av s o with
      | none=>rw[hs] at h;exact h.elim
      | some s'=>rw[hs] at h;exact kA hg (Mv ht hd hs) (Cs ht r s' h)
     ·exact h.elim
    ·exact fin h
   ·exact fin h
theorem TL.Bz (ht:aF P av){K:St→Prop}{l:List Oper}(h:IU av C.nt ops (Bx P C ops K) l s):TL P C ops l s K:=Cs ht l s h
theorem T.Bz (ht:aF P av){id:Nat}{l:List Oper}(h:IU av C.nt l.toArray (Bx P C l.toArray (Q .normal)) l s):T P C (.region id l.toArray false) s Q:=T.region (TL.Bz ht h)
attribute [simp] Hw cvS IU qM bytesOf cells?
end
end Go.Can
