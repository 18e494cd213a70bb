/- An object of one's own gets another number, wherever it is n -/
import Derived.Test.YtlkmbdfhdknlgaaGreatDoorZ18
namespace Go.Can
mutual
theorem bq (n:Nat):∀ c:CV,tree c=true→aZ n c=true
 | .bw _ _ _,h=>by simp[tree] at h
 | .ai _ _,h=>by simp[tree] at h
 | .iter _ _ _,h=>by simp[tree] at h
 | .mp _ _,h=>by simp[tree] at h
 | .agg cs,h=>by
  simp only[tree] at h;simp only[aZ];exact fx n cs h
 | .fn _ cs,h=>by
  simp only[tree] at h;simp only[aZ];exact fx n cs h
 | .iface _ cs,h=>by
  simp only[tree] at h;simp only[aZ];exact fx n cs h
 | .db cs,h=>by
  simp only[tree] at h;simp only[aZ];exact fx n cs h
 | .int _ _,_=>rfl
 | .bool _,_=>rfl
 | .str _,_=>rfl
 | .au _ _,_=>rfl
 | .ag,_=>rfl
 | .cc _,_=>rfl
 | .bg,_=>rfl
 | .bT,_=>rfl
 | .any,_=>rfl
theorem fx (n:Nat):∀ cs:List CV,trees cs=true→aO n cs=true
 | [],_=>rfl
 | c::cs,h=>by
  simp only[trees,Bool.and_eq_true] at h;simp only[aO,Bool.and_eq_true];exact⟨bq n c h.1,fx n cs h.2⟩
end
mutual
theorem kr (n:Nat):∀ c:CV,tree c=true→aA n c=true
 | .bw _ _ _,h=>by simp[tree] at h
 | .ai _ _,h=>by simp[tree] at h
 | .iter _ _ _,h=>by simp[tree] at h
 | .mp _ _,h=>by simp[tree] at h
 | .agg cs,h=>by
  simp only[tree] at h;simp only[aA];exact gO n cs h
 | .fn _ cs,h=>by
  simp only[tree] at h;simp only[aA];exact gO n cs h
 | .iface _ cs,h=>by
  simp only[tree] at h;simp only[aA];exact gO n cs h
 | .db cs,h=>by
  simp only[tree] at h;simp only[aA];exact gO n cs h
 | .int _ _,_=>rfl
 | .bool _,_=>rfl
 | .str _,_=>rfl
 | .au _ _,_=>rfl
 | .ag,_=>rfl
 | .cc _,_=>rfl
 | .bg,_=>rfl
 | .bT,_=>rfl
 | .any,_=>rfl
theorem gO (n:Nat):∀ cs:List CV,trees cs=true→dc n cs=true
 | [],_=>rfl
 | c::cs,h=>by
  simp only[trees,Bool.and_eq_true] at h;simp only[dc,Bool.and_eq_true];exact⟨kr n c h.1,gO n cs h.2⟩
end
def cH (o q:Nat):CV→CV
 | .bw p off n=>.bw (if p=o then q else p) off n
 | .ai p off=>.ai (if p=o then q else p) off
 | c=>c
def kX (o q:Nat):CV→Bool
 | .bw p _ _=>p != q
 | .ai p _=>p != q
 | c=>aA o c && aA q c
def jd (o q:Nat):CV→CV
 | .agg cs=>.agg (cs.map (cH o q))
 | c=>cH o q c
def vD (o q:Nat):CV→Bool
 | .agg cs=>cs.all (kX o q)
 | c=>kX o q c
def tg (o q:Nat):List (Nat×CV)→List (Nat×CV)
 | []=>[]
 | (t,c)::r=>(t,jd o q c)::tg o q r
def uL (o q:Nat):List (Nat×Ob)→List (Nat×Ob)
 | []=>[]
 | (k,ob)::r=>(if k=o then q else k,⟨ob.elem,ob.sz,ob.cells.map (cH o q)⟩)::uL o q r
def okH (o q:Nat):List (Nat×Ob)→Bool
 | []=>true
 | (_,ob)::r=>ob.cells.all (kX o q) && okH o q r
section
variable {P:Program}{C:Cx}{σ:Nat→Option OB}{s:St}{a:Act}{w:World}
theorem CZ (o q:Nat)(c:CV):one (cH o q c)=one c:=by cases c<;>rfl
theorem oL (o q:Nat)(cs:List CV):(cs.map (cH o q)).all one=cs.all one:=by
 induction cs with
 | nil=>rfl
 | cons c cs ih=>simp only[List.map_cons,List.all_cons,CZ,ih]
theorem VR.cH {F F':Nat→Prop}{σ':Nat→Option OB}{o q:Nat}(hk:b9 w w F F')(hq:σ' q=σ o)(F0:∀ p,p≠q→σ' p=σ p){c:CV}{v:Value}(Kb:kX o q c=true)(h:VR w F σ c v):VR w F' σ' (cH o q c) v:=by
 have gen:aA q c=true→VR w F' σ' c v:=fun hn=>VR.a7 hk _ _ (fun p hp=>F0 p fun e=>by subst e;rw[hn] at hp;cases hp) h
 cases c with
 | bw p off n=>
  simp only[kX,bne_iff_ne,ne_eq] at Kb;simp only[Can.cH];split
  ·rename_i e;subst e;simp only[VR] at h ⊢;obtain⟨B,h1,h2⟩:=h;exact⟨B,by rw[hq];exact h1,h2⟩
  ·exact gen (by simpa [aA] using Kb)
 | ai p off=>
  simp only[kX,bne_iff_ne,ne_eq] at Kb;simp only[Can.cH];split
  ·rename_i e;subst e;simp only[VR] at h ⊢;obtain⟨B,b,h1,h2⟩:=h;exact⟨B,b,by rw[hq];exact h1,h2⟩
  ·exact gen (by simpa [aA] using Kb)
 | _=>
  simp only[kX,Bool.and_eq_true] at Kb;exact gen Kb.2
theorem aG.cH {F F':Nat→Prop}{σ':Nat→Option OB}{o q:Nat}(hk:b9 w w F F')(hq:σ' q=σ o)(F0:∀ p,p≠q→σ' p=σ p):∀ {cs:List CV} {vs:List Value},cs.all (kX o q)=true→aG w F σ cs vs→aG w F' σ' (cs.map (Can.cH o q)) vs
 | [],_,_,h=>h
 | c::cs,_,Kb,⟨v,r,e,h1,h2⟩=>by
  simp only[List.all_cons,Bool.and_eq_true] at Kb;exact⟨v,r,e,VR.cH hk hq F0 Kb.1 h1,aG.cH hk hq F0 Kb.2 h2⟩
theorem VR.jd {F F':Nat→Prop}{σ':Nat→Option OB}{o q:Nat}(hk:b9 w w F F')(hq:σ' q=σ o)(F0:∀ p,p≠q→σ' p=σ p){c:CV}{v:Value}(Kb:vD o q c=true)(h:VR w F σ c v):VR w F' σ' (jd o q c) v:=by
 cases c with
 | agg cs=>
  simp only[VR] at h;obtain⟨vs,h1,h2,h3⟩:=h;simp only[Can.jd,VR];exact⟨vs,h1,aG.cH hk hq F0 Kb h2,by rw[oL];exact h3⟩
 | _=>
  simp only[vD] at Kb;simp only[Can.jd];exact VR.cH hk hq F0 Kb h
theorem pM (o q:Nat):∀ (e:List (Nat×CV)) (t:Nat) (c:CV),assoc (tg o q e) t=some c→∃ d,assoc e t=some d∧c=Can.jd o q d
 | [],_,_,h=>by simp[tg,assoc] at h
 | (k,d)::r,t,c,h=>by
  simp only[tg,assoc] at h ⊢;split at h
  ·rename_i e;rw[if_pos e];cases h;exact⟨d,rfl,rfl⟩
  ·rename_i e;rw[if_neg e];exact pM o q r t c h
theorem iP (o q:Nat):∀ (H:List (Nat×Ob)) (p:Nat) (ob:Ob),assoc H q=none→assoc (uL o q H) p=some ob→∃ p' Ka,assoc H p'=some Ka∧p=(if p'=o then q else p')∧ob=⟨Ka.elem,Ka.sz,Ka.cells.map (Can.cH o q)⟩
 | [],_,_,_,h=>by simp[uL,assoc] at h
 | (k,x)::r,p,ob,hq,h=>by
  by_cases Yd:k=q
  ·simp[assoc,Yd] at hq
  ·simp only[assoc,if_neg Yd] at hq;by_cases e:(if k=o then q else k)=p
   ·simp only[uL,assoc,if_pos e,Option.some.injEq] at h;exact⟨k,x,by simp[assoc],e.symm,h.symm⟩
   ·simp only[uL,assoc,if_neg e] at h;obtain⟨p',Ka,h1,h2,h3⟩:=iP o q r p ob hq h;refine⟨p',Ka,?_,h2,h3⟩;simp only[assoc];rw[if_neg fun e'=>e (by rw[h2,e'])];exact h1
theorem C3 (o q:Nat):∀ {H:List (Nat×Ob)},okH o q H=true→∀ p ob,assoc H p=some ob→ob.cells.all (kX o q)=true
 | [],_,p,ob,h=>by simp[assoc] at h
 | (k,x)::r,h,p,ob,hp=>by
  simp only[okH,Bool.and_eq_true] at h;simp only[assoc] at hp;split at hp
  ·cases hp;exact h.1
  ·exact C3 o q h.2 p ob hp
theorem Le.mq (o q:Nat){ob:Ob}(ho:assoc s.heap o=Option.some ob)(hq:assoc s.heap q=Option.none)(hn:C.n0≤q)(hx:q<s.nx)(he:(s.env.all fun x=>vD o q x.2)=true)(hH:okH o q s.heap=true):Le C s ⟨tg o q s.env,uL o q s.heap,s.nx⟩:=by
 intro a w ⟨σ,h⟩;rw[List.all_eq_true] at he;obtain⟨σ',hσ⟩:∃ σ':Nat→Option OB,∀ x,σ' x=if x=q then σ o else σ x:=⟨_,fun _=>rfl⟩
 have s1:σ' q=σ o:=by rw[hσ,if_pos rfl]
 have s2:∀ p,p≠q→σ' p=σ p:=fun p hp=>by rw[hσ,if_neg hp]
 have s3:∀ p,p≠q→σ' (if p=o then q else p)=σ p:=fun p hp=>by
  split
  ·rename_i e;rw[s1,e]
  ·exact s2 p hp
 have OI:∀ p x,assoc s.heap p=some x→p≠q:=fun p x hp e=>by rw[e,hq] at hp;cases hp
 have hF:∀ b,FB C σ' (uL o q s.heap) b→FB C σ s.heap b:=by
  rintro b (hb | ⟨p,x,hp,hb⟩)
  ·exact .inl hb
  ·obtain⟨p',y,h1,h2,h3⟩:=iP o q s.heap p x hq hp;refine .inr ⟨p',y,h1,?_⟩;unfold aH at hb ⊢;rwa [h2,s3 p' (OI p' y h1)] at hb
 have hk:b9 w w (FB C σ s.heap) (FB C σ' (uL o q s.heap)):=b9.same hF;refine⟨σ',h.me,h.tm,h.os,h.tape,h.output,h.size,h.frame,?_,?_,?_,?_,?_,h.low,?_⟩
 ·intro t c hc;obtain⟨d,hd,rfl⟩:=pM o q s.env t c hc;obtain⟨v,k1,k2⟩:=h.env t d hd;exact⟨v,k1,VR.jd hk s1 s2 (he _ (br _ _ _ hd)) k2⟩
 ·intro p x hp;obtain⟨p',y,h1,h2,h3⟩:=iP o q s.heap p x hq hp;obtain⟨B,m1,m2,m3,m4,m5⟩:=h.obj p' y h1;subst h3;refine⟨B,by rw[h2,s3 p' (OI p' y h1)];exact m1,m2,fun hb=>by simp[m3 hb],by simp only[oL];exact m4,fun b hb=>?_⟩;obtain⟨cur,n1,n2,n3,n4,n5,n6⟩:=m5 b hb;refine⟨cur,n1,n2,n3,n4,by simpa using n5,?_⟩;simp only[List.length_map];exact aG.cH hk s1 s2 (C3 o q hH p' y h1) n6
 ·intro p p1 x x1 b hp Mf hb K1;obtain⟨p',y,h1,h2,h3⟩:=iP o q s.heap p x hq hp;obtain⟨Vc,y1,g1,g2,g3⟩:=iP o q s.heap p1 x1 hq Mf;unfold aH at hb K1;rw[h2,s3 p' (OI p' y h1)] at hb;rw[g2,s3 Vc (OI Vc y1 g1)] at K1;have:=h.inj p' Vc y y1 b h1 g1 hb K1;rw[h2,g2,this]
 ·intro p hp;simp only at hp;rw[s2 p yA];exact h.nx p hp
 ·intro p hp;rw[s2 p yA];exact h.fM p hp
 ·intro p B b hp hB hb;by_cases e:p=q
  ·subst e;rw[s1] at hB;obtain⟨B',m1,_,_,_,m5⟩:=h.obj o ob ho;rw[m1] at hB;cases hB;obtain⟨cur,_,_,_,n4,_⟩:=m5 b hb;exact n4
  ·rw[s2 p e] at hB;exact h.new p B b hp hB hb
@[simp] theorem ren1_int (o q:Nat)(k:IntKind)(n:Int):cH o q (.int k n)=(.int k n):=rfl
@[simp] theorem ok1_int (o q:Nat)(k:IntKind)(n:Int):kX o q (.int k n)=(aA o (.int k n) && aA q (.int k n)):=rfl
@[simp] theorem renC_int (o q:Nat)(k:IntKind)(n:Int):jd o q (.int k n)=(.int k n):=rfl
@[simp] theorem okC_int (o q:Nat)(k:IntKind)(n:Int):vD o q (.int k n)=(aA o (.int k n) && aA q (.int k n)):=rfl
@[simp] theorem I8 (o q:Nat)(b:Bool):cH o q (.bool b)=(.bool b):=rfl
@[simp] theorem ok1_bool (o q:Nat)(b:Bool):kX o q (.bool b)=(aA o (.bool b) && aA q (.bool b)):=rfl
@[simp] theorem I5 (o q:Nat)(b:Bool):jd o q (.bool b)=(.bool b):=rfl
@[simp] theorem okC_bool (o q:Nat)(b:Bool):vD o q (.bool b)=(aA o (.bool b) && aA q (.bool b)):=rfl
@[simp] theorem ren1_str (o q:Nat)(s:ByteArray):cH o q (.str s)=(.str s):=rfl
@[simp] theorem ok1_str (o q:Nat)(s:ByteArray):kX o q (.str s)=(aA o (.str s) && aA q (.str s)):=rfl
@[simp] theorem renC_str (o q:Nat)(s:ByteArray):jd o q (.str s)=(.str s):=rfl
@[simp] theorem okC_str (o q:Nat)(s:ByteArray):vD o q (.str s)=(aA o (.str s) && aA q (.str s)):=rfl
@[simp] theorem ren1_agg (o q:Nat)(cs:List CV):cH o q (.agg cs)=(.agg cs):=rfl
@[simp] theorem ok1_agg (o q:Nat)(cs:List CV):kX o q (.agg cs)=(aA o (.agg cs) && aA q (.agg cs)):=rfl
@[simp] theorem renC_agg (o q:Nat)(cs:List CV):jd o q (.agg cs)=.agg (cs.map (cH o q)):=rfl
@[simp] theorem okC_agg (o q:Nat)(cs:List CV):vD o q (.agg cs)=cs.all (kX o q):=rfl
@[simp] theorem ren1_tsl (o q:Nat)(cs:List CV)(n:Nat):cH o q (.au cs n)=(.au cs n):=rfl
@[simp] theorem ok1_tsl (o q:Nat)(cs:List CV)(n:Nat):kX o q (.au cs n)=(aA o (.au cs n) && aA q (.au cs n)):=rfl
@[simp] theorem renC_tsl (o q:Nat)(cs:List CV)(n:Nat):jd o q (.au cs n)=(.au cs n):=rfl
@[simp] theorem okC_tsl (o q:Nat)(cs:List CV)(n:Nat):vD o q (.au cs n)=(aA o (.au cs n) && aA q (.au cs n)):=rfl
@[simp] theorem Hy (o q:Nat)  : cH o q .ag=.ag:=rfl
@[simp] theorem Jd (o q:Nat)  : kX o q .ag=(aA o .ag && aA q .ag):=rfl
@[simp] theorem Hv (o q:Nat)  : jd o q .ag=.ag:=rfl
@[simp] theorem Ja (o q:Nat)  : vD o q .ag=(aA o .ag && aA q .ag):=rfl
@[simp] theorem I6 (o q:Nat)(cs:List CV):cH o q (.cc cs)=(.cc cs):=rfl
@[simp] theorem ok1_tptr (o q:Nat)(cs:List CV):kX o q (.cc cs)=(aA o (.cc cs) && aA q (.cc cs)):=rfl
@[simp] theorem I3 (o q:Nat)(cs:List CV):jd o q (.cc cs)=(.cc cs):=rfl
@[simp] theorem okC_tptr (o q:Nat)(cs:List CV):vD o q (.cc cs)=(aA o (.cc cs) && aA q (.cc cs)):=rfl
@[simp] theorem Gr (o q:Nat)  : cH o q .bg=.bg:=rfl
@[simp] theorem HO (o q:Nat)  : kX o q .bg=(aA o .bg && aA q .bg):=rfl
@[simp] theorem Gq (o q:Nat)  : jd o q .bg=.bg:=rfl
@[simp] theorem HN (o q:Nat)  : vD o q .bg=(aA o .bg && aA q .bg):=rfl
@[simp] theorem ren1_fn (o q:Nat)(f:FuncId)(cs:List CV):cH o q (.fn f cs)=(.fn f cs):=rfl
@[simp] theorem ok1_fn (o q:Nat)(f:FuncId)(cs:List CV):kX o q (.fn f cs)=(aA o (.fn f cs) && aA q (.fn f cs)):=rfl
@[simp] theorem renC_fn (o q:Nat)(f:FuncId)(cs:List CV):jd o q (.fn f cs)=(.fn f cs):=rfl
@[simp] theorem okC_fn (o q:Nat)(f:FuncId)(cs:List CV):vD o q (.fn f cs)=(aA o (.fn f cs) && aA q (.fn f cs)):=rfl
@[simp] theorem Hz (o q:Nat)  : cH o q .bT=.bT:=rfl
@[simp] theorem Je (o q:Nat)  : kX o q .bT=(aA o .bT && aA q .bT):=rfl
@[simp] theorem Hw (o q:Nat)  : jd o q .bT=.bT:=rfl
@[simp] theorem Jb (o q:Nat)  : vD o q .bT=(aA o .bT && aA q .bT):=rfl
@[simp] theorem HA (o q:Nat)(t:TypeId)(cs:List CV):cH o q (.iface t cs)=(.iface t cs):=rfl
@[simp] theorem Jf (o q:Nat)(t:TypeId)(cs:List CV):kX o q (.iface t cs)=(aA o (.iface t cs) && aA q (.iface t cs)):=rfl
@[simp] theorem Hx (o q:Nat)(t:TypeId)(cs:List CV):jd o q (.iface t cs)=(.iface t cs):=rfl
@[simp] theorem Jc (o q:Nat)(t:TypeId)(cs:List CV):vD o q (.iface t cs)=(aA o (.iface t cs) && aA q (.iface t cs)):=rfl
@[simp] theorem ren1_tup (o q:Nat)(cs:List CV):cH o q (.db cs)=(.db cs):=rfl
@[simp] theorem ok1_tup (o q:Nat)(cs:List CV):kX o q (.db cs)=(aA o (.db cs) && aA q (.db cs)):=rfl
@[simp] theorem renC_tup (o q:Nat)(cs:List CV):jd o q (.db cs)=(.db cs):=rfl
@[simp] theorem okC_tup (o q:Nat)(cs:List CV):vD o q (.db cs)=(aA o (.db cs) && aA q (.db cs)):=rfl
@[simp] theorem ren1_osl (o q:Nat)(p f n:Nat):cH o q (.bw p f n)=.bw (if p=o then q else p) f n:=rfl
@[simp] theorem ok1_osl (o q:Nat)(p f n:Nat):kX o q (.bw p f n)=(p != q):=rfl
@[simp] theorem renC_osl (o q:Nat)(p f n:Nat):jd o q (.bw p f n)=.bw (if p=o then q else p) f n:=rfl
@[simp] theorem okC_osl (o q:Nat)(p f n:Nat):vD o q (.bw p f n)=(p != q):=rfl
@[simp] theorem I7 (o q:Nat)(p f:Nat):cH o q (.ai p f)=.ai (if p=o then q else p) f:=rfl
@[simp] theorem ok1_optr (o q:Nat)(p f:Nat):kX o q (.ai p f)=(p != q):=rfl
@[simp] theorem I4 (o q:Nat)(p f:Nat):jd o q (.ai p f)=.ai (if p=o then q else p) f:=rfl
@[simp] theorem okC_optr (o q:Nat)(p f:Nat):vD o q (.ai p f)=(p != q):=rfl
@[simp] theorem ren1_any (o q:Nat)  : cH o q .any=.any:=rfl
@[simp] theorem ok1_any (o q:Nat)  : kX o q .any=(aA o .any && aA q .any):=rfl
@[simp] theorem renC_any (o q:Nat)  : jd o q .any=.any:=rfl
@[simp] theorem okC_any (o q:Nat)  : vD o q .any=(aA o .any && aA q .any):=rfl
attribute [simp] tg uL okH
end
theorem bb {α:Type}{f:α→List CV}{n:Nat}(hf:∀ x,(f x).length=n){m:List α}{i:Nat}{e:α}(h:m[i]? = some e)(k:Nat)(hk:k≤n):(m.flatMap f).drop (i*n+k)=(f e).drop k++(m.drop (i+1)).flatMap f:=by
 rw[← List.drop_drop,az hf h,List.drop_append_of_le_length (by rw[hf];exact hk)]
theorem n7 (o q:Nat)(c:CV)(h:tree c=true):kX o q c=true:=by
 cases c<;>first | (simp[tree] at h;done) | (simp only[kX,Bool.and_eq_true];exact⟨kr _ _ h,kr _ _ h⟩)
theorem AU (o q:Nat)(c:CV)(h:tree c=true):cH o q c=c:=by
 cases c<;>first | (simp[tree] at h;done) | rfl
theorem jW {cs:List CV}(h:trees cs=true):∀ c∈cs,tree c=true:=by
 induction cs with
 | nil=>simp
 | cons c cs ih=>
  simp only[trees,Bool.and_eq_true] at h;intro x hx;rcases List.mem_cons.1 hx with rfl | hx
  ·exact h.1
  ·exact ih h.2 x hx
theorem aj {cs:List CV}(h:trees cs=true)(n:Nat):cs.all (aZ n)=true:=List.all_eq_true.2 fun c hc=>bq n c (jW h c hc)
theorem aY {cs:List CV}(h:trees cs=true)(o q:Nat):cs.all (kX o q)=true:=List.all_eq_true.2 fun c hc=>n7 o q c (jW h c hc)
theorem aM {cs:List CV}(h:trees cs=true)(o q:Nat):cs.map (cH o q)=cs:=by
 have:∀ c∈cs,cH o q c=id c:=fun c hc=>AU o q c (jW h c hc);rw[List.map_congr_left this,List.map_id]
mutual
/-- The objects' numbers turned. -/
def en (ρ:Nat→Nat):CV→CV
 | .int k n=>.int k n
 | .bool b=>.bool b
 | .str s=>.str s
 | .agg cs=>.agg (cg ρ cs)
 | .au cs n=>.au cs n
 | .ag=>.ag
 | .cc cs=>.cc cs
 | .bg=>.bg
 | .fn f cs=>.fn f (cg ρ cs)
 | .bT=>.bT
 | .iface t cs=>.iface t (cg ρ cs)
 | .iter k s p=>.iter (ρ k) s p
 | .mp k es=>.mp (ρ k) es
 | .db cs=>.db (cg ρ cs)
 | .bw o f n=>.bw (ρ o) f n
 | .ai o f=>.ai (ρ o) f
 | .any=>.any
def cg (ρ:Nat→Nat):List CV→List CV
 | []=>[]
 | c::cs=>en ρ c::cg ρ cs
end
theorem lW (ρ:Nat→Nat):∀ cs:List CV,cg ρ cs=cs.map (en ρ)
 | []=>rfl
 | c::cs=>by rw[cg,lW ρ cs,List.map_cons]
theorem Fq (ρ:Nat→Nat)(c:CV):one (en ρ c)=one c:=by cases c<;>rfl
theorem eX (ρ:Nat→Nat)(cs:List CV):(cg ρ cs).all one=cs.all one:=by
 induction cs with
 | nil=>rfl
 | cons c cs ih=>simp only[cg,List.all_cons,Fq,ih]
mutual
theorem VR.cA {w:World}{F:Nat→Prop}{σ:Nat→Option OB}(ρ:Nat→Nat):∀ (c:CV) (v:Value),VR w F σ (en ρ c) v↔VR w F (fun p=>σ (ρ p)) c v
 | .int _ _,v=>by simp only[en,VR]
 | .bool _,v=>by simp only[en,VR]
 | .str _,v=>by simp only[en,VR]
 | .agg cs,v=>by
  simp only[en,VR,eX];constructor
  ·rintro⟨vs,h1,h2,h3⟩;exact⟨vs,h1,(aG.cA ρ cs vs).1 h2,h3⟩
  ·rintro⟨vs,h1,h2,h3⟩;exact⟨vs,h1,(aG.cA ρ cs vs).2 h2,h3⟩
 | .au _ _,v=>by simp only[en,VR]
 | .ag,v=>by simp only[en,VR]
 | .cc _,v=>by simp only[en,VR]
 | .bg,v=>by simp only[en,VR]
 | .fn _ cs,v=>by
  simp only[en,VR];constructor
  ·rintro⟨vs,h1,h2⟩;exact⟨vs,h1,(aG.cA ρ cs vs).1 h2⟩
  ·rintro⟨vs,h1,h2⟩;exact⟨vs,h1,(aG.cA ρ cs vs).2 h2⟩
 | .bT,v=>by simp only[en,VR]
 | .iface _ cs,v=>by
  simp only[en,VR];constructor
  ·rintro⟨vs,h1,h2⟩;exact⟨vs,h1,(aG.cA ρ cs vs).1 h2⟩
  ·rintro⟨vs,h1,h2⟩;exact⟨vs,h1,(aG.cA ρ cs vs).2 h2⟩
 | .iter _ _ _,v=>by simp only[en,VR]
 | .mp _ _,v=>by simp only[en,VR]
 | .db cs,v=>by
  simp only[en,VR];constructor
  ·rintro⟨vs,h1,h2⟩;exact⟨vs,h1,(aG.cA ρ cs vs).1 h2⟩
  ·rintro⟨vs,h1,h2⟩;exact⟨vs,h1,(aG.cA ρ cs vs).2 h2⟩
 | .bw _ _ _,v=>by simp only[en,VR]
 | .ai _ _,v=>by simp only[en,VR]
 | .any,v=>by simp only[en,VR]
theorem aG.cA {w:World}{F:Nat→Prop}{σ:Nat→Option OB}(ρ:Nat→Nat):∀ (cs:List CV) (vs:List Value),aG w F σ (cg ρ cs) vs↔aG w F (fun p=>σ (ρ p)) cs vs
 | [],vs=>by simp only[cg,aG]
 | c::cs,vs=>by
  simp only[cg,aG];constructor
  ·rintro⟨v,r,h1,h2,h3⟩;exact⟨v,r,h1,(VR.cA ρ c v).1 h2,(aG.cA ρ cs r).1 h3⟩
  ·rintro⟨v,r,h1,h2,h3⟩;exact⟨v,r,h1,(VR.cA ρ c v).2 h2,(aG.cA ρ cs r).2 h3⟩
end
def cr (ρ:Nat→Nat)(ob:Ob):Ob:=⟨ob.elem,ob.sz,cg ρ ob.cells⟩
def bY (ρ:Nat→Nat):List (Nat×Ob)→List (Nat×Ob)
 | []=>[]
 | (k,ob)::r=>(ρ k,cr ρ ob)::bY ρ r
def dP (ρ:Nat→Nat):List (Nat×CV)→List (Nat×CV)
 | []=>[]
 | (t,c)::r=>(t,en ρ c)::dP ρ r
theorem eL (ρ:Nat→Nat):∀ (e:List (Nat×CV)) (t:Nat),assoc (dP ρ e) t=(assoc e t).map (en ρ)
 | [],t=>rfl
 | (k,c)::r,t=>by
  simp only[dP,assoc];split
  ·rfl
  ·exact eL ρ r t
theorem bQ {ρ:Nat→Nat}(hi:∀ x y,ρ x=ρ y→x=y):∀ (H:List (Nat×Ob)) (o:Nat),assoc (bY ρ H) (ρ o)=(assoc H o).map (cr ρ)
 | [],o=>rfl
 | (k,c)::r,o=>by
  simp only[bY,assoc];by_cases h:k=o
  ·simp[h]
  ·have:¬ ρ k=ρ o:=fun e=>h (hi _ _ e);simp only[if_neg h,if_neg this];exact bQ hi r o
theorem dy {ρ:Nat→Nat}:∀ (H:List (Nat×Ob)) (q:Nat) (ob:Ob),assoc (bY ρ H) q=some ob→∃ o,q=ρ o
 | [],q,ob,h=>by simp[bY,assoc] at h
 | (k,c)::r,q,ob,h=>by
  simp only[bY,assoc] at h;split at h
  ·rename_i e;exact⟨k,e.symm⟩
  ·exact dy r q ob h
section
variable {P:Program}{C:Cx}{σ:Nat→Option OB}{s:St}{a:Act}{w:World}{ops:Array Oper}{ak:List (Nat×TI)}
theorem AS (ρ:Nat→Nat)(cs:List CV)(k:Nat):cg ρ (cs.drop k)=(cg ρ cs).drop k:=by rw[lW,lW,List.map_drop]
theorem AR (ρ:Nat→Nat)(cs:List CV)(k:Nat):cg ρ (cs.take k)=(cg ρ cs).take k:=by rw[lW,lW,List.map_take]
theorem fk (ρ:Nat→Nat)(cs:List CV):(cg ρ cs).length=cs.length:=by rw[lW,List.length_map]
theorem Bl {ρ:Nat→Nat}(hi:∀ x y,ρ x=ρ y→x=y)(e:List (Nat×CV))(H:List (Nat×Ob))(n m:Nat)(c:CV)(ht:∀ cs,c=.cc cs→cg ρ cs=cs):fD ⟨dP ρ e,bY ρ H,m⟩ (en ρ c)=(fD ⟨e,H,n⟩ c).map (cg ρ):=by
 cases c with
 | cc cs=>
  simp only[en,fD,Option.map_some,Option.some.injEq];exact (ht cs rfl).symm
 | ai o off=>
  simp only[en,fD,bQ hi]
  cases assoc H o with
  | none=>rfl
  | some ob=>simp[cr,AS]
 | _=>rfl
mutual
theorem bK.tree {w:World}{F:Nat→Prop}:∀ (c:CV) (v:Value),bK w F c v→Can.tree c=true
 | .int _ _,_,_=>rfl
 | .bool _,_,_=>rfl
 | .str _,_,_=>rfl
 | .agg cs,v,h=>by
  simp only[bK] at h;obtain⟨vs,_,h2,_⟩:=h;simp only[Can.tree];exact bt.tree cs vs h2
 | .au _ _,_,_=>rfl
 | .ag,_,_=>rfl
 | .cc _,_,_=>rfl
 | .bg,_,_=>rfl
 | .fn _ cs,v,h=>by
  simp only[bK] at h;obtain⟨vs,_,h2⟩:=h;simp only[Can.tree];exact bt.tree cs vs h2
 | .bT,_,_=>rfl
 | .iface _ cs,v,h=>by
  simp only[bK] at h;obtain⟨vs,_,h2⟩:=h;simp only[Can.tree];exact bt.tree cs vs h2
 | .iter _ _ _,v,h=>by simp[bK] at h
 | .mp _ _,v,h=>by simp[bK] at h
 | .db cs,v,h=>by
  simp only[bK] at h;obtain⟨vs,_,h2⟩:=h;simp only[Can.tree];exact bt.tree cs vs h2
 | .bw _ _ _,v,h=>by simp[bK] at h
 | .ai _ _,v,h=>by simp[bK] at h
 | .any,_,_=>rfl
theorem bt.tree {w:World}{F:Nat→Prop}:∀ (cs:List CV) (vs:List Value),bt w F cs vs→trees cs=true
 | [],_,_=>rfl
 | c::cs,vs,h=>by
  simp only[bt] at h;obtain⟨v,r,_,h2,h3⟩:=h;simp only[trees,bK.tree c v h2,bt.tree cs r h3,Bool.and_self]
end
theorem ej.tree {w:World}{F:Nat→Prop}:∀ (cs:List CV) (ad:Addr),ej w F cs ad→trees cs=true
 | [],_,_=>rfl
 | c::cs,ad,h=>by
  simp only[ej] at h;obtain⟨⟨u,_,_,h3⟩,_,h5⟩:=h;simp only[trees,bK.tree c u h3,ej.tree cs _ h5,Bool.and_self]
mutual
theorem fO (ρ:Nat→Nat):∀ c:CV,Can.tree c=true→en ρ c=c
 | .int _ _,_=>rfl
 | .bool _,_=>rfl
 | .str _,_=>rfl
 | .agg cs,h=>by
  simp only[Can.tree] at h;rw[en,aF ρ cs h]
 | .au _ _,_=>rfl
 | .ag,_=>rfl
 | .cc _,_=>rfl
 | .bg,_=>rfl
 | .fn _ cs,h=>by
  simp only[Can.tree] at h;rw[en,aF ρ cs h]
 | .bT,_=>rfl
 | .iface _ cs,h=>by
  simp only[Can.tree] at h;rw[en,aF ρ cs h]
 | .iter _ _ _,h=>by simp[Can.tree] at h
 | .mp _ _,h=>by simp[Can.tree] at h
 | .db cs,h=>by
  simp only[Can.tree] at h;rw[en,aF ρ cs h]
 | .bw _ _ _,h=>by simp[Can.tree] at h
 | .ai _ _,h=>by simp[Can.tree] at h
 | .any,_=>rfl
theorem aF (ρ:Nat→Nat):∀ cs:List CV,trees cs=true→cg ρ cs=cs
 | [],_=>rfl
 | c::cs,h=>by
  simp only[trees,Bool.and_eq_true] at h;rw[cg,fO ρ c h.1,aF ρ cs h.2]
end
theorem Bz (ρ:Nat→Nat)(i:TI)(cs:List CV):kj i (cg ρ cs)=(kj i cs).map (en ρ):=by
 unfold kj;rw[fk];split
 ·split
  ·simp[en,AR]
  ·rfl
 ·cases cs<;>rfl
theorem By {ρ:Nat→Nat}(hi:∀ x y,ρ x=ρ y→x=y){e:List (Nat×CV)}{H:List (Nat×Ob)}{n m:Nat}(ht:∀ t cs,assoc e t=some (.cc cs)→cg ρ cs=cs)(r:ResultVar):mM ak ⟨dP ρ e,bY ρ H,m⟩ r=(mM ak ⟨e,H,n⟩ r).map (en ρ):=by
 cases r with
 | tmp t=>exact eL ρ e t
 | cell x t=>
  simp only[mM,eL]
  cases hx:assoc e x with
  | none=>rfl
  | some c=>
   have hm:=Bl hi e H n m c fun cs hc=>ht x cs (by rw[hx,hc])
   cases XU:assoc ak t with
   | none=>rfl
   | some i=>
    simp only[Option.map_some,hm]
    cases fD ⟨e,H,n⟩ c with
    | none=>rfl
    | some cs=>exact Bz ρ i cs
theorem ue {ρ:Nat→Nat}(hi:∀ x y,ρ x=ρ y→x=y){e:List (Nat×CV)}{H:List (Nat×Ob)}{n m:Nat}(ht:∀ t cs,assoc e t=some (.cc cs)→cg ρ cs=cs):∀ rs:List ResultVar,jo ak ⟨dP ρ e,bY ρ H,m⟩ rs=(jo ak ⟨e,H,n⟩ rs).map (cg ρ)
 | []=>rfl
 | r::rs=>by
  simp only[jo,By (n:=n) (m:=m) hi ht r,ue (n:=n) (m:=m) hi ht rs]
  cases mM ak ⟨e,H,n⟩ r with
  | none=>rfl
  | some c=>cases jo ak ⟨e,H,n⟩ rs<;>rfl
theorem oz {ρ:Nat→Nat}(hi:∀ x y,ρ x=ρ y→x=y){e:List (Nat×CV)}{H:List (Nat×Ob)}{n m:Nat}(ht:∀ t cs,assoc e t=some (.cc cs)→cg ρ cs=cs)(fn:Func):bf ak fn ⟨dP ρ e,bY ρ H,m⟩=(bf ak fn ⟨e,H,n⟩).map (en ρ):=by
 simp only[bf,ue (n:=n) (m:=m) hi ht]
 cases jo ak ⟨e,H,n⟩ fn.results.toList with
 | none=>rfl
 | some cs=>
  match cs with
  | []=>rfl
  | [c]=>rfl
  | c::d::r=>rfl
theorem tY (ρ:Nat→Nat)(args:List CV):(enter (cg ρ args)).env=dP ρ (enter args).env:=by
 have:∀ (args:List CV) (k:Nat),((cg ρ args).zipIdx k).map (fun x=>(x.2,x.1))=dP ρ ((args.zipIdx k).map fun x=>(x.2,x.1)):=by
  intro args
  induction args with
  | nil=>intro k;rfl
  | cons c cs ih=>intro k;simp only[cg,List.zipIdx_cons,List.map_cons,dP,ih]
 exact this args 0
theorem Body.mq {ρ:Nat→Nat}(hi:∀ x y,ρ x=ρ y→x=y){f:FuncId}{args:List CV}{H:List (Nat×Ob)}{n n':Nat}{R:CV→St→Prop}(hρ:∀ p,p<n→ρ p<n')(h:Body P ak f args H n R)(ha:aO n args=true)(hH:cV n H=true)(hR:∀ r s,R r s→s.nx=n) :
  Body P ak f (cg ρ args) (bY ρ H) n' fun r s=>∃ r1 s1,R r1 s1∧r=en ρ r1∧s=⟨dP ρ s1.env,bY ρ s1.heap,n'⟩:=by
 obtain⟨fn,c,hf,hb,KV,hl,hT⟩:=h;refine⟨fn,c,hf,hb,KV,by rw[fk];exact hl,fun C' hC xJ a w ⟨σ,hr⟩=>?_⟩;rw[tY] at hr;have AW:∀ (t:Nat) c o,assoc (enter args).env t=some c→aA o c=false→o<n:=fun t c o hc ho=>by
  obtain⟨_,h2⟩:=eW args 0 t c hc;have hm:c∈args:=List.mem_of_getElem? h2;rw[bU,List.all_eq_true] at ha;exact j0 n c o (ha c hm) ho
 obtain⟨σt,hσt⟩:∃ σt:Nat→Option OB,σt=below (fun p=>σ (ρ p)) n fun _=>none:=⟨_,rfl⟩;have t1:∀ p,p<n→σt p=σ (ρ p):=fun p hp=>by rw[hσt];exact fq hp
 have t2:∀ p,n≤p→σt p=none:=fun p hp=>by rw[hσt];exact jb hp
 have LV:∀ (G:List (Nat×Ob)),(∀ o ob,assoc G o=some ob→o<n)→∀ b,(C'.F b∨∃ o ob,assoc G o=some ob∧aH σt o=some b)↔FB C' σ (bY ρ G) b:=fun G hG b=>by
  unfold FB;constructor
  ·rintro (h | ⟨o,ob,ho,hx⟩)
   ·exact .inl h
   ·refine .inr ⟨ρ o,cr ρ ob,by rw[bQ hi,ho];rfl,?_⟩;unfold aH at hx ⊢;rwa [t1 o (hG o ob ho)] at hx
  ·rintro (h | ⟨q,ob,hq,hx⟩)
   ·exact .inl h
   ·obtain⟨o,rfl⟩:=dy G q ob hq;rw[bQ hi] at hq;obtain⟨Ka,ho,_⟩:=Option.map_eq_some_iff.1 hq;refine .inr ⟨o,Ka,ho,?_⟩;unfold aH at hx ⊢;rwa [t1 o (hG o Ka ho)]
 have LH:∀ o ob,assoc H o=some ob→o<n:=fun o ob ho=>(gE hH o ob ho).1;have h0:aB ⟨C'.w0,C'.F,C'.own,C'.hF,C'.nt,σt,n⟩ σt ⟨(enter args).env,H,n⟩ a w:=by
  have hK:b9 w w (FB C' σ (bY ρ H)) (FB ⟨C'.w0,C'.F,C'.own,C'.hF,C'.nt,σt,n⟩ σt H):=b9.same fun b hx=>(LV H LH b).1 hx;refine⟨hr.me,hr.tm,hr.os,hr.tape,hr.output,hr.size,hr.frame,?_,?_,?_,fun o ho=>t2 o ho,fun _ _=>rfl,Nat.le_refl _,fun o B b ho hB _=>by rw[t2 o ho] at hB;cases hB⟩
  ·intro t c hc;obtain⟨v,k1,k2⟩:=hr.env t (en ρ c) (by rw[eL,hc];rfl);refine⟨v,k1,?_⟩;exact VR.a7 hK _ _ (fun o ho=>t1 o (AW t c o hc ho)) ((VR.cA ρ c v).1 k2)
  ·intro o ob ho;obtain⟨B,m1,m2,m3,m4,m5⟩:=hr.obj (ρ o) (cr ρ ob) (by rw[bQ hi,ho];rfl);have yN:=LH o ob ho;refine⟨B,by rw[t1 o yN];exact m1,m2,fun hb=>?_,by have:=m4;simp only[cr,eX] at this;exact this,fun b hb=>?_⟩
   ·have:=m3 hb;simp only[cr] at this;have hl:=fk ρ ob.cells;rw[this] at hl;exact List.eq_nil_of_length_eq_zero hl.symm
   ·obtain⟨cur,n1,n2,n3,n4,n5,n6⟩:=m5 b hb;simp only[cr,fk] at n5 n6;refine⟨cur,n1,n2,n3,n4,n5,?_⟩;exact aG.a7 hK _ _ (fun p hp=>t1 p (dS n _ p (gE hH o ob ho).2 hp)) ((aG.cA ρ _ _).1 n6)
  ·intro o o' ob Ka b ho Kv hx K5;unfold aH at hx K5;rw[t1 o (LH o ob ho)] at hx;rw[t1 o' (LH o' Ka Kv)] at K5;exact hi _ _ (hr.inj (ρ o) (ρ o') (cr ρ ob) (cr ρ Ka) b (by rw[bQ hi,ho];rfl) (by rw[bQ hi,Kv];rfl) hx K5)
 refine wp_mono (hT ⟨C'.w0,C'.F,C'.own,C'.hF,C'.nt,σt,n⟩ hC rfl a w ⟨_,h0⟩) fun e a' w' ⟨s1,q,σ1,KL⟩=>?_;have fin:aa ⟨C'.w0,C'.F,C'.own,C'.hF,C'.nt,σt,n⟩ (fun s'=>∃ r,bf ak fn s'=some r∧R r s') s1 →
   ∃ s',aa C' (fun s'=>∃ r,bf ak fn s'=some r∧∃ r1 s1,R r1 s1∧r=en ρ r1∧s'=⟨dP ρ s1.env,bY ρ s1.heap,n'⟩) s'∧Rel C' s' a' w':=fun⟨s2,⟨r,q1,q2⟩,hle⟩=>by
  obtain⟨σ2,Kl⟩:=hle _ _ ⟨σ1,KL⟩;have Ny:=hR r s2 q2;obtain⟨e2,H2,n2⟩:=s2;simp only at Ny;subst Ny;have hσ2:σ2=σt:=by
   funext p;rcases Nat.lt_or_ge p n2 with hp | hp
   ·exact Kl.fM p hp
   ·rw[Kl.nx p hp,t2 p hp]
  subst hσ2;have yN:∀ o B,σ2 o=some B→o<n2:=fun o B hB=>Nat.lt_of_not_le fun hle=>by rw[Kl.nx o hle] at hB;cases hB
  have Ot:∀ o ob,assoc H2 o=some ob→o<n2:=fun o ob ho=>by
   obtain⟨B,m1,_⟩:=Kl.obj o ob ho;exact yN o B m1
  have hK:b9 w' w' (FB ⟨C'.w0,C'.F,C'.own,C'.hF,C'.nt,σ2,n2⟩ σ2 H2) (FB C' σ (bY ρ H2)):=b9.same fun b hx=>(LV H2 Ot b).2 hx;refine⟨⟨dP ρ e2,bY ρ H2,n'⟩,aa.here ⟨en ρ r,?_,r,_,q2,rfl,rfl⟩,σ,?_⟩
  ·rw[oz (n:=n2) hi (fun t cs hc=>?_),q1]
   ·rfl
   ·obtain⟨v,_,k2⟩:=Kl.env t _ hc;simp only[VR,bK] at k2;obtain⟨ad,_,h3⟩:=k2;exact aF ρ cs (ej.tree cs ad h3)
  ·refine⟨Kl.me,Kl.tm,Kl.os,Kl.tape,Kl.output,Kl.size,Kl.frame,?_,?_,?_,hr.nx,hr.fM,by rw[xJ];exact Nat.le_refl _,hr.new⟩
   ·intro t c hc;simp only[eL] at hc;obtain⟨d,hd,rfl⟩:=Option.map_eq_some_iff.1 hc;obtain⟨v,k1,k2⟩:=Kl.env t d hd;refine⟨v,k1,(VR.cA ρ d v).2 (VR.a7 hK _ _ (fun o ho=>?_) k2)⟩;obtain⟨B,hB⟩:=VR.refs _ _ o k2 ho;exact (t1 o (yN o B hB)).symm
   ·intro q ob hq;obtain⟨o,rfl⟩:=dy H2 q ob hq;simp only[bQ hi] at hq;obtain⟨Ka,ho,rfl⟩:=Option.map_eq_some_iff.1 hq;obtain⟨B,m1,m2,m3,m4,m5⟩:=Kl.obj o Ka ho;refine⟨B,by rw[← t1 o (Ot o Ka ho)];exact m1,m2,fun hb=>by simp only[cr,m3 hb];rfl,by simp only[cr,eX];exact m4,fun b hb=>?_⟩;obtain⟨cur,n1,SA,n3,n4,n5,n6⟩:=m5 b hb;simp only[cr,fk];refine⟨cur,n1,SA,n3,n4,n5,(aG.cA ρ _ _).2 (aG.a7 hK _ _ (fun p hp=>?_) n6)⟩;obtain⟨B',L0⟩:=aG.refs _ _ p n6 hp;exact (t1 p (yN p B' L0)).symm
   ·intro q q' ob Ka b hq MQ hx K5;obtain⟨o,rfl⟩:=dy H2 q ob hq;obtain⟨o',rfl⟩:=dy H2 q' Ka MQ;simp only[bQ hi] at hq MQ;obtain⟨x,ho,_⟩:=Option.map_eq_some_iff.1 hq;obtain⟨x',Kv,_⟩:=Option.map_eq_some_iff.1 MQ;unfold aH at hx K5;rw[← t1 o (Ot o x ho)] at hx;rw[← t1 o' (Ot o' x' Kv)] at K5;rw[Kl.inj o o' x x' b ho Kv hx K5]
 cases e with
 | normal=>exact fin q
 | ret=>exact fin q
 | exit _=>exact q.elim
 | goto _=>exact q.elim
 | panic _=>exact q.elim
 | outgrown=>exact q.elim
def nR (a b p:Nat):Nat:=if p=a then b else if p=b then a else p
theorem EZ (a b:Nat):∀ x y,nR a b x=nR a b y→x=y:=by
 intro x y h;unfold nR at h;split at h<;>split at h<;>(try split at h)<;>(try split at h)<;>omega
theorem Hg {a b n m:Nat}(ha:a<n)(hb:b<m)(hn:n≤m):∀ p,p<n→nR a b p<m:=by
 intro p hp;unfold nR;split
 ·exact hb
 ·split<;>omega
theorem Body.retX {f:FuncId}{args:List CV}{H H1:List (Nat×Ob)}{n m:Nat}{r0:CV}(a b:Nat)(h:Body P ak f args H n (jQ r0 H1 n))(ha:a<n)(hb:b<m)(hn:n≤m)(hr:aO n args=true)(hH:cV n H=true)(ht:tree r0=true) :
  Body P ak f (cg (nR a b) args) (bY (nR a b) H) m (jQ r0 (bY (nR a b) H1) m):=
 (Body.mq (EZ a b) (Hg ha hb hn) h hr hH fun r s h=>h.2.2).ret fun r s ⟨r1,s1,h1,h2,h3⟩=>by
  obtain⟨k1,k2,k3⟩:=h1;subst h3;rw[h2,k1,fO _ _ ht,k2];exact⟨rfl,rfl,rfl⟩
theorem TL.hZ (Mw:ay P ak){o:Oper}{l:List Oper}{c:Call}{g:FuncId}{args:List CV}{K:St→Prop}{r0:CV}{H1:List (Nat×Ob)}(a b:Nat)(ks:List Nat){H:List (Nat×Ob)}(n:Nat)(hb:Body P ak g args H n (jQ r0 H1 n))(hd:a9 C.nt o.dst=true)(hg:bM ops s o=Option.some true)(ho:o.op=.call c)(Kj:bl s c=Option.some (g,cg (nR a b) args))
  (hp:er s.heap ks=Option.some (bY (nR a b) H)) (W1:a<n) (WW:b<s.nx) (hn:n≤s.nx) (ha:aO n args=true) (hH:cV n H=true) (ht:tree r0=true) (Ms:aO s.nx (cg (nR a b) args)=true) (W7:cV s.nx (bY (nR a b) H)=true) (hk:kA ks (bY (nR a b) H1)=true)
  (hK:TL P C ops l (St.put ⟨s.env,bY (nR a b) H1++dG s.heap ks,s.nx⟩ o.dst r0) K):TL P C ops (o::l) s K:=
 TL.cd Mw ks s.nx (hb.retX a b W1 WW hn ha hH ht) hd hg ho Kj hp (Nat.le_refl _) Ms W7 hk hK
variable {W:List oR}{nt N:Nat}{dyn:List (Nat×Nat)}{K:St→Prop}{i:Nat}{r:List Nat}{res:Nat→Er}
theorem RX.hZ {o:Oper}{cl:Call}{g:FuncId}{args:List CV}{r0:CV}{H1:List (Nat×Ob)}(a b:Nat)(ks dO:List Nat){H:List (Nat×Ob)}(n:Nat)(hb:Body P ak g args H n (jQ r0 H1 n))(hi:ops[i]? = Option.some o)(hd:a9 nt o.dst=true)(hg:bM ops s o=Option.some true)(hu:bR o=Option.some cl)(Kj:bl s cl=Option.some (g,cg (nR a b) args))
  (hp:er s.heap ks=Option.some (bY (nR a b) H)) (W1:a<n) (WW:b<s.nx) (hn:n≤s.nx) (ha:aO n args=true) (hH:cV n H=true) (ht:tree r0=true) (Ms:aO s.nx (cg (nR a b) args)=true) (W7:cV s.nx (bY (nR a b) H)=true) (hk:kA ks (bY (nR a b) H1)=true) (hv:xU dyn res i ks=true) (hc:(dO.all fun p=>ks.contains p)=true) (hs:∀ p∈ks,p∉dO→assoc (bY (nR a b) H1) p=assoc (bY (nR a b) H) p)
  (hK:rV W dyn res i (ny r0 ks dO (bY (nR a b) H1))∧kV ak W nt ops N dyn (zD P ak W nt ops N dyn K) r (note dyn res i (ny r0 ks dO (bY (nR a b) H1))) (St.put ⟨s.env,bY (nR a b) H1++dG s.heap ks,s.nx⟩ o.dst r0)):RX P ak W nt ops N dyn K (i::r) res s:=
 RX.cd ks dO s.nx (hb.retX a b W1 WW hn ha hH ht) hi hd hg hu Kj hp (Nat.le_refl _) Ms W7 hk hv hc hs hK
attribute [simp] bY nR
end
end Go.Can
namespace Go.Proofs.YtlkmbdfhdknlgaaGreatDoor
open Go.Can Go.aT
theorem ur (x n:Int)(h0:0<n)(h1:n≤4611686018427387904):(IntKind.i64.wrap (x.tmod n+n)).tmod n=x % n∧n≠0:=by
 have K1 : -n<x.tmod n:=by
  have:=Int.lt_tmod_of_pos x h0;omega
 have K0:x.tmod n<n:=Int.tmod_lt_of_pos x h0;have hw:=cm (x.tmod n+n) yA yA;refine⟨?_,by omega⟩;rw[hw,Int.tmod_eq_emod_of_nonneg yA,Int.add_emod_right,Int.tmod_def];simp
theorem AA (x n:Int)(h0:0<n)(h1:n≤4611686018427387904):ae Tryz.prog 8 [I x,I n] (I (x % n)):=by
 refine ae.aD af Tryz.func8 rfl lz (by simp[Tryz.ntmps8]) rfl fun C hC xJ=>?_;rw[Tryz.ntmps8] at hC;obtain⟨ha,hn⟩:=ur x n h0 h1;apply ah;simp[hC];apply ah;simp[hC,hn,ha];apply T.ret;apply aa.here;simp[Tryz.results8]
theorem Ik (l:List Int)(n:Nat)(_hl:l.length≤9223372036854775807):ae Tryz.prog 21 [ints l,I n] (ints (l.take n)):=by
 refine ae.aD af Tryz.func21 rfl lz (by simp[Tryz.ntmps21]) rfl fun C hC xJ=>?_;rw[Tryz.ntmps21] at hC;apply ah;simp[hC];apply aL;simp[hC,ints];refine T.aX rfl (fun h=>?_) (fun h=>?_)
 ·have hn:n<l.length:=by simpa using h
  have OF:n≤l.length:=by omega
  apply ah;simp[hC,hn,OF];apply T.ret;apply aa.here;simp[Tryz.results21]
 ·have hn:l.length≤n:=by simpa using h
  apply T.skip;simp;apply ah;simp[hC];apply T.ret;apply aa.here;simp[Tryz.results21];exact⟨(List.take_of_length_le (by simpa using hn)).symm,(Nat.min_eq_right hn).symm⟩
def ax (L:List Int)(i:Nat):Ob:=⟨69,0,[ints L,I i]⟩
def aW (l:List ByteArray):Ob:=⟨9,1,l.map .str⟩
theorem dE (l:List ByteArray):trees (l.map CV.str)=true:=by
 induction l with
 | nil=>rfl
 | cons a r ih=>simp only[List.map_cons,trees,ih,tree,Bool.and_self]
@[simp] theorem nmOb_frz (l:List ByteArray)(o:Nat)(cs:List CV)(n:Nat):(⟨(aW l).elem,(aW l).sz,(aW l).cells.map (bZ o cs n)⟩:Ob)=aW l:=by simp[aW]
@[simp] theorem I0 (ρ:Nat→Nat)(l:List ByteArray):cr ρ (aW l)=aW l:=by
 simp only[cr,aW,aF ρ _ (dE l)]
@[simp] theorem Hq (ρ:Nat→Nat)(L:List Int)(i:Nat):cr ρ (ax L i)=ax L i:=by
 simp only[cr,ax,aF ρ [ints L,I i] rfl]
@[simp] theorem FE (l:List ByteArray)(n:Nat):(aW l).cells.all (aZ n)=true:=aj (dE l) n
@[simp] theorem nmOb_lts (l:List ByteArray)(n:Nat):aO n (aW l).cells=true:=by rw[bU];exact aj (dE l) n
@[simp] theorem Gh (l:List ByteArray)(n:Nat):l.all (aZ n∘CV.str)=true:=List.all_eq_true.2 fun _ _=>rfl
@[simp] theorem GX (l:List ByteArray)(o q:Nat):l.all (kX o q∘CV.str)=true:=List.all_eq_true.2 fun _ _=>rfl
@[simp] theorem BN (l:List ByteArray)(n o q:Nat):l.all (aZ n∘cH o q∘CV.str)=true:=List.all_eq_true.2 fun _ _=>rfl
@[simp] theorem HB (o q:Nat):cH o q∘CV.str=CV.str:=rfl
@[simp] theorem nmOb_ok1 (l:List ByteArray)(o q:Nat):(aW l).cells.all (kX o q)=true:=aY (dE l) o q
@[simp] theorem Bj (l:List ByteArray)(o q:Nat):(aW l).cells.map (cH o q)=(aW l).cells:=aM (dE l) o q
@[simp] theorem nmOb_eta (l:List ByteArray):(⟨(aW l).elem,(aW l).sz,(aW l).cells⟩:Ob)=aW l:=rfl
@[simp] theorem Jl (l:List ByteArray)(n o q:Nat):(aW l).cells.all (aZ n∘cH o q)=true:=by rw[← List.all_map,Bj];exact FE l n
@[simp] theorem IW (L:List Int)(i o:Nat)(cs:List CV)(n:Nat):(⟨(ax L i).elem,(ax L i).sz,(ax L i).cells.map (bZ o cs n)⟩:Ob)=ax L i:=by simp[ax,ints]
theorem bX (L:List Int)(i n:Nat)(_hi:i≤L.length)(hL:L.length≤1000)(hn:0<n)(Mp:n≤4611686018427387904) :
  Body Tryz.prog ak 22 [.ai 0 0,I n] [(0,ax L i)] 1 (jQ (I (bO L i n).1) [(0,ax L (bO L i n).2)] 1):=by
 refine Body.je Tryz.func22 rfl lz (by simp[Tryz.ntmps22]) fun C hC xJ=>?_;rw[Tryz.ntmps22] at hC;apply ah;simp[hC];refine T.seq (T.seq ?_);refine T.rx af follows [0,1,2,3,4,5,6,7,8,9] [] lz ?_;simp[hC,ax,ints];refine T.aX rfl (fun h=>?_) (fun h=>?_)
 ·have nr:L.length≤i:=by simpa using h
  have hx:bO L i n=(0,i):=by
   unfold bO;rw[List.getElem?_eq_none nr]
  apply ah;simp[hC];apply T.ret;refine aa.trim [4] [0] 1 j5 yA ⟨_,rfl,?_⟩;simp[jQ,hx]
 ·have nr:i<L.length:=by simpa using h
  obtain⟨x,NZ⟩:∃ x,L[i]? = some x:=⟨L[i],List.getElem?_eq_getElem nr⟩;have hx:bO L i n=((x % (n:Int)).toNat,i+1):=by
   unfold bO;rw[NZ]
  have wi:=cm ((i:Int)+1) yA yA;have wj:((i:Int)+1)-1=(i:Int):=by omega
  have wk:=cm (i:Int) yA yA;have he:=Int.emod_nonneg x (show (n:Int)≠0 by omega);have het:(((x % (n:Int)).toNat:Nat):Int)=x % n:=Int.toNat_of_nonneg he;have Y2:(L.map um).drop i=I x::(L.map um).drop (i+1):=by
   rw[List.drop_eq_getElem_cons (by simpa using nr)];have:=(List.getElem?_eq_some_iff.1 NZ).2;simp[um,this]
  apply T.skip;simp;apply ah;simp[hC,wi];apply T.seq;refine T.rx af follows [0,1,2,3,4,5,6,7,8,9,10,11,12,13] [] lz ?_;simp[hC,wj,wk,nr,Y2];refine RX.call rfl j5 rfl rfl rfl rfl (AA x n yA yA) ?_;simp;apply T.ret;refine aa.trim [4] [0] 1 j5 yA ⟨_,rfl,?_⟩;simp[jQ,hx,het]
theorem Bh (L:List Int)(i:Nat)(hi:i≤L.length)(hL:L.length≤1000) :
  Body Tryz.prog ak 122 [.ai 0 0] [(0,ax L i)] 1 (jQ (I (sE L i).1) [(0,ax L (sE L i).2)] 1):=by
 refine Body.je Tryz.func122 rfl lz (by simp[Tryz.ntmps122]) fun C hC xJ=>?_;rw[Tryz.ntmps122] at hC;apply ah;simp[hC];apply aL;simp[hC];refine TL.cd af [0] 1 (bX L i 8 hi hL yA yA) yI rfl rfl rfl rfl j5 Ku Kt rfl (TL.go' af ?_);simp[hC];have TA:=aV L 8 hi;refine T.aX rfl (fun h=>?_) (fun h=>?_)
 ·have h1:(bO L i 8).1=1:=by simp at h;omega
  apply ah;simp[hC];refine TL.cd af [0] 1 (bX L _ 4611686018427387904 TA hL yA yA) yI rfl rfl rfl rfl j5 Ku Kt rfl (TL.go' af ?_);simp[hC];apply T.ret;refine aa.trim [2] [0] 1 NJ yA ⟨_,rfl,?_⟩;simp[jQ,sE,h1]
 ·have h1:¬ (bO L i 8).1=1:=by simp at h;omega
  apply T.skip;simp;apply ah;simp[hC];refine TL.cd af [0] 1 (bX L _ 4 TA hL yA yA) yI rfl rfl rfl rfl j5 Ku Kt rfl (TL.go' af ?_);simp[hC];apply T.ret;refine aa.trim [2] [0] 1 NJ yA ⟨_,rfl,?_⟩;simp[jQ,sE,h1]
end Go.Proofs.YtlkmbdfhdknlgaaGreatDoor
