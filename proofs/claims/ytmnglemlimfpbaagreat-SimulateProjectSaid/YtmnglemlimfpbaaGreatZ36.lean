/- block: its memory, and the short forms of its walk. -/
import Derived.Test.YtmnglemlimfpbaaGreatZ35
namespace Go.Proofs.YtmnglemlimfpbaaGreat
open Go.Can Go.aX
def JL (id:Nat):Code→Option Code
 | .block j x=>if j=id then some (.block j x) else JL id x
 | .seq a b=>match JL id a with
  | some c=>some c
  | none=>JL id b
 | .cond _ a b=>match JL id a with
  | some c=>some c
  | none=>JL id b
 | .loop x=>JL id x
 | .scope x=>JL id x
 | _=>none
def jX (f:Func)(id:Nat):Code:=((f.body).bind (JL id)).getD .skip
theorem iA (x:In):trees (dv x)=true:=by
 cases x with
 | set t g e=>simp only[dv,aC,aN,Bool.and_true];rfl
 | call g t l ps=>simp only[dv,aC,aN,trees,tree,Bool.and_true];rfl
 | lock u q=>simp only[dv,aC,aN,cV,Bool.and_true];rfl
 | branch t e=>simp only[dv,aC,aN,Bool.and_true];rfl
 | jump t=>rfl
 | ret=>rfl
theorem gE (e:Ex):∃ o n s cs m,aZ e=[I o,I n,.str s,.av cs m]∧trees cs=true:=⟨_,_,_,_,_,bL e,ai aN _⟩
theorem nI (q:Pl):∃ b n cs m,gz q=[.bool b,I n,.av cs m]∧trees cs=true:=⟨_,_,_,_,by rw[gz,nL],ai aN _⟩
theorem Kk (r:Rf):∃ s cs m,kZ r=[.str s,.av cs m]∧trees cs=true:=⟨_,_,_,by rw[kZ,nL],ai aN _⟩
def fh (l:List In):Ob:=⟨69,12,l.flatMap dv⟩
def fW (l:List Nat):Ob:=⟨3,1,l.map fun n:Nat=>I n⟩
theorem cc (l:List In):trees (l.flatMap dv)=true:=ai iA l
theorem aT (l:List Nat):trees (l.map fun n:Nat=>I n)=true:=by
 induction l with
 | nil=>rfl
 | cons a r ih=>rw[List.map_cons,trees,ih];rfl
theorem yQ (l:List In):(l.flatMap dv).length=l.length*12:=aD (f:=dv) jI l
theorem F7 (x:In):(dv x).map nz=dv x:=by
 cases x with
 | set t g e=>simp[dv,bL,oz]
 | call g t l ps=>simp[dv,bL,oz]
 | lock u q=>simp[dv,bL,gz,nL]
 | branch t e=>simp[dv,bL,oz]
 | jump t=>simp[dv,bL,oz]
 | ret=>simp[dv,bL,oz]
theorem qh (l:List In):(l.flatMap dv).map nz=l.flatMap dv:=by
 induction l with
 | nil=>rfl
 | cons a r ih=>rw[List.flatMap_cons,List.map_append,ih,F7]
def BR (c:CV):Bool:=match c with
 | .aw p 0=>p == 0 || p == 5
 | c=>tree c
section
variable (p:Pg)(E0:List En)(l:List Sm)(i:Nat)
def bE:List (Nat×CV):=[(5,I i),(4,.av (E0.flatMap iu) E0.length),(0,.aw 0 0),(1,.av (bA l) l.length)]
def NS (E:List En)(k st:Nat)(c:List In)(s:List Nat):St:=⟨bE E0 l i,[(0,fQ p E k st 3 c.length 4 s.length),(3,fh c),(4,fW s)],5⟩
def Gr:Sm→Int
 | .gZ _ _=>1
 | .iF _ _=>2
 | .dY g _ _=>if g=true then 4 else 3
 | .dB u _=>if u=true then 6 else 5
 | .lG _ _ _=>7
 | .cJ _ _=>8
 | .jC=>9
def mE (n:Nat):List (Nat×CV):=[(6,.aw 5 0),(7,I n),(5,I i),(4,.av (E0.flatMap iu) E0.length),(0,.aw 0 0),(1,.av (bA l) l.length)]
def mH (E:List En)(k st:Nat)(c:List In)(s:List Nat)(x:Sm):List (Nat×Ob):=[(0,fQ p E k st 3 c.length 4 s.length),(3,fh c),(4,fW s),(5,⟨188,0,ir x⟩)]
def MS (E:List En)(k st:Nat)(c:List In)(s:List Nat)(x:Sm)(n:Nat):St:=
 ⟨(41,I (Gr x))::mE E0 l i n,mH p E k st c s x,6⟩
end
theorem F3 {c:CV}(h:BR c=true){m:List (Nat×Nat)}(h0:(assoc m 0).isSome=true)(h5:c≠.aw 5 0∨(assoc m 5).isSome=true):vV m c=true:=by
 cases c with
 | aw q f=>
  cases f with
  | zero=>
   simp only[BR,Bool.or_eq_true,beq_iff_eq] at h
   rcases h with rfl | rfl
   ·exact h0
   ·rcases h5 with h5 | h5
    ·exact (h5 rfl).elim
    ·exact h5
  | succ f=>simp[BR,tree] at h
 | agg cs=>simp only[BR,tree] at h;exact aH h m
 | cr cs=>simp only[BR,tree] at h;exact aH h m
 | _=>first | exact h | simp[BR,tree] at h
theorem KH {c:CV}(h:BR c=true)(m:List (Nat×Nat))(n:Nat)(h0:gg m n 0=0)(h5:c≠.aw 5 0∨gg m n 5=5):dU (gg m n) c=c:=by
 cases c with
 | aw q f=>
  cases f with
  | zero=>
   simp only[BR,Bool.or_eq_true,beq_iff_eq] at h
   rcases h with rfl | rfl
   ·rw[dU,h0]
   ·rcases h5 with h5 | h5
    ·exact (h5 rfl).elim
    ·rw[dU,h5]
  | succ f=>simp[BR,tree] at h
 | _=>exact g8 _ _ h
theorem yn {m:List (Nat×Nat)}{n:Nat}(h0:gg m n 0=0):∀ {e:List (Nat×CV)},(e.all fun x=>BR x.2)=true→((∀ x∈e,x.2≠CV.aw 5 0)∨gg m n 5=5)→dF (gg m n) e=e
 | [],_,_=>rfl
 | (t,c)::e,h,h5=>by
  simp only[List.all_cons,Bool.and_eq_true] at h
  rw[dF,KH h.1 m n h0 (h5.imp (fun h5=>h5 (t,c) List.mem_cons_self) id),yn h0 h.2 (h5.imp (fun h5 x hx=>h5 x (List.mem_cons_of_mem _ hx)) id)]
theorem cU (ρ:Nat→Nat)(t:TypeId)(n:Nat){cs:List CV}(h:trees cs=true):ca ρ ⟨t,n,cs⟩=⟨t,n,cs⟩:=by simp only[ca,af ρ _ h]
theorem gY (p:Pg):tree (.av (p.gs.flatMap pd) p.gs.length)=true∧tree (.av (p.ms.flatMap cq) p.ms.length)=true∧tree (.av (p.fs.flatMap fk) p.fs.length)=true:=
 ⟨by simp only[tree],by simp only[tree],by simp only[tree]⟩
theorem cm (E:List En):trees (E.flatMap iu)=true:=ai (fun _=>rfl) E
section
variable {C:Cx}{s:St}{p:Pg}
theorem BE (E:List En)(k st a cl b sl:Nat)(m:List (Nat×Nat))(ha:(assoc m a).isSome=true)(hb:(assoc m b).isSome=true):(fQ p E k st a cl b sl).cells.all (sh m)=true:=by
 obtain⟨t1,t2,t3⟩:=gY p
 have t4:=cm E
 simp only[fQ,List.all_cons,List.all_nil,sh,ha,hb,Bool.and_true,Bool.and_eq_true]
 simp only[tree] at t1 t2 t3 ⊢
 refine⟨t1,t2,t3,?_⟩
 simp
theorem qX (E:List En)(k st a cl b sl:Nat)(ρ:Nat→Nat):ca ρ (fQ p E k st a cl b sl)=fQ p E k st (ρ a) cl (ρ b) sl:=by
 obtain⟨t1,t2,t3⟩:=gY p
 have t4:tree (.av (E.flatMap iu) E.length)=true:=by simp only[tree]
 simp only[ca,fQ,bu,g8 ρ _ t1,g8 ρ _ t2,g8 ρ _ t3,g8 ρ _ t4]
 rfl
theorem k9 (hC0:C.n0=3)(ks:List Nat)(a b:Nat){e:List (Nat×CV)}{E:List En}{k st N M:Nat}{X S:List CV}{c':List In}{s':List Nat}(he:pick s.env ks=e)(hok:(e.all fun x=>BR x.2)=true)(h5:∀ x∈e,x.2≠CV.aw 5 0)(hab:(a != b && (a != 0 && b != 0))=true)
  (h0:assoc s.heap 0=some (fQ p E k st a N b M)) (ha:assoc s.heap a=some ⟨69,12,X⟩) (hb:assoc s.heap b=some ⟨3,1,S⟩) (hX:X.map nz=c'.flatMap dv) (hS:S=s'.map fun n:Nat=>I n) (hN:N=c'.length) (hM:M=s'.length) :
  Le C s ⟨e,[(0,fQ p E k st 3 c'.length 4 s'.length),(3,fh c'),(4,fW s')],5⟩:=by
 subst hN hM hS
 simp only[Bool.and_eq_true,bne_iff_ne,ne_eq] at hab
 obtain⟨n1,n2,n3⟩:=hab
 have n1':¬ b=a:=fun h=>n1 h.symm
 refine Le.trans (Le.nz [] [a]) ?_
 have e1:EP [] s.env=s.env:=by
  have:∀ e:List (Nat×CV),EP [] e=e:=by
   intro e
   induction e with
   | nil=>rfl
   | cons x r ih=>obtain⟨k,c⟩:=x;rw[EP,ih];rfl
  exact this _
 rw[e1]
 have g0:assoc (zX [a] s.heap) 0=some (fQ p E k st a c'.length b s'.length):=by
  rw[ej,h0];simp[Ne.symm n2]
 have ga:assoc (zX [a] s.heap) a=some (fh c'):=by
  rw[ej,ha];simp[hX,fh]
 have gb:assoc (zX [a] s.heap) b=some (fW s'):=by
  rw[ej,hb];simp[n1',fW]
 have r0:gg [(0,0),(a,3),(b,4)] 5 0=0:=rfl
 have ra:gg [(0,0),(a,3),(b,4)] 5 a=3:=by simp[gg,assoc,Ne.symm n2]
 have rb:gg [(0,0),(a,3),(b,4)] 5 b=4:=by simp[gg,assoc,Ne.symm n3,n1]
 have hnorm:=Le.norm (C:=C) (s:=⟨s.env,zX [a] s.heap,s.nx⟩) ks [(0,0),(a,3),(b,4)] 3 5 (by simp[uO,n1,Ne.symm n2,Ne.symm n3]) (by simp only[List.all_cons,List.all_nil,g0,ga,gb];rfl) ?_ yA
 ·simp only[he,List.map_cons,List.map_nil,pick,g0,ga,gb,bT] at hnorm
  rw[yn r0 hok (.inl h5),r0,ra,rb,qX,ra,rb,fh,fW,cU _ _ _ (cc c'),cU _ _ _ (aT s')] at hnorm
  exact hnorm
 ·simp only[eC,he,List.map_cons,List.map_nil,pick,g0,ga,gb,List.all_cons,List.all_nil,Bool.and_true,Bool.and_eq_true,List.all_eq_true (l:=e)]
  refine⟨fun x hx=>F3 ((List.all_eq_true.1 hok) x hx) rfl (.inl (h5 x hx)),BE E k st a _ b _ _ (by simp[assoc,Ne.symm n2]) (by simp[assoc,Ne.symm n3];split<;>rfl),aH (cc c') _,aH (aT s') _⟩
theorem jE (hC0:C.n0=3)(ks:List Nat)(a b:Nat){e:List (Nat×CV)}{E:List En}{k st N M:Nat}{X S cs:List CV}{c':List In}{s':List Nat}(he:pick s.env ks=e)(hok:(e.all fun x=>BR x.2)=true)(hab:((a != b && (a != 0 && b != 0)) && (a != 5 && b != 5))=true)
  (h0:assoc s.heap 0=some (fQ p E k st a N b M)) (ha:assoc s.heap a=some ⟨69,12,X⟩) (hb:assoc s.heap b=some ⟨3,1,S⟩) (h5:assoc s.heap 5=some ⟨188,0,cs⟩) (hcs:trees cs=true) (hX:X.map nz=c'.flatMap dv) (hS:S=s'.map fun n:Nat=>I n) (hN:N=c'.length) (hM:M=s'.length) :
  Le C s ⟨e,[(0,fQ p E k st 3 c'.length 4 s'.length),(3,fh c'),(4,fW s'),(5,⟨188,0,cs⟩)],6⟩:=by
 subst hN hM hS
 simp only[Bool.and_eq_true,bne_iff_ne,ne_eq] at hab
 obtain⟨⟨n1,n2,n3⟩,n4,n5⟩:=hab
 have n1':¬ b=a:=fun h=>n1 h.symm
 refine Le.trans (Le.nz [] [a]) ?_
 have e1:EP [] s.env=s.env:=by
  have:∀ e:List (Nat×CV),EP [] e=e:=by
   intro e
   induction e with
   | nil=>rfl
   | cons x r ih=>obtain⟨k,c⟩:=x;rw[EP,ih];rfl
  exact this _
 rw[e1]
 have g0:assoc (zX [a] s.heap) 0=some (fQ p E k st a c'.length b s'.length):=by
  rw[ej,h0];simp[Ne.symm n2]
 have ga:assoc (zX [a] s.heap) a=some (fh c'):=by
  rw[ej,ha];simp[hX,fh]
 have gb:assoc (zX [a] s.heap) b=some (fW s'):=by
  rw[ej,hb];simp[n1',fW]
 have g5:assoc (zX [a] s.heap) 5=some ⟨188,0,cs⟩:=by
  rw[ej,h5];simp
  intro h;exact (n4 h.symm).elim
 have r0:gg [(0,0),(a,3),(b,4),(5,5)] 6 0=0:=rfl
 have ra:gg [(0,0),(a,3),(b,4),(5,5)] 6 a=3:=by simp[gg,assoc,Ne.symm n2]
 have rb:gg [(0,0),(a,3),(b,4),(5,5)] 6 b=4:=by simp[gg,assoc,Ne.symm n3,n1]
 have r5:gg [(0,0),(a,3),(b,4),(5,5)] 6 5=5:=by simp[gg,assoc,n4,n5]
 have hnorm:=Le.norm (C:=C) (s:=⟨s.env,zX [a] s.heap,s.nx⟩) ks [(0,0),(a,3),(b,4),(5,5)] 3 6 (by simp[uO,n1,Ne.symm n2,Ne.symm n3,n4,n5]) (by simp only[List.all_cons,List.all_nil,g0,ga,gb,g5];rfl) ?_ yA
 ·simp only[he,List.map_cons,List.map_nil,pick,g0,ga,gb,g5,bT] at hnorm
  rw[yn r0 hok (.inr r5),r0,ra,rb,r5,qX,ra,rb,fh,fW,cU _ _ _ (cc c'),cU _ _ _ (aT s'),cU _ _ _ hcs] at hnorm
  exact hnorm
 ·simp only[eC,he,List.map_cons,List.map_nil,pick,g0,ga,gb,g5,List.all_cons,List.all_nil,Bool.and_true,Bool.and_eq_true,List.all_eq_true (l:=e)]
  refine⟨fun x hx=>F3 ((List.all_eq_true.1 hok) x hx) rfl (.inr (by simp[assoc,n4,n5])),BE E k st a _ b _ _ (by simp[assoc,Ne.symm n2]) (by simp[assoc,Ne.symm n3];split<;>rfl),aH (cc c') _,aH (aT s') _,aH hcs _⟩
end
theorem yc (p:Pg)(E:List En)(k st a cl b sl n:Nat)(ha:a<n)(hb:b<n):aQ n (fQ p E k st a cl b sl).cells=true:=by
 obtain⟨t1,t2,t3⟩:=gY p
 have t4:tree (.av (E.flatMap iu) E.length)=true:=by simp only[tree]
 simp only[fQ,aQ,a6 n _ t1,a6 n _ t2,a6 n _ t3,a6 n _ t4,Bool.true_and]
 simp[a8,ha,hb]
def okW (c:CV):Bool:=match c with
 | .aw p 0=>p == 0
 | c=>tree c
theorem F2 {c:CV}(h:okW c=true)(ρ:Nat→Nat)(h0:ρ 0=0):dU ρ c=c:=by
 cases c with
 | aw q f=>
  cases f with
  | zero=>
   simp only[okW,beq_iff_eq] at h
   subst h
   rw[dU,h0]
  | succ f=>simp[okW,tree] at h
 | _=>exact g8 _ _ h
theorem CP {ρ:Nat→Nat}(h0:ρ 0=0):∀ {cs:List CV},cs.all okW=true→bu ρ cs=cs
 | [],_=>rfl
 | c::cs,h=>by
  simp only[List.all_cons,Bool.and_eq_true] at h
  rw[bu,F2 h.1 ρ h0,CP h0 h.2]
theorem uG {n:Nat}(hn:0<n):∀ {cs:List CV},cs.all okW=true→aQ n cs=true
 | [],_=>rfl
 | c::cs,h=>by
  simp only[List.all_cons,Bool.and_eq_true] at h
  rw[aQ,uG hn h.2,Bool.and_true]
  have h1:=h.1
  cases c with
  | aw q f=>
   cases f with
   | zero=>
    simp only[okW,beq_iff_eq] at h1
    subst h1
    simpa [a8] using hn
   | succ f=>simp[okW,tree] at h1
  | _=>exact a6 _ _ h1
theorem Ix (m:Nat)(h:4<m):F4 [0,3,4] m=true:=by
 simp only[F4,List.all_cons,List.all_nil,Bool.and_true,Bool.and_eq_true,decide_eq_true_eq]
 refine⟨⟨by omega,by omega,by omega⟩,by decide⟩
theorem Gk (m:Nat):cI [0,3,4] m 0=0:=rfl
theorem mapN1 (m:Nat):cI [0,3,4] m 1=3:=rfl
theorem mapN2 (m:Nat):cI [0,3,4] m 2=4:=rfl
theorem mapN3 (m:Nat):cI [0,3,4] m 3=m:=by simp[cI]
theorem mapN4 (m:Nat):cI [0,3,4] m 4=m+1:=by simp[cI];omega
def hO (H:List (Nat×Ob))(ks:List Nat)(nx:Nat):Bool:=H.all fun x=>!ks.contains x.1 && decide (x.1<nx)
theorem qx:∀ (ks:List Nat) (H:List (Nat×Ob)) (nx:Nat),hO H ks nx=true→dx H ks=H
 | [],_,_,_=>rfl
 | k::ks,H,nx,h=>by
  have h1:jy H k=H:=by
   have:∀ H:List (Nat×Ob),hO H (k::ks) nx=true→jy H k=H:=by
    intro H
    induction H with
    | nil=>intro _;rfl
    | cons x r ih=>
     intro h
     obtain⟨q,ob⟩:=x
     have h':=h
     simp only[hO,List.all_cons,Bool.and_eq_true] at h'
     have h2:=h'.1.1
     simp only[Bool.not_eq_true',List.contains_eq_mem,decide_eq_false_iff_not,List.mem_cons,not_or] at h2
     rw[jy,if_neg h2.1,ih h'.2]
   exact this H h
  rw[dx,h1]
  refine qx ks H nx ?_
  simp only[hO,List.all_eq_true,Bool.and_eq_true,Bool.not_eq_true',List.contains_eq_mem,decide_eq_false_iff_not,List.mem_cons,not_or] at h ⊢
  exact fun x hx=>⟨(h x hx).1.2,(h x hx).2⟩
theorem JJ {H:List (Nat×Ob)}{ks:List Nat}{nx:Nat}(h:hO H ks nx=true):(H.all fun x=>decide (x.1<nx))=true:=by
 simp only[hO,List.all_eq_true,Bool.and_eq_true] at h ⊢
 exact fun x hx=>(h x hx).2
section
variable {C:Cx}{p:Pg}{ops:Array Oper}{e:List (Nat×CV)}{H:List (Nat×Ob)}{nx:Nat}
theorem DS (E:List En)(k st cl sl nx:Nat):bT (cI [0,3,4] nx) [(0,di p E k st cl sl)]=[(0,fQ p E k st 3 cl 4 sl)]:=by
 rw[bT,bT,yb,qX];rfl
theorem TL.gW {o:Oper}{l:List Oper}{c:Call}{g:FuncId}{args:List CV}{K:St→Prop}{r0:CV}{E:List En}{k st cl sl:Nat}(hb:Body Tryz.prog aq g args [(0,di p E k st cl sl)] 3 (kk r0 [(0,di p E k st cl sl)] 3))(hnx:4<nx)(hH:hO H [0] nx=true)
  (hd:aU C.nt o.dst=true) (hg:bU ops ⟨e,(0,fQ p E k st 3 cl 4 sl)::H,nx⟩ o=Option.some true) (ho:o.op=.call c) (hca:bl ⟨e,(0,fQ p E k st 3 cl 4 sl)::H,nx⟩ c=Option.some (g,args)) (hargs:args.all okW=true) (ht:tree r0=true)
  (hK:TL Tryz.prog C ops l (St.put ⟨e,(0,fQ p E k st 3 cl 4 sl)::H,nx⟩ o.dst r0) K):TL Tryz.prog C ops (o::l) ⟨e,(0,fQ p E k st 3 cl 4 sl)::H,nx⟩ K:=by
 have hdr:dx ((0,fQ p E k st 3 cl 4 sl)::H) [0]=H:=qx [0] H nx hH
 refine TL.vu ag [0,3,4] [0] 3 0 hb rfl (Ix nx hnx) hd hg ho yCd (by simp only[DS];rfl) (uG yA hargs) (by simp only[de,yb,yc p E k st 1 cl 2 sl 3 yA yA];rfl) ht ?_ ?_
 ·simp only[DS,hdr,lF,List.all_cons,List.all_nil,Bool.and_true,Bool.and_eq_true]
  exact⟨rfl,JJ hH⟩
 ·simp only[DS,hdr]
  exact hK
theorem RX.gW {o:Oper}{cl:Call}{g:FuncId}{args:List CV}{r0:CV}{nt N:Nat}{dyn:List (Nat×Nat)}{K:St→Prop}{i:Nat}{r:List Nat}{res:Nat→Er}{E:List En}{k st cn sn:Nat}(hb:Body Tryz.prog aq g args [(0,di p E k st cn sn)] 3 (kk r0 [(0,di p E k st cn sn)] 3))(hnx:4<nx)(hH:hO H [0] nx=true)
  (hi:ops[i]? = Option.some o) (hd:aU nt o.dst=true) (hg:bU ops ⟨e,(0,fQ p E k st 3 cn 4 sn)::H,nx⟩ o=Option.some true) (hu:cg o=Option.some cl) (hca:bl ⟨e,(0,fQ p E k st 3 cn 4 sn)::H,nx⟩ cl=Option.some (g,args)) (hargs:args.all okW=true) (ht:tree r0=true) (hv:yU dyn res i [0]=true)
  (hK:EV dyn res i (iS r0 [0] [] 0 [(0,fQ p E k st 3 cn 4 sn)])=true∧px aq nt ops N dyn (FH Tryz.prog aq nt ops N dyn K) r (note dyn res i (iS r0 [0] [] 0 [(0,fQ p E k st 3 cn 4 sn)])) (St.put ⟨e,(0,fQ p E k st 3 cn 4 sn)::H,nx⟩ o.dst r0)):RX Tryz.prog aq nt ops N dyn K (i::r) res ⟨e,(0,fQ p E k st 3 cn 4 sn)::H,nx⟩:=by
 have hdr:dx ((0,fQ p E k st 3 cn 4 sn)::H) [0]=H:=qx [0] H nx hH
 refine RX.vu [0,3,4] [0] [] 3 0 hb rfl (Ix nx hnx) hi hd hg hu yCd (by simp only[DS];rfl) (uG yA hargs) (by simp only[de,yb,yc p E k st 1 cn 2 sn 3 yA yA];rfl) ht hv (by simp only[DS];rfl) (fun _ _ _=>rfl) ?_
 simp only[DS,hdr]
 exact hK
def T3 (p:Pg)(E:List En)(k st cl sl:Nat)(o1 o2:Ob):List (Nat×Ob):=[(0,fQ p E k st 1 cl 2 sl),(1,o1),(2,o2)]
theorem rn_T {E:List En}{k st cl sl nx:Nat}{o1 o2:Ob}(h1:trees o1.cells=true)(h2:trees o2.cells=true):bT (cI [0,3,4] nx) (T3 p E k st cl sl o1 o2)=[(0,fQ p E k st 3 cl 4 sl),(3,o1),(4,o2)]:=by
 simp only[T3,bT,qX,Gk,mapN1,mapN2]
 rw[show ca (cI [0,3,4] nx) o1=o1 from cU _ _ _ h1,show ca (cI [0,3,4] nx) o2=o2 from cU _ _ _ h2]
def T4 (p:Pg)(E:List En)(k st cl sl:Nat)(o1 o2:Ob):List (Nat×Ob):=[(0,fQ p E k st 3 cl 4 sl),(3,o1),(4,o2)]
theorem CE {E:List En}{k st cl sl nx:Nat}{o1 o2:Ob}(h1:trees o1.cells=true)(h2:trees o2.cells=true):bT (cI [0,3,4] nx) (T4 p E k st cl sl o1 o2)=[(0,fQ p E k st nx cl (nx+1) sl),(nx,o1),(nx+1,o2)]:=by
 simp only[T4,bT,qX,Gk,mapN3,mapN4]
 rw[show ca (cI [0,3,4] nx) o1=o1 from cU _ _ _ h1,show ca (cI [0,3,4] nx) o2=o2 from cU _ _ _ h2]
theorem JZ {E:List En}{k st cl sl:Nat}{o1 o2:Ob}(h1:trees o1.cells=true)(h2:trees o2.cells=true):de 3 (T3 p E k st cl sl o1 o2)=true:=by
 simp only[T3,de,yc p E k st 1 cl 2 sl 3 yA yA,gx 3 _ h1,gx 3 _ h2]
 rfl
variable {E E':List En}{k k' st st' cn cn' sn sn':Nat}{o1 o2 o3 o4:Ob}{args:List CV}{r0:CV}{g:FuncId}
theorem TL.ik {o:Oper}{l:List Oper}{c:Call}{K:St→Prop}(hb:Body Tryz.prog aq g args (T3 p E k st cn sn o1 o2) 3 (kk r0 (T4 p E' k' st' cn' sn' o3 o4) (3+2)))(h1:trees o1.cells=true)(h2:trees o2.cells=true)(h3:trees o3.cells=true)(h4:trees o4.cells=true)(hnx:4<nx)(hH:hO H [0,3,4] nx=true)
  (hd:aU C.nt o.dst=true) (hg:bU ops ⟨e,(0,fQ p E k st 3 cn 4 sn)::(3,o1)::(4,o2)::H,nx⟩ o=Option.some true) (ho:o.op=.call c) (hca:bl ⟨e,(0,fQ p E k st 3 cn 4 sn)::(3,o1)::(4,o2)::H,nx⟩ c=Option.some (g,args)) (hargs:args.all okW=true) (ht:tree r0=true)
  (hK:TL Tryz.prog C ops l (St.put ⟨e,(0,fQ p E' k' st' nx cn' (nx+1) sn')::(nx,o3)::(nx+1,o4)::H,nx+2⟩ o.dst r0) K):TL Tryz.prog C ops (o::l) ⟨e,(0,fQ p E k st 3 cn 4 sn)::(3,o1)::(4,o2)::H,nx⟩ K:=by
 have hdr:dx ((0,fQ p E k st 3 cn 4 sn)::(3,o1)::(4,o2)::H) [0,3,4]=H:=qx [0,3,4] H nx hH
 refine TL.vu ag [0,3,4] [0,3,4] 3 2 hb rfl (Ix nx hnx) hd hg ho yCd (by simp only[rn_T h1 h2];rfl) (uG yA hargs) (JZ h1 h2) ht ?_ ?_
 ·simp only[CE h3 h4,hdr,lF,Bool.and_eq_true]
  exact⟨by simp,JJ hH⟩
 ·simp only[CE h3 h4,hdr]
  exact hK
theorem RX.ik {o:Oper}{cl:Call}{nt N:Nat}{dyn:List (Nat×Nat)}{K:St→Prop}{i:Nat}{r:List Nat}{res:Nat→Er}(hb:Body Tryz.prog aq g args (T3 p E k st cn sn o1 o2) 3 (kk r0 (T4 p E' k' st' cn' sn' o3 o4) (3+2)))(h1:trees o1.cells=true)(h2:trees o2.cells=true)(h3:trees o3.cells=true)(h4:trees o4.cells=true)(hnx:4<nx)(hH:hO H [0,3,4] nx=true)
  (hi:ops[i]? = Option.some o) (hd:aU nt o.dst=true) (hg:bU ops ⟨e,(0,fQ p E k st 3 cn 4 sn)::(3,o1)::(4,o2)::H,nx⟩ o=Option.some true) (hu:cg o=Option.some cl) (hca:bl ⟨e,(0,fQ p E k st 3 cn 4 sn)::(3,o1)::(4,o2)::H,nx⟩ cl=Option.some (g,args)) (hargs:args.all okW=true) (ht:tree r0=true) (hv:yU dyn res i [0,3,4]=true)
  (hK:EV dyn res i (iS r0 [0,3,4] [0,3,4,nx,nx+1] 2 [(0,fQ p E' k' st' nx cn' (nx+1) sn'),(nx,o3),(nx+1,o4)])=true∧px aq nt ops N dyn (FH Tryz.prog aq nt ops N dyn K) r (note dyn res i (iS r0 [0,3,4] [0,3,4,nx,nx+1] 2 [(0,fQ p E' k' st' nx cn' (nx+1) sn'),(nx,o3),(nx+1,o4)])) (St.put ⟨e,(0,fQ p E' k' st' nx cn' (nx+1) sn')::(nx,o3)::(nx+1,o4)::H,nx+2⟩ o.dst r0)) :
  RX Tryz.prog aq nt ops N dyn K (i::r) res ⟨e,(0,fQ p E k st 3 cn 4 sn)::(3,o1)::(4,o2)::H,nx⟩:=by
 have hdr:dx ((0,fQ p E k st 3 cn 4 sn)::(3,o1)::(4,o2)::H) [0,3,4]=H:=qx [0,3,4] H nx hH
 refine RX.vu [0,3,4] [0,3,4] [0,3,4,nx,nx+1] 3 2 hb rfl (Ix nx hnx) hi hd hg hu yCd (by simp only[rn_T h1 h2];rfl) (uG yA hargs) (JZ h1 h2) ht hv ?_ (fun q hq hn=>(hn (List.mem_append_left [nx,nx+1] hq)).elim) ?_
 ·simp only[CE h3 h4]
  have e1:¬ 0=nx:=by omega
  have e2:¬ 3=nx:=by omega
  simp[assoc,e1]
 ·simp only[CE h3 h4,hdr]
  exact hK
def Mw (c:List In)(cs:List CV):Ob:=⟨69,12,c.flatMap dv++cs⟩
theorem wz (c:List In){cs:List CV}(h:trees cs=true):trees (Mw c cs).cells=true:=by simp only[Mw,aC,cc,h];rfl
theorem uu (p:Pg)(E:List En)(k st:Nat)(c:List In)(s:List Nat)(cs:List CV)(hcs:cs.length=12)(tcs:trees cs=true)(n:Nat)(hN:c.length≤10000)(hM:s.length≤10000) :
  Body Tryz.prog aq 93 [.aw 0 0,.agg cs,I n] (T3 p E k st c.length s.length (fh c) (fW s)) 3 (kk (I c.length) (T4 p E k st (c.length+1) (s.length+1) (Mw c cs) (fW (s++[n]))) (3+2)):=by
 have:=Kv p E k st (c.flatMap dv) c.length (yQ c) (cc c) (s.map fun n:Nat=>I n) s.length yAa (aT s) hN hM cs hcs tcs n
 simpa only[T3,T4,Mw,fW,fh,List.map_append,List.map_cons,List.map_nil] using this
theorem Ky (p:Pg)(E:List En)(k st:Nat)(c:List In)(s:List Nat)(N M:Nat)(h1:N=c.length)(h2:M=s.length)(cs:List CV)(hcs:cs.length=12)(tcs:trees cs=true)(n:Nat)(hN:N≤10000)(hM:M≤10000) :
  Body Tryz.prog aq 93 [.aw 0 0,.agg cs,I n] (T3 p E k st N M (fh c) (fW s)) 3 (kk (I N) (T4 p E k st (N+1) (M+1) (Mw c cs) (fW (s++[n]))) (3+2)):=by
 subst h1 h2
 exact uu p E k st c s cs hcs tcs n hN hM
theorem jv (c:List In)(cs:List CV)(x:In)(h:cs.map nz=dv x):(c.flatMap dv++cs).map nz=(c++[x]).flatMap dv:=by simp[qh,h]
end
theorem ph (E0:List En)(l:List Sm)(i:Nat):((bE E0 l i).all fun x=>BR x.2)=true:=by
 simp[bE,BR,tree]
theorem pj (E0:List En)(l:List Sm)(i:Nat):∀ x∈bE E0 l i,x.2≠CV.aw 5 0:=by
 simp[bE]
@[simp] theorem Ic (p:Pg)(E:List En)(k st a cl b sl n:Nat):(fQ p E k st a cl b sl).cells.all (a8 n)=(decide (a<n) && decide (b<n)):=by
 obtain⟨t1,t2,t3⟩:=gY p
 have t4:tree (.av (E.flatMap iu) E.length)=true:=by simp only[tree]
 simp only[fQ,List.all_cons,List.all_nil,a6 n _ t1,a6 n _ t2,a6 n _ t3,a6 n _ t4,Bool.true_and]
 simp[a8]
@[simp] theorem scO_ltS (p:Pg)(E:List En)(k st a cl b sl n:Nat):aQ n (fQ p E k st a cl b sl).cells=(decide (a<n) && decide (b<n)):=by rw[a7];exact Ic p E k st a cl b sl n
@[simp] theorem Hg (c:List In)(n:Nat):(fh c).cells.all (a8 n)=true:=aj (cc c) n
@[simp] theorem FC (s:List Nat)(n:Nat):(fW s).cells.all (a8 n)=true:=aj (aT s) n
@[simp] theorem coOb_ltS (c:List In)(n:Nat):aQ n (fh c).cells=true:=by rw[a7];exact Hg c n
@[simp] theorem siOb_ltS (s:List Nat)(n:Nat):aQ n (fW s).cells=true:=by rw[a7];exact FC s n
@[simp] theorem coOb_frz (c:List In)(o:Nat)(cs:List CV)(n:Nat):(fh c).cells.map (cL o cs n)=(fh c).cells:=ak (cc c) o cs n
@[simp] theorem siOb_frz (s:List Nat)(o:Nat)(cs:List CV)(n:Nat):(fW s).cells.map (cL o cs n)=(fW s).cells:=ak (aT s) o cs n
@[simp] theorem coOb_eta (c:List In):(⟨(fh c).elem,(fh c).sz,(fh c).cells⟩:Ob)=fh c:=rfl
@[simp] theorem siOb_eta (s:List Nat):(⟨(fW s).elem,(fW s).sz,(fW s).cells⟩:Ob)=fW s:=rfl
def MZ (p:Pg)(E0:List En)(l:List Sm)(i:Nat)(E:List En)(k st:Nat)(c:List In)(s:List Nat)(cs:List CV)(n:Nat):St:=
 ⟨mE E0 l i n,[(0,fQ p E k st 3 c.length 4 s.length),(3,fh c),(4,fW s),(5,⟨188,0,cs⟩)],6⟩
set_option maxHeartbeats 4000000 in
theorem I7 {C:Cx}{Q:Exit→St→Prop}(hC:C.nt=253)(hC0:C.n0=3)(p:Pg)(E0:List En)(l:List Sm)(i:Nat){g:Nat}{fs:List (ByteArray×List Pm)}{ps:List Pm}{V:List ByteArray}(E:List En)(k st:Nat)(c:List In)(s:List Nat)(n:Nat)
  (hE:EW g p.ms fs ps V E k) (hl:E.length≤100000) (hm:p.ms.length≤1000) (hc:c.length≤9000) (hs:s.length≤9000) (u:Bool) (r:Rf) (hr:EX p.ms ps V r) :
  T Tryz.prog C (jX Tryz.f92 2) (MS p E0 l i E k st c s (.dB u r) n) (eR (aa C (fun z=>z=NS p E0 l i E k st (c++[.lock u (yd E r)]) (s++[n]))) Q):=by
 have hb:=C0 p E k st c.length s.length hE hl hm n r hr
 obtain⟨b1,b2,b3,b4,hp,ht⟩:=nI (yd E r)
 obtain⟨a1,a2,a3,hrf,hta⟩:=Kk r
 have hin:dv (.lock u (yd E r))=[I (if u then 5 else 4),I 0,.bool false,I 0,I 0,.str eS,.av [] 0,.bool b1,I b2,.av b3 b4,.av [] 0,.av [] 0]:=by simp[dv,hp,aZ]
 rw[hp,hrf] at hb
 apply T.block
 have hsm:ir (.dB u r)=[I (if u then 6 else 5),.str eS,I 0,I 0,.str eS,.av [] 0,.str a1,.av a2 a3,.av [] 0,.av [] 0,.av [] 0]:=by simp[ir,hrf,aZ]
 simp only[MS,mE,mH,Gr,hsm]
 cases u with
 | false=>
  apply au
  simp[hC]
  refine bj ?_
  simp
  apply au
  simp[hC]
  refine bj ?_
  simp
  apply aJ
  simp[hC]
  refine bj ?_
  simp
  apply aO
  simp[hC]
  refine bj ?_
  simp
  apply au
  simp[hC]
  refine dN ?_
  simp
  apply aO
  simp[hC]
  refine TL.gW (hb) yA rfl yAc rfl rfl yAs yAq yAr (TL.go' ag ?_)
  simp[hC]
  refine TL.ik (uu p E k st c s [I 4,I 0,.bool false,I 0,I 0,.str eS,.ah,.bool b1,I b2,.av b3 b4,.ah,.ah] rfl (by simp[trees,tree]) n yA yA) yAo (aT _) yAo (aT _) yA rfl yAc rfl rfl yAs yAq yAr (TL.go' ag ?_)
  simp
  refine aa.le (k9 hC0 [5,4,0,1] 6 7 (e:=bE E0 l i) rfl (ph _ _ _) (pj _ _ _) rfl rfl rfl rfl (jv _ _ (.lock false (yd E r)) (by simp[hin])) rfl yAa yAa) (aa.here rfl)
 | true=>
  apply au
  simp[hC]
  refine bj ?_
  simp
  apply au
  simp[hC]
  refine bj ?_
  simp
  apply aJ
  simp[hC]
  refine bj ?_
  simp
  apply aO
  simp[hC]
  refine bj ?_
  simp
  apply au
  simp[hC]
  refine bj ?_
  simp
  apply au
  simp[hC]
  refine dN ?_
  simp
  apply aO
  simp[hC]
  refine TL.gW (hb) yA rfl yAc rfl rfl yAs yAq yAr (TL.go' ag ?_)
  simp[hC]
  refine TL.ik (uu p E k st c s [I 5,I 0,.bool false,I 0,I 0,.str eS,.ah,.bool b1,I b2,.av b3 b4,.ah,.ah] rfl (by simp[trees,tree]) n yA yA) yAo (aT _) yAo (aT _) yA rfl yAc rfl rfl yAs yAq yAr (TL.go' ag ?_)
  simp
  refine aa.le (k9 hC0 [5,4,0,1] 6 7 (e:=bE E0 l i) rfl (ph _ _ _) (pj _ _ _) rfl rfl rfl rfl (jv _ _ (.lock true (yd E r)) (by simp[hin])) rfl yAa yAa) (aa.here rfl)
set_option maxHeartbeats 4000000 in
theorem Li {C:Cx}{Q:Exit→St→Prop}(hC:C.nt=253)(hC0:C.n0=3)(p:Pg)(E0:List En)(l:List Sm)(i:Nat)(E:List En)(k st:Nat)(c:List In)(s:List Nat)(n:Nat)
  (hc:c.length≤9000) (hs:s.length≤9000) :
  T Tryz.prog C (jX Tryz.f92 2) (MS p E0 l i E k st c s .jC n) (eR (aa C (fun z=>z=NS p E0 l i E k st (c++[.ret]) (s++[n]))) Q):=by
 apply T.block
 simp only[MS,mE,mH,Gr,ir]
 apply au
 simp[hC]
 refine bj ?_
 simp
 apply au
 simp[hC]
 refine bj ?_
 simp
 apply aJ
 simp[hC]
 refine bj ?_
 simp
 apply aO
 simp[hC]
 refine bj ?_
 simp
 apply au
 simp[hC]
 refine bj ?_
 simp
 apply au
 simp[hC]
 refine bj ?_
 simp
 apply au
 simp[hC]
 refine bj ?_
 simp
 apply au
 simp[hC]
 refine bj ?_
 simp
 apply aO
 simp[hC]
 refine TL.ik (uu p E k st c s [I 8,I 0,.bool false,I 0,I 0,.str eS,.ah,.bool false,I 0,.ah,.ah,.ah] rfl rfl n yA yA) yAo (aT _) yAo (aT _) yA rfl yAc rfl rfl yAs yAq yAr (TL.go' ag ?_)
 simp
 refine aa.le (k9 hC0 [5,4,0,1] 6 7 (e:=bE E0 l i) rfl (ph _ _ _) (pj _ _ _) rfl rfl rfl rfl (jv _ _ (.ret) (by simp[dv,aZ,oz])) rfl yAa yAa) (aa.here rfl)
set_option maxHeartbeats 4000000 in
theorem I8 {C:Cx}{Q:Exit→St→Prop}(hC:C.nt=253)(hC0:C.n0=3)(p:Pg)(E0:List En)(l:List Sm)(i:Nat){g:Nat}{ps:List Pm}{V:List ByteArray}(E:List En)(k st:Nat)(c:List In)(s:List Nat)(n:Nat)
  (hE:EW g p.ms (p.fs.map fun f=>(f.name,f.params)) ps V E k) (hl:E.length≤100000) (hm:p.ms.length≤1000) (hfl:p.fs.length≤1000) (hc:c.length≤9000) (hs:s.length≤9000) (go:Bool) (nm:ByteArray) (gp:List Pm) (al:List Ar)
  (hg:(nm,gp)∈p.fs.map fun f=>(f.name,f.params)) (hw:jr p.ms ps V gp al) (hgl:gp.length≤1000) :
  T Tryz.prog C (jX Tryz.f92 2) (MS p E0 l i E k st c s (.dY go nm al) n) (eR (aa C (fun z=>z=NS p E0 l i E k st (c++[.call go (lT E nm).n (dc E al) (eY E al)]) (s++[n]))) Q):=by
 have hb:=Gq p E k st c.length s.length hE hl hm hfl n go nm gp al hg hw hgl
 have tin:=iA (.call go (lT E nm).n (dc E al) (eY E al))
 have lin:=jI (.call go (lT E nm).n (dc E al) (eY E al))
 have nin:=F7 (.call go (lT E nm).n (dc E al) (eY E al))
 have tsm:=iz (.dY go nm al)
 have lsm:=kI (.dY go nm al)
 generalize hX:dv (.call go (lT E nm).n (dc E al) (eY E al))=X at hb tin lin nin
 have hS:ir (.dY go nm al)=pw (if go=true then 4 else 3) nm al:=rfl
 rw[hS] at hb
 apply T.block
 simp only[MS,mE,mH,Gr,hS,pw]
 simp only[pw] at hb
 cases go with
 | false=>
  apply au
  simp[hC]
  refine bj ?_
  simp
  apply au
  simp[hC]
  refine bj ?_
  simp
  apply aJ
  simp[hC]
  refine iv ?_
  simp
  refine dN ?_
  simp
  apply aO
  simp[hC]
  refine TL.gW (hb) yA rfl yAc rfl rfl yAs yAq yAr (TL.go' ag ?_)
  simp[hC]
  refine TL.ik (uu p E k st c s X lin tin n yA yA) yAo (aT _) yAo (aT _) yA rfl yAc rfl rfl yAs yAq yAr (TL.go' ag ?_)
  simp
  refine aa.le (k9 hC0 [5,4,0,1] 6 7 (e:=bE E0 l i) rfl (ph _ _ _) (pj _ _ _) rfl rfl rfl rfl (jv _ _ (.call false (lT E nm).n (dc E al) (eY E al)) (by simp[nin,hX])) rfl yAa yAa) (aa.here rfl)
 | true=>
  apply au
  simp[hC]
  refine bj ?_
  simp
  apply au
  simp[hC]
  refine bj ?_
  simp
  apply aJ
  simp[hC]
  refine bj ?_
  simp
  apply aO
  simp[hC]
  refine dN ?_
  simp
  apply aO
  simp[hC]
  refine TL.gW (hb) yA rfl yAc rfl rfl yAs yAq yAr (TL.go' ag ?_)
  simp[hC]
  refine TL.ik (uu p E k st c s X lin tin n yA yA) yAo (aT _) yAo (aT _) yA rfl yAc rfl rfl yAs yAq yAr (TL.go' ag ?_)
  simp
  refine aa.le (k9 hC0 [5,4,0,1] 6 7 (e:=bE E0 l i) rfl (ph _ _ _) (pj _ _ _) rfl rfl rfl rfl (jv _ _ (.call true (lT E nm).n (dc E al) (eY E al)) (by simp[nin,hX])) rfl yAa yAa) (aa.here rfl)
set_option maxHeartbeats 4000000 in
theorem Lk {C:Cx}{Q:Exit→St→Prop}(hC:C.nt=253)(hC0:C.n0=3)(p:Pg)(E0:List En)(l:List Sm)(i:Nat){g:Nat}{fs:List (ByteArray×List Pm)}{ps:List Pm}{V:List ByteArray}(E:List En)(k st:Nat)(c:List In)(s:List Nat)(n:Nat)
  (hE:EW g p.ms fs ps V E k) (hl:E.length≤100000) (hc:c.length≤9000) (hs:s.length≤9000) (nm:ByteArray) (x:Ex) (hn:nm∈V) (hx:fM V 2 x) :
  T Tryz.prog C (jX Tryz.f92 2) (MS p E0 l i E k st c s (.iF nm x) n) (eR (aa C (fun z=>z=NS p E0 l i E k st (c++[.set (lT E nm).n (decide ((lT E nm).kind=1)) (dR E x)]) (s++[n]))) Q):=by
 obtain⟨kd,j,hf,hkd⟩:=hE.v nm hn
 have hv:=rO p E k st c.length s.length hl nm _ hf (by simp only;omega) n
 rw[ia hf]
 have hb:=j8 p E k st c.length s.length hE hl n 2 x hx
 obtain⟨a1,a2,a3,a4,a5,ha,hta⟩:=gE x
 obtain⟨b1,b2,b3,b4,b5,hb',htb⟩:=gE (dR E x)
 have hin:dv (.set j (decide (kd=1)) (dR E x))=[I 1,I j,.bool (decide (kd=1)),I b1,I b2,.str b3,.av b4 b5,.bool false,I 0,.av [] 0,.av [] 0,.av [] 0]:=by simp[dv,hb',oz]
 have hsm:ir (.iF nm x)=[I 2,.str nm,I a1,I a2,.str a3,.av a4 a5,.str eS,.av [] 0,.av [] 0,.av [] 0,.av [] 0]:=by simp[ir,ha,k8]
 rw[ha,hb'] at hb
 have hk1:((kd:Int) == 1)=decide (kd=1):=by rcases hkd with ⟨rfl,_⟩ | ⟨rfl,_⟩<;>rfl
 apply T.block
 simp only[MS,mE,mH,Gr,hsm]
 apply au
 simp[hC]
 refine bj ?_
 simp
 apply au
 simp[hC]
 refine dN ?_
 simp
 apply au
 simp[hC]
 refine TL.gW (hv) yA rfl yAc rfl rfl yAs yAq yAr (TL.go' ag ?_)
 simp[hC,iu]
 refine T.le (Le.trim [6,7,5,4,0,1,11] [0,3,4,5,6] 7 yAu yA) ?_
 simp
 refine T.rx ag follows [0,1,2,3,4,5,6,7,8,9,12,10,11,13] [(2,10),(4,10)] yAb ?_
 simp[hC]
 refine RX.gW (hb) yA rfl rfl yAa rfl rfl yAs yAq yAr yAa ?_
 simp
 refine RX.ik (uu p E k st c s [I 1,I j,.bool (decide (kd=1)),I b1,I b2,.str b3,.av b4 b5,.bool false,I 0,.ah,.ah,.ah] rfl yB n yA yA) yAo (aT _) yAo (aT _) yA rfl rfl yAa rfl rfl yAs yAq yAr yAa ?_
 simp
 refine aa.le (k9 hC0 [5,4,0,1] 21 22 (e:=bE E0 l i) rfl (ph _ _ _) (pj _ _ _) rfl rfl rfl rfl (jv _ _ (.set j (decide (kd=1)) (dR E x)) (by simp[hin])) rfl yAa yAa) (aa.here rfl)
set_option maxHeartbeats 4000000 in
theorem Lh {C:Cx}{Q:Exit→St→Prop}(hC:C.nt=253)(hC0:C.n0=3)(p:Pg)(E0:List En)(l:List Sm)(i:Nat){g:Nat}{fs:List (ByteArray×List Pm)}{ps:List Pm}{V:List ByteArray}(E:List En)(k st:Nat)(c:List In)(s:List Nat)(n:Nat)
  (hE:EW g p.ms fs ps V E k) (hl:E.length≤90000) (hk:k≤9000) (hc:c.length≤9000) (hs:s.length≤9000) (nm:ByteArray) (x:Ex) (hn:iZ E nm=none) (hx:fM V 2 x) :
  T Tryz.prog C (jX Tryz.f92 2) (MS p E0 l i E k st c s (.gZ nm x) n) (eR (aa C (fun z=>z=NS p E0 l i (E++[⟨nm,4,k⟩]) (k+1) st (c++[.set k false (dR E x)]) (s++[n]))) Q):=by
 have hb:=j8 p E k st c.length s.length hE yA n 2 x hx
 have hfd:=qt E nm yA
 rw[hn] at hfd
 obtain⟨a1,a2,a3,a4,a5,ha,hta⟩:=gE x
 obtain⟨b1,b2,b3,b4,b5,hb',htb⟩:=gE (dR E x)
 have hin:dv (.set k false (dR E x))=[I 1,I k,.bool false,I b1,I b2,.str b3,.av b4 b5,.bool false,I 0,.av [] 0,.av [] 0,.av [] 0]:=by simp[dv,hb',oz]
 have hsm:ir (.gZ nm x)=[I 1,.str nm,I a1,I a2,.str a3,.av a4 a5,.str eS,.av [] 0,.av [] 0,.av [] 0,.av [] 0]:=by simp[ir,ha,k8]
 rw[ha,hb'] at hb
 apply T.block
 simp only[MS,mE,mH,Gr,hsm]
 apply au
 simp[hC]
 refine dN ?_
 simp
 refine T.seq (T.seq ?_)
 refine T.rx ag follows [0,1,2,3,4,5,10,6,7,8,9,11,12] [(3,10),(5,10),(10,6)] yAb ?_
 simp[hC,fQ]
 refine RX.call rfl yAa rfl rfl rfl yAd (hfd) ?_
 simp[qp]
 apply au
 simp[hC]
 refine e9 ?_
 simp
 refine T.le (Le.to (s':=MZ p E0 l i E k st c s [I 1,.str nm,I a1,I a2,.str a3,.av a4 a5,.str eS,.av [] 0,.av [] 0,.av [] 0,.av [] 0] n) [6,7,5,4,0,1] [0,3,4,5] 6 yAu yA rfl) ?_
 simp only[MZ,mE]
 apply au
 simp[hC]
 refine TL.gW (hb) yA rfl yAc rfl rfl yAs yAq yAr (TL.go' ag ?_)
 simp[hC]
 refine T.le (Le.trim [6,7,5,4,0,1,10] [0,3,4,5,6] 7 yAu yA) ?_
 simp
 apply T.seq
 refine T.rx ag follows [0,1,2,3,4,5,6,7,8] [] yAb ?_
 simp[hC,fQ]
 refine RX.ik (uu p E k st c s [I 1,I k,.bool false,I b1,I b2,.str b3,.av b4 b5,.bool false,I 0,.ah,.ah,.ah] rfl yB n yA yA) yAo (aT _) yAo (aT _) yA rfl rfl yAa rfl rfl yAs yAq yAr yAa ?_
 simp
 refine T.le (jE hC0 [6,7,5,4,0,1] 16 17 (e:=mE E0 l i n) rfl yBh rfl rfl rfl rfl rfl yB (jv _ _ (.set k false (dR E x)) (by simp[hin])) rfl yAa yAa) ?_
 simp only[mE]
 have f1:=aD (f:=iu) (n:=3) kP E
 have bd1:E.length*32≤140737488355328:=by omega
 have bd2:(E.length+1)*32≤140737488355328:=by omega
 apply T.seq
 refine T.rx ag follows [0,1,2,3,4,5,6,7,8,9,10,11,12,13,14,15,16,17,18] [(1,5),(1,8),(1,12),(1,14),(5,14),(6,8),(6,12),(6,14)] yAb ?_
 simp[hC,fQ,f1,bd1,bd2,aI]
 have wk:=ct ((k:Int)+1) yA yA
 have tn:trees (E.flatMap iu++[.str nm,I 4,I k])=true:=by rw[aC,cm];rfl
 have tk:List.take ((E.length+1)*3) (E.flatMap iu++[.str nm,I 4,I k])=E.flatMap iu++[.str nm,I 4,I k]:=List.take_of_length_le (by simp only[List.length_append,f1,List.length_cons,List.length_nil];omega)
 have q1:=aj (je p.gs)
 have q2:=aj (dp p.ms)
 have q3:=aj (cP p.fs)
 have q4:=aj (cm E)
 have q5:=aj (cm E0)
 have q6:=aj (bC l)
 apply aO
 simp[hC,wk]
 refine aa.le (Le.trim [5,4,0,1] [0,26,3,4] 27 (by simp[-List.all_eq_true,-List.all_flatMap,q4]) yA) ?_
 simp
 refine aa.le (Le.cG (o:=26) rfl tn) ?_
 simp[tk]
 refine aa.trim [5,4,0,1] [0,3,4] 5 yAu yA ?_
 simp[NS,bE,fQ,iu]
end Go.Proofs.YtmnglemlimfpbaaGreat
