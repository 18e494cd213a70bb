/- block: its memory, and the short forms of its walk. -/
import Derived.Test.YtlkmbdfhdknlgaaGreatDoorZ32
namespace Go.Proofs.YtlkmbdfhdknlgaaGreatDoor
open Go.Can Go.aT
def GM (id:Nat):Code→Option Code
 | .block j x=>if j=id then some (.block j x) else GM id x
 | .seq a b=>match GM id a with
  | some c=>some c
  | none=>GM id b
 | .cond _ a b=>match GM id a with
  | some c=>some c
  | none=>GM id b
 | .loop x=>GM id x
 | .scope x=>GM id x
 | _=>none
def iI (f:Func)(id:Nat):Code:=((f.body).bind (GM id)).getD .skip
theorem gw (x:In):trees (cK x)=true:=by
 cases x with
 | set t g e=>simp only[cK,bu,bj,Bool.and_true];rfl
 | call g t l ps=>simp only[cK,bu,bj,trees,tree,Bool.and_true];rfl
 | lock u q=>simp only[cK,bu,bj,iA,Bool.and_true];rfl
 | branch t e=>simp only[cK,bu,bj,Bool.and_true];rfl
 | jump t=>rfl
 | ret=>rfl
theorem jI (e:Ex):∃ o n s cs m,bC e=[I o,I n,.str s,.au cs m]∧trees cs=true:=⟨_,_,_,_,_,bJ e,aE bj _⟩
theorem CR (q:Pl):∃ b n cs m,mU q=[.bool b,I n,.au cs m]∧trees cs=true:=⟨_,_,_,_,by rw[mU,lB],aE bj _⟩
theorem Hr (r:Rf):∃ s cs m,jw r=[.str s,.au cs m]∧trees cs=true:=⟨_,_,_,by rw[jw,lB],aE bj _⟩
def dY (l:List In):Ob:=⟨136,12,l.flatMap cK⟩
def eZ (l:List Nat):Ob:=⟨3,1,l.map fun n:Nat=>I n⟩
theorem bP (l:List In):trees (l.flatMap cK)=true:=aE gw l
theorem aJ (l:List Nat):trees (l.map fun n:Nat=>I n)=true:=by
 induction l with
 | nil=>rfl
 | cons a r ih=>rw[List.map_cons,trees,ih];rfl
theorem vl (l:List In):(l.flatMap cK).length=l.length*12:=aQ (f:=cK) eV l
theorem C5 (x:In):(cK x).map nz=cK x:=by
 cases x with
 | set t g e=>simp[cK,bJ,pO]
 | call g t l ps=>simp[cK,bJ,pO]
 | lock u q=>simp[cK,bJ,mU,lB]
 | branch t e=>simp[cK,bJ,pO]
 | jump t=>simp[cK,bJ,pO]
 | ret=>simp[cK,bJ,pO]
theorem n8 (l:List In):(l.flatMap cK).map nz=l.flatMap cK:=by
 induction l with
 | nil=>rfl
 | cons a r ih=>rw[List.flatMap_cons,List.map_append,ih,C5]
def yX (c:CV):Bool:=match c with
 | .ai p 0=>p == 0 || p == 5
 | c=>tree c
section
variable (p:Pg)(E0:List En)(l:List Sm)(i:Nat)
def bE:List (Nat×CV):=[(5,I i),(4,.au (E0.flatMap gq) E0.length),(0,.ai 0 0),(1,.au (bh l) l.length)]
def NS (E:List En)(k st:Nat)(c:List In)(s:List Nat):St:=⟨bE E0 l i,[(0,eT p E k st 3 c.length 4 s.length),(3,dY c),(4,eZ s)],5⟩
def Dp:Sm→Int
 | .fN _ _=>1
 | .gz _ _=>2
 | .dm g _ _=>if g=true then 4 else 3
 | .cR u _=>if u=true then 6 else 5
 | .jS _ _ _=>7
 | .cb _ _=>8
 | .ia=>9
def mE (n:Nat):List (Nat×CV):=[(6,.ai 5 0),(7,I n),(5,I i),(4,.au (E0.flatMap gq) E0.length),(0,.ai 0 0),(1,.au (bh l) l.length)]
def mH (E:List En)(k st:Nat)(c:List In)(s:List Nat)(x:Sm):List (Nat×Ob):=[(0,eT p E k st 3 c.length 4 s.length),(3,dY c),(4,eZ s),(5,⟨170,0,gk x⟩)]
def MS (E:List En)(k st:Nat)(c:List In)(s:List Nat)(x:Sm)(n:Nat):St:=
 ⟨(41,I (Dp x))::mE E0 l i n,mH p E k st c s x,6⟩
end
theorem C1 {c:CV}(h:yX c=true){m:List (Nat×Nat)}(h0:(assoc m 0).isSome=true)(h5:c≠.ai 5 0∨(assoc m 5).isSome=true):yf m c=true:=by
 cases c with
 | ai q f=>
  cases f with
  | zero=>
   simp only[yX,Bool.or_eq_true,beq_iff_eq] at h;rcases h with rfl | rfl
   ·exact h0
   ·rcases h5 with h5 | h5
    ·exact (h5 rfl).elim
    ·exact h5
  | succ f=>simp[yX,tree] at h
 | agg cs=>simp only[yX,tree] at h;exact aK h m
 | db cs=>simp only[yX,tree] at h;exact aK h m
 | _=>first | exact h | simp[yX,tree] at h
theorem HM {c:CV}(h:yX c=true)(m:List (Nat×Nat))(n:Nat)(h0:gA m n 0=0)(h5:c≠.ai 5 0∨gA m n 5=5):en (gA m n) c=c:=by
 cases c with
 | ai q f=>
  cases f with
  | zero=>
   simp only[yX,Bool.or_eq_true,beq_iff_eq] at h;rcases h with rfl | rfl
   ·rw[en,h0]
   ·rcases h5 with h5 | h5
    ·exact (h5 rfl).elim
    ·rw[en,h5]
  | succ f=>simp[yX,tree] at h
 | _=>exact fO _ _ h
theorem uU {m:List (Nat×Nat)}{n:Nat}(h0:gA m n 0=0):∀ {e:List (Nat×CV)},(e.all fun x=>yX x.2)=true→((∀ x∈e,x.2≠CV.ai 5 0)∨gA m n 5=5)→dP (gA m n) e=e
 | [],_,_=>rfl
 | (t,c)::e,h,h5=>by
  simp only[List.all_cons,Bool.and_eq_true] at h;rw[dP,HM h.1 m n h0 (h5.imp (fun h5=>h5 (t,c) List.mem_cons_self) id),uU h0 h.2 (h5.imp (fun h5 x hx=>h5 x (List.mem_cons_of_mem _ hx)) id)]
theorem cq (ρ:Nat→Nat)(t:TypeId)(n:Nat){cs:List CV}(h:trees cs=true):cr ρ ⟨t,n,cs⟩=⟨t,n,cs⟩:=by simp only[cr,aF ρ _ h]
theorem gN (p:Pg):tree (.au (p.gs.flatMap mL) p.gs.length)=true∧tree (.au (p.ms.flatMap eQ) p.ms.length)=true∧tree (.au (p.fs.flatMap ed) p.fs.length)=true:=
 ⟨by simp only[tree],by simp only[tree],by simp only[tree]⟩
theorem bS (E:List En):trees (E.flatMap gq)=true:=aE (fun _=>rfl) E
section
variable {C:Cx}{s:St}{p:Pg}
theorem yG (E:List En)(k st a cl b sl:Nat)(m:List (Nat×Nat))(ha:(assoc m a).isSome=true)(hb:(assoc m b).isSome=true):(eT p E k st a cl b sl).cells.all (sI m)=true:=by
 obtain⟨t1,t2,t3⟩:=gN p;have t4:=bS E;simp only[eT,List.all_cons,List.all_nil,sI,ha,hb,Bool.and_true,Bool.and_eq_true];simp only[tree] at t1 t2 t3 ⊢;refine⟨t1,t2,t3,?_⟩;simp
theorem oY (E:List En)(k st a cl b sl:Nat)(ρ:Nat→Nat):cr ρ (eT p E k st a cl b sl)=eT p E k st (ρ a) cl (ρ b) sl:=by
 obtain⟨t1,t2,t3⟩:=gN p;have t4:tree (.au (E.flatMap gq) E.length)=true:=by simp only[tree]
 simp only[cr,eT,cg,fO ρ _ t1,fO ρ _ t2,fO ρ _ t3,fO ρ _ t4];rfl
theorem jz (xJ:C.n0=3)(ks:List Nat)(a b:Nat){e:List (Nat×CV)}{E:List En}{k st N M:Nat}{X S:List CV}{c':List In}{s':List Nat}(he:pick s.env ks=e)(Kb:(e.all fun x=>yX x.2)=true)(h5:∀ x∈e,x.2≠CV.ai 5 0)(T5:(a != b && (a != 0 && b != 0))=true)
  (h0:assoc s.heap 0=some (eT p E k st a N b M)) (ha:assoc s.heap a=some ⟨136,12,X⟩) (hb:assoc s.heap b=some ⟨3,1,S⟩) (hX:X.map nz=c'.flatMap cK) (hS:S=s'.map fun n:Nat=>I n) (hN:N=c'.length) (hM:M=s'.length) :
  Le C s ⟨e,[(0,eT p E k st 3 c'.length 4 s'.length),(3,dY c'),(4,eZ s')],5⟩:=by
 subst hN hM hS;simp only[Bool.and_eq_true,bne_iff_ne,ne_eq] at T5;obtain⟨n1,n2,n3⟩:=T5;have Vf:¬ b=a:=fun h=>n1 h.symm;refine Le.trans (Le.nz [] [a]) ?_;have e1:BS [] s.env=s.env:=by
  have:∀ e:List (Nat×CV),BS [] e=e:=by
   intro e
   induction e with
   | nil=>rfl
   | cons x r ih=>obtain⟨k,c⟩:=x;rw[BS,ih];rfl
  exact this _
 rw[e1];have g0:assoc (wS [a] s.heap) 0=some (eT p E k st a c'.length b s'.length):=by
  rw[dw,h0];simp[Ne.symm n2]
 have ga:assoc (wS [a] s.heap) a=some (dY c'):=by
  rw[dw,ha];simp[hX,dY]
 have gb:assoc (wS [a] s.heap) b=some (eZ s'):=by
  rw[dw,hb];simp[Vf,eZ]
 have r0:gA [(0,0),(a,3),(b,4)] 5 0=0:=rfl;have ra:gA [(0,0),(a,3),(b,4)] 5 a=3:=by simp[gA,assoc,Ne.symm n2]
 have rb:gA [(0,0),(a,3),(b,4)] 5 b=4:=by simp[gA,assoc,Ne.symm n3,n1]
 have KO:=Le.norm (C:=C) (s:=⟨s.env,wS [a] s.heap,s.nx⟩) ks [(0,0),(a,3),(b,4)] 3 5 (by simp[rz,n1,Ne.symm n2,Ne.symm n3]) (by simp only[List.all_cons,List.all_nil,g0,ga,gb];rfl) ?_ yA
 ·simp only[he,List.map_cons,List.map_nil,pick,g0,ga,gb,bY] at KO;rw[uU r0 Kb (.inl h5),r0,ra,rb,oY,ra,rb,dY,eZ,cq _ _ _ (bP c'),cq _ _ _ (aJ s')] at KO;exact KO
 ·simp only[e8,he,List.map_cons,List.map_nil,pick,g0,ga,gb,List.all_cons,List.all_nil,Bool.and_true,Bool.and_eq_true,List.all_eq_true (l:=e)];refine⟨fun x hx=>C1 ((List.all_eq_true.1 Kb) x hx) rfl (.inl (h5 x hx)),yG E k st a _ b _ _ (by simp[assoc,Ne.symm n2]) (by simp[assoc,Ne.symm n3];split<;>rfl),aK (bP c') _,aK (aJ s') _⟩
theorem ic (xJ:C.n0=3)(ks:List Nat)(a b:Nat){e:List (Nat×CV)}{E:List En}{k st N M:Nat}{X S cs:List CV}{c':List In}{s':List Nat}(he:pick s.env ks=e)(Kb:(e.all fun x=>yX x.2)=true)(T5:((a != b && (a != 0 && b != 0)) && (a != 5 && b != 5))=true)
  (h0:assoc s.heap 0=some (eT p E k st a N b M)) (ha:assoc s.heap a=some ⟨136,12,X⟩) (hb:assoc s.heap b=some ⟨3,1,S⟩) (h5:assoc s.heap 5=some ⟨170,0,cs⟩) (Kr:trees cs=true) (hX:X.map nz=c'.flatMap cK) (hS:S=s'.map fun n:Nat=>I n) (hN:N=c'.length) (hM:M=s'.length) :
  Le C s ⟨e,[(0,eT p E k st 3 c'.length 4 s'.length),(3,dY c'),(4,eZ s'),(5,⟨170,0,cs⟩)],6⟩:=by
 subst hN hM hS;simp only[Bool.and_eq_true,bne_iff_ne,ne_eq] at T5;obtain⟨⟨n1,n2,n3⟩,n4,n5⟩:=T5;have Vf:¬ b=a:=fun h=>n1 h.symm;refine Le.trans (Le.nz [] [a]) ?_;have e1:BS [] s.env=s.env:=by
  have:∀ e:List (Nat×CV),BS [] e=e:=by
   intro e
   induction e with
   | nil=>rfl
   | cons x r ih=>obtain⟨k,c⟩:=x;rw[BS,ih];rfl
  exact this _
 rw[e1];have g0:assoc (wS [a] s.heap) 0=some (eT p E k st a c'.length b s'.length):=by
  rw[dw,h0];simp[Ne.symm n2]
 have ga:assoc (wS [a] s.heap) a=some (dY c'):=by
  rw[dw,ha];simp[hX,dY]
 have gb:assoc (wS [a] s.heap) b=some (eZ s'):=by
  rw[dw,hb];simp[Vf,eZ]
 have g5:assoc (wS [a] s.heap) 5=some ⟨170,0,cs⟩:=by
  rw[dw,h5];simp;intro h;exact (n4 h.symm).elim
 have r0:gA [(0,0),(a,3),(b,4),(5,5)] 6 0=0:=rfl;have ra:gA [(0,0),(a,3),(b,4),(5,5)] 6 a=3:=by simp[gA,assoc,Ne.symm n2]
 have rb:gA [(0,0),(a,3),(b,4),(5,5)] 6 b=4:=by simp[gA,assoc,Ne.symm n3,n1]
 have r5:gA [(0,0),(a,3),(b,4),(5,5)] 6 5=5:=by simp[gA,assoc,n4,n5]
 have KO:=Le.norm (C:=C) (s:=⟨s.env,wS [a] s.heap,s.nx⟩) ks [(0,0),(a,3),(b,4),(5,5)] 3 6 (by simp[rz,n1,Ne.symm n2,Ne.symm n3,n4,n5]) (by simp only[List.all_cons,List.all_nil,g0,ga,gb,g5];rfl) ?_ yA
 ·simp only[he,List.map_cons,List.map_nil,pick,g0,ga,gb,g5,bY] at KO;rw[uU r0 Kb (.inr r5),r0,ra,rb,r5,oY,ra,rb,dY,eZ,cq _ _ _ (bP c'),cq _ _ _ (aJ s'),cq _ _ _ Kr] at KO;exact KO
 ·simp only[e8,he,List.map_cons,List.map_nil,pick,g0,ga,gb,g5,List.all_cons,List.all_nil,Bool.and_true,Bool.and_eq_true,List.all_eq_true (l:=e)];refine⟨fun x hx=>C1 ((List.all_eq_true.1 Kb) x hx) rfl (.inr (by simp[assoc,n4,n5])),yG E k st a _ b _ _ (by simp[assoc,Ne.symm n2]) (by simp[assoc,Ne.symm n3];split<;>rfl),aK (bP c') _,aK (aJ s') _,aK Kr _⟩
end
theorem uG (p:Pg)(E:List En)(k st a cl b sl n:Nat)(ha:a<n)(hb:b<n):aO n (eT p E k st a cl b sl).cells=true:=by
 obtain⟨t1,t2,t3⟩:=gN p;have t4:tree (.au (E.flatMap gq) E.length)=true:=by simp only[tree]
 simp only[eT,aO,bq n _ t1,bq n _ t2,bq n _ t3,bq n _ t4,Bool.true_and];simp[aZ,ha,hb]
def okW (c:CV):Bool:=match c with
 | .ai p 0=>p == 0
 | c=>tree c
theorem C0 {c:CV}(h:okW c=true)(ρ:Nat→Nat)(h0:ρ 0=0):en ρ c=c:=by
 cases c with
 | ai q f=>
  cases f with
  | zero=>
   simp only[okW,beq_iff_eq] at h;subst h;rw[en,h0]
  | succ f=>simp[okW,tree] at h
 | _=>exact fO _ _ h
theorem zN {ρ:Nat→Nat}(h0:ρ 0=0):∀ {cs:List CV},cs.all okW=true→cg ρ cs=cs
 | [],_=>rfl
 | c::cs,h=>by
  simp only[List.all_cons,Bool.and_eq_true] at h;rw[cg,C0 h.1 ρ h0,zN h0 h.2]
theorem rp {n:Nat}(hn:0<n):∀ {cs:List CV},cs.all okW=true→aO n cs=true
 | [],_=>rfl
 | c::cs,h=>by
  simp only[List.all_cons,Bool.and_eq_true] at h;rw[aO,rp hn h.2,Bool.and_true];have h1:=h.1
  cases c with
  | ai q f=>
   cases f with
   | zero=>
    simp only[okW,beq_iff_eq] at h1;subst h1
    simpa [aZ] using hn
   | succ f=>simp[okW,tree] at h1
  | _=>exact bq _ _ h1
theorem Fw (m:Nat)(h:4<m):Fx [0,3,4] m=true:=by
 simp only[Fx,List.all_cons,List.all_nil,Bool.and_true,Bool.and_eq_true,decide_eq_true_eq];refine⟨⟨by omega,by omega,by omega⟩,by decide⟩
theorem Dj (m:Nat):cU [0,3,4] m 0=0:=rfl
theorem mapN1 (m:Nat):cU [0,3,4] m 1=3:=rfl
theorem mapN2 (m:Nat):cU [0,3,4] m 2=4:=rfl
theorem mapN3 (m:Nat):cU [0,3,4] m 3=m:=by simp[cU]
theorem mapN4 (m:Nat):cU [0,3,4] m 4=m+1:=by simp[cU];omega
def hO (H:List (Nat×Ob))(ks:List Nat)(nx:Nat):Bool:=H.all fun x=>!ks.contains x.1 && decide (x.1<nx)
theorem ox:∀ (ks:List Nat) (H:List (Nat×Ob)) (nx:Nat),hO H ks nx=true→dG H ks=H
 | [],_,_,_=>rfl
 | k::ks,H,nx,h=>by
  have h1:iY H k=H:=by
   have:∀ H:List (Nat×Ob),hO H (k::ks) nx=true→iY H k=H:=by
    intro H
    induction H with
    | nil=>intro _;rfl
    | cons x r ih=>
     intro h;obtain⟨q,ob⟩:=x;have h':=h;simp only[hO,List.all_cons,Bool.and_eq_true] at h';have h2:=h'.1.1;simp only[Bool.not_eq_true',List.contains_eq_mem,decide_eq_false_iff_not,List.mem_cons,not_or] at h2;rw[iY,if_neg h2.1,ih h'.2]
   exact this H h
  rw[dG,h1];refine ox ks H nx ?_;simp only[hO,List.all_eq_true,Bool.and_eq_true,Bool.not_eq_true',List.contains_eq_mem,decide_eq_false_iff_not,List.mem_cons,not_or] at h ⊢;exact fun x hx=>⟨(h x hx).1.2,(h x hx).2⟩
theorem GK {H:List (Nat×Ob)}{ks:List Nat}{nx:Nat}(h:hO H ks nx=true):(H.all fun x=>decide (x.1<nx))=true:=by
 simp only[hO,List.all_eq_true,Bool.and_eq_true] at h ⊢;exact fun x hx=>(h x hx).2
section
variable {C:Cx}{p:Pg}{ops:Array Oper}{e:List (Nat×CV)}{H:List (Nat×Ob)}{nx:Nat}
theorem AT (E:List En)(k st cl sl nx:Nat):bY (cU [0,3,4] nx) [(0,cG p E k st cl sl)]=[(0,eT p E k st 3 cl 4 sl)]:=by
 rw[bY,bY,uF,oY];rfl
theorem TL.fH {o:Oper}{l:List Oper}{c:Call}{g:FuncId}{args:List CV}{K:St→Prop}{r0:CV}{E:List En}{k st cl sl:Nat}(hb:Body Tryz.prog ak g args [(0,cG p E k st cl sl)] 3 (jQ r0 [(0,cG p E k st cl sl)] 3))(KB:4<nx)(hH:hO H [0] nx=true)
  (hd:a9 C.nt o.dst=true) (hg:bM ops ⟨e,(0,eT p E k st 3 cl 4 sl)::H,nx⟩ o=Option.some true) (ho:o.op=.call c) (Kj:bl ⟨e,(0,eT p E k st 3 cl 4 sl)::H,nx⟩ c=Option.some (g,args)) (AW:args.all okW=true) (ht:tree r0=true)
  (hK:TL Tryz.prog C ops l (St.put ⟨e,(0,eT p E k st 3 cl 4 sl)::H,nx⟩ o.dst r0) K):TL Tryz.prog C ops (o::l) ⟨e,(0,eT p E k st 3 cl 4 sl)::H,nx⟩ K:=by
 have oy:dG ((0,eT p E k st 3 cl 4 sl)::H) [0]=H:=ox [0] H nx hH;refine TL.rZ af [0,3,4] [0] 3 0 hb rfl (Fw nx KB) hd hg ho Ug (by simp only[AT];rfl) (rp yA AW) (by simp only[cV,uF,uG p E k st 1 cl 2 sl 3 yA yA];rfl) ht ?_ ?_
 ·simp only[AT,oy,pD,List.all_cons,List.all_nil,Bool.and_true,Bool.and_eq_true];exact⟨rfl,GK hH⟩
 ·simp only[AT,oy];exact hK
theorem RX.fH {o:Oper}{cl:Call}{g:FuncId}{args:List CV}{r0:CV}{W:List oR}{nt N:Nat}{dyn:List (Nat×Nat)}{K:St→Prop}{i:Nat}{r:List Nat}{res:Nat→Er}{E:List En}{k st cn sn:Nat}(hb:Body Tryz.prog ak g args [(0,cG p E k st cn sn)] 3 (jQ r0 [(0,cG p E k st cn sn)] 3))(KB:4<nx)(hH:hO H [0] nx=true)
  (hi:ops[i]? = Option.some o) (hd:a9 nt o.dst=true) (hg:bM ops ⟨e,(0,eT p E k st 3 cn 4 sn)::H,nx⟩ o=Option.some true) (hu:bR o=Option.some cl) (Kj:bl ⟨e,(0,eT p E k st 3 cn 4 sn)::H,nx⟩ cl=Option.some (g,args)) (AW:args.all okW=true) (ht:tree r0=true) (hv:xU dyn res i [0]=true)
  (hK:rV W dyn res i (hU r0 [0] [] 0 [(0,eT p E k st 3 cn 4 sn)])∧kV ak W nt ops N dyn (zD Tryz.prog ak W nt ops N dyn K) r (note dyn res i (hU r0 [0] [] 0 [(0,eT p E k st 3 cn 4 sn)])) (St.put ⟨e,(0,eT p E k st 3 cn 4 sn)::H,nx⟩ o.dst r0)):RX Tryz.prog ak W nt ops N dyn K (i::r) res ⟨e,(0,eT p E k st 3 cn 4 sn)::H,nx⟩:=by
 have oy:dG ((0,eT p E k st 3 cn 4 sn)::H) [0]=H:=ox [0] H nx hH;refine RX.rZ [0,3,4] [0] [] 3 0 hb rfl (Fw nx KB) hi hd hg hu Ug (by simp only[AT];rfl) (rp yA AW) (by simp only[cV,uF,uG p E k st 1 cn 2 sn 3 yA yA];rfl) ht hv (by simp only[AT];rfl) (fun _ _ _=>rfl) ?_;simp only[AT,oy];exact hK
def T3 (p:Pg)(E:List En)(k st cl sl:Nat)(o1 o2:Ob):List (Nat×Ob):=[(0,eT p E k st 1 cl 2 sl),(1,o1),(2,o2)]
theorem rn_T {E:List En}{k st cl sl nx:Nat}{o1 o2:Ob}(h1:trees o1.cells=true)(h2:trees o2.cells=true):bY (cU [0,3,4] nx) (T3 p E k st cl sl o1 o2)=[(0,eT p E k st 3 cl 4 sl),(3,o1),(4,o2)]:=by
 simp only[T3,bY,oY,Dj,mapN1,mapN2];rw[show cr (cU [0,3,4] nx) o1=o1 from cq _ _ _ h1,show cr (cU [0,3,4] nx) o2=o2 from cq _ _ _ h2]
def T4 (p:Pg)(E:List En)(k st cl sl:Nat)(o1 o2:Ob):List (Nat×Ob):=[(0,eT p E k st 3 cl 4 sl),(3,o1),(4,o2)]
theorem zF {E:List En}{k st cl sl nx:Nat}{o1 o2:Ob}(h1:trees o1.cells=true)(h2:trees o2.cells=true):bY (cU [0,3,4] nx) (T4 p E k st cl sl o1 o2)=[(0,eT p E k st nx cl (nx+1) sl),(nx,o1),(nx+1,o2)]:=by
 simp only[T4,bY,oY,Dj,mapN3,mapN4];rw[show cr (cU [0,3,4] nx) o1=o1 from cq _ _ _ h1,show cr (cU [0,3,4] nx) o2=o2 from cq _ _ _ h2]
theorem GY {E:List En}{k st cl sl:Nat}{o1 o2:Ob}(h1:trees o1.cells=true)(h2:trees o2.cells=true):cV 3 (T3 p E k st cl sl o1 o2)=true:=by
 simp only[T3,cV,uG p E k st 1 cl 2 sl 3 yA yA,fx 3 _ h1,fx 3 _ h2];rfl
variable {E E':List En}{k k' st RZ cn Si sn R0:Nat}{o1 o2 o3 o4:Ob}{args:List CV}{r0:CV}{g:FuncId}
theorem TL.gg {o:Oper}{l:List Oper}{c:Call}{K:St→Prop}(hb:Body Tryz.prog ak g args (T3 p E k st cn sn o1 o2) 3 (jQ r0 (T4 p E' k' RZ Si R0 o3 o4) (3+2)))(h1:trees o1.cells=true)(h2:trees o2.cells=true)(h3:trees o3.cells=true)(h4:trees o4.cells=true)(KB:4<nx)(hH:hO H [0,3,4] nx=true)
  (hd:a9 C.nt o.dst=true) (hg:bM ops ⟨e,(0,eT p E k st 3 cn 4 sn)::(3,o1)::(4,o2)::H,nx⟩ o=Option.some true) (ho:o.op=.call c) (Kj:bl ⟨e,(0,eT p E k st 3 cn 4 sn)::(3,o1)::(4,o2)::H,nx⟩ c=Option.some (g,args)) (AW:args.all okW=true) (ht:tree r0=true)
  (hK:TL Tryz.prog C ops l (St.put ⟨e,(0,eT p E' k' RZ nx Si (nx+1) R0)::(nx,o3)::(nx+1,o4)::H,nx+2⟩ o.dst r0) K):TL Tryz.prog C ops (o::l) ⟨e,(0,eT p E k st 3 cn 4 sn)::(3,o1)::(4,o2)::H,nx⟩ K:=by
 have oy:dG ((0,eT p E k st 3 cn 4 sn)::(3,o1)::(4,o2)::H) [0,3,4]=H:=ox [0,3,4] H nx hH;refine TL.rZ af [0,3,4] [0,3,4] 3 2 hb rfl (Fw nx KB) hd hg ho Ug (by simp only[rn_T h1 h2];rfl) (rp yA AW) (GY h1 h2) ht ?_ ?_
 ·simp only[zF h3 h4,oy,pD,Bool.and_eq_true];exact⟨by simp,GK hH⟩
 ·simp only[zF h3 h4,oy];exact hK
theorem RX.gg {o:Oper}{cl:Call}{W:List oR}{nt N:Nat}{dyn:List (Nat×Nat)}{K:St→Prop}{i:Nat}{r:List Nat}{res:Nat→Er}(hb:Body Tryz.prog ak g args (T3 p E k st cn sn o1 o2) 3 (jQ r0 (T4 p E' k' RZ Si R0 o3 o4) (3+2)))(h1:trees o1.cells=true)(h2:trees o2.cells=true)(h3:trees o3.cells=true)(h4:trees o4.cells=true)(KB:4<nx)(hH:hO H [0,3,4] nx=true)
  (hi:ops[i]? = Option.some o) (hd:a9 nt o.dst=true) (hg:bM ops ⟨e,(0,eT p E k st 3 cn 4 sn)::(3,o1)::(4,o2)::H,nx⟩ o=Option.some true) (hu:bR o=Option.some cl) (Kj:bl ⟨e,(0,eT p E k st 3 cn 4 sn)::(3,o1)::(4,o2)::H,nx⟩ cl=Option.some (g,args)) (AW:args.all okW=true) (ht:tree r0=true) (hv:xU dyn res i [0,3,4]=true)
  (hK:rV W dyn res i (hU r0 [0,3,4] [0,3,4,nx,nx+1] 2 [(0,eT p E' k' RZ nx Si (nx+1) R0),(nx,o3),(nx+1,o4)])∧kV ak W nt ops N dyn (zD Tryz.prog ak W nt ops N dyn K) r (note dyn res i (hU r0 [0,3,4] [0,3,4,nx,nx+1] 2 [(0,eT p E' k' RZ nx Si (nx+1) R0),(nx,o3),(nx+1,o4)])) (St.put ⟨e,(0,eT p E' k' RZ nx Si (nx+1) R0)::(nx,o3)::(nx+1,o4)::H,nx+2⟩ o.dst r0)) :
  RX Tryz.prog ak W nt ops N dyn K (i::r) res ⟨e,(0,eT p E k st 3 cn 4 sn)::(3,o1)::(4,o2)::H,nx⟩:=by
 have oy:dG ((0,eT p E k st 3 cn 4 sn)::(3,o1)::(4,o2)::H) [0,3,4]=H:=ox [0,3,4] H nx hH;refine RX.rZ [0,3,4] [0,3,4] [0,3,4,nx,nx+1] 3 2 hb rfl (Fw nx KB) hi hd hg hu Ug (by simp only[rn_T h1 h2];rfl) (rp yA AW) (GY h1 h2) ht hv ?_ (fun q hq hn=>(hn (List.mem_append_left [nx,nx+1] hq)).elim) ?_
 ·simp only[zF h3 h4];have e1:¬ 0=nx:=by omega
  have e2:¬ 3=nx:=by omega
  simp[assoc,e1]
 ·simp only[zF h3 h4,oy];exact hK
def JH (c:List In)(cs:List CV):Ob:=⟨136,12,c.flatMap cK++cs⟩
theorem sV (c:List In){cs:List CV}(h:trees cs=true):trees (JH c cs).cells=true:=by simp only[JH,bu,bP,h];rfl
theorem qX (p:Pg)(E:List En)(k st:Nat)(c:List In)(s:List Nat)(cs:List CV)(Kr:cs.length=12)(LS:trees cs=true)(n:Nat)(hN:c.length≤10000)(hM:s.length≤10000) :
  Body Tryz.prog ak 85 [.ai 0 0,.agg cs,I n] (T3 p E k st c.length s.length (dY c) (eZ s)) 3 (jQ (I c.length) (T4 p E k st (c.length+1) (s.length+1) (JH c cs) (eZ (s++[n]))) (3+2)):=by
 have:=HD p E k st (c.flatMap cK) c.length (vl c) (bP c) (s.map fun n:Nat=>I n) s.length j5 (aJ s) hN hM cs Kr LS n
 simpa only[T3,T4,JH,eZ,dY,List.map_append,List.map_cons,List.map_nil] using this
theorem HE (p:Pg)(E:List En)(k st:Nat)(c:List In)(s:List Nat)(N M:Nat)(h1:N=c.length)(h2:M=s.length)(cs:List CV)(Kr:cs.length=12)(LS:trees cs=true)(n:Nat)(hN:N≤10000)(hM:M≤10000) :
  Body Tryz.prog ak 85 [.ai 0 0,.agg cs,I n] (T3 p E k st N M (dY c) (eZ s)) 3 (jQ (I N) (T4 p E k st (N+1) (M+1) (JH c cs) (eZ (s++[n]))) (3+2)):=by
 subst h1 h2;exact qX p E k st c s cs Kr LS n hN hM
theorem g8 (c:List In)(cs:List CV)(x:In)(h:cs.map nz=cK x):(c.flatMap cK++cs).map nz=(c++[x]).flatMap cK:=by simp[n8,h]
end
theorem mN (E0:List En)(l:List Sm)(i:Nat):((bE E0 l i).all fun x=>yX x.2)=true:=by
 simp[bE,yX,tree]
theorem mO (E0:List En)(l:List Sm)(i:Nat):∀ x∈bE E0 l i,x.2≠CV.ai 5 0:=by
 simp[bE]
@[simp] theorem E7 (p:Pg)(E:List En)(k st a cl b sl n:Nat):(eT p E k st a cl b sl).cells.all (aZ n)=(decide (a<n) && decide (b<n)):=by
 obtain⟨t1,t2,t3⟩:=gN p;have t4:tree (.au (E.flatMap gq) E.length)=true:=by simp only[tree]
 simp only[eT,List.all_cons,List.all_nil,bq n _ t1,bq n _ t2,bq n _ t3,bq n _ t4,Bool.true_and];simp[aZ]
@[simp] theorem scO_ltS (p:Pg)(E:List En)(k st a cl b sl n:Nat):aO n (eT p E k st a cl b sl).cells=(decide (a<n) && decide (b<n)):=by rw[bU];exact E7 p E k st a cl b sl n
@[simp] theorem D7 (c:List In)(n:Nat):(dY c).cells.all (aZ n)=true:=aj (bP c) n
@[simp] theorem CB (s:List Nat)(n:Nat):(eZ s).cells.all (aZ n)=true:=aj (aJ s) n
@[simp] theorem coOb_ltS (c:List In)(n:Nat):aO n (dY c).cells=true:=by rw[bU];exact D7 c n
@[simp] theorem siOb_ltS (s:List Nat)(n:Nat):aO n (eZ s).cells=true:=by rw[bU];exact CB s n
@[simp] theorem coOb_frz (c:List In)(o:Nat)(cs:List CV)(n:Nat):(dY c).cells.map (bZ o cs n)=(dY c).cells:=dv (bP c) o cs n
@[simp] theorem siOb_frz (s:List Nat)(o:Nat)(cs:List CV)(n:Nat):(eZ s).cells.map (bZ o cs n)=(eZ s).cells:=dv (aJ s) o cs n
@[simp] theorem coOb_eta (c:List In):(⟨(dY c).elem,(dY c).sz,(dY c).cells⟩:Ob)=dY c:=rfl
@[simp] theorem siOb_eta (s:List Nat):(⟨(eZ s).elem,(eZ s).sz,(eZ s).cells⟩:Ob)=eZ s:=rfl
def MZ (p:Pg)(E0:List En)(l:List Sm)(i:Nat)(E:List En)(k st:Nat)(c:List In)(s:List Nat)(cs:List CV)(n:Nat):St:=
 ⟨mE E0 l i n,[(0,eT p E k st 3 c.length 4 s.length),(3,dY c),(4,eZ s),(5,⟨170,0,cs⟩)],6⟩
set_option maxHeartbeats 4000000 in
theorem F2 {C:Cx}{Q:Exit→St→Prop}(hC:C.nt=253)(xJ:C.n0=3)(p:Pg)(E0:List En)(l:List Sm)(i:Nat){g:Nat}{fs:List (ByteArray×List Pm)}{ps:List Pm}{V:List ByteArray}(E:List En)(k st:Nat)(c:List In)(s:List Nat)(n:Nat)
  (hE:EW g p.ms fs ps V E k) (hl:E.length≤100000) (hm:p.ms.length≤1000) (hc:c.length≤9000) (hs:s.length≤9000) (u:Bool) (r:Rf) (hr:BX p.ms ps V r) :
  T Tryz.prog C (iI Tryz.f84 2) (MS p E0 l i E k st c s (.cR u r) n) (eC (aa C (fun z=>z=NS p E0 l i E k st (c++[.lock u (uJ E r)]) (s++[n]))) Q):=by
 have hb:=zZ p E k st c.length s.length hE hl hm n r hr;obtain⟨b1,b2,b3,b4,hp,ht⟩:=CR (uJ E r);obtain⟨a1,a2,a3,S8,SN⟩:=Hr r;have Kz:cK (.lock u (uJ E r))=[I (if u then 5 else 4),I 0,.bool false,I 0,I 0,.str eS,.au [] 0,.bool b1,I b2,.au b3 b4,.au [] 0,.au [] 0]:=by simp[cK,hp,bC]
 rw[hp,S8] at hb;apply T.block;have MJ:gk (.cR u r)=[I (if u then 6 else 5),.str eS,I 0,I 0,.str eS,.au [] 0,.str a1,.au a2 a3,.au [] 0,.au [] 0,.au [] 0]:=by simp[gk,S8,bC]
 simp only[MS,mE,mH,Dp,MJ]
 cases u with
 | false=>
  apply ah;simp[hC];refine aU ?_;simp;apply ah;simp[hC];refine aU ?_;simp;apply aL;simp[hC];refine aU ?_;simp;apply a8;simp[hC];refine aU ?_;simp;apply ah;simp[hC];refine cz ?_;simp;apply a8;simp[hC];refine TL.fH (hb) yA rfl yI rfl rfl Ml Mn Mm (TL.go' af ?_);simp[hC];refine TL.gg (qX p E k st c s [I 4,I 0,.bool false,I 0,I 0,.str eS,.ag,.bool b1,I b2,.au b3 b4,.ag,.ag] rfl (by simp[trees,tree]) n yA yA) L7 (aJ _) L7 (aJ _) yA rfl yI rfl rfl Ml Mn Mm (TL.go' af ?_);simp;refine aa.le (jz xJ [5,4,0,1] 6 7 (e:=bE E0 l i) rfl (mN _ _ _) (mO _ _ _) rfl rfl rfl rfl (g8 _ _ (.lock false (uJ E r)) (by simp[Kz])) rfl j5 j5) (aa.here rfl)
 | true=>
  apply ah;simp[hC];refine aU ?_;simp;apply ah;simp[hC];refine aU ?_;simp;apply aL;simp[hC];refine aU ?_;simp;apply a8;simp[hC];refine aU ?_;simp;apply ah;simp[hC];refine aU ?_;simp;apply ah;simp[hC];refine cz ?_;simp;apply a8;simp[hC];refine TL.fH (hb) yA rfl yI rfl rfl Ml Mn Mm (TL.go' af ?_);simp[hC];refine TL.gg (qX p E k st c s [I 5,I 0,.bool false,I 0,I 0,.str eS,.ag,.bool b1,I b2,.au b3 b4,.ag,.ag] rfl (by simp[trees,tree]) n yA yA) L7 (aJ _) L7 (aJ _) yA rfl yI rfl rfl Ml Mn Mm (TL.go' af ?_);simp;refine aa.le (jz xJ [5,4,0,1] 6 7 (e:=bE E0 l i) rfl (mN _ _ _) (mO _ _ _) rfl rfl rfl rfl (g8 _ _ (.lock true (uJ E r)) (by simp[Kz])) rfl j5 j5) (aa.here rfl)
set_option maxHeartbeats 4000000 in
theorem Ip {C:Cx}{Q:Exit→St→Prop}(hC:C.nt=253)(xJ:C.n0=3)(p:Pg)(E0:List En)(l:List Sm)(i:Nat)(E:List En)(k st:Nat)(c:List In)(s:List Nat)(n:Nat)
  (hc:c.length≤9000) (hs:s.length≤9000) :
  T Tryz.prog C (iI Tryz.f84 2) (MS p E0 l i E k st c s .ia n) (eC (aa C (fun z=>z=NS p E0 l i E k st (c++[.ret]) (s++[n]))) Q):=by
 apply T.block;simp only[MS,mE,mH,Dp,gk];apply ah;simp[hC];refine aU ?_;simp;apply ah;simp[hC];refine aU ?_;simp;apply aL;simp[hC];refine aU ?_;simp;apply a8;simp[hC];refine aU ?_;simp;apply ah;simp[hC];refine aU ?_;simp;apply ah;simp[hC];refine aU ?_;simp;apply ah;simp[hC];refine aU ?_;simp;apply ah;simp[hC];refine aU ?_;simp;apply a8;simp[hC];refine TL.gg (qX p E k st c s [I 8,I 0,.bool false,I 0,I 0,.str eS,.ag,.bool false,I 0,.ag,.ag,.ag] rfl rfl n yA yA) L7 (aJ _) L7 (aJ _) yA rfl yI rfl rfl Ml Mn Mm (TL.go' af ?_);simp;refine aa.le (jz xJ [5,4,0,1] 6 7 (e:=bE E0 l i) rfl (mN _ _ _) (mO _ _ _) rfl rfl rfl rfl (g8 _ _ (.ret) (by simp[cK,bC,pO])) rfl j5 j5) (aa.here rfl)
set_option maxHeartbeats 4000000 in
theorem F3 {C:Cx}{Q:Exit→St→Prop}(hC:C.nt=253)(xJ:C.n0=3)(p:Pg)(E0:List En)(l:List Sm)(i:Nat){g:Nat}{ps:List Pm}{V:List ByteArray}(E:List En)(k st:Nat)(c:List In)(s:List Nat)(n:Nat)
  (hE:EW g p.ms (p.fs.map fun f=>(f.name,f.params)) ps V E k) (hl:E.length≤100000) (hm:p.ms.length≤1000) (Ld:p.fs.length≤1000) (hc:c.length≤9000) (hs:s.length≤9000) (go:Bool) (nm:ByteArray) (gp:List Pm) (al:List Ar)
  (hg:(nm,gp)∈p.fs.map fun f=>(f.name,f.params)) (hw:gZ p.ms ps V gp al) (NR:gp.length≤1000) :
  T Tryz.prog C (iI Tryz.f84 2) (MS p E0 l i E k st c s (.dm go nm al) n) (eC (aa C (fun z=>z=NS p E0 l i E k st (c++[.call go (j9 E nm).n (cC E al) (dT E al)]) (s++[n]))) Q):=by
 have hb:=Dn p E k st c.length s.length hE hl hm Ld n go nm gp al hg hw NR;have NL:=gw (.call go (j9 E nm).n (cC E al) (dT E al));have Vg:=eV (.call go (j9 E nm).n (cC E al) (dT E al));have Ve:=C5 (.call go (j9 E nm).n (cC E al) (dT E al));have tsm:=gv (.dm go nm al);have lsm:=jh (.dm go nm al);generalize hX:cK (.call go (j9 E nm).n (cC E al) (dT E al))=X at hb NL Vg Ve;have hS:gk (.dm go nm al)=mQ (if go=true then 4 else 3) nm al:=rfl;rw[hS] at hb;apply T.block;simp only[MS,mE,mH,Dp,hS,mQ];simp only[mQ] at hb
 cases go with
 | false=>
  apply ah;simp[hC];refine aU ?_;simp;apply ah;simp[hC];refine aU ?_;simp;apply aL;simp[hC];refine gF ?_;simp;refine cz ?_;simp;apply a8;simp[hC];refine TL.fH (hb) yA rfl yI rfl rfl Ml Mn Mm (TL.go' af ?_);simp[hC];refine TL.gg (qX p E k st c s X Vg NL n yA yA) L7 (aJ _) L7 (aJ _) yA rfl yI rfl rfl Ml Mn Mm (TL.go' af ?_);simp;refine aa.le (jz xJ [5,4,0,1] 6 7 (e:=bE E0 l i) rfl (mN _ _ _) (mO _ _ _) rfl rfl rfl rfl (g8 _ _ (.call false (j9 E nm).n (cC E al) (dT E al)) (by simp[Ve,hX])) rfl j5 j5) (aa.here rfl)
 | true=>
  apply ah;simp[hC];refine aU ?_;simp;apply ah;simp[hC];refine aU ?_;simp;apply aL;simp[hC];refine aU ?_;simp;apply a8;simp[hC];refine cz ?_;simp;apply a8;simp[hC];refine TL.fH (hb) yA rfl yI rfl rfl Ml Mn Mm (TL.go' af ?_);simp[hC];refine TL.gg (qX p E k st c s X Vg NL n yA yA) L7 (aJ _) L7 (aJ _) yA rfl yI rfl rfl Ml Mn Mm (TL.go' af ?_);simp;refine aa.le (jz xJ [5,4,0,1] 6 7 (e:=bE E0 l i) rfl (mN _ _ _) (mO _ _ _) rfl rfl rfl rfl (g8 _ _ (.call true (j9 E nm).n (cC E al) (dT E al)) (by simp[Ve,hX])) rfl j5 j5) (aa.here rfl)
set_option maxHeartbeats 4000000 in
theorem Ir {C:Cx}{Q:Exit→St→Prop}(hC:C.nt=253)(xJ:C.n0=3)(p:Pg)(E0:List En)(l:List Sm)(i:Nat){g:Nat}{fs:List (ByteArray×List Pm)}{ps:List Pm}{V:List ByteArray}(E:List En)(k st:Nat)(c:List In)(s:List Nat)(n:Nat)
  (hE:EW g p.ms fs ps V E k) (hl:E.length≤100000) (hc:c.length≤9000) (hs:s.length≤9000) (nm:ByteArray) (x:Ex) (hn:nm∈V) (hx:eO V 2 x) :
  T Tryz.prog C (iI Tryz.f84 2) (MS p E0 l i E k st c s (.gz nm x) n) (eC (aa C (fun z=>z=NS p E0 l i E k st (c++[.set (j9 E nm).n (decide ((j9 E nm).kind=1)) (df E x)]) (s++[n]))) Q):=by
 obtain⟨kd,j,hf,ZK⟩:=hE.v nm hn;have hv:=pG p E k st c.length s.length hl nm _ hf (by simp only;omega) n;rw[fU hf];have hb:=iT p E k st c.length s.length hE hl n 2 x hx;obtain⟨a1,a2,a3,a4,a5,ha,SN⟩:=jI x;obtain⟨b1,b2,b3,b4,b5,Kc,Uv⟩:=jI (df E x);have Kz:cK (.set j (decide (kd=1)) (df E x))=[I 1,I j,.bool (decide (kd=1)),I b1,I b2,.str b3,.au b4 b5,.bool false,I 0,.au [] 0,.au [] 0,.au [] 0]:=by simp[cK,Kc,pO]
 have MJ:gk (.gz nm x)=[I 2,.str nm,I a1,I a2,.str a3,.au a4 a5,.str eS,.au [] 0,.au [] 0,.au [] 0,.au [] 0]:=by simp[gk,ha,jy]
 rw[ha,Kc] at hb;have N6:((kd:Int) == 1)=decide (kd=1):=by rcases ZK with ⟨rfl,_⟩ | ⟨rfl,_⟩<;>rfl
 apply T.block;simp only[MS,mE,mH,Dp,MJ];apply ah;simp[hC];refine aU ?_;simp;apply ah;simp[hC];refine cz ?_;simp;apply ah;simp[hC];refine TL.fH (hv) yA rfl yI rfl rfl Ml Mn Mm (TL.go' af ?_);simp[hC,gq];refine T.le (Le.trim [6,7,5,4,0,1,11] [0,3,4,5,6] 7 LR yA) ?_;simp;refine T.rx af follows [0,1,2,3,4,5,6,7,8,9,12,10,11,13] [(2,10),(4,10)] lz ?_;simp[hC];refine RX.fH (hb) yA rfl rfl j5 rfl rfl Ml Mn Mm j5 ?_;simp;refine RX.gg (qX p E k st c s [I 1,I j,.bool (decide (kd=1)),I b1,I b2,.str b3,.au b4 b5,.bool false,I 0,.ag,.ag,.ag] rfl Oe n yA yA) L7 (aJ _) L7 (aJ _) yA rfl rfl j5 rfl rfl Ml Mn Mm j5 ?_;simp;refine aa.le (jz xJ [5,4,0,1] 21 22 (e:=bE E0 l i) rfl (mN _ _ _) (mO _ _ _) rfl rfl rfl rfl (g8 _ _ (.set j (decide (kd=1)) (df E x)) (by simp[Kz])) rfl j5 j5) (aa.here rfl)
set_option maxHeartbeats 4000000 in
theorem Io {C:Cx}{Q:Exit→St→Prop}(hC:C.nt=253)(xJ:C.n0=3)(p:Pg)(E0:List En)(l:List Sm)(i:Nat){g:Nat}{fs:List (ByteArray×List Pm)}{ps:List Pm}{V:List ByteArray}(E:List En)(k st:Nat)(c:List In)(s:List Nat)(n:Nat)
  (hE:EW g p.ms fs ps V E k) (hl:E.length≤90000) (hk:k≤9000) (hc:c.length≤9000) (hs:s.length≤9000) (nm:ByteArray) (x:Ex) (hn:gI E nm=none) (hx:eO V 2 x) :
  T Tryz.prog C (iI Tryz.f84 2) (MS p E0 l i E k st c s (.fN nm x) n) (eC (aa C (fun z=>z=NS p E0 l i (E++[⟨nm,4,k⟩]) (k+1) st (c++[.set k false (df E x)]) (s++[n]))) Q):=by
 have hb:=iT p E k st c.length s.length hE yA n 2 x hx;have M0:=ot E nm yA;rw[hn] at M0;obtain⟨a1,a2,a3,a4,a5,ha,SN⟩:=jI x;obtain⟨b1,b2,b3,b4,b5,Kc,Uv⟩:=jI (df E x);have Kz:cK (.set k false (df E x))=[I 1,I k,.bool false,I b1,I b2,.str b3,.au b4 b5,.bool false,I 0,.au [] 0,.au [] 0,.au [] 0]:=by simp[cK,Kc,pO]
 have MJ:gk (.fN nm x)=[I 1,.str nm,I a1,I a2,.str a3,.au a4 a5,.str eS,.au [] 0,.au [] 0,.au [] 0,.au [] 0]:=by simp[gk,ha,jy]
 rw[ha,Kc] at hb;apply T.block;simp only[MS,mE,mH,Dp,MJ];apply ah;simp[hC];refine cz ?_;simp;refine T.seq (T.seq ?_);refine T.rx af follows [0,1,2,3,4,5,10,6,7,8,9,11,12] [(3,10),(5,10),(10,6)] lz ?_;simp[hC,eT];refine RX.call rfl j5 rfl rfl rfl zK (M0) ?_;simp[oq];apply ah;simp[hC];refine dg ?_;simp;refine T.le (Le.to (s':=MZ p E0 l i E k st c s [I 1,.str nm,I a1,I a2,.str a3,.au a4 a5,.str eS,.au [] 0,.au [] 0,.au [] 0,.au [] 0] n) [6,7,5,4,0,1] [0,3,4,5] 6 LR yA rfl) ?_;simp only[MZ,mE];apply ah;simp[hC];refine TL.fH (hb) yA rfl yI rfl rfl Ml Mn Mm (TL.go' af ?_);simp[hC];refine T.le (Le.trim [6,7,5,4,0,1,10] [0,3,4,5,6] 7 LR yA) ?_;simp;apply T.seq;refine T.rx af follows [0,1,2,3,4,5,6,7,8] [] lz ?_;simp[hC,eT];refine RX.gg (qX p E k st c s [I 1,I k,.bool false,I b1,I b2,.str b3,.au b4 b5,.bool false,I 0,.ag,.ag,.ag] rfl Oe n yA yA) L7 (aJ _) L7 (aJ _) yA rfl rfl j5 rfl rfl Ml Mn Mm j5 ?_;simp;refine T.le (ic xJ [6,7,5,4,0,1] 16 17 (e:=mE E0 l i n) rfl P8 rfl rfl rfl rfl rfl Oe (g8 _ _ (.set k false (df E x)) (by simp[Kz])) rfl j5 j5) ?_;simp only[mE];have f1:=aQ (f:=gq) (n:=3) jm E;have Nj:E.length*32≤140737488355328:=by omega
 have bd2:(E.length+1)*32≤140737488355328:=by omega
 apply T.seq;refine T.rx af follows [0,1,2,3,4,5,6,7,8,9,10,11,12,13,14,15,16,17,18] [(1,5),(1,8),(1,12),(1,14),(5,14),(6,8),(6,12),(6,14)] lz ?_;simp[hC,eT,f1,Nj,bd2,aS];have wk:=cm ((k:Int)+1) yA yA;have tn:trees (E.flatMap gq++[.str nm,I 4,I k])=true:=by rw[bu,bS];rfl
 have tk:List.take ((E.length+1)*3) (E.flatMap gq++[.str nm,I 4,I k])=E.flatMap gq++[.str nm,I 4,I k]:=List.take_of_length_le (by simp only[List.length_append,f1,List.length_cons,List.length_nil];omega);have q1:=aj (gP p.gs);have q2:=aj (fj p.ms);have q3:=aj (cf p.fs);have q4:=aj (bS E);have q5:=aj (bS E0);have q6:=aj (bk l);apply a8;simp[hC,wk];refine aa.le (Le.trim [5,4,0,1] [0,26,3,4] 27 (by simp[-List.all_eq_true,-List.all_flatMap,q4]) yA) ?_;simp;refine aa.le (Le.dC (o:=26) rfl tn) ?_;simp[tk];refine aa.trim [5,4,0,1] [0,3,4] 5 LR yA ?_;simp[NS,bE,eT,gq]
end Go.Proofs.YtlkmbdfhdknlgaaGreatDoor
