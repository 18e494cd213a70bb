/- block: its memory, and the short forms of its walk. | block: lock, unlock, return. | block: calls. | block: assignments. -/
import Derived.Test.YtmnglemlimfpbaaGreatZ38
namespace Go.Proofs.YtmnglemlimfpbaaGreat
open Go.Can Go.bg
def Hl (id:Nat):Code→Option Code
 | .block j x=>if j=id then some (.block j x) else Hl id x
 | .seq a b=>match Hl id a with
  | some c=>some c
  | none=>Hl id b
 | .cond _ a b=>match Hl id a with
  | some c=>some c
  | none=>Hl id b
 | .loop x=>Hl id x
 | .scope x=>Hl id x
 | _=>none
def gK (f:Func)(id:Nat):Code:=((f.body).bind (Hl id)).getD .skip
theorem eO (x:In):trees (dt x)=true:=by
 cases x with
 | set t g e=>simp only[dt,bh,ag,Bool.and_true];rfl
 | call g t l ps=>simp only[dt,bh,ag,trees,tree,Bool.and_true];rfl
 | lock u q=>simp only[dt,bh,ag,kB,Bool.and_true];rfl
 | branch t e=>simp only[dt,bh,ag,Bool.and_true];rfl
 | jump t=>rfl
 | ret=>rfl
theorem kg (e:Ex):∃ o n s cs m,bB e=[I o,I n,.str s,.ax cs m]∧trees cs=true:=⟨_,_,_,_,_,bP e,ay ag _⟩
theorem vM (q:Pl):∃ b n cs m,nO q=[.bool b,I n,.ax cs m]∧trees cs=true:=⟨_,_,_,_,by rw[nO,mf],ay ag _⟩
theorem HU (r:Rf):∃ s cs m,j3 r=[.str s,.ax cs m]∧trees cs=true:=⟨_,_,_,by rw[j3,mf],ay ag _⟩
def eN (l:List In):Ob:=⟨69,12,l.flatMap dt⟩
def fA (l:List Nat):Ob:=⟨3,1,l.map fun n:Nat=>I n⟩
theorem aP (l:List In):trees (l.flatMap dt)=true:=ay eO l
theorem aU (l:List Nat):trees (l.map fun n:Nat=>I n)=true:=by
 induction l with
 | nil=>rfl
 | cons a r ih=>rw[List.map_cons,trees,ih];rfl
theorem wG (l:List In):(l.flatMap dt).length=l.length*12:=bu (f:=dt) gz l
theorem DO (x:In):(dt x).map nz=dt x:=by
 cases x with
 | set t g e=>simp[dt,bP,qp]
 | call g t l ps=>simp[dt,bP,qp]
 | lock u q=>simp[dt,bP,nO,mf]
 | branch t e=>simp[dt,bP,qp]
 | jump t=>simp[dt,bP,qp]
 | ret=>simp[dt,bP,qp]
theorem oQ (l:List In):(l.flatMap dt).map nz=l.flatMap dt:=by
 induction l with
 | nil=>rfl
 | cons a r ih=>rw[List.flatMap_cons,List.map_append,ih,DO]
def sh (c:CV):Bool:=match c with
 | .aq p 0=>p == 0 || p == 5
 | c=>tree c
section
variable (p:Pg)(E0:List En)(l:List Sm)(i:Nat)
def bE:List (Nat×CV):=[(5,I i),(4,.ax (E0.flatMap gJ) E0.length),(0,.aq 0 0),(1,.ax (bt l) l.length)]
def NS (E:List En)(k st:Nat)(c:List In)(s:List Nat):St:=⟨bE E0 l i,[(0,fw p E k st 3 c.length 4 s.length),(3,eN c),(4,fA s)],5⟩
def D6:Sm→Int
 | .gr _ _=>1
 | .gV _ _=>2
 | .dI g _ _=>if g=true then 4 else 3
 | .dg u _=>if u=true then 6 else 5
 | .ku _ _ _=>7
 | .cj _ _=>8
 | .iU=>9
def mE (n:Nat):List (Nat×CV):=[(6,.aq 5 0),(7,I n),(5,I i),(4,.ax (E0.flatMap gJ) E0.length),(0,.aq 0 0),(1,.ax (bt l) l.length)]
def mH (E:List En)(k st:Nat)(c:List In)(s:List Nat)(x:Sm):List (Nat×Ob):=[(0,fw p E k st 3 c.length 4 s.length),(3,eN c),(4,fA s),(5,⟨188,0,gI x⟩)]
def MS (E:List En)(k st:Nat)(c:List In)(s:List Nat)(x:Sm)(n:Nat):St:=
 ⟨(41,I (D6 x))::mE E0 l i n,mH p E k st c s x,6⟩
end
theorem DK {c:CV}(h:sh c=true){m:List (Nat×Nat)}(h0:(assoc m 0).isSome=true)(h5:c≠.aq 5 0∨(assoc m 5).isSome=true):lN m c=true:=by
 cases c with
 | aq q f=>
  cases f with
  | zero=>
   simp only[sh,Bool.or_eq_true,beq_iff_eq] at h
   rcases h with rfl | rfl
   ·exact h0
   ·rcases h5 with h5 | h5
    ·exact (h5 rfl).elim
    ·exact h5
  | succ f=>simp[sh,tree] at h
 | agg cs=>simp only[sh,tree] at h;exact aA h m
 | df cs=>simp only[sh,tree] at h;exact aA h m
 | _=>first | exact h | simp[sh,tree] at h
theorem Ij {c:CV}(h:sh c=true)(m:List (Nat×Nat))(n:Nat)(h0:fx m n 0=0)(h5:c≠.aq 5 0∨fx m n 5=5):dr (fx m n) c=c:=by
 cases c with
 | aq q f=>
  cases f with
  | zero=>
   simp only[sh,Bool.or_eq_true,beq_iff_eq] at h
   rcases h with rfl | rfl
   ·rw[dr,h0]
   ·rcases h5 with h5 | h5
    ·exact (h5 rfl).elim
    ·rw[dr,h5]
  | succ f=>simp[sh,tree] at h
 | _=>exact fH _ _ h
theorem vP {m:List (Nat×Nat)}{n:Nat}(h0:fx m n 0=0):∀ {e:List (Nat×CV)},(e.all fun x=>sh x.2)=true→((∀ x∈e,x.2≠CV.aq 5 0)∨fx m n 5=5)→cW (fx m n) e=e
 | [],_,_=>rfl
 | (t,c)::e,h,h5=>by
  simp only[List.all_cons,Bool.and_eq_true] at h
  rw[cW,Ij h.1 m n h0 (h5.imp (fun h5=>h5 (t,c) List.mem_cons_self) id),vP h0 h.2 (h5.imp (fun h5 x hx=>h5 x (List.mem_cons_of_mem _ hx)) id)]
theorem cD (ρ:Nat→Nat)(t:TypeId)(n:Nat){cs:List CV}(h:trees cs=true):bD ρ ⟨t,n,cs⟩=⟨t,n,cs⟩:=by simp only[bD,az ρ _ h]
theorem iq (p:Pg):tree (.ax (p.gs.flatMap ny) p.gs.length)=true∧tree (.ax (p.ms.flatMap js) p.ms.length)=true∧tree (.ax (p.fs.flatMap eP) p.fs.length)=true:=
 ⟨by simp only[tree],by simp only[tree],by simp only[tree]⟩
theorem bY (E:List En):trees (E.flatMap gJ)=true:=ay (fun _=>rfl) E
section
variable {C:Cx}{s:St}{p:Pg}
theorem zl (E:List En)(k st a cl b sl:Nat)(m:List (Nat×Nat))(ha:(assoc m a).isSome=true)(hb:(assoc m b).isSome=true):(fw p E k st a cl b sl).cells.all (ky m)=true:=by
 obtain⟨t1,t2,t3⟩:=iq p
 have t4:=bY E
 simp only[fw,List.all_cons,List.all_nil,ky,ha,hb,Bool.and_true,Bool.and_eq_true]
 simp only[tree] at t1 t2 t3 ⊢
 refine⟨t1,t2,t3,?_⟩
 simp
theorem pN (E:List En)(k st a cl b sl:Nat)(ρ:Nat→Nat):bD ρ (fw p E k st a cl b sl)=fw p E k st (ρ a) cl (ρ b) sl:=by
 obtain⟨t1,t2,t3⟩:=iq p
 have t4:tree (.ax (E.flatMap gJ) E.length)=true:=by simp only[tree]
 simp only[bD,fw,bJ,fH ρ _ t1,fH ρ _ t2,fH ρ _ t3,fH ρ _ t4]
 rfl
theorem j6 (hC0:C.n0=3)(ks:List Nat)(a b:Nat){e:List (Nat×CV)}{E:List En}{k st N M:Nat}{X S:List CV}{c':List In}{s':List Nat}(he:pick s.env ks=e)(hok:(e.all fun x=>sh x.2)=true)(h5:∀ x∈e,x.2≠CV.aq 5 0)(hab:(a != b && (a != 0 && b != 0))=true)
  (h0:assoc s.heap 0=some (fw p E k st a N b M)) (ha:assoc s.heap a=some ⟨69,12,X⟩) (hb:assoc s.heap b=some ⟨3,1,S⟩) (hX:X.map nz=c'.flatMap dt) (hS:S=s'.map fun n:Nat=>I n) (hN:N=c'.length) (hM:M=s'.length) :
  Le C s ⟨e,[(0,fw p E k st 3 c'.length 4 s'.length),(3,eN c'),(4,fA s')],5⟩:=by
 subst hN hM hS
 simp only[Bool.and_eq_true,bne_iff_ne,ne_eq] at hab
 obtain⟨n1,n2,n3⟩:=hab
 have n1':¬ b=a:=fun h=>n1 h.symm
 refine Le.trans (Le.nz [] [a]) ?_
 have e1:CE [] s.env=s.env:=by
  have:∀ e:List (Nat×CV),CE [] e=e:=by
   intro e
   induction e with
   | nil=>rfl
   | cons x r ih=>obtain⟨k,c⟩:=x;rw[CE,ih];rfl
  exact this _
 rw[e1]
 have g0:assoc (xQ [a] s.heap) 0=some (fw p E k st a c'.length b s'.length):=by
  rw[dL,h0];simp[Ne.symm n2]
 have ga:assoc (xQ [a] s.heap) a=some (eN c'):=by
  rw[dL,ha];simp[hX,eN]
 have gb:assoc (xQ [a] s.heap) b=some (fA s'):=by
  rw[dL,hb];simp[n1',fA]
 have r0:fx [(0,0),(a,3),(b,4)] 5 0=0:=rfl
 have ra:fx [(0,0),(a,3),(b,4)] 5 a=3:=by simp[fx,assoc,Ne.symm n2]
 have rb:fx [(0,0),(a,3),(b,4)] 5 b=4:=by simp[fx,assoc,Ne.symm n3,n1]
 have hnorm:=Le.norm (C:=C) (s:=⟨s.env,xQ [a] s.heap,s.nx⟩) ks [(0,0),(a,3),(b,4)] 3 5 (by simp[sy,n1,Ne.symm n2,Ne.symm n3]) (by simp only[List.all_cons,List.all_nil,g0,ga,gb];rfl) ?_ (by omega)
 ·simp only[he,List.map_cons,List.map_nil,pick,g0,ga,gb,bF] at hnorm
  rw[vP r0 hok (.inl h5),r0,ra,rb,pN,ra,rb,eN,fA,cD _ _ _ (aP c'),cD _ _ _ (aU s')] at hnorm
  exact hnorm
 ·simp only[ca,he,List.map_cons,List.map_nil,pick,g0,ga,gb,List.all_cons,List.all_nil,Bool.and_true,Bool.and_eq_true,List.all_eq_true (l:=e)]
  refine⟨fun x hx=>DK ((List.all_eq_true.1 hok) x hx) rfl (.inl (h5 x hx)),zl E k st a _ b _ _ (by simp[assoc,Ne.symm n2]) (by simp[assoc,Ne.symm n3];split<;>rfl),aA (aP c') _,aA (aU s') _⟩
theorem iX (hC0:C.n0=3)(ks:List Nat)(a b:Nat){e:List (Nat×CV)}{E:List En}{k st N M:Nat}{X S cs:List CV}{c':List In}{s':List Nat}(he:pick s.env ks=e)(hok:(e.all fun x=>sh x.2)=true)(hab:((a != b && (a != 0 && b != 0)) && (a != 5 && b != 5))=true)
  (h0:assoc s.heap 0=some (fw p E k st a N b M)) (ha:assoc s.heap a=some ⟨69,12,X⟩) (hb:assoc s.heap b=some ⟨3,1,S⟩) (h5:assoc s.heap 5=some ⟨188,0,cs⟩) (hcs:trees cs=true) (hX:X.map nz=c'.flatMap dt) (hS:S=s'.map fun n:Nat=>I n) (hN:N=c'.length) (hM:M=s'.length) :
  Le C s ⟨e,[(0,fw p E k st 3 c'.length 4 s'.length),(3,eN c'),(4,fA s'),(5,⟨188,0,cs⟩)],6⟩:=by
 subst hN hM hS
 simp only[Bool.and_eq_true,bne_iff_ne,ne_eq] at hab
 obtain⟨⟨n1,n2,n3⟩,n4,n5⟩:=hab
 have n1':¬ b=a:=fun h=>n1 h.symm
 refine Le.trans (Le.nz [] [a]) ?_
 have e1:CE [] s.env=s.env:=by
  have:∀ e:List (Nat×CV),CE [] e=e:=by
   intro e
   induction e with
   | nil=>rfl
   | cons x r ih=>obtain⟨k,c⟩:=x;rw[CE,ih];rfl
  exact this _
 rw[e1]
 have g0:assoc (xQ [a] s.heap) 0=some (fw p E k st a c'.length b s'.length):=by
  rw[dL,h0];simp[Ne.symm n2]
 have ga:assoc (xQ [a] s.heap) a=some (eN c'):=by
  rw[dL,ha];simp[hX,eN]
 have gb:assoc (xQ [a] s.heap) b=some (fA s'):=by
  rw[dL,hb];simp[n1',fA]
 have g5:assoc (xQ [a] s.heap) 5=some ⟨188,0,cs⟩:=by
  rw[dL,h5];simp
  intro h;exact (n4 h.symm).elim
 have r0:fx [(0,0),(a,3),(b,4),(5,5)] 6 0=0:=rfl
 have ra:fx [(0,0),(a,3),(b,4),(5,5)] 6 a=3:=by simp[fx,assoc,Ne.symm n2]
 have rb:fx [(0,0),(a,3),(b,4),(5,5)] 6 b=4:=by simp[fx,assoc,Ne.symm n3,n1]
 have r5:fx [(0,0),(a,3),(b,4),(5,5)] 6 5=5:=by simp[fx,assoc,n4,n5]
 have hnorm:=Le.norm (C:=C) (s:=⟨s.env,xQ [a] s.heap,s.nx⟩) ks [(0,0),(a,3),(b,4),(5,5)] 3 6 (by simp[sy,n1,Ne.symm n2,Ne.symm n3,n4,n5]) (by simp only[List.all_cons,List.all_nil,g0,ga,gb,g5];rfl) ?_ (by omega)
 ·simp only[he,List.map_cons,List.map_nil,pick,g0,ga,gb,g5,bF] at hnorm
  rw[vP r0 hok (.inr r5),r0,ra,rb,r5,pN,ra,rb,eN,fA,cD _ _ _ (aP c'),cD _ _ _ (aU s'),cD _ _ _ hcs] at hnorm
  exact hnorm
 ·simp only[ca,he,List.map_cons,List.map_nil,pick,g0,ga,gb,g5,List.all_cons,List.all_nil,Bool.and_true,Bool.and_eq_true,List.all_eq_true (l:=e)]
  refine⟨fun x hx=>DK ((List.all_eq_true.1 hok) x hx) rfl (.inr (by simp[assoc,n4,n5])),zl E k st a _ b _ _ (by simp[assoc,Ne.symm n2]) (by simp[assoc,Ne.symm n3];split<;>rfl),aA (aP c') _,aA (aU s') _,aA hcs _⟩
end
theorem vE (p:Pg)(E:List En)(k st a cl b sl n:Nat)(ha:a<n)(hb:b<n):aC n (fw p E k st a cl b sl).cells=true:=by
 obtain⟨t1,t2,t3⟩:=iq p
 have t4:tree (.ax (E.flatMap gJ) E.length)=true:=by simp only[tree]
 simp only[fw,aC,aB n _ t1,aB n _ t2,aB n _ t3,aB n _ t4,Bool.true_and]
 simp[aG,ha,hb]
def okW (c:CV):Bool:=match c with
 | .aq p 0=>p == 0
 | c=>tree c
theorem DJ {c:CV}(h:okW c=true)(ρ:Nat→Nat)(h0:ρ 0=0):dr ρ c=c:=by
 cases c with
 | aq q f=>
  cases f with
  | zero=>
   simp only[okW,beq_iff_eq] at h
   subst h
   rw[dr,h0]
  | succ f=>simp[okW,tree] at h
 | _=>exact fH _ _ h
theorem oO {ρ:Nat→Nat}(h0:ρ 0=0):∀ {cs:List CV},cs.all okW=true→bJ ρ cs=cs
 | [],_=>rfl
 | c::cs,h=>by
  simp only[List.all_cons,Bool.and_eq_true] at h
  rw[bJ,DJ h.1 ρ h0,oO h0 h.2]
theorem sf {n:Nat}(hn:0<n):∀ {cs:List CV},cs.all okW=true→aC n cs=true
 | [],_=>rfl
 | c::cs,h=>by
  simp only[List.all_cons,Bool.and_eq_true] at h
  rw[aC,sf hn h.2,Bool.and_true]
  have h1:=h.1
  cases c with
  | aq q f=>
   cases f with
   | zero=>
    simp only[okW,beq_iff_eq] at h1
    subst h1
    simpa [aG] using hn
   | succ f=>simp[okW,tree] at h1
  | _=>exact aB _ _ h1
theorem Ga (m:Nat)(h:4<m):DL [0,3,4] m=true:=by
 simp only[DL,List.all_cons,List.all_nil,Bool.and_true,Bool.and_eq_true,decide_eq_true_eq]
 refine⟨⟨by omega,by omega,by omega⟩,by decide⟩
theorem uW (m:Nat):bZ [0,3,4] m 0=0:=rfl
theorem mapN1 (m:Nat):bZ [0,3,4] m 1=3:=rfl
theorem mapN2 (m:Nat):bZ [0,3,4] m 2=4:=rfl
theorem mapN3 (m:Nat):bZ [0,3,4] m 3=m:=by simp[bZ]
theorem mapN4 (m:Nat):bZ [0,3,4] m 4=m+1:=by simp[bZ];omega
def hO (H:List (Nat×Ob))(ks:List Nat)(nx:Nat):Bool:=H.all fun x=>!ks.contains x.1 && decide (x.1<nx)
theorem pe:∀ (ks:List Nat) (H:List (Nat×Ob)) (nx:Nat),hO H ks nx=true→cN H ks=H
 | [],_,_,_=>rfl
 | k::ks,H,nx,h=>by
  have h1:gD H k=H:=by
   have:∀ H:List (Nat×Ob),hO H (k::ks) nx=true→gD H k=H:=by
    intro H
    induction H with
    | nil=>intro _;rfl
    | cons x r ih=>
     intro h
     obtain⟨q,ob⟩:=x
     have h':=h
     simp only[hO,List.all_cons,Bool.and_eq_true] at h'
     have h2:=h'.1.1
     simp only[Bool.not_eq_true',List.contains_eq_mem,decide_eq_false_iff_not,List.mem_cons,not_or] at h2
     rw[gD,if_neg h2.1,ih h'.2]
   exact this H h
  rw[cN,h1]
  refine pe ks H nx ?_
  simp only[hO,List.all_eq_true,Bool.and_eq_true,Bool.not_eq_true',List.contains_eq_mem,decide_eq_false_iff_not,List.mem_cons,not_or] at h ⊢
  exact fun x hx=>⟨(h x hx).1.2,(h x hx).2⟩
theorem Hh {H:List (Nat×Ob)}{ks:List Nat}{nx:Nat}(h:hO H ks nx=true):(H.all fun x=>decide (x.1<nx))=true:=by
 simp only[hO,List.all_eq_true,Bool.and_eq_true] at h ⊢
 exact fun x hx=>(h x hx).2
section
variable {C:Cx}{p:Pg}{ops:Array Oper}{e:List (Nat×CV)}{H:List (Nat×Ob)}{nx:Nat}
theorem BL (E:List En)(k st cl sl nx:Nat):bF (bZ [0,3,4] nx) [(0,cO p E k st cl sl)]=[(0,fw p E k st 3 cl 4 sl)]:=by
 rw[bF,bF,vD,pN];rfl
theorem TL.gk {o:Oper}{l:List Oper}{c:Call}{g:FuncId}{args:List CV}{K:St→Prop}{r0:CV}{E:List En}{k st cl sl:Nat}(hb:Body Tryz.prog aj g args [(0,cO p E k st cl sl)] 3 (iR r0 [(0,cO p E k st cl sl)] 3))(hnx:4<nx)(hH:hO H [0] nx=true)
  (hd:aW C.nt o.dst=true) (hg:bK ops ⟨e,(0,fw p E k st 3 cl 4 sl)::H,nx⟩ o=Option.some true) (ho:o.op=.call c) (hca:aK ⟨e,(0,fw p E k st 3 cl 4 sl)::H,nx⟩ c=Option.some (g,args)) (hargs:args.all okW=true) (ht:tree r0=true)
  (hK:TL Tryz.prog C ops l (St.put ⟨e,(0,fw p E k st 3 cl 4 sl)::H,nx⟩ o.dst r0) K):TL Tryz.prog C ops (o::l) ⟨e,(0,fw p E k st 3 cl 4 sl)::H,nx⟩ K:=by
 have hdr:cN ((0,fw p E k st 3 cl 4 sl)::H) [0]=H:=pe [0] H nx hH
 refine TL.s8 aa [0,3,4] [0] 3 0 hb rfl (Ga nx hnx) hd hg ho (by simp only;rw[oO (uW nx) hargs];exact hca) (by simp only[BL];rfl) (sf (by omega) hargs) (by simp only[cF,vD,vE p E k st 1 cl 2 sl 3 (by omega) (by omega)];rfl) ht ?_ ?_
 ·simp only[BL,hdr,jy,List.all_cons,List.all_nil,Bool.and_true,Bool.and_eq_true]
  exact⟨rfl,Hh hH⟩
 ·simp only[BL,hdr]
  exact hK
theorem RX.gk {o:Oper}{cl:Call}{g:FuncId}{args:List CV}{r0:CV}{nt N:Nat}{dyn:List (Nat×Nat)}{K:St→Prop}{i:Nat}{r:List Nat}{res:Nat→Er}{E:List En}{k st cn sn:Nat}(hb:Body Tryz.prog aj g args [(0,cO p E k st cn sn)] 3 (iR r0 [(0,cO p E k st cn sn)] 3))(hnx:4<nx)(hH:hO H [0] nx=true)
  (hi:ops[i]? = Option.some o) (hd:aW nt o.dst=true) (hg:bK ops ⟨e,(0,fw p E k st 3 cn 4 sn)::H,nx⟩ o=Option.some true) (hu:bV o=Option.some cl) (hca:aK ⟨e,(0,fw p E k st 3 cn 4 sn)::H,nx⟩ cl=Option.some (g,args)) (hargs:args.all okW=true) (ht:tree r0=true) (hv:wN dyn res i [0]=true)
  (hK:CK dyn res i (hU r0 [0] [] 0 [(0,fw p E k st 3 cn 4 sn)])=true∧nJ aj nt ops N dyn (Dt Tryz.prog aj nt ops N dyn K) r (note dyn res i (hU r0 [0] [] 0 [(0,fw p E k st 3 cn 4 sn)])) (St.put ⟨e,(0,fw p E k st 3 cn 4 sn)::H,nx⟩ o.dst r0)):RX Tryz.prog aj nt ops N dyn K (i::r) res ⟨e,(0,fw p E k st 3 cn 4 sn)::H,nx⟩:=by
 have hdr:cN ((0,fw p E k st 3 cn 4 sn)::H) [0]=H:=pe [0] H nx hH
 refine RX.s8 [0,3,4] [0] [] 3 0 hb rfl (Ga nx hnx) hi hd hg hu (by simp only;rw[oO (uW nx) hargs];exact hca) (by simp only[BL];rfl) (sf (by omega) hargs) (by simp only[cF,vD,vE p E k st 1 cn 2 sn 3 (by omega) (by omega)];rfl) ht hv (by simp only[BL];rfl) (fun _ _ _=>rfl) ?_
 simp only[BL,hdr]
 exact hK
def T3 (p:Pg)(E:List En)(k st cl sl:Nat)(o1 o2:Ob):List (Nat×Ob):=[(0,fw p E k st 1 cl 2 sl),(1,o1),(2,o2)]
theorem rn_T {E:List En}{k st cl sl nx:Nat}{o1 o2:Ob}(h1:trees o1.cells=true)(h2:trees o2.cells=true):bF (bZ [0,3,4] nx) (T3 p E k st cl sl o1 o2)=[(0,fw p E k st 3 cl 4 sl),(3,o1),(4,o2)]:=by
 simp only[T3,bF,pN,uW,mapN1,mapN2]
 rw[show bD (bZ [0,3,4] nx) o1=o1 from cD _ _ _ h1,show bD (bZ [0,3,4] nx) o2=o2 from cD _ _ _ h2]
def T4 (p:Pg)(E:List En)(k st cl sl:Nat)(o1 o2:Ob):List (Nat×Ob):=[(0,fw p E k st 3 cl 4 sl),(3,o1),(4,o2)]
theorem An {E:List En}{k st cl sl nx:Nat}{o1 o2:Ob}(h1:trees o1.cells=true)(h2:trees o2.cells=true):bF (bZ [0,3,4] nx) (T4 p E k st cl sl o1 o2)=[(0,fw p E k st nx cl (nx+1) sl),(nx,o1),(nx+1,o2)]:=by
 simp only[T4,bF,pN,uW,mapN3,mapN4]
 rw[show bD (bZ [0,3,4] nx) o1=o1 from cD _ _ _ h1,show bD (bZ [0,3,4] nx) o2=o2 from cD _ _ _ h2]
theorem HA {E:List En}{k st cl sl:Nat}{o1 o2:Ob}(h1:trees o1.cells=true)(h2:trees o2.cells=true):cF 3 (T3 p E k st cl sl o1 o2)=true:=by
 simp only[T3,cF,vE p E k st 1 cl 2 sl 3 (by omega) (by omega),cC 3 _ h1,cC 3 _ h2]
 rfl
variable {E E':List En}{k k' st st' cn cn' sn sn':Nat}{o1 o2 o3 o4:Ob}{args:List CV}{r0:CV}{g:FuncId}
theorem TL.gG {o:Oper}{l:List Oper}{c:Call}{K:St→Prop}(hb:Body Tryz.prog aj g args (T3 p E k st cn sn o1 o2) 3 (iR r0 (T4 p E' k' st' cn' sn' o3 o4) (3+2)))(h1:trees o1.cells=true)(h2:trees o2.cells=true)(h3:trees o3.cells=true)(h4:trees o4.cells=true)(hnx:4<nx)(hH:hO H [0,3,4] nx=true)
  (hd:aW C.nt o.dst=true) (hg:bK ops ⟨e,(0,fw p E k st 3 cn 4 sn)::(3,o1)::(4,o2)::H,nx⟩ o=Option.some true) (ho:o.op=.call c) (hca:aK ⟨e,(0,fw p E k st 3 cn 4 sn)::(3,o1)::(4,o2)::H,nx⟩ c=Option.some (g,args)) (hargs:args.all okW=true) (ht:tree r0=true)
  (hK:TL Tryz.prog C ops l (St.put ⟨e,(0,fw p E' k' st' nx cn' (nx+1) sn')::(nx,o3)::(nx+1,o4)::H,nx+2⟩ o.dst r0) K):TL Tryz.prog C ops (o::l) ⟨e,(0,fw p E k st 3 cn 4 sn)::(3,o1)::(4,o2)::H,nx⟩ K:=by
 have hdr:cN ((0,fw p E k st 3 cn 4 sn)::(3,o1)::(4,o2)::H) [0,3,4]=H:=pe [0,3,4] H nx hH
 refine TL.s8 aa [0,3,4] [0,3,4] 3 2 hb rfl (Ga nx hnx) hd hg ho (by simp only;rw[oO (uW nx) hargs];exact hca) (by simp only[rn_T h1 h2];rfl) (sf (by omega) hargs) (HA h1 h2) ht ?_ ?_
 ·simp only[An h3 h4,hdr,jy,Bool.and_eq_true]
  exact⟨by simp,Hh hH⟩
 ·simp only[An h3 h4,hdr]
  exact hK
theorem RX.gG {o:Oper}{cl:Call}{nt N:Nat}{dyn:List (Nat×Nat)}{K:St→Prop}{i:Nat}{r:List Nat}{res:Nat→Er}(hb:Body Tryz.prog aj g args (T3 p E k st cn sn o1 o2) 3 (iR r0 (T4 p E' k' st' cn' sn' o3 o4) (3+2)))(h1:trees o1.cells=true)(h2:trees o2.cells=true)(h3:trees o3.cells=true)(h4:trees o4.cells=true)(hnx:4<nx)(hH:hO H [0,3,4] nx=true)
  (hi:ops[i]? = Option.some o) (hd:aW nt o.dst=true) (hg:bK ops ⟨e,(0,fw p E k st 3 cn 4 sn)::(3,o1)::(4,o2)::H,nx⟩ o=Option.some true) (hu:bV o=Option.some cl) (hca:aK ⟨e,(0,fw p E k st 3 cn 4 sn)::(3,o1)::(4,o2)::H,nx⟩ cl=Option.some (g,args)) (hargs:args.all okW=true) (ht:tree r0=true) (hv:wN dyn res i [0,3,4]=true)
  (hK:CK dyn res i (hU r0 [0,3,4] [0,3,4,nx,nx+1] 2 [(0,fw p E' k' st' nx cn' (nx+1) sn'),(nx,o3),(nx+1,o4)])=true∧nJ aj nt ops N dyn (Dt Tryz.prog aj nt ops N dyn K) r (note dyn res i (hU r0 [0,3,4] [0,3,4,nx,nx+1] 2 [(0,fw p E' k' st' nx cn' (nx+1) sn'),(nx,o3),(nx+1,o4)])) (St.put ⟨e,(0,fw p E' k' st' nx cn' (nx+1) sn')::(nx,o3)::(nx+1,o4)::H,nx+2⟩ o.dst r0)) :
  RX Tryz.prog aj nt ops N dyn K (i::r) res ⟨e,(0,fw p E k st 3 cn 4 sn)::(3,o1)::(4,o2)::H,nx⟩:=by
 have hdr:cN ((0,fw p E k st 3 cn 4 sn)::(3,o1)::(4,o2)::H) [0,3,4]=H:=pe [0,3,4] H nx hH
 refine RX.s8 [0,3,4] [0,3,4] [0,3,4,nx,nx+1] 3 2 hb rfl (Ga nx hnx) hi hd hg hu (by simp only;rw[oO (uW nx) hargs];exact hca) (by simp only[rn_T h1 h2];rfl) (sf (by omega) hargs) (HA h1 h2) ht hv ?_ (fun q hq hn=>(hn (List.mem_append_left [nx,nx+1] hq)).elim) ?_
 ·simp only[An h3 h4]
  have e1:¬ 0=nx:=by omega
  have e2:¬ 3=nx:=by omega
  simp[assoc,e1]
 ·simp only[An h3 h4,hdr]
  exact hK
def J3 (c:List In)(cs:List CV):Ob:=⟨69,12,c.flatMap dt++cs⟩
theorem bL (c:List In){cs:List CV}(h:trees cs=true):trees (J3 c cs).cells=true:=by simp only[J3,bh,aP,h];rfl
theorem rZ (p:Pg)(E:List En)(k st:Nat)(c:List In)(s:List Nat)(cs:List CV)(hcs:cs.length=12)(tcs:trees cs=true)(n:Nat)(hN:c.length≤10000)(hM:s.length≤10000) :
  Body Tryz.prog aj 93 [.aq 0 0,.agg cs,I n] (T3 p E k st c.length s.length (eN c) (fA s)) 3 (iR (I c.length) (T4 p E k st (c.length+1) (s.length+1) (J3 c cs) (fA (s++[n]))) (3+2)):=by
 have:=H7 p E k st (c.flatMap dt) c.length (wG c) (aP c) (s.map fun n:Nat=>I n) s.length (by simp) (aU s) hN hM cs hcs tcs n
 simpa only[T3,T4,J3,fA,eN,List.map_append,List.map_cons,List.map_nil] using this
theorem H8 (p:Pg)(E:List En)(k st:Nat)(c:List In)(s:List Nat)(N M:Nat)(h1:N=c.length)(h2:M=s.length)(cs:List CV)(hcs:cs.length=12)(tcs:trees cs=true)(n:Nat)(hN:N≤10000)(hM:M≤10000) :
  Body Tryz.prog aj 93 [.aq 0 0,.agg cs,I n] (T3 p E k st N M (eN c) (fA s)) 3 (iR (I N) (T4 p E k st (N+1) (M+1) (J3 c cs) (fA (s++[n]))) (3+2)):=by
 subst h1 h2
 exact rZ p E k st c s cs hcs tcs n hN hM
theorem iO (c:List In)(cs:List CV)(x:In)(h:cs.map nz=dt x):(c.flatMap dt++cs).map nz=(c++[x]).flatMap dt:=by simp[oQ,h]
end
theorem nC (E0:List En)(l:List Sm)(i:Nat):((bE E0 l i).all fun x=>sh x.2)=true:=by
 simp[bE,sh,tree]
theorem nD (E0:List En)(l:List Sm)(i:Nat):∀ x∈bE E0 l i,x.2≠CV.aq 5 0:=by
 simp[bE]
@[simp] theorem FW (p:Pg)(E:List En)(k st a cl b sl n:Nat):(fw p E k st a cl b sl).cells.all (aG n)=(decide (a<n) && decide (b<n)):=by
 obtain⟨t1,t2,t3⟩:=iq p
 have t4:tree (.ax (E.flatMap gJ) E.length)=true:=by simp only[tree]
 simp only[fw,List.all_cons,List.all_nil,aB n _ t1,aB n _ t2,aB n _ t3,aB n _ t4,Bool.true_and]
 simp[aG]
@[simp] theorem scO_ltS (p:Pg)(E:List En)(k st a cl b sl n:Nat):aC n (fw p E k st a cl b sl).cells=(decide (a<n) && decide (b<n)):=by rw[aD];exact FW p E k st a cl b sl n
@[simp] theorem EY (c:List In)(n:Nat):(eN c).cells.all (aG n)=true:=af (aP c) n
@[simp] theorem Dn (s:List Nat)(n:Nat):(fA s).cells.all (aG n)=true:=af (aU s) n
@[simp] theorem coOb_ltS (c:List In)(n:Nat):aC n (eN c).cells=true:=by rw[aD];exact EY c n
@[simp] theorem siOb_ltS (s:List Nat)(n:Nat):aC n (fA s).cells=true:=by rw[aD];exact Dn s n
@[simp] theorem coOb_frz (c:List In)(o:Nat)(cs:List CV)(n:Nat):(eN c).cells.map (cm o cs n)=(eN c).cells:=cw (aP c) o cs n
@[simp] theorem siOb_frz (s:List Nat)(o:Nat)(cs:List CV)(n:Nat):(fA s).cells.map (cm o cs n)=(fA s).cells:=cw (aU s) o cs n
@[simp] theorem coOb_eta (c:List In):(⟨(eN c).elem,(eN c).sz,(eN c).cells⟩:Ob)=eN c:=rfl
@[simp] theorem siOb_eta (s:List Nat):(⟨(fA s).elem,(fA s).sz,(fA s).cells⟩:Ob)=fA s:=rfl
def MZ (p:Pg)(E0:List En)(l:List Sm)(i:Nat)(E:List En)(k st:Nat)(c:List In)(s:List Nat)(cs:List CV)(n:Nat):St:=
 ⟨mE E0 l i n,[(0,fw p E k st 3 c.length 4 s.length),(3,eN c),(4,fA s),(5,⟨188,0,cs⟩)],6⟩
end Go.Proofs.YtmnglemlimfpbaaGreat
namespace Go.Proofs.YtmnglemlimfpbaaGreat
open Go.Can Go.bg
set_option maxHeartbeats 4000000 in
theorem GG {C:Cx}{Q:Exit→St→Prop}(hC:C.nt=253)(hC0:C.n0=3)(p:Pg)(E0:List En)(l:List Sm)(i:Nat){g:Nat}{fs:List (ByteArray×List Pm)}{ps:List Pm}{V:List ByteArray}(E:List En)(k st:Nat)(c:List In)(s:List Nat)(n:Nat)
  (hE:EW g p.ms fs ps V E k) (hl:E.length≤100000) (hm:p.ms.length≤1000) (hc:c.length≤9000) (hs:s.length≤9000) (u:Bool) (r:Rf) (hr:CL p.ms ps V r) :
  T Tryz.prog C (gK Tryz.f92 2) (MS p E0 l i E k st c s (.dg u r) n) (thenS (ae C (fun z=>z=NS p E0 l i E k st (c++[.lock u (vF E r)]) (s++[n]))) Q):=by
 have hb:=AG p E k st c.length s.length hE hl hm n r hr
 obtain⟨b1,b2,b3,b4,hp,ht⟩:=vM (vF E r)
 obtain⟨a1,a2,a3,hrf,hta⟩:=HU r
 have hin:dt (.lock u (vF E r))=[I (if u then 5 else 4),I 0,.bool false,I 0,I 0,.str eS,.ax [] 0,.bool b1,I b2,.ax b3 b4,.ax [] 0,.ax [] 0]:=by simp[dt,hp,bB]
 rw[hp,hrf] at hb
 refine T.block ?_
 have hsm:gI (.dg u r)=[I (if u then 6 else 5),.str eS,I 0,I 0,.str eS,.ax [] 0,.str a1,.ax a2 a3,.ax [] 0,.ax [] 0,.ax [] 0]:=by simp[gI,hrf,bB]
 simp only[MS,mE,mH,D6,hsm]
 cases u with
 | false=>
  refine T.seq (T.go' aa ?_)
  simp[hC]
  refine T.cond (b:=false) rfl ?_
  simp
  refine T.seq (T.go' aa ?_)
  simp[hC]
  refine T.cond (b:=false) rfl ?_
  simp
  refine T.seq (T.seq (T.go' aa ?_))
  simp[hC]
  refine T.cond (b:=false) rfl ?_
  simp
  refine T.go' aa ?_
  simp[hC]
  refine T.cond (b:=false) rfl ?_
  simp
  refine T.seq (T.go' aa ?_)
  simp[hC]
  refine T.cond (b:=true) rfl ?_
  simp
  refine T.go' aa ?_
  simp[hC]
  refine TL.gk (hb) (by omega) rfl (by simp[hC]) rfl rfl (by first | rfl | simp[aK,ev,assoc]) (by first | rfl | simp only[List.all_cons,List.all_nil,okW,tree, *];rfl | simp[okW,tree,trees, *]) (by first | rfl | assumption | simp[tree,trees, *]) (TL.go' aa ?_)
  simp[hC]
  refine TL.gG (rZ p E k st c s [I 4,I 0,.bool false,I 0,I 0,.str eS,.ai,.bool b1,I b2,.ax b3 b4,.ai,.ai] rfl (by simp[trees,tree]) n (by omega) (by omega)) (by first | exact aP _ | exact bL _ (by first | rfl | assumption | simp[trees,tree, *])) (aU _) (by first | exact aP _ | exact bL _ (by first | rfl | assumption | simp[trees,tree, *])) (aU _) (by omega) rfl (by simp[hC]) rfl rfl (by first | rfl | simp[aK,ev,assoc]) (by first | rfl | simp only[List.all_cons,List.all_nil,okW,tree, *];rfl | simp[okW,tree,trees, *]) (by first | rfl | assumption | simp[tree,trees, *]) (TL.go' aa ?_)
  simp
  refine ae.le (j6 hC0 [5,4,0,1] 6 7 (e:=bE E0 l i) rfl (nC _ _ _) (nD _ _ _) rfl rfl rfl rfl (iO _ _ (.lock false (vF E r)) (by simp[hin])) rfl (by simp) (by simp)) (ae.here rfl)
 | true=>
  refine T.seq (T.go' aa ?_)
  simp[hC]
  refine T.cond (b:=false) rfl ?_
  simp
  refine T.seq (T.go' aa ?_)
  simp[hC]
  refine T.cond (b:=false) rfl ?_
  simp
  refine T.seq (T.seq (T.go' aa ?_))
  simp[hC]
  refine T.cond (b:=false) rfl ?_
  simp
  refine T.go' aa ?_
  simp[hC]
  refine T.cond (b:=false) rfl ?_
  simp
  refine T.seq (T.go' aa ?_)
  simp[hC]
  refine T.cond (b:=false) rfl ?_
  simp
  refine T.seq (T.go' aa ?_)
  simp[hC]
  refine T.cond (b:=true) rfl ?_
  simp
  refine T.go' aa ?_
  simp[hC]
  refine TL.gk (hb) (by omega) rfl (by simp[hC]) rfl rfl (by first | rfl | simp[aK,ev,assoc]) (by first | rfl | simp only[List.all_cons,List.all_nil,okW,tree, *];rfl | simp[okW,tree,trees, *]) (by first | rfl | assumption | simp[tree,trees, *]) (TL.go' aa ?_)
  simp[hC]
  refine TL.gG (rZ p E k st c s [I 5,I 0,.bool false,I 0,I 0,.str eS,.ai,.bool b1,I b2,.ax b3 b4,.ai,.ai] rfl (by simp[trees,tree]) n (by omega) (by omega)) (by first | exact aP _ | exact bL _ (by first | rfl | assumption | simp[trees,tree, *])) (aU _) (by first | exact aP _ | exact bL _ (by first | rfl | assumption | simp[trees,tree, *])) (aU _) (by omega) rfl (by simp[hC]) rfl rfl (by first | rfl | simp[aK,ev,assoc]) (by first | rfl | simp only[List.all_cons,List.all_nil,okW,tree, *];rfl | simp[okW,tree,trees, *]) (by first | rfl | assumption | simp[tree,trees, *]) (TL.go' aa ?_)
  simp
  refine ae.le (j6 hC0 [5,4,0,1] 6 7 (e:=bE E0 l i) rfl (nC _ _ _) (nD _ _ _) rfl rfl rfl rfl (iO _ _ (.lock true (vF E r)) (by simp[hin])) rfl (by simp) (by simp)) (ae.here rfl)
set_option maxHeartbeats 4000000 in
theorem IU {C:Cx}{Q:Exit→St→Prop}(hC:C.nt=253)(hC0:C.n0=3)(p:Pg)(E0:List En)(l:List Sm)(i:Nat)(E:List En)(k st:Nat)(c:List In)(s:List Nat)(n:Nat)
  (hc:c.length≤9000) (hs:s.length≤9000) :
  T Tryz.prog C (gK Tryz.f92 2) (MS p E0 l i E k st c s .iU n) (thenS (ae C (fun z=>z=NS p E0 l i E k st (c++[.ret]) (s++[n]))) Q):=by
 refine T.block ?_
 simp only[MS,mE,mH,D6,gI]
 refine T.seq (T.go' aa ?_)
 simp[hC]
 refine T.cond (b:=false) rfl ?_
 simp
 refine T.seq (T.go' aa ?_)
 simp[hC]
 refine T.cond (b:=false) rfl ?_
 simp
 refine T.seq (T.seq (T.go' aa ?_))
 simp[hC]
 refine T.cond (b:=false) rfl ?_
 simp
 refine T.go' aa ?_
 simp[hC]
 refine T.cond (b:=false) rfl ?_
 simp
 refine T.seq (T.go' aa ?_)
 simp[hC]
 refine T.cond (b:=false) rfl ?_
 simp
 refine T.seq (T.go' aa ?_)
 simp[hC]
 refine T.cond (b:=false) rfl ?_
 simp
 refine T.seq (T.go' aa ?_)
 simp[hC]
 refine T.cond (b:=false) rfl ?_
 simp
 refine T.seq (T.go' aa ?_)
 simp[hC]
 refine T.cond (b:=false) rfl ?_
 simp
 refine T.go' aa ?_
 simp[hC]
 refine TL.gG (rZ p E k st c s [I 8,I 0,.bool false,I 0,I 0,.str eS,.ai,.bool false,I 0,.ai,.ai,.ai] rfl rfl n (by omega) (by omega)) (by first | exact aP _ | exact bL _ (by first | rfl | assumption | simp[trees,tree, *])) (aU _) (by first | exact aP _ | exact bL _ (by first | rfl | assumption | simp[trees,tree, *])) (aU _) (by omega) rfl (by simp[hC]) rfl rfl (by first | rfl | simp[aK,ev,assoc]) (by first | rfl | simp only[List.all_cons,List.all_nil,okW,tree, *];rfl | simp[okW,tree,trees, *]) (by first | rfl | assumption | simp[tree,trees, *]) (TL.go' aa ?_)
 simp
 refine ae.le (j6 hC0 [5,4,0,1] 6 7 (e:=bE E0 l i) rfl (nC _ _ _) (nD _ _ _) rfl rfl rfl rfl (iO _ _ (.ret) (by simp[dt,bB,qp])) rfl (by simp) (by simp)) (ae.here rfl)
end Go.Proofs.YtmnglemlimfpbaaGreat
namespace Go.Proofs.YtmnglemlimfpbaaGreat
open Go.Can Go.bg
set_option maxHeartbeats 4000000 in
theorem GH {C:Cx}{Q:Exit→St→Prop}(hC:C.nt=253)(hC0:C.n0=3)(p:Pg)(E0:List En)(l:List Sm)(i:Nat){g:Nat}{ps:List Pm}{V:List ByteArray}(E:List En)(k st:Nat)(c:List In)(s:List Nat)(n:Nat)
  (hE:EW g p.ms (p.fs.map fun f=>(f.name,f.params)) ps V E k) (hl:E.length≤100000) (hm:p.ms.length≤1000) (hfl:p.fs.length≤1000) (hc:c.length≤9000) (hs:s.length≤9000) (go:Bool) (nm:ByteArray) (gp:List Pm) (al:List Ar)
  (hg:(nm,gp)∈p.fs.map fun f=>(f.name,f.params)) (hw:iJ p.ms ps V gp al) (hgl:gp.length≤1000) :
  T Tryz.prog C (gK Tryz.f92 2) (MS p E0 l i E k st c s (.dI go nm al) n) (thenS (ae C (fun z=>z=NS p E0 l i E k st (c++[.call go (kK E nm).n (cS E al) (eH E al)]) (s++[n]))) Q):=by
 have hb:=D5 p E k st c.length s.length hE hl hm hfl n go nm gp al hg hw hgl
 have tin:=eO (.call go (kK E nm).n (cS E al) (eH E al))
 have lin:=gz (.call go (kK E nm).n (cS E al) (eH E al))
 have nin:=DO (.call go (kK E nm).n (cS E al) (eH E al))
 have tsm:=gS (.dI go nm al)
 have lsm:=jK (.dI go nm al)
 generalize hX:dt (.call go (kK E nm).n (cS E al) (eH E al))=X at hb tin lin nin
 have hS:gI (.dI go nm al)=nI (if go=true then 4 else 3) nm al:=rfl
 rw[hS] at hb
 refine T.block ?_
 simp only[MS,mE,mH,D6,hS,nI]
 simp only[nI] at hb
 cases go with
 | false=>
  refine T.seq (T.go' aa ?_)
  simp[hC]
  refine T.cond (b:=false) rfl ?_
  simp
  refine T.seq (T.go' aa ?_)
  simp[hC]
  refine T.cond (b:=false) rfl ?_
  simp
  refine T.seq (T.seq (T.go' aa ?_))
  simp[hC]
  refine T.cond (b:=true) rfl (T.skip ?_)
  simp
  refine T.cond (b:=true) rfl ?_
  simp
  refine T.go' aa ?_
  simp[hC]
  refine TL.gk (hb) (by omega) rfl (by simp[hC]) rfl rfl (by first | rfl | simp[aK,ev,assoc]) (by first | rfl | simp only[List.all_cons,List.all_nil,okW,tree, *];rfl | simp[okW,tree,trees, *]) (by first | rfl | assumption | simp[tree,trees, *]) (TL.go' aa ?_)
  simp[hC]
  refine TL.gG (rZ p E k st c s X lin tin n (by omega) (by omega)) (by first | exact aP _ | exact bL _ (by first | rfl | assumption | simp[trees,tree, *])) (aU _) (by first | exact aP _ | exact bL _ (by first | rfl | assumption | simp[trees,tree, *])) (aU _) (by omega) rfl (by simp[hC]) rfl rfl (by first | rfl | simp[aK,ev,assoc]) (by first | rfl | simp only[List.all_cons,List.all_nil,okW,tree, *];rfl | simp[okW,tree,trees, *]) (by first | rfl | assumption | simp[tree,trees, *]) (TL.go' aa ?_)
  simp
  refine ae.le (j6 hC0 [5,4,0,1] 6 7 (e:=bE E0 l i) rfl (nC _ _ _) (nD _ _ _) rfl rfl rfl rfl (iO _ _ (.call false (kK E nm).n (cS E al) (eH E al)) (by simp[nin,hX])) rfl (by simp) (by simp)) (ae.here rfl)
 | true=>
  refine T.seq (T.go' aa ?_)
  simp[hC]
  refine T.cond (b:=false) rfl ?_
  simp
  refine T.seq (T.go' aa ?_)
  simp[hC]
  refine T.cond (b:=false) rfl ?_
  simp
  refine T.seq (T.seq (T.go' aa ?_))
  simp[hC]
  refine T.cond (b:=false) rfl ?_
  simp
  refine T.go' aa ?_
  simp[hC]
  refine T.cond (b:=true) rfl ?_
  simp
  refine T.go' aa ?_
  simp[hC]
  refine TL.gk (hb) (by omega) rfl (by simp[hC]) rfl rfl (by first | rfl | simp[aK,ev,assoc]) (by first | rfl | simp only[List.all_cons,List.all_nil,okW,tree, *];rfl | simp[okW,tree,trees, *]) (by first | rfl | assumption | simp[tree,trees, *]) (TL.go' aa ?_)
  simp[hC]
  refine TL.gG (rZ p E k st c s X lin tin n (by omega) (by omega)) (by first | exact aP _ | exact bL _ (by first | rfl | assumption | simp[trees,tree, *])) (aU _) (by first | exact aP _ | exact bL _ (by first | rfl | assumption | simp[trees,tree, *])) (aU _) (by omega) rfl (by simp[hC]) rfl rfl (by first | rfl | simp[aK,ev,assoc]) (by first | rfl | simp only[List.all_cons,List.all_nil,okW,tree, *];rfl | simp[okW,tree,trees, *]) (by first | rfl | assumption | simp[tree,trees, *]) (TL.go' aa ?_)
  simp
  refine ae.le (j6 hC0 [5,4,0,1] 6 7 (e:=bE E0 l i) rfl (nC _ _ _) (nD _ _ _) rfl rfl rfl rfl (iO _ _ (.call true (kK E nm).n (cS E al) (eH E al)) (by simp[nin,hX])) rfl (by simp) (by simp)) (ae.here rfl)
end Go.Proofs.YtmnglemlimfpbaaGreat
namespace Go.Proofs.YtmnglemlimfpbaaGreat
open Go.Can Go.bg
set_option maxHeartbeats 4000000 in
theorem IW {C:Cx}{Q:Exit→St→Prop}(hC:C.nt=253)(hC0:C.n0=3)(p:Pg)(E0:List En)(l:List Sm)(i:Nat){g:Nat}{fs:List (ByteArray×List Pm)}{ps:List Pm}{V:List ByteArray}(E:List En)(k st:Nat)(c:List In)(s:List Nat)(n:Nat)
  (hE:EW g p.ms fs ps V E k) (hl:E.length≤100000) (hc:c.length≤9000) (hs:s.length≤9000) (nm:ByteArray) (x:Ex) (hn:nm∈V) (hx:fp V 2 x) :
  T Tryz.prog C (gK Tryz.f92 2) (MS p E0 l i E k st c s (.gV nm x) n) (thenS (ae C (fun z=>z=NS p E0 l i E k st (c++[.set (kK E nm).n (decide ((kK E nm).kind=1)) (dB E x)]) (s++[n]))) Q):=by
 obtain⟨kd,j,hf,hkd⟩:=hE.v nm hn
 have hv:=qj p E k st c.length s.length hl nm _ hf (by simp only;omega) n
 rw[gA hf]
 have hb:=ju p E k st c.length s.length hE hl n 2 x hx
 obtain⟨a1,a2,a3,a4,a5,ha,hta⟩:=kg x
 obtain⟨b1,b2,b3,b4,b5,hb',htb⟩:=kg (dB E x)
 have hin:dt (.set j (decide (kd=1)) (dB E x))=[I 1,I j,.bool (decide (kd=1)),I b1,I b2,.str b3,.ax b4 b5,.bool false,I 0,.ax [] 0,.ax [] 0,.ax [] 0]:=by simp[dt,hb',qp]
 have hsm:gI (.gV nm x)=[I 2,.str nm,I a1,I a2,.str a3,.ax a4 a5,.str eS,.ax [] 0,.ax [] 0,.ax [] 0,.ax [] 0]:=by simp[gI,ha,j5]
 rw[ha,hb'] at hb
 have hk1:((kd:Int) == 1)=decide (kd=1):=by rcases hkd with ⟨rfl,_⟩ | ⟨rfl,_⟩<;>rfl
 refine T.block ?_
 simp only[MS,mE,mH,D6,hsm]
 refine T.seq (T.go' aa ?_)
 simp[hC]
 refine T.cond (b:=false) rfl ?_
 simp
 refine T.seq (T.go' aa ?_)
 simp[hC]
 refine T.cond (b:=true) rfl ?_
 simp
 refine T.seq (T.go' aa ?_)
 simp[hC]
 refine TL.gk (hv) (by omega) rfl (by simp[hC]) rfl rfl (by first | rfl | simp[aK,ev,assoc]) (by first | rfl | simp only[List.all_cons,List.all_nil,okW,tree, *];rfl | simp[okW,tree,trees, *]) (by first | rfl | assumption | simp[tree,trees, *]) (TL.go' aa ?_)
 simp[hC,gJ]
 refine T.le (Le.trim [6,7,5,4,0,1,11] [0,3,4,5,6] 7 (by simp[-List.all_eq_true,-List.all_flatMap]) (by omega)) ?_
 simp
 refine T.rx aa follows [0,1,2,3,4,5,6,7,8,9,12,10,11,13] [(2,10),(4,10)] (by kernel_rfl) ?_
 simp[hC]
 refine RX.gk (hb) (by omega) rfl rfl (by simp) rfl rfl (by first | rfl | simp[aK,ev,assoc]) (by first | rfl | simp only[List.all_cons,List.all_nil,okW,tree, *];rfl | simp[okW,tree,trees, *]) (by first | rfl | assumption | simp[tree,trees, *]) (by simp) ?_
 simp
 refine RX.gG (rZ p E k st c s [I 1,I j,.bool (decide (kd=1)),I b1,I b2,.str b3,.ax b4 b5,.bool false,I 0,.ai,.ai,.ai] rfl (by simp only[trees,tree];rfl) n (by omega) (by omega)) (by first | exact aP _ | exact bL _ (by first | rfl | assumption | simp[trees,tree, *])) (aU _) (by first | exact aP _ | exact bL _ (by first | rfl | assumption | simp[trees,tree, *])) (aU _) (by omega) rfl rfl (by simp) rfl rfl (by first | rfl | simp[aK,ev,assoc]) (by first | rfl | simp only[List.all_cons,List.all_nil,okW,tree, *];rfl | simp[okW,tree,trees, *]) (by first | rfl | assumption | simp[tree,trees, *]) (by simp) ?_
 simp
 refine ae.le (j6 hC0 [5,4,0,1] 21 22 (e:=bE E0 l i) rfl (nC _ _ _) (nD _ _ _) rfl rfl rfl rfl (iO _ _ (.set j (decide (kd=1)) (dB E x)) (by simp[hin])) rfl (by simp) (by simp)) (ae.here rfl)
end Go.Proofs.YtmnglemlimfpbaaGreat
