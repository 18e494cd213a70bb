/- ends and Replay of the reference. -/
import Derived.Test.YtlkmbdfhdknlgaaGreatDoorZ38
namespace Go.Proofs.YtlkmbdfhdknlgaaGreatDoor
open Go.Can Go.aN
theorem Hy (l:List Nat)(x:Int):qZ l x=(decide (0≤x) && decide (x.toNat∈l)):=by
 rw[Bool.eq_iff_iff,yI];simp
theorem Hz (x:Int):qZ [0] x=decide (x=0):=by
 rw[Bool.eq_iff_iff,yI];simp;omega
def vn (r:Ru)(inst pc:Int)(ws:List Nat):Bool:=r.ct && decide (r.inst=inst) && qZ ws pc
theorem AL {u:Un}{c:Cl}{l:List Ru}{inst pc:Int}{f k:Nat}{r:Ru}(hr:l[k]? = some r)(h:r.items=[]):pK u c l inst pc (f+1) k=vn r inst pc [0]:=by
 simp[pK,hr,h,vn,Hz]
theorem DM {u:Un}{c:Cl}{l:List Ru}{inst pc:Int}{f k:Nat}{r q:Ru}{it:It}{rn:Nat}(hr:l[k]? = some r)(h:r.items.getLast? = some it)(hn:it.l8=rn)(hq:l[rn]? = some q)(ho:q.ct=true):pK u c l inst pc (f+1) k=pK u c l inst pc f rn:=by
 simp[pK,hr,h,hn,hq,ho]
theorem DL {u:Un}{c:Cl}{l:List Ru}{inst pc:Int}{f k:Nat}{r:Ru}{it:It}{z:In}(hr:l[k]? = some r)(h:r.items.getLast? = some it)(hn:¬ (0≤it.l8∧(l[it.l8.toNat]?).any (·.ct)=true))(hz:fV u (Fc c r.inst) it.pc=some z):pK u c l inst pc (f+1) k=vn r inst pc (dJ z it.pc.toNat):=by
 rw[pK,hr];simp only[h];rw[if_neg hn,hz,vn,Hy]
theorem xC {u:Un}{c:Cl}{l:List Ru}{m:Nat}:∀ (rest:List Ru) (out:List Et),rest=l.drop out.length→(eA u c l m rest out).2.2=0→(eA u c l m rest out).2.1=out.length+rest.length∧(eA u c l m rest out).1.length=out.length+rest.length∧∀ k r,out.length≤k→l[k]? = some r→dm u c l k r=true
 | [],out,hr,_=>by
  refine⟨by simp[eA],by simp[eA],fun k r hk h=>?_⟩;have h1:=(List.getElem?_eq_some_iff.1 h).1;have h2:=List.drop_eq_nil_iff.1 hr.symm;omega
 | a::t,out,hr,h=>by
  rw[eA] at h ⊢;split at h
  ·rename_i hra;have ht:t=l.drop (out++[te u c m out a]).length:=by
    rw[List.length_append,List.length_singleton,← List.drop_drop,← hr];rfl
   obtain⟨h1,h2,h3⟩:=xC t _ ht h;rw[if_pos hra];refine⟨by rw[h1];simp;omega,by rw[h2];simp;omega,fun k r hk Ry=>?_⟩;by_cases he:out.length=k
   ·subst he;have:l[out.length]? = some a:=by rw[← List.head?_drop,← hr];rfl
    rw[this] at Ry;cases Ry;exact hra
   ·exact h3 k r PX Ry
  ·cases h
def zb (u:Un)(x:Ce)(r:Ru):Bool:=if x.pc=-1 then r.ct || decide (r.inst≠x.inst) else !pK u (ak u) x.rules x.inst x.pc x.rules.length (x.rules.length-1)
def MK (u:Un)(m:Int):Nat:=match u.ms[m.toNat]? with
 | some xm=>aG xm
 | none=>0
def zG (u:Un)(x:Ce):Bool:=!qC ((er u x).1.getD (x.rules.length-1) za) 0 (MK u x.lock) || decide (((er u x).1.getD (x.rules.length-1) za).fo≠x.depth)
def qk (u:Un)(x:Ce):Nat×Int:=
 if (er u x).2.2≠0 then (er u x).2 else match x.rules.getLast? with
  | none=>(0,10)
  | some r=>if qZ (ak u).roots r.inst=false then (x.rules.length,10) else if zb u x r=true then (x.rules.length,10) else if zG u x=true then (x.rules.length,12) else (x.rules.length,0)
theorem AO {u:Un}{x:Ce}(h:(er u x).2.2=0):(∃ m xm,x.lock=(m:Nat)∧u.ms[m]? = some xm∧er u x=eA u (ak u) x.rules m x.rules []∧MK u x.lock=aG xm)∧(er u x).2.1=x.rules.length∧(er u x).1.length=x.rules.length∧∀ k r,x.rules[k]? = some r→dm u (ak u) x.rules k r=true:=by
 unfold er at h ⊢;split at h
 ·cases h
 ·rename_i hb;rw[if_neg hb];obtain⟨m,hm⟩:∃ m:Nat,x.lock=m:=⟨x.lock.toNat,by omega⟩;obtain⟨xm,hx⟩:∃ xm,u.ms[m]? = some xm:=⟨_,List.getElem?_eq_getElem yA⟩;obtain⟨h1,h2,h3⟩:=xC _ _ N3 h;refine⟨⟨m,xm,hm,hx,by rw[hm,Int.toNat_natCast],by simp[MK,hm,hx]⟩,by simpa using h1,by simpa using h2,fun k r hk=>h3 k r N3 hk⟩
end Go.Proofs.YtlkmbdfhdknlgaaGreatDoor
