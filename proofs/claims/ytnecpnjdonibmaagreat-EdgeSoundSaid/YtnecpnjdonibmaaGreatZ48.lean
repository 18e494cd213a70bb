/- Functions of the sanity check, run. -/
import Derived.Test.YtnecpnjdonibmaaGreatZ47
namespace Go.Proofs.YtnecpnjdonibmaaGreat
open Go.Can
def xj:List CV:=[Fp,FM,.int .i64 0]
def wZ:CV:=.az [LF] 1
set_option maxRecDepth 1000000 in
theorem Ce:ae Tryz.prog 112 xj wZ:=cJ (I:=uY []) (xb zX) 300 PH
def xi:List CV:=[Fp,FM,.int .i64 1]
def wY:CV:=.az [LF] 1
set_option maxRecDepth 1000000 in
theorem Cd:ae Tryz.prog 112 xi wY:=cJ (I:=uY []) (xb zX) 300 PH
def xe:List CV:=[Fp,FM,.int .i64 0]
def wV:CV:=.agg [.az [LF] 1,.az [.az [.az [.int .i64 1,.int .i64 2] 2,.az [.int .i64 2,.int .i64 0] 2,.az [.int .i64 2,.int .i64 0] 2,.az [.int .i64 2,.int .i64 0] 2,LF] 5] 1,.az [.int .i64 1] 1]
set_option maxRecDepth 1000000 in
theorem Ca:ae Tryz.prog 175 xe wV:=cJ (I:=uY [(112,xj,wZ),(112,xi,wY)]) (xb (by
  intro x hx;simp only[List.mem_cons,List.not_mem_nil,or_false] at hx;rcases hx with rfl | rfl
  ·exact Ce
  ·exact Cd)) 300 PH
def xd:List CV:=[Fp,FM,.int .i64 1]
def wU:CV:=.agg [.az [LF] 1,.az [.az [.az [.int .i64 1,.int .i64 2] 2,.az [.int .i64 1,.int .i64 2] 2,.az [.int .i64 2,.int .i64 0] 2,LF,LF] 5] 1,.az [.int .i64 1] 1]
set_option maxRecDepth 1000000 in
theorem B9:ae Tryz.prog 175 xd wU:=cJ (I:=uY [(112,xj,wZ),(112,xi,wY)]) (xb (by
  intro x hx;simp only[List.mem_cons,List.not_mem_nil,or_false] at hx;rcases hx with rfl | rfl
  ·exact Ce
  ·exact Cd)) 300 PH
def xn:List CV:=[Fp,FM,.int .i64 0]
def xa:CV:=.az [.az [.int .i64 1,.int .i64 2,.int .i64 2,.int .i64 2,.int .i64 1] 5] 1
set_option maxRecDepth 1000000 in
theorem Cg:ae Tryz.prog 107 xn xa:=cJ (I:=uY [(175,xe,wV),(175,xd,wU)]) (xb (by
  intro x hx;simp only[List.mem_cons,List.not_mem_nil,or_false] at hx;rcases hx with rfl | rfl
  ·exact Ca
  ·exact B9)) 300 PH
def xk:List CV:=[Fp,FM,.int .i64 1]
def w9:CV:=.az [.az [.int .i64 1,.int .i64 1,.int .i64 2,.int .i64 1,.int .i64 1] 5] 1
set_option maxRecDepth 1000000 in
theorem Cf:ae Tryz.prog 107 xk w9:=cJ (I:=uY [(175,xe,wV),(175,xd,wU)]) (xb (by
  intro x hx;simp only[List.mem_cons,List.not_mem_nil,or_false] at hx;rcases hx with rfl | rfl
  ·exact Ca
  ·exact B9)) 300 PH
def FO:List CV:=[Fp,FM]
def FG:CV:=.az [.az [.az [.int .i64 1,.int .i64 2,.int .i64 2,.int .i64 2,.int .i64 1] 5] 1,.az [.az [.int .i64 1,.int .i64 1,.int .i64 2,.int .i64 1,.int .i64 1] 5] 1] 2
set_option maxRecDepth 1000000 in
theorem Lv:ae Tryz.prog 97 FO FG:=cJ (I:=uY [(107,xn,xa),(107,xk,w9)]) (xb (by
  intro x hx;simp only[List.mem_cons,List.not_mem_nil,or_false] at hx;rcases hx with rfl | rfl
  ·exact Cg
  ·exact Cf)) 300 PH
def FN:List CV:=[Fp,FM]
def FF:CV:=.az [.int .i64 0,.int .i64 0,.int .i64 0,.int .i64 0,.int .i64 1,.int .i64 1] 2
set_option maxRecDepth 1000000 in
theorem Lu:ae Tryz.prog 98 FN FF:=cJ (I:=uY []) (xb zX) 300 PH
def FU:List CV:=[Fp,FM]
def FL:CV:=.az [.int .i64 0,.int .i64 1,.int .i64 0,.int .i64 1] 1
set_option maxRecDepth 1000000 in
theorem LC:ae Tryz.prog 33 FU FL:=cJ (I:=uY [(97,FO,FG),(98,FN,FF)]) (xb (by
  intro x hx;simp only[List.mem_cons,List.not_mem_nil,or_false] at hx;rcases hx with rfl | rfl
  ·exact Lv
  ·exact Lu)) 300 PH
def FT:List CV:=[Fp,FM,.int .i64 0,.int .i64 1]
def FK:CV:=.dH [.az [.int .i64 0] 1,.az [.int .i64 0] 1]
set_option maxRecDepth 1000000 in
theorem LA:ae Tryz.prog 37 FT FK:=cJ (I:=uY [(107,xn,xa),(107,xk,w9)]) (xb (by
  intro x hx;simp only[List.mem_cons,List.not_mem_nil,or_false] at hx;rcases hx with rfl | rfl
  ·exact Cg
  ·exact Cf)) 300 PH
def Co:List CV:=[.az [.int .i64 0,.int .i64 1,.int .i64 0,.int .i64 1] 1]
def Cj:CV:=.az [.az [.int .i64 0,.int .i64 1] 2] 1
set_option maxRecDepth 1000000 in
theorem I4:ae Tryz.prog 106 Co Cj:=cJ (I:=uY []) (xb zX) 300 PH
def LG:List CV:=[]
def LD:CV:=.bool true
set_option maxRecDepth 1000000 in
theorem LB:ae Tryz.prog 35 LG LD:=cJ (I:=uY [(86,FP,FH),(68,FR,FJ),(69,FQ,FI),(33,FU,FL),(37,FT,FK),(106,Co,Cj)]) (xb (by
  intro x hx;simp only[List.mem_cons,List.not_mem_nil,or_false] at hx;rcases hx with rfl | rfl | rfl | rfl | rfl | rfl
  ·exact Lw
  ·exact Lz
  ·exact Ly
  ·exact LC
  ·exact LA
  ·exact I4)) 300 PH
end Go.Proofs.YtnecpnjdonibmaaGreat
