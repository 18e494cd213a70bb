/- Functions of the sanity check, run. -/
import Derived.Test.YtnecpnjdonibmaaGreatZ46
namespace Go.Proofs.YtnecpnjdonibmaaGreat
open Go.Can
def FP:List CV:=[yk3]
def FH:CV:=.dH [yk1,.int .i64 69,.int .i64 0]
set_option maxRecDepth 1000000 in
theorem Lw:ae Tryz.prog 86 FP FH:=cJ (I:=uY [(158,xg,wX),(158,xf,wW)]) (xb (by
  intro x hx;simp only[List.mem_cons,List.not_mem_nil,or_false] at hx;rcases hx with rfl | rfl
  ·exact Cc
  ·exact Cb)) 300 PH
def Cm:List CV:=[yk1]
def Ch:CV:=.str ⟨#[109,117,116,101,120,32,97,59,10,109,117,116,101,120,32,98,59,10,102,117,110,99,32,109,97,105,110,40,41,32,123,10,9,108,111,99,107,32,97,59,10,9,108,111,99,107,32,98,59,10,9,117,110,108,111,99,107,32,98,59,10,9,117,110,108,111,99,107,32,97,59,10,125,10]⟩
set_option maxRecDepth 1000000 in
theorem I2:ae Tryz.prog 202 Cm Ch:=cJ (I:=uY []) (xb zX) 300 PH
def Cn:List CV:=[yk1]
def Ci:CV:=.bool true
set_option maxRecDepth 1000000 in
theorem I3:ae Tryz.prog 133 Cn Ci:=cJ (I:=uY [(158,xg,wX),(158,xf,wW),(202,Cm,Ch)]) (xb (by
  intro x hx;simp only[List.mem_cons,List.not_mem_nil,or_false] at hx;rcases hx with rfl | rfl | rfl
  ·exact Cc
  ·exact Cb
  ·exact I2)) 300 PH
def FR:List CV:=[yk1]
def FJ:CV:=.dH [Fp,.int .i64 0,.int .i64 0,.int .i64 0]
set_option maxRecDepth 1000000 in
theorem Lz:ae Tryz.prog 68 FR FJ:=cJ (I:=uY [(133,Cn,Ci)]) (xb (by
  intro x hx;simp only[List.mem_cons,List.not_mem_nil,or_false] at hx;rcases hx with rfl
  ·exact I3)) 300 PH
def FQ:List CV:=[Fp]
def FI:CV:=.dH [FM,.int .i64 0]
set_option maxRecDepth 1000000 in
theorem Ly:ae Tryz.prog 69 FQ FI:=cJ (I:=uY []) (xb zX) 300 PH
end Go.Proofs.YtnecpnjdonibmaaGreat
