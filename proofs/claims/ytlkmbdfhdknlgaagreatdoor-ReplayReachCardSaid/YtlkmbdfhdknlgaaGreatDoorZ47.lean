/- Functions of the sanity check, run. -/
import Derived.Test.YtlkmbdfhdknlgaaGreatDoorZ46
namespace Go.Proofs.YtlkmbdfhdknlgaaGreatDoor
open Go.Can
def Lj:List CV:=[yk1]
def F0:CV:=.dI [yk0,.int .i64 42,.int .i64 0]
set_option maxRecDepth 1000000 in
theorem Lh:ae Tryz.prog 38 Lj F0:=ef (I:=Ks [(62,BL,BJ),(62,BK,BI)]) (M0 (by
  intro x hx;simp only[List.mem_cons,List.not_mem_nil,or_false] at hx;rcases hx with rfl | rfl
  ·exact FX
  ·exact FW)) 300 N4
def F2:List CV:=[yk0]
def FY:CV:=.str ⟨#[109,117,116,101,120,32,97,59,10,102,117,110,99,32,109,97,105,110,40,41,32,123,10,9,108,111,99,107,32,97,59,10,9,117,110,108,111,99,107,32,97,59,10,125,10]⟩
set_option maxRecDepth 1000000 in
theorem Lf:ae Tryz.prog 83 F2 FY:=ef (I:=Ks []) (M0 N3) 300 N4
end Go.Proofs.YtlkmbdfhdknlgaaGreatDoor
