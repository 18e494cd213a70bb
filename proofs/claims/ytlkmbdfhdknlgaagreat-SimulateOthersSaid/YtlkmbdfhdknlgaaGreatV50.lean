/- Functions of the sanity ch -/
import Derived.Test.YtlkmbdfhdknlgaaGreatV49
set_option maxRecDepth 1000000
namespace Go.Proofs.YtlkmbdfhdknlgaaGreat
open Go.Can
def LX:List CV:=[yk1]
def Gh:CV:=.bY [yk0,.int .i64 72,.int .i64 0]
theorem LU:af Tryz.prog 46 LX Gh:=ep (I:=Gj [(96,Ca,B8),(96,B9,B7)]) (LW (by
  intro x hx;simp only[List.mem_cons,List.not_mem_nil,or_false] at hx;rcases hx with rfl | rfl
  .exact Gf
  .exact Ge)) 300 GK
def Dq:List CV:=[yk0]
def Dn:CV:=.str ⟨#[109,117,116,101,120,32,97,59,10,102,117,110,99,32,109,97,105,110,40,41,32,123,10,9,102,40,109,117,116,101,120,32,97,41,59,10,125,10,102,117,110,99,32,102,40,109,117,116,101,120,32,109,41,32,123,10,9,108,111,99,107,32,109,59,10,9,108,111,99,107,32,109,59,10,125,10]⟩
theorem Jf:af Tryz.prog 128 Dq Dn:=ep (I:=Gj []) (LW xr) 300 GK
end Go.Proofs.YtlkmbdfhdknlgaaGreat
