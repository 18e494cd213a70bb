/- Functions of the sanity ch -/
import Derived.Test.YtlkmbdfhdknlgaaGreatZ42
namespace Go.Proofs.YtlkmbdfhdknlgaaGreat
open Go.Can
def O1:List CV:=[yk1]
def IF:CV:=.cB [yk0,.int .i64 72,.int .i64 0]
set_option maxRecDepth 1000000 in
theorem OY:ae Tryz.prog 46 O1 IF:=eK (I:=IH [(96,DW,DU),(96,DV,DT)]) (O0 (by
  intro x hx;simp only[List.mem_cons,List.not_mem_nil,or_false] at hx;rcases hx with rfl | rfl
  ·exact ID
  ·exact IC)) 300 Ix
def Ft:List CV:=[yk0]
def Fq:CV:=.str ⟨#[109,117,116,101,120,32,97,59,10,102,117,110,99,32,109,97,105,110,40,41,32,123,10,9,102,40,109,117,116,101,120,32,97,41,59,10,125,10,102,117,110,99,32,102,40,109,117,116,101,120,32,109,41,32,123,10,9,108,111,99,107,32,109,59,10,9,108,111,99,107,32,109,59,10,125,10]⟩
set_option maxRecDepth 1000000 in
theorem LV:ae Tryz.prog 128 Ft Fq:=eK (I:=IH []) (O0 xr) 300 Ix
end Go.Proofs.YtlkmbdfhdknlgaaGreat
