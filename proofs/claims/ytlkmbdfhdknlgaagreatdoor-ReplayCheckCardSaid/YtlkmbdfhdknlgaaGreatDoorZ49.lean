/- Functions of the sanity check, run. -/
import Derived.Test.YtlkmbdfhdknlgaaGreatDoorZ48
namespace Go.Proofs.YtlkmbdfhdknlgaaGreatDoor
open Go.Can
def Ha:List CV:=[yk1]
def B6:CV:=.db [yk0,.int .i64 42,.int .i64 0]
set_option maxRecDepth 1000000 in
theorem G8:ae Tryz.prog 38 Ha B6:=dz (I:=Gk [(62,yo,ym),(62,yn,yl)]) (IQ (by
  intro x hx;simp only[List.mem_cons,List.not_mem_nil,or_false] at hx;rcases hx with rfl | rfl
  ·exact B3
  ·exact B1)) 300 lz
def B8:List CV:=[yk0]
def B4:CV:=.str ⟨#[109,117,116,101,120,32,97,59,10,102,117,110,99,32,109,97,105,110,40,41,32,123,10,9,108,111,99,107,32,97,59,10,9,117,110,108,111,99,107,32,97,59,10,125,10]⟩
set_option maxRecDepth 1000000 in
theorem G6:ae Tryz.prog 83 B8 B4:=dz (I:=Gk []) (IQ j5) 300 lz
end Go.Proofs.YtlkmbdfhdknlgaaGreatDoor
