/- Functions of the sanity check, run. -/
import Derived.Test.YtlkmbdfhdknlgaaGreatDoorZ47
namespace Go.Proofs.YtlkmbdfhdknlgaaGreatDoor
open Go.Can
def F3:List CV:=[yk0]
def FZ:CV:=.bool true
set_option maxRecDepth 1000000 in
theorem Lg:ae Tryz.prog 46 F3 FZ:=ef (I:=Ks [(83,F2,FY),(62,BL,BJ),(62,BK,BI)]) (M0 (by
  intro x hx;simp only[List.mem_cons,List.not_mem_nil,or_false] at hx;rcases hx with rfl | rfl | rfl
  ·exact Lf
  ·exact FX
  ·exact FW)) 300 N4
def BM:List CV:=[yk0]
def F1:CV:=.dI [.agg [.aj,.az [.str ⟨#[97]⟩,.bool false,.int .i64 0] 1,.az [.str ⟨#[109,97,105,110]⟩,.int .i64 0,.int .i64 0,.int .i64 0,.az [.int .i64 4,.int .i64 0,.bool false,.int .i64 0,.int .i64 0,.str ⟨#[]⟩,.aj,.bool false,.int .i64 0,.aj,.aj,.aj,.int .i64 5,.int .i64 0,.bool false,.int .i64 0,.int .i64 0,.str ⟨#[]⟩,.aj,.bool false,.int .i64 0,.aj,.aj,.aj,.int .i64 8,.int .i64 0,.bool false,.int .i64 0,.int .i64 0,.str ⟨#[]⟩,.aj,.bool false,.int .i64 0,.aj,.aj,.aj] 3] 1,.int .i64 0],.int .i64 0,.int .i64 0,.int .i64 0]
set_option maxRecDepth 1000000 in
theorem Li:ae Tryz.prog 19 BM F1:=ef (I:=Ks [(46,F3,FZ)]) (M0 (by
  intro x hx;simp only[List.mem_cons,List.not_mem_nil,or_false] at hx;rcases hx with rfl
  ·exact Lg)) 300 N4
end Go.Proofs.YtlkmbdfhdknlgaaGreatDoor
