/- Lemmas. -/
import Derived.Test.YtlkmbdfhdknlgaaGreatW32
set_option maxRecDepth 1000000
namespace Go.Proofs.YtlkmbdfhdknlgaaGreat
open Go.Can List
def Jb:List CV:=[yk0]
def I7:CV:=.bool true
theorem PG:ae Tryz.prog 67 Jb I7:=eN (I:=Ja [(128,FM,FK),(96,Ed,Eb),(96,Ec,Ea)]) (PJ (by
  intro x hx;simp only[mem_cons,not_mem_nil,or_false] at hx;rcases hx with rfl | rfl | rfl
  .exact Mw
  .exact I6
  .exact I5)) 300 Bw
def Ee:List CV:=[yk0]
def I9:CV:=.cF [.agg [.aj,.az [.str ⟨#[97]⟩,.bool false,.int .i64 0] 1,.az [.str ⟨#[109,97,105,110]⟩,.int .i64 0,.int .i64 0,.int .i64 0,.az [.int .i64 2,.int .i64 1,.bool false,.int .i64 0,.int .i64 0,.str ⟨#[]⟩,.aj,.bool false,.int .i64 0,.aj,.aj,.az [.bool false,.int .i64 0,.aj] 1,.int .i64 8,.int .i64 0,.bool false,.int .i64 0,.int .i64 0,.str ⟨#[]⟩,.aj,.bool false,.int .i64 0,.aj,.aj,.aj] 2,.str ⟨#[102]⟩,.int .i64 0,.int .i64 1,.int .i64 0,.az [.int .i64 4,.int .i64 0,.bool false,.int .i64 0,.int .i64 0,.str ⟨#[]⟩,.aj,.bool true,.int .i64 0,.aj,.aj,.aj,.int .i64 4,.int .i64 0,.bool false,.int .i64 0,.int .i64 0,.str ⟨#[]⟩,.aj,.bool true,.int .i64 0,.aj,.aj,.aj,.int .i64 8,.int .i64 0,.bool false,.int .i64 0,.int .i64 0,.str ⟨#[]⟩,.aj,.bool false,.int .i64 0,.aj,.aj,.aj] 3] 2,.int .i64 0],.int .i64 0,.int .i64 0,.int .i64 0]
theorem PI:ae Tryz.prog 27 Ee I9:=eN (I:=Ja [(67,Jb,I7)]) (PJ (by
  intro x hx;simp only[mem_cons,not_mem_nil,or_false] at hx;rcases hx with rfl
  .exact PG)) 300 Bw
end Go.Proofs.YtlkmbdfhdknlgaaGreat
