/- Functions of the sanity ch -/
import Derived.Test.YtlkmbdfhdknlgaaGreatZ43
namespace Go.Proofs.YtlkmbdfhdknlgaaGreat
open Go.Can List
def II:List CV:=[yk0]
def IE:CV:=.bool true
set_option maxRecDepth 1000000 in
theorem OX:ae Tryz.prog 67 II IE:=eK (I:=IH [(128,Ft,Fq),(96,DW,DU),(96,DV,DT)]) (O0 (by
  intro x hx;simp only[mem_cons,not_mem_nil,or_false] at hx;rcases hx with rfl | rfl | rfl
  ·exact LV
  ·exact ID
  ·exact IC)) 300 Ix
def DX:List CV:=[yk0]
def IG:CV:=.cB [.agg [.aj,.ax [.str ⟨#[97]⟩,.bool false,.int .i64 0] 1,.ax [.str ⟨#[109,97,105,110]⟩,.int .i64 0,.int .i64 0,.int .i64 0,.ax [.int .i64 2,.int .i64 1,.bool false,.int .i64 0,.int .i64 0,.str ⟨#[]⟩,.aj,.bool false,.int .i64 0,.aj,.aj,.ax [.bool false,.int .i64 0,.aj] 1,.int .i64 8,.int .i64 0,.bool false,.int .i64 0,.int .i64 0,.str ⟨#[]⟩,.aj,.bool false,.int .i64 0,.aj,.aj,.aj] 2,.str ⟨#[102]⟩,.int .i64 0,.int .i64 1,.int .i64 0,.ax [.int .i64 4,.int .i64 0,.bool false,.int .i64 0,.int .i64 0,.str ⟨#[]⟩,.aj,.bool true,.int .i64 0,.aj,.aj,.aj,.int .i64 4,.int .i64 0,.bool false,.int .i64 0,.int .i64 0,.str ⟨#[]⟩,.aj,.bool true,.int .i64 0,.aj,.aj,.aj,.int .i64 8,.int .i64 0,.bool false,.int .i64 0,.int .i64 0,.str ⟨#[]⟩,.aj,.bool false,.int .i64 0,.aj,.aj,.aj] 3] 2,.int .i64 0],.int .i64 0,.int .i64 0,.int .i64 0]
set_option maxRecDepth 1000000 in
theorem OZ:ae Tryz.prog 27 DX IG:=eK (I:=IH [(67,II,IE)]) (O0 (by
  intro x hx;simp only[mem_cons,not_mem_nil,or_false] at hx;rcases hx with rfl
  ·exact OX)) 300 Ix
end Go.Proofs.YtlkmbdfhdknlgaaGreat
