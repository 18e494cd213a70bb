/- Functions of the sanity check, run. -/
import Derived.Test.YtlkmbdfhdknlgaaGreatDoorZ49
namespace Go.Proofs.YtlkmbdfhdknlgaaGreatDoor
open Go.Can
def B9:List CV:=[yk0]
def B5:CV:=.bool true
set_option maxRecDepth 1000000 in
theorem G7:ae Tryz.prog 46 B9 B5:=dz (I:=Gk [(83,B8,B4),(62,yo,ym),(62,yn,yl)]) (IQ (by
  intro x hx;simp only[List.mem_cons,List.not_mem_nil,or_false] at hx;rcases hx with rfl | rfl | rfl
  ·exact G6
  ·exact B3
  ·exact B1)) 300 lz
def yp:List CV:=[yk0]
def B7:CV:=.db [.agg [.ag,.au [.str ⟨#[97]⟩,.bool false,.int .i64 0] 1,.au [.str ⟨#[109,97,105,110]⟩,.int .i64 0,.int .i64 0,.int .i64 0,.au [.int .i64 4,.int .i64 0,.bool false,.int .i64 0,.int .i64 0,.str ⟨#[]⟩,.ag,.bool false,.int .i64 0,.ag,.ag,.ag,.int .i64 5,.int .i64 0,.bool false,.int .i64 0,.int .i64 0,.str ⟨#[]⟩,.ag,.bool false,.int .i64 0,.ag,.ag,.ag,.int .i64 8,.int .i64 0,.bool false,.int .i64 0,.int .i64 0,.str ⟨#[]⟩,.ag,.bool false,.int .i64 0,.ag,.ag,.ag] 3] 1,.int .i64 0],.int .i64 0,.int .i64 0,.int .i64 0]
set_option maxRecDepth 1000000 in
theorem G9:ae Tryz.prog 19 yp B7:=dz (I:=Gk [(46,B9,B5)]) (IQ (by
  intro x hx;simp only[List.mem_cons,List.not_mem_nil,or_false] at hx;rcases hx with rfl
  ·exact G7)) 300 lz
end Go.Proofs.YtlkmbdfhdknlgaaGreatDoor
