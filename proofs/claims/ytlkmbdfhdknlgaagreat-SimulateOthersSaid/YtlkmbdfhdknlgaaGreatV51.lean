/- Functions of the sanity ch -/
import Derived.Test.YtlkmbdfhdknlgaaGreatV50
set_option maxRecDepth 1000000
namespace Go.Proofs.YtlkmbdfhdknlgaaGreat
open Go.Can List
def Gk:List CV:=[yk0]
def Gg:CV:=.bool true
theorem LS:af Tryz.prog 67 Gk Gg:=ep (I:=Gj [(128,Dq,Dn),(96,Ca,B8),(96,B9,B7)]) (LW (by
  intro x hx;simp only[mem_cons,not_mem_nil,or_false] at hx;rcases hx with rfl | rfl | rfl
  .exact Jf
  .exact Gf
  .exact Ge)) 300 GK
def Cb:List CV:=[yk0]
def Gi:CV:=.bY [.agg [.ak,.au [.str ⟨#[97]⟩,.bool false,.int .i64 0] 1,.au [.str ⟨#[109,97,105,110]⟩,.int .i64 0,.int .i64 0,.int .i64 0,.au [.int .i64 2,.int .i64 1,.bool false,.int .i64 0,.int .i64 0,.str ⟨#[]⟩,.ak,.bool false,.int .i64 0,.ak,.ak,.au [.bool false,.int .i64 0,.ak] 1,.int .i64 8,.int .i64 0,.bool false,.int .i64 0,.int .i64 0,.str ⟨#[]⟩,.ak,.bool false,.int .i64 0,.ak,.ak,.ak] 2,.str ⟨#[102]⟩,.int .i64 0,.int .i64 1,.int .i64 0,.au [.int .i64 4,.int .i64 0,.bool false,.int .i64 0,.int .i64 0,.str ⟨#[]⟩,.ak,.bool true,.int .i64 0,.ak,.ak,.ak,.int .i64 4,.int .i64 0,.bool false,.int .i64 0,.int .i64 0,.str ⟨#[]⟩,.ak,.bool true,.int .i64 0,.ak,.ak,.ak,.int .i64 8,.int .i64 0,.bool false,.int .i64 0,.int .i64 0,.str ⟨#[]⟩,.ak,.bool false,.int .i64 0,.ak,.ak,.ak] 3] 2,.int .i64 0],.int .i64 0,.int .i64 0,.int .i64 0]
theorem LV:af Tryz.prog 27 Cb Gi:=ep (I:=Gj [(67,Gk,Gg)]) (LW (by
  intro x hx;simp only[mem_cons,not_mem_nil,or_false] at hx;rcases hx with rfl
  .exact LS)) 300 GK
end Go.Proofs.YtlkmbdfhdknlgaaGreat
