/- Lemmas. -/
import Derived.Test.YtlkmbdfhdknlgaaGreatW31
set_option maxRecDepth 1000000
namespace Go.Proofs.YtlkmbdfhdknlgaaGreat
open Go.Can
def PK:List CV:=[yk1]
def I8:CV:=.cF [yk0,.int .i64 72,.int .i64 0]
theorem PH:ae Tryz.prog 46 PK I8:=eN (I:=Ja [(96,Ed,Eb),(96,Ec,Ea)]) (PJ (by
  intro x hx;simp only[List.mem_cons,List.not_mem_nil,or_false] at hx;rcases hx with rfl | rfl
  .exact I6
  .exact I5)) 300 Bw
def FM:List CV:=[yk0]
def FK:CV:=.str ⟨#[109,117,116,101,120,32,97,59,10,102,117,110,99,32,109,97,105,110,40,41,32,123,10,9,102,40,109,117,116,101,120,32,97,41,59,10,125,10,102,117,110,99,32,102,40,109,117,116,101,120,32,109,41,32,123,10,9,108,111,99,107,32,109,59,10,9,108,111,99,107,32,109,59,10,125,10]⟩
theorem Mw:ae Tryz.prog 128 FM FK:=eN (I:=Ja []) (PJ xr) 300 Bw
end Go.Proofs.YtlkmbdfhdknlgaaGreat
