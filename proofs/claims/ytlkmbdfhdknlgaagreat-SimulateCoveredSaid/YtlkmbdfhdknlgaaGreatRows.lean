/-
  No cell of these rows narrows 'for every input' (looked for: loops, veiled, ifaces, maps, wideKeys, modest, calm, conditions, laid).
  DERIVED. THE GIVEN ROWS OF THIS SEAT. 4 by the template 'for every input the law returns true; each argument reads behind the call as it read before'; 0 by the template 'total and deterministic' (their statements: YtlkmbdfhdknlgaaGreatTotals.lean).
  GIVEN WITH THE SEED: the statements are not yours to turn. If you find one false, say at which input.
  Laid BY PROGRAM, IN A SANDBOX (cutbox-rows.mjs): the forced cells as the released guide's own fill.sh prints them over the translation 0a93a76671fe62bb… (all of the seat's roots in one cut). By AI agents, Wed Nov 11 2026. No macro, syntax, notation, axiom, sorry.
-/
import Derived.Test.YtlkmbdfhdknlgaaGreatChecked
import GoSem.Claim
import GoSem.ClaimJoined
import GoSem.ClaimMapViews
import Derived.JoinedTies
import Derived.KernelRfl
namespace Go.Proofs.YtlkmbdfhdknlgaaGreat
/- THE CELL 'sum', in the pinned program and in every row, IS THE sha256 OF THE DUMP (.gsa) THAT YtlkmbdfhdknlgaaGreatProg.lean LOADS. Nothing in Lean hashes anything: it is a label: what it is worth is what the hold of that sum in a sandbox is worth. -/
noncomputable def Tryz.pinned : Pinned := { name := "ytlkmbdfhdknlgaagreat", sum := "0a93a76671fe62bbcfef14cf966afddf820b94c5cefae013ef3fbaa9565f4a44", checked := Tryz.checked }
namespace Rows
def none {H : Type} : Left H := { results := [], args := [] }

/-- 'lockorderlaw19.SimulateEvents': WHATEVER THE INPUT: true; the input reads as it did. -/
def simulateEventsSpec : ChangeSpec := { name := "simulateEvents", fn := fun _ => fun
  | [d1, d2] => { results := [.lit (.bool true)], args := [d1, d2] }
  | _ => none }
def simulateEventsRow : OpenClaim := { program := "ytlkmbdfhdknlgaagreat", sum := "0a93a76671fe62bbcfef14cf966afddf820b94c5cefae013ef3fbaa9565f4a44", func := "lockorder/lockorderlaw19.SimulateEvents", spec := "simulateEvents", unfollowed := true, recurses := true, apart := false }
def SimulateEventsSaid : Prop := simulateEventsRow.holds Tryz.pinned (OpenSpec.ofChange simulateEventsSpec)

/-- ITS FALSE NEIGHBOUR: 'it returns false'. Refute it at one input. -/
def simulateEventsWrong : ChangeSpec := { name := "simulateEvents", fn := fun _ => fun
  | [d1, d2] => { results := [.lit (.bool false)], args := [d1, d2] }
  | _ => none }
def SimulateEventsWrongFalsely : Prop := simulateEventsRow.holds Tryz.pinned (OpenSpec.ofChange simulateEventsWrong)

/-- 'lockorderlaw19.SimulateOthers': WHATEVER THE INPUT: true; the input reads as it did. -/
def simulateOthersSpec : ChangeSpec := { name := "simulateOthers", fn := fun _ => fun
  | [d1, d2, d3, d4] => { results := [.lit (.bool true)], args := [d1, d2, d3, d4] }
  | _ => none }
def simulateOthersRow : OpenClaim := { program := "ytlkmbdfhdknlgaagreat", sum := "0a93a76671fe62bbcfef14cf966afddf820b94c5cefae013ef3fbaa9565f4a44", func := "lockorder/lockorderlaw19.SimulateOthers", spec := "simulateOthers", unfollowed := true, recurses := true, apart := false }
def SimulateOthersSaid : Prop := simulateOthersRow.holds Tryz.pinned (OpenSpec.ofChange simulateOthersSpec)

/-- ITS FALSE NEIGHBOUR: 'it returns false'. Refute it at one input. -/
def simulateOthersWrong : ChangeSpec := { name := "simulateOthers", fn := fun _ => fun
  | [d1, d2, d3, d4] => { results := [.lit (.bool false)], args := [d1, d2, d3, d4] }
  | _ => none }
def SimulateOthersWrongFalsely : Prop := simulateOthersRow.holds Tryz.pinned (OpenSpec.ofChange simulateOthersWrong)

/-- 'lockorderlaw19.SimulateFollows': WHATEVER THE INPUT: true; the input reads as it did. -/
def simulateFollowsSpec : ChangeSpec := { name := "simulateFollows", fn := fun _ => fun
  | [d1, d2, d3, d4] => { results := [.lit (.bool true)], args := [d1, d2, d3, d4] }
  | _ => none }
def simulateFollowsRow : OpenClaim := { program := "ytlkmbdfhdknlgaagreat", sum := "0a93a76671fe62bbcfef14cf966afddf820b94c5cefae013ef3fbaa9565f4a44", func := "lockorder/lockorderlaw19.SimulateFollows", spec := "simulateFollows", unfollowed := true, recurses := true, apart := false }
def SimulateFollowsSaid : Prop := simulateFollowsRow.holds Tryz.pinned (OpenSpec.ofChange simulateFollowsSpec)

/-- ITS FALSE NEIGHBOUR: 'it returns false'. Refute it at one input. -/
def simulateFollowsWrong : ChangeSpec := { name := "simulateFollows", fn := fun _ => fun
  | [d1, d2, d3, d4] => { results := [.lit (.bool false)], args := [d1, d2, d3, d4] }
  | _ => none }
def SimulateFollowsWrongFalsely : Prop := simulateFollowsRow.holds Tryz.pinned (OpenSpec.ofChange simulateFollowsWrong)

/-- 'lockorderlaw19.SimulateCovered': WHATEVER THE INPUT: true; the input reads as it did. -/
def simulateCoveredSpec : ChangeSpec := { name := "simulateCovered", fn := fun _ => fun
  | [d1, d2, d3, d4] => { results := [.lit (.bool true)], args := [d1, d2, d3, d4] }
  | _ => none }
def simulateCoveredRow : OpenClaim := { program := "ytlkmbdfhdknlgaagreat", sum := "0a93a76671fe62bbcfef14cf966afddf820b94c5cefae013ef3fbaa9565f4a44", func := "lockorder/lockorderlaw19.SimulateCovered", spec := "simulateCovered", unfollowed := true, recurses := true, apart := false }
def SimulateCoveredSaid : Prop := simulateCoveredRow.holds Tryz.pinned (OpenSpec.ofChange simulateCoveredSpec)

/-- ITS FALSE NEIGHBOUR: 'it returns false'. Refute it at one input. -/
def simulateCoveredWrong : ChangeSpec := { name := "simulateCovered", fn := fun _ => fun
  | [d1, d2, d3, d4] => { results := [.lit (.bool false)], args := [d1, d2, d3, d4] }
  | _ => none }
def SimulateCoveredWrongFalsely : Prop := simulateCoveredRow.holds Tryz.pinned (OpenSpec.ofChange simulateCoveredWrong)

/- THE SECOND FORM. 'bulk': how many values and letters a reading holds, each counted each time it is reached (what is shared counts as often as it is met; a slice's spare places count too). A statement '..UptoSaid' is the law's where the arguments, and the package variables that the reading takes, are together of bulk at most 1048576: NARROWER than '..Said'. Prove '..Said' where nothing that the law and all that it calls make is longer than what came in: it says more and counts as full. Else prove '..UptoSaid'. A law counts once. -/
mutual
def uptoBulk {H : Type} : DataW H → Nat
  | .lit (.string bytes) => bytes.length + 1
  | .lit _ => 1
  | .nil => 1
  | .ptr d => uptoBulk d + 1
  | .slice elems spare => uptoBulkAll elems + uptoBulkAll spare + 1
  | .agg parts => uptoBulkAll parts + 1
  | .iface _ d => uptoBulk d + 1
  | .map entries => uptoBulkEntries entries + 1
  | .held _ => 1
def uptoBulkAll {H : Type} : List (DataW H) → Nat
  | [] => 0
  | d :: r => uptoBulk d + uptoBulkAll r
def uptoBulkEntries {H : Type} : List (Lit × DataW H) → Nat
  | [] => 0
  | x :: r => uptoBulkEntry x + uptoBulkEntries r
def uptoBulkEntry {H : Type} : Lit × DataW H → Nat
  | (.string bytes, d) => bytes.length + uptoBulk d + 1
  | (_, d) => uptoBulk d + 1
 end
def uptoSmall : (H : Type) → List (DataW H) → Bool := fun _ ds => decide (uptoBulkAll ds ≤ 1048576)
def OpenSpec.upto (s : _root_.Go.ChangeSpec) : _root_.Go.OpenSpec := { _root_.Go.OpenSpec.ofChange s with cond := some uptoSmall }

/-- 'lockorderlaw19.SimulateEvents', WHERE WHAT IT READS IS OF BULK AT MOST 1048576: true; the input reads as it did. -/
def simulateEventsUptoRow : OpenClaim := { program := "ytlkmbdfhdknlgaagreat", sum := "0a93a76671fe62bbcfef14cf966afddf820b94c5cefae013ef3fbaa9565f4a44", func := "lockorder/lockorderlaw19.SimulateEvents", spec := "simulateEvents", unfollowed := true, recurses := true, apart := false, narrowed := true }
def SimulateEventsUptoSaid : Prop := simulateEventsUptoRow.holds Tryz.pinned (OpenSpec.upto simulateEventsSpec)

/-- 'lockorderlaw19.SimulateOthers', WHERE WHAT IT READS IS OF BULK AT MOST 1048576: true; the input reads as it did. -/
def simulateOthersUptoRow : OpenClaim := { program := "ytlkmbdfhdknlgaagreat", sum := "0a93a76671fe62bbcfef14cf966afddf820b94c5cefae013ef3fbaa9565f4a44", func := "lockorder/lockorderlaw19.SimulateOthers", spec := "simulateOthers", unfollowed := true, recurses := true, apart := false, narrowed := true }
def SimulateOthersUptoSaid : Prop := simulateOthersUptoRow.holds Tryz.pinned (OpenSpec.upto simulateOthersSpec)

/-- 'lockorderlaw19.SimulateFollows', WHERE WHAT IT READS IS OF BULK AT MOST 1048576: true; the input reads as it did. -/
def simulateFollowsUptoRow : OpenClaim := { program := "ytlkmbdfhdknlgaagreat", sum := "0a93a76671fe62bbcfef14cf966afddf820b94c5cefae013ef3fbaa9565f4a44", func := "lockorder/lockorderlaw19.SimulateFollows", spec := "simulateFollows", unfollowed := true, recurses := true, apart := false, narrowed := true }
def SimulateFollowsUptoSaid : Prop := simulateFollowsUptoRow.holds Tryz.pinned (OpenSpec.upto simulateFollowsSpec)

/-- 'lockorderlaw19.SimulateCovered', WHERE WHAT IT READS IS OF BULK AT MOST 1048576: true; the input reads as it did. -/
def simulateCoveredUptoRow : OpenClaim := { program := "ytlkmbdfhdknlgaagreat", sum := "0a93a76671fe62bbcfef14cf966afddf820b94c5cefae013ef3fbaa9565f4a44", func := "lockorder/lockorderlaw19.SimulateCovered", spec := "simulateCovered", unfollowed := true, recurses := true, apart := false, narrowed := true }
def SimulateCoveredUptoSaid : Prop := simulateCoveredUptoRow.holds Tryz.pinned (OpenSpec.upto simulateCoveredSpec)

end Rows
end Go.Proofs.YtlkmbdfhdknlgaaGreat
