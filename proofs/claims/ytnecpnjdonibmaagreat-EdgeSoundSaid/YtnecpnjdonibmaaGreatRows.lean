/-
  No cell of these rows narrows 'for every input' (looked for: loops, veiled, ifaces, maps, wideKeys, modest, calm, conditions, laid).
  DERIVED. THE GIVEN ROWS OF THIS SEAT. 12 by the template 'for every input the law returns true; each argument reads behind the call as it read before'; 0 by the template 'total and deterministic' (their statements: YtnecpnjdonibmaaGreatTotals.lean).
  GIVEN WITH THE SEED: the statements are not yours to turn. If you find one false, say at which input.
  Laid BY PROGRAM, IN A SANDBOX (cutbox-rows.mjs): the forced cells as the released guide's own fill.sh prints them over the translation 945c2fdaad10e6bf… (all of the seat's roots in one cut). By AI agents, Wed Nov 11 2026. No macro, syntax, notation, axiom, sorry.
-/
import Derived.Test.YtnecpnjdonibmaaGreatChecked
import GoSem.Claim
import GoSem.ClaimJoined
import GoSem.ClaimMapViews
import Derived.JoinedTies
import Derived.KernelRfl
namespace Go.Proofs.YtnecpnjdonibmaaGreat
/- THE CELL 'sum', in the pinned program and in every row, IS THE sha256 OF THE DUMP (.gsa) THAT YtnecpnjdonibmaaGreatProg.lean LOADS. Nothing in Lean hashes anything: it is a label: what it is worth is what the hold of that sum in a sandbox is worth. -/
noncomputable def Tryz.pinned : Pinned := { name := "ytnecpnjdonibmaagreat", sum := "945c2fdaad10e6bfb0a861a2851a051ecf5928b276bfec184b6182ed4473ed09", checked := Tryz.checked }
namespace Rows
def none {H : Type} : Left H := { results := [], args := [] }

/-- 'lockorderlaw19.SimulateEvents': WHATEVER THE INPUT: true; the input reads as it did. -/
def simulateEventsSpec : ChangeSpec := { name := "simulateEvents", fn := fun _ => fun
  | [d1, d2] => { results := [.lit (.bool true)], args := [d1, d2] }
  | _ => none }
def simulateEventsRow : OpenClaim := { program := "ytnecpnjdonibmaagreat", sum := "945c2fdaad10e6bfb0a861a2851a051ecf5928b276bfec184b6182ed4473ed09", func := "lockorder/lockorderlaw19.SimulateEvents", spec := "simulateEvents", unfollowed := true, recurses := true, plainKeys := false, apart := false }
def SimulateEventsSaid : Prop := simulateEventsRow.holds Tryz.pinned (OpenSpec.ofChange simulateEventsSpec)

/-- ITS FALSE NEIGHBOUR: 'it returns false'. Refute it at one input. -/
def simulateEventsWrong : ChangeSpec := { name := "simulateEvents", fn := fun _ => fun
  | [d1, d2] => { results := [.lit (.bool false)], args := [d1, d2] }
  | _ => none }
def SimulateEventsWrongFalsely : Prop := simulateEventsRow.holds Tryz.pinned (OpenSpec.ofChange simulateEventsWrong)

/-- 'lockorderlaw19.SimulateOthers': WHATEVER THE INPUT: true; the input reads as it did. -/
def simulateOthersSpec : ChangeSpec := { name := "simulateOthers", fn := fun _ => fun
  | [d1, d2, d3, d4] => { results := [.lit (.bool true)], args := [d1, d2, d3, d4] }
  | _ => none }
def simulateOthersRow : OpenClaim := { program := "ytnecpnjdonibmaagreat", sum := "945c2fdaad10e6bfb0a861a2851a051ecf5928b276bfec184b6182ed4473ed09", func := "lockorder/lockorderlaw19.SimulateOthers", spec := "simulateOthers", unfollowed := true, recurses := true, plainKeys := false, apart := false }
def SimulateOthersSaid : Prop := simulateOthersRow.holds Tryz.pinned (OpenSpec.ofChange simulateOthersSpec)

/-- ITS FALSE NEIGHBOUR: 'it returns false'. Refute it at one input. -/
def simulateOthersWrong : ChangeSpec := { name := "simulateOthers", fn := fun _ => fun
  | [d1, d2, d3, d4] => { results := [.lit (.bool false)], args := [d1, d2, d3, d4] }
  | _ => none }
def SimulateOthersWrongFalsely : Prop := simulateOthersRow.holds Tryz.pinned (OpenSpec.ofChange simulateOthersWrong)

/-- 'lockorderlaw19.SimulateFollows': WHATEVER THE INPUT: true; the input reads as it did. -/
def simulateFollowsSpec : ChangeSpec := { name := "simulateFollows", fn := fun _ => fun
  | [d1, d2, d3, d4] => { results := [.lit (.bool true)], args := [d1, d2, d3, d4] }
  | _ => none }
def simulateFollowsRow : OpenClaim := { program := "ytnecpnjdonibmaagreat", sum := "945c2fdaad10e6bfb0a861a2851a051ecf5928b276bfec184b6182ed4473ed09", func := "lockorder/lockorderlaw19.SimulateFollows", spec := "simulateFollows", unfollowed := true, recurses := true, plainKeys := false, apart := false }
def SimulateFollowsSaid : Prop := simulateFollowsRow.holds Tryz.pinned (OpenSpec.ofChange simulateFollowsSpec)

/-- ITS FALSE NEIGHBOUR: 'it returns false'. Refute it at one input. -/
def simulateFollowsWrong : ChangeSpec := { name := "simulateFollows", fn := fun _ => fun
  | [d1, d2, d3, d4] => { results := [.lit (.bool false)], args := [d1, d2, d3, d4] }
  | _ => none }
def SimulateFollowsWrongFalsely : Prop := simulateFollowsRow.holds Tryz.pinned (OpenSpec.ofChange simulateFollowsWrong)

/-- 'lockorderlaw20.EdgeAll': WHATEVER THE INPUT: true; the input reads as it did. -/
def edgeAllSpec : ChangeSpec := { name := "edgeAll", fn := fun _ => fun
  | [d] => { results := [.lit (.bool true)], args := [d] }
  | _ => none }
def edgeAllRow : OpenClaim := { program := "ytnecpnjdonibmaagreat", sum := "945c2fdaad10e6bfb0a861a2851a051ecf5928b276bfec184b6182ed4473ed09", func := "lockorder/lockorderlaw20.EdgeAll", spec := "edgeAll", unfollowed := true, recurses := true, plainKeys := false, apart := false }
def EdgeAllSaid : Prop := edgeAllRow.holds Tryz.pinned (OpenSpec.ofChange edgeAllSpec)

/-- ITS FALSE NEIGHBOUR: 'it returns false'. Refute it at one input. -/
def edgeAllWrong : ChangeSpec := { name := "edgeAll", fn := fun _ => fun
  | [d] => { results := [.lit (.bool false)], args := [d] }
  | _ => none }
def EdgeAllWrongFalsely : Prop := edgeAllRow.holds Tryz.pinned (OpenSpec.ofChange edgeAllWrong)

/-- 'lockorderlaw20.EdgeHeld': WHATEVER THE INPUT: true; the input reads as it did. -/
def edgeHeldSpec : ChangeSpec := { name := "edgeHeld", fn := fun _ => fun
  | [d1, d2, d3] => { results := [.lit (.bool true)], args := [d1, d2, d3] }
  | _ => none }
def edgeHeldRow : OpenClaim := { program := "ytnecpnjdonibmaagreat", sum := "945c2fdaad10e6bfb0a861a2851a051ecf5928b276bfec184b6182ed4473ed09", func := "lockorder/lockorderlaw20.EdgeHeld", spec := "edgeHeld", unfollowed := true, recurses := true, plainKeys := false, apart := false }
def EdgeHeldSaid : Prop := edgeHeldRow.holds Tryz.pinned (OpenSpec.ofChange edgeHeldSpec)

/-- ITS FALSE NEIGHBOUR: 'it returns false'. Refute it at one input. -/
def edgeHeldWrong : ChangeSpec := { name := "edgeHeld", fn := fun _ => fun
  | [d1, d2, d3] => { results := [.lit (.bool false)], args := [d1, d2, d3] }
  | _ => none }
def EdgeHeldWrongFalsely : Prop := edgeHeldRow.holds Tryz.pinned (OpenSpec.ofChange edgeHeldWrong)

/-- 'lockorderlaw20.EdgeSound': WHATEVER THE INPUT: true; the input reads as it did. -/
def edgeSoundSpec : ChangeSpec := { name := "edgeSound", fn := fun _ => fun
  | [d1, d2] => { results := [.lit (.bool true)], args := [d1, d2] }
  | _ => none }
def edgeSoundRow : OpenClaim := { program := "ytnecpnjdonibmaagreat", sum := "945c2fdaad10e6bfb0a861a2851a051ecf5928b276bfec184b6182ed4473ed09", func := "lockorder/lockorderlaw20.EdgeSound", spec := "edgeSound", unfollowed := true, recurses := true, plainKeys := false, apart := false }
def EdgeSoundSaid : Prop := edgeSoundRow.holds Tryz.pinned (OpenSpec.ofChange edgeSoundSpec)

/-- ITS FALSE NEIGHBOUR: 'it returns false'. Refute it at one input. -/
def edgeSoundWrong : ChangeSpec := { name := "edgeSound", fn := fun _ => fun
  | [d1, d2] => { results := [.lit (.bool false)], args := [d1, d2] }
  | _ => none }
def EdgeSoundWrongFalsely : Prop := edgeSoundRow.holds Tryz.pinned (OpenSpec.ofChange edgeSoundWrong)

/-- 'lockorderlaw19.SimulateCovered': WHATEVER THE INPUT: true; the input reads as it did. -/
def simulateCoveredSpec : ChangeSpec := { name := "simulateCovered", fn := fun _ => fun
  | [d1, d2, d3, d4] => { results := [.lit (.bool true)], args := [d1, d2, d3, d4] }
  | _ => none }
def simulateCoveredRow : OpenClaim := { program := "ytnecpnjdonibmaagreat", sum := "945c2fdaad10e6bfb0a861a2851a051ecf5928b276bfec184b6182ed4473ed09", func := "lockorder/lockorderlaw19.SimulateCovered", spec := "simulateCovered", unfollowed := true, recurses := true, plainKeys := false, apart := false }
def SimulateCoveredSaid : Prop := simulateCoveredRow.holds Tryz.pinned (OpenSpec.ofChange simulateCoveredSpec)

/-- ITS FALSE NEIGHBOUR: 'it returns false'. Refute it at one input. -/
def simulateCoveredWrong : ChangeSpec := { name := "simulateCovered", fn := fun _ => fun
  | [d1, d2, d3, d4] => { results := [.lit (.bool false)], args := [d1, d2, d3, d4] }
  | _ => none }
def SimulateCoveredWrongFalsely : Prop := simulateCoveredRow.holds Tryz.pinned (OpenSpec.ofChange simulateCoveredWrong)

/-- 'lockorderlaw23.FindingAll': WHATEVER THE INPUT: true; the input reads as it did. -/
def findingAllSpec : ChangeSpec := { name := "findingAll", fn := fun _ => fun
  | [d] => { results := [.lit (.bool true)], args := [d] }
  | _ => none }
def findingAllRow : OpenClaim := { program := "ytnecpnjdonibmaagreat", sum := "945c2fdaad10e6bfb0a861a2851a051ecf5928b276bfec184b6182ed4473ed09", func := "lockorder/lockorderlaw23.FindingAll", spec := "findingAll", unfollowed := true, recurses := true, plainKeys := false, apart := false }
def FindingAllSaid : Prop := findingAllRow.holds Tryz.pinned (OpenSpec.ofChange findingAllSpec)

/-- ITS FALSE NEIGHBOUR: 'it returns false'. Refute it at one input. -/
def findingAllWrong : ChangeSpec := { name := "findingAll", fn := fun _ => fun
  | [d] => { results := [.lit (.bool false)], args := [d] }
  | _ => none }
def FindingAllWrongFalsely : Prop := findingAllRow.holds Tryz.pinned (OpenSpec.ofChange findingAllWrong)

/-- 'lockorderlaw23.FindingSorted': WHATEVER THE INPUT: true; the input reads as it did. -/
def findingSortedSpec : ChangeSpec := { name := "findingSorted", fn := fun _ => fun
  | [d] => { results := [.lit (.bool true)], args := [d] }
  | _ => none }
def findingSortedRow : OpenClaim := { program := "ytnecpnjdonibmaagreat", sum := "945c2fdaad10e6bfb0a861a2851a051ecf5928b276bfec184b6182ed4473ed09", func := "lockorder/lockorderlaw23.FindingSorted", spec := "findingSorted", unfollowed := true, recurses := true, plainKeys := false, apart := false }
def FindingSortedSaid : Prop := findingSortedRow.holds Tryz.pinned (OpenSpec.ofChange findingSortedSpec)

/-- ITS FALSE NEIGHBOUR: 'it returns false'. Refute it at one input. -/
def findingSortedWrong : ChangeSpec := { name := "findingSorted", fn := fun _ => fun
  | [d] => { results := [.lit (.bool false)], args := [d] }
  | _ => none }
def FindingSortedWrongFalsely : Prop := findingSortedRow.holds Tryz.pinned (OpenSpec.ofChange findingSortedWrong)

/-- 'lockorderlaw20.EdgeWaits': WHATEVER THE INPUT: true; the input reads as it did. -/
def edgeWaitsSpec : ChangeSpec := { name := "edgeWaits", fn := fun _ => fun
  | [d1, d2, d3] => { results := [.lit (.bool true)], args := [d1, d2, d3] }
  | _ => none }
def edgeWaitsRow : OpenClaim := { program := "ytnecpnjdonibmaagreat", sum := "945c2fdaad10e6bfb0a861a2851a051ecf5928b276bfec184b6182ed4473ed09", func := "lockorder/lockorderlaw20.EdgeWaits", spec := "edgeWaits", unfollowed := true, recurses := true, plainKeys := false, apart := false }
def EdgeWaitsSaid : Prop := edgeWaitsRow.holds Tryz.pinned (OpenSpec.ofChange edgeWaitsSpec)

/-- ITS FALSE NEIGHBOUR: 'it returns false'. Refute it at one input. -/
def edgeWaitsWrong : ChangeSpec := { name := "edgeWaits", fn := fun _ => fun
  | [d1, d2, d3] => { results := [.lit (.bool false)], args := [d1, d2, d3] }
  | _ => none }
def EdgeWaitsWrongFalsely : Prop := edgeWaitsRow.holds Tryz.pinned (OpenSpec.ofChange edgeWaitsWrong)

/-- 'lockorderlaw23.FindingEvent': WHATEVER THE INPUT: true; the input reads as it did. -/
def findingEventSpec : ChangeSpec := { name := "findingEvent", fn := fun _ => fun
  | [d1, d2] => { results := [.lit (.bool true)], args := [d1, d2] }
  | _ => none }
def findingEventRow : OpenClaim := { program := "ytnecpnjdonibmaagreat", sum := "945c2fdaad10e6bfb0a861a2851a051ecf5928b276bfec184b6182ed4473ed09", func := "lockorder/lockorderlaw23.FindingEvent", spec := "findingEvent", unfollowed := true, recurses := true, plainKeys := false, apart := false }
def FindingEventSaid : Prop := findingEventRow.holds Tryz.pinned (OpenSpec.ofChange findingEventSpec)

/-- ITS FALSE NEIGHBOUR: 'it returns false'. Refute it at one input. -/
def findingEventWrong : ChangeSpec := { name := "findingEvent", fn := fun _ => fun
  | [d1, d2] => { results := [.lit (.bool false)], args := [d1, d2] }
  | _ => none }
def FindingEventWrongFalsely : Prop := findingEventRow.holds Tryz.pinned (OpenSpec.ofChange findingEventWrong)

/-- 'lockorderlaw23.FindingPath': WHATEVER THE INPUT: true; the input reads as it did. -/
def findingPathSpec : ChangeSpec := { name := "findingPath", fn := fun _ => fun
  | [d1, d2, d3] => { results := [.lit (.bool true)], args := [d1, d2, d3] }
  | _ => none }
def findingPathRow : OpenClaim := { program := "ytnecpnjdonibmaagreat", sum := "945c2fdaad10e6bfb0a861a2851a051ecf5928b276bfec184b6182ed4473ed09", func := "lockorder/lockorderlaw23.FindingPath", spec := "findingPath", unfollowed := true, recurses := true, plainKeys := false, apart := false }
def FindingPathSaid : Prop := findingPathRow.holds Tryz.pinned (OpenSpec.ofChange findingPathSpec)

/-- ITS FALSE NEIGHBOUR: 'it returns false'. Refute it at one input. -/
def findingPathWrong : ChangeSpec := { name := "findingPath", fn := fun _ => fun
  | [d1, d2, d3] => { results := [.lit (.bool false)], args := [d1, d2, d3] }
  | _ => none }
def FindingPathWrongFalsely : Prop := findingPathRow.holds Tryz.pinned (OpenSpec.ofChange findingPathWrong)

/- THE SECOND FORM. 'bulk': how many values and letters a reading holds, each counted each time it is reached (what is shared counts as often as it is met; a slice's spare places count too). A statement '..UptoSaid' is the law's where the arguments, and the package variables that the reading takes, are together of bulk at most 1048576: NARROWER than '..Said'. Prove '..Said' where nothing that the law and all that it calls make is longer than what came in: it says more and counts as full. Else prove '..UptoSaid'. A law counts once. -/
mutual
def uptoBulk {H : Type} : DataW H → Nat
  | .lit (.string bytes) => bytes.length + 1
  | .lit _ => 1
  | .nil => 1
  | .ptr d => uptoBulk d + 1
  | .slice elems spare => uptoBulkAll elems + uptoBulkAll spare + 1
  | .agg parts => uptoBulkAll parts + 1
  | .iface _ d => uptoBulk d + 1
  | .map entries => uptoBulkEntries entries + 1
  | .held _ => 1
def uptoBulkAll {H : Type} : List (DataW H) → Nat
  | [] => 0
  | d :: r => uptoBulk d + uptoBulkAll r
def uptoBulkEntries {H : Type} : List (Lit × DataW H) → Nat
  | [] => 0
  | x :: r => uptoBulkEntry x + uptoBulkEntries r
def uptoBulkEntry {H : Type} : Lit × DataW H → Nat
  | (.string bytes, d) => bytes.length + uptoBulk d + 1
  | (_, d) => uptoBulk d + 1
 end
def uptoSmall : (H : Type) → List (DataW H) → Bool := fun _ ds => decide (uptoBulkAll ds ≤ 1048576)
def OpenSpec.upto (s : _root_.Go.ChangeSpec) : _root_.Go.OpenSpec := { _root_.Go.OpenSpec.ofChange s with cond := some uptoSmall }

/-- 'lockorderlaw19.SimulateEvents', WHERE WHAT IT READS IS OF BULK AT MOST 1048576: true; the input reads as it did. -/
def simulateEventsUptoRow : OpenClaim := { program := "ytnecpnjdonibmaagreat", sum := "945c2fdaad10e6bfb0a861a2851a051ecf5928b276bfec184b6182ed4473ed09", func := "lockorder/lockorderlaw19.SimulateEvents", spec := "simulateEvents", unfollowed := true, recurses := true, plainKeys := false, apart := false, narrowed := true }
def SimulateEventsUptoSaid : Prop := simulateEventsUptoRow.holds Tryz.pinned (OpenSpec.upto simulateEventsSpec)

/-- 'lockorderlaw19.SimulateOthers', WHERE WHAT IT READS IS OF BULK AT MOST 1048576: true; the input reads as it did. -/
def simulateOthersUptoRow : OpenClaim := { program := "ytnecpnjdonibmaagreat", sum := "945c2fdaad10e6bfb0a861a2851a051ecf5928b276bfec184b6182ed4473ed09", func := "lockorder/lockorderlaw19.SimulateOthers", spec := "simulateOthers", unfollowed := true, recurses := true, plainKeys := false, apart := false, narrowed := true }
def SimulateOthersUptoSaid : Prop := simulateOthersUptoRow.holds Tryz.pinned (OpenSpec.upto simulateOthersSpec)

/-- 'lockorderlaw19.SimulateFollows', WHERE WHAT IT READS IS OF BULK AT MOST 1048576: true; the input reads as it did. -/
def simulateFollowsUptoRow : OpenClaim := { program := "ytnecpnjdonibmaagreat", sum := "945c2fdaad10e6bfb0a861a2851a051ecf5928b276bfec184b6182ed4473ed09", func := "lockorder/lockorderlaw19.SimulateFollows", spec := "simulateFollows", unfollowed := true, recurses := true, plainKeys := false, apart := false, narrowed := true }
def SimulateFollowsUptoSaid : Prop := simulateFollowsUptoRow.holds Tryz.pinned (OpenSpec.upto simulateFollowsSpec)

/-- 'lockorderlaw20.EdgeAll', WHERE WHAT IT READS IS OF BULK AT MOST 1048576: true; the input reads as it did. -/
def edgeAllUptoRow : OpenClaim := { program := "ytnecpnjdonibmaagreat", sum := "945c2fdaad10e6bfb0a861a2851a051ecf5928b276bfec184b6182ed4473ed09", func := "lockorder/lockorderlaw20.EdgeAll", spec := "edgeAll", unfollowed := true, recurses := true, plainKeys := false, apart := false, narrowed := true }
def EdgeAllUptoSaid : Prop := edgeAllUptoRow.holds Tryz.pinned (OpenSpec.upto edgeAllSpec)

/-- 'lockorderlaw20.EdgeHeld', WHERE WHAT IT READS IS OF BULK AT MOST 1048576: true; the input reads as it did. -/
def edgeHeldUptoRow : OpenClaim := { program := "ytnecpnjdonibmaagreat", sum := "945c2fdaad10e6bfb0a861a2851a051ecf5928b276bfec184b6182ed4473ed09", func := "lockorder/lockorderlaw20.EdgeHeld", spec := "edgeHeld", unfollowed := true, recurses := true, plainKeys := false, apart := false, narrowed := true }
def EdgeHeldUptoSaid : Prop := edgeHeldUptoRow.holds Tryz.pinned (OpenSpec.upto edgeHeldSpec)

/-- 'lockorderlaw20.EdgeSound', WHERE WHAT IT READS IS OF BULK AT MOST 1048576: true; the input reads as it did. -/
def edgeSoundUptoRow : OpenClaim := { program := "ytnecpnjdonibmaagreat", sum := "945c2fdaad10e6bfb0a861a2851a051ecf5928b276bfec184b6182ed4473ed09", func := "lockorder/lockorderlaw20.EdgeSound", spec := "edgeSound", unfollowed := true, recurses := true, plainKeys := false, apart := false, narrowed := true }
def EdgeSoundUptoSaid : Prop := edgeSoundUptoRow.holds Tryz.pinned (OpenSpec.upto edgeSoundSpec)

/-- 'lockorderlaw19.SimulateCovered', WHERE WHAT IT READS IS OF BULK AT MOST 1048576: true; the input reads as it did. -/
def simulateCoveredUptoRow : OpenClaim := { program := "ytnecpnjdonibmaagreat", sum := "945c2fdaad10e6bfb0a861a2851a051ecf5928b276bfec184b6182ed4473ed09", func := "lockorder/lockorderlaw19.SimulateCovered", spec := "simulateCovered", unfollowed := true, recurses := true, plainKeys := false, apart := false, narrowed := true }
def SimulateCoveredUptoSaid : Prop := simulateCoveredUptoRow.holds Tryz.pinned (OpenSpec.upto simulateCoveredSpec)

/-- 'lockorderlaw23.FindingAll', WHERE WHAT IT READS IS OF BULK AT MOST 1048576: true; the input reads as it did. -/
def findingAllUptoRow : OpenClaim := { program := "ytnecpnjdonibmaagreat", sum := "945c2fdaad10e6bfb0a861a2851a051ecf5928b276bfec184b6182ed4473ed09", func := "lockorder/lockorderlaw23.FindingAll", spec := "findingAll", unfollowed := true, recurses := true, plainKeys := false, apart := false, narrowed := true }
def FindingAllUptoSaid : Prop := findingAllUptoRow.holds Tryz.pinned (OpenSpec.upto findingAllSpec)

/-- 'lockorderlaw23.FindingSorted', WHERE WHAT IT READS IS OF BULK AT MOST 1048576: true; the input reads as it did. -/
def findingSortedUptoRow : OpenClaim := { program := "ytnecpnjdonibmaagreat", sum := "945c2fdaad10e6bfb0a861a2851a051ecf5928b276bfec184b6182ed4473ed09", func := "lockorder/lockorderlaw23.FindingSorted", spec := "findingSorted", unfollowed := true, recurses := true, plainKeys := false, apart := false, narrowed := true }
def FindingSortedUptoSaid : Prop := findingSortedUptoRow.holds Tryz.pinned (OpenSpec.upto findingSortedSpec)

/-- 'lockorderlaw20.EdgeWaits', WHERE WHAT IT READS IS OF BULK AT MOST 1048576: true; the input reads as it did. -/
def edgeWaitsUptoRow : OpenClaim := { program := "ytnecpnjdonibmaagreat", sum := "945c2fdaad10e6bfb0a861a2851a051ecf5928b276bfec184b6182ed4473ed09", func := "lockorder/lockorderlaw20.EdgeWaits", spec := "edgeWaits", unfollowed := true, recurses := true, plainKeys := false, apart := false, narrowed := true }
def EdgeWaitsUptoSaid : Prop := edgeWaitsUptoRow.holds Tryz.pinned (OpenSpec.upto edgeWaitsSpec)

/-- 'lockorderlaw23.FindingEvent', WHERE WHAT IT READS IS OF BULK AT MOST 1048576: true; the input reads as it did. -/
def findingEventUptoRow : OpenClaim := { program := "ytnecpnjdonibmaagreat", sum := "945c2fdaad10e6bfb0a861a2851a051ecf5928b276bfec184b6182ed4473ed09", func := "lockorder/lockorderlaw23.FindingEvent", spec := "findingEvent", unfollowed := true, recurses := true, plainKeys := false, apart := false, narrowed := true }
def FindingEventUptoSaid : Prop := findingEventUptoRow.holds Tryz.pinned (OpenSpec.upto findingEventSpec)

/-- 'lockorderlaw23.FindingPath', WHERE WHAT IT READS IS OF BULK AT MOST 1048576: true; the input reads as it did. -/
def findingPathUptoRow : OpenClaim := { program := "ytnecpnjdonibmaagreat", sum := "945c2fdaad10e6bfb0a861a2851a051ecf5928b276bfec184b6182ed4473ed09", func := "lockorder/lockorderlaw23.FindingPath", spec := "findingPath", unfollowed := true, recurses := true, plainKeys := false, apart := false, narrowed := true }
def FindingPathUptoSaid : Prop := findingPathUptoRow.holds Tryz.pinned (OpenSpec.upto findingPathSpec)

end Rows
end Go.Proofs.YtnecpnjdonibmaaGreat
