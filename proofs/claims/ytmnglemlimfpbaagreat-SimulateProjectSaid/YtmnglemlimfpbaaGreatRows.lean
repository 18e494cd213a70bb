/-
  No cell of these rows narrows 'for every input' (looked for: loops, veiled, ifaces, maps, wideKeys, modest, calm, conditions, laid).
  DERIVED. THE GIVEN ROWS OF THIS SEAT. 7 by the template 'for every input the law returns true; each argument reads behind the call as it read before'; 0 by the template 'total and deterministic' (their statements: YtmnglemlimfpbaaGreatTotals.lean).
  GIVEN WITH THE SEED: the statements are not yours to turn. If you find one false, say at which input.
  Laid BY PROGRAM, IN A SANDBOX (cutbox-rows.mjs): the forced cells as the released guide's own fill.sh prints them over the translation 7fb0e4d75c9e1de4… (all of the seat's roots in one cut). By AI agents, Wed Nov 11 2026. No macro, syntax, notation, axiom, sorry.
-/
import Derived.Test.YtmnglemlimfpbaaGreatChecked
import GoSem.Claim
import GoSem.ClaimJoined
import GoSem.ClaimMapViews
import Derived.JoinedTies
import Derived.KernelRfl
namespace Go.Proofs.YtmnglemlimfpbaaGreat
/- THE CELL 'sum', in the pinned program and in every row, IS THE sha256 OF THE DUMP (.gsa) THAT YtmnglemlimfpbaaGreatProg.lean LOADS. Nothing in Lean hashes anything: it is a label: what it is worth is what the hold of that sum in a sandbox is worth. -/
noncomputable def Tryz.pinned : Pinned := { name := "ytmnglemlimfpbaagreat", sum := "7fb0e4d75c9e1de48544aa865b45a89f02d355445163d5f02940eadfaa4fd088", checked := Tryz.checked }
namespace Rows
def none {H : Type} : Left H := { results := [], args := [] }

/-- 'lockorderlaw19.SimulateProject': WHATEVER THE INPUT: true; the input reads as it did. -/
def simulateProjectSpec : ChangeSpec := { name := "simulateProject", fn := fun _ => fun
  | [d1, d2, d3, d4, d5] => { results := [.lit (.bool true)], args := [d1, d2, d3, d4, d5] }
  | _ => none }
def simulateProjectRow : OpenClaim := { program := "ytmnglemlimfpbaagreat", sum := "7fb0e4d75c9e1de48544aa865b45a89f02d355445163d5f02940eadfaa4fd088", func := "lockorder/lockorderlaw19.SimulateProject", spec := "simulateProject", recurses := true, plainKeys := false, apart := false }
def SimulateProjectSaid : Prop := simulateProjectRow.holds Tryz.pinned (OpenSpec.ofChange simulateProjectSpec)

/-- ITS FALSE NEIGHBOUR: 'it returns false'. Refute it at one input. -/
def simulateProjectWrong : ChangeSpec := { name := "simulateProject", fn := fun _ => fun
  | [d1, d2, d3, d4, d5] => { results := [.lit (.bool false)], args := [d1, d2, d3, d4, d5] }
  | _ => none }
def SimulateProjectWrongFalsely : Prop := simulateProjectRow.holds Tryz.pinned (OpenSpec.ofChange simulateProjectWrong)

/-- 'lockorderlaw19.SimulateEvent': WHATEVER THE INPUT: true; the input reads as it did. -/
def simulateEventSpec : ChangeSpec := { name := "simulateEvent", fn := fun _ => fun
  | [d1, d2, d3, d4] => { results := [.lit (.bool true)], args := [d1, d2, d3, d4] }
  | _ => none }
def simulateEventRow : OpenClaim := { program := "ytmnglemlimfpbaagreat", sum := "7fb0e4d75c9e1de48544aa865b45a89f02d355445163d5f02940eadfaa4fd088", func := "lockorder/lockorderlaw19.SimulateEvent", spec := "simulateEvent", recurses := true, plainKeys := false, apart := false }
def SimulateEventSaid : Prop := simulateEventRow.holds Tryz.pinned (OpenSpec.ofChange simulateEventSpec)

/-- ITS FALSE NEIGHBOUR: 'it returns false'. Refute it at one input. -/
def simulateEventWrong : ChangeSpec := { name := "simulateEvent", fn := fun _ => fun
  | [d1, d2, d3, d4] => { results := [.lit (.bool false)], args := [d1, d2, d3, d4] }
  | _ => none }
def SimulateEventWrongFalsely : Prop := simulateEventRow.holds Tryz.pinned (OpenSpec.ofChange simulateEventWrong)

/-- 'lockorderlaw13.InstanceClose': WHATEVER THE INPUT: true; the input reads as it did. -/
def instanceCloseSpec : ChangeSpec := { name := "instanceClose", fn := fun _ => fun
  | [d] => { results := [.lit (.bool true)], args := [d] }
  | _ => none }
def instanceCloseRow : OpenClaim := { program := "ytmnglemlimfpbaagreat", sum := "7fb0e4d75c9e1de48544aa865b45a89f02d355445163d5f02940eadfaa4fd088", func := "lockorder/lockorderlaw13.InstanceClose", spec := "instanceClose", recurses := true, plainKeys := false, apart := false }
def InstanceCloseSaid : Prop := instanceCloseRow.holds Tryz.pinned (OpenSpec.ofChange instanceCloseSpec)

/-- ITS FALSE NEIGHBOUR: 'it returns false'. Refute it at one input. -/
def instanceCloseWrong : ChangeSpec := { name := "instanceClose", fn := fun _ => fun
  | [d] => { results := [.lit (.bool false)], args := [d] }
  | _ => none }
def InstanceCloseWrongFalsely : Prop := instanceCloseRow.holds Tryz.pinned (OpenSpec.ofChange instanceCloseWrong)

/-- 'lockorderlaw13.InstanceCallee': WHATEVER THE INPUT: true; the input reads as it did. -/
def instanceCalleeSpec : ChangeSpec := { name := "instanceCallee", fn := fun _ => fun
  | [d1, d2, d3, d4] => { results := [.lit (.bool true)], args := [d1, d2, d3, d4] }
  | _ => none }
def instanceCalleeRow : OpenClaim := { program := "ytmnglemlimfpbaagreat", sum := "7fb0e4d75c9e1de48544aa865b45a89f02d355445163d5f02940eadfaa4fd088", func := "lockorder/lockorderlaw13.InstanceCallee", spec := "instanceCallee", recurses := true, plainKeys := false, apart := false }
def InstanceCalleeSaid : Prop := instanceCalleeRow.holds Tryz.pinned (OpenSpec.ofChange instanceCalleeSpec)

/-- ITS FALSE NEIGHBOUR: 'it returns false'. Refute it at one input. -/
def instanceCalleeWrong : ChangeSpec := { name := "instanceCallee", fn := fun _ => fun
  | [d1, d2, d3, d4] => { results := [.lit (.bool false)], args := [d1, d2, d3, d4] }
  | _ => none }
def InstanceCalleeWrongFalsely : Prop := instanceCalleeRow.holds Tryz.pinned (OpenSpec.ofChange instanceCalleeWrong)

/-- 'lockorderlaw13.InstanceClosed': WHATEVER THE INPUT: true; the input reads as it did. -/
def instanceClosedSpec : ChangeSpec := { name := "instanceClosed", fn := fun _ => fun
  | [d] => { results := [.lit (.bool true)], args := [d] }
  | _ => none }
def instanceClosedRow : OpenClaim := { program := "ytmnglemlimfpbaagreat", sum := "7fb0e4d75c9e1de48544aa865b45a89f02d355445163d5f02940eadfaa4fd088", func := "lockorder/lockorderlaw13.InstanceClosed", spec := "instanceClosed", recurses := true, plainKeys := false, apart := false }
def InstanceClosedSaid : Prop := instanceClosedRow.holds Tryz.pinned (OpenSpec.ofChange instanceClosedSpec)

/-- ITS FALSE NEIGHBOUR: 'it returns false'. Refute it at one input. -/
def instanceClosedWrong : ChangeSpec := { name := "instanceClosed", fn := fun _ => fun
  | [d] => { results := [.lit (.bool false)], args := [d] }
  | _ => none }
def InstanceClosedWrongFalsely : Prop := instanceClosedRow.holds Tryz.pinned (OpenSpec.ofChange instanceClosedWrong)

/-- 'lockorderlaw13.InstanceFind': WHATEVER THE INPUT: true; the input reads as it did. -/
def instanceFindSpec : ChangeSpec := { name := "instanceFind", fn := fun _ => fun
  | [d1, d2, d3] => { results := [.lit (.bool true)], args := [d1, d2, d3] }
  | _ => none }
def instanceFindRow : OpenClaim := { program := "ytmnglemlimfpbaagreat", sum := "7fb0e4d75c9e1de48544aa865b45a89f02d355445163d5f02940eadfaa4fd088", func := "lockorder/lockorderlaw13.InstanceFind", spec := "instanceFind", recurses := true, plainKeys := false, apart := false }
def InstanceFindSaid : Prop := instanceFindRow.holds Tryz.pinned (OpenSpec.ofChange instanceFindSpec)

/-- ITS FALSE NEIGHBOUR: 'it returns false'. Refute it at one input. -/
def instanceFindWrong : ChangeSpec := { name := "instanceFind", fn := fun _ => fun
  | [d1, d2, d3] => { results := [.lit (.bool false)], args := [d1, d2, d3] }
  | _ => none }
def InstanceFindWrongFalsely : Prop := instanceFindRow.holds Tryz.pinned (OpenSpec.ofChange instanceFindWrong)

/-- 'lockorderlaw13.InstanceRoots': WHATEVER THE INPUT: true; the input reads as it did. -/
def instanceRootsSpec : ChangeSpec := { name := "instanceRoots", fn := fun _ => fun
  | [d1, d2] => { results := [.lit (.bool true)], args := [d1, d2] }
  | _ => none }
def instanceRootsRow : OpenClaim := { program := "ytmnglemlimfpbaagreat", sum := "7fb0e4d75c9e1de48544aa865b45a89f02d355445163d5f02940eadfaa4fd088", func := "lockorder/lockorderlaw13.InstanceRoots", spec := "instanceRoots", recurses := true, plainKeys := false, apart := false }
def InstanceRootsSaid : Prop := instanceRootsRow.holds Tryz.pinned (OpenSpec.ofChange instanceRootsSpec)

/-- ITS FALSE NEIGHBOUR: 'it returns false'. Refute it at one input. -/
def instanceRootsWrong : ChangeSpec := { name := "instanceRoots", fn := fun _ => fun
  | [d1, d2] => { results := [.lit (.bool false)], args := [d1, d2] }
  | _ => none }
def InstanceRootsWrongFalsely : Prop := instanceRootsRow.holds Tryz.pinned (OpenSpec.ofChange instanceRootsWrong)

/- THE SECOND FORM. 'bulk': how many values and letters a reading holds, each counted each time it is reached (what is shared counts as often as it is met; a slice's spare places count too). A statement '..UptoSaid' is the law's where the arguments, and the package variables that the reading takes, are together of bulk at most 1048576: NARROWER than '..Said'. Prove '..Said' where nothing that the law and all that it calls make is longer than what came in: it says more and counts as full. Else prove '..UptoSaid'. A law counts once. -/
mutual
def uptoBulk {H : Type} : DataW H → Nat
  | .lit (.string bytes) => bytes.length + 1
  | .lit _ => 1
  | .nil => 1
  | .ptr d => uptoBulk d + 1
  | .slice elems spare => uptoBulkAll elems + uptoBulkAll spare + 1
  | .agg parts => uptoBulkAll parts + 1
  | .iface _ d => uptoBulk d + 1
  | .map entries => uptoBulkEntries entries + 1
  | .held _ => 1
def uptoBulkAll {H : Type} : List (DataW H) → Nat
  | [] => 0
  | d :: r => uptoBulk d + uptoBulkAll r
def uptoBulkEntries {H : Type} : List (Lit × DataW H) → Nat
  | [] => 0
  | x :: r => uptoBulkEntry x + uptoBulkEntries r
def uptoBulkEntry {H : Type} : Lit × DataW H → Nat
  | (.string bytes, d) => bytes.length + uptoBulk d + 1
  | (_, d) => uptoBulk d + 1
 end
def uptoSmall : (H : Type) → List (DataW H) → Bool := fun _ ds => decide (uptoBulkAll ds ≤ 1048576)
def OpenSpec.upto (s : _root_.Go.ChangeSpec) : _root_.Go.OpenSpec := { _root_.Go.OpenSpec.ofChange s with cond := some uptoSmall }

/-- 'lockorderlaw19.SimulateProject', WHERE WHAT IT READS IS OF BULK AT MOST 1048576: true; the input reads as it did. -/
def simulateProjectUptoRow : OpenClaim := { program := "ytmnglemlimfpbaagreat", sum := "7fb0e4d75c9e1de48544aa865b45a89f02d355445163d5f02940eadfaa4fd088", func := "lockorder/lockorderlaw19.SimulateProject", spec := "simulateProject", recurses := true, plainKeys := false, apart := false, narrowed := true }
def SimulateProjectUptoSaid : Prop := simulateProjectUptoRow.holds Tryz.pinned (OpenSpec.upto simulateProjectSpec)

/-- 'lockorderlaw19.SimulateEvent', WHERE WHAT IT READS IS OF BULK AT MOST 1048576: true; the input reads as it did. -/
def simulateEventUptoRow : OpenClaim := { program := "ytmnglemlimfpbaagreat", sum := "7fb0e4d75c9e1de48544aa865b45a89f02d355445163d5f02940eadfaa4fd088", func := "lockorder/lockorderlaw19.SimulateEvent", spec := "simulateEvent", recurses := true, plainKeys := false, apart := false, narrowed := true }
def SimulateEventUptoSaid : Prop := simulateEventUptoRow.holds Tryz.pinned (OpenSpec.upto simulateEventSpec)

/-- 'lockorderlaw13.InstanceClose', WHERE WHAT IT READS IS OF BULK AT MOST 1048576: true; the input reads as it did. -/
def instanceCloseUptoRow : OpenClaim := { program := "ytmnglemlimfpbaagreat", sum := "7fb0e4d75c9e1de48544aa865b45a89f02d355445163d5f02940eadfaa4fd088", func := "lockorder/lockorderlaw13.InstanceClose", spec := "instanceClose", recurses := true, plainKeys := false, apart := false, narrowed := true }
def InstanceCloseUptoSaid : Prop := instanceCloseUptoRow.holds Tryz.pinned (OpenSpec.upto instanceCloseSpec)

/-- 'lockorderlaw13.InstanceCallee', WHERE WHAT IT READS IS OF BULK AT MOST 1048576: true; the input reads as it did. -/
def instanceCalleeUptoRow : OpenClaim := { program := "ytmnglemlimfpbaagreat", sum := "7fb0e4d75c9e1de48544aa865b45a89f02d355445163d5f02940eadfaa4fd088", func := "lockorder/lockorderlaw13.InstanceCallee", spec := "instanceCallee", recurses := true, plainKeys := false, apart := false, narrowed := true }
def InstanceCalleeUptoSaid : Prop := instanceCalleeUptoRow.holds Tryz.pinned (OpenSpec.upto instanceCalleeSpec)

/-- 'lockorderlaw13.InstanceClosed', WHERE WHAT IT READS IS OF BULK AT MOST 1048576: true; the input reads as it did. -/
def instanceClosedUptoRow : OpenClaim := { program := "ytmnglemlimfpbaagreat", sum := "7fb0e4d75c9e1de48544aa865b45a89f02d355445163d5f02940eadfaa4fd088", func := "lockorder/lockorderlaw13.InstanceClosed", spec := "instanceClosed", recurses := true, plainKeys := false, apart := false, narrowed := true }
def InstanceClosedUptoSaid : Prop := instanceClosedUptoRow.holds Tryz.pinned (OpenSpec.upto instanceClosedSpec)

/-- 'lockorderlaw13.InstanceFind', WHERE WHAT IT READS IS OF BULK AT MOST 1048576: true; the input reads as it did. -/
def instanceFindUptoRow : OpenClaim := { program := "ytmnglemlimfpbaagreat", sum := "7fb0e4d75c9e1de48544aa865b45a89f02d355445163d5f02940eadfaa4fd088", func := "lockorder/lockorderlaw13.InstanceFind", spec := "instanceFind", recurses := true, plainKeys := false, apart := false, narrowed := true }
def InstanceFindUptoSaid : Prop := instanceFindUptoRow.holds Tryz.pinned (OpenSpec.upto instanceFindSpec)

/-- 'lockorderlaw13.InstanceRoots', WHERE WHAT IT READS IS OF BULK AT MOST 1048576: true; the input reads as it did. -/
def instanceRootsUptoRow : OpenClaim := { program := "ytmnglemlimfpbaagreat", sum := "7fb0e4d75c9e1de48544aa865b45a89f02d355445163d5f02940eadfaa4fd088", func := "lockorder/lockorderlaw13.InstanceRoots", spec := "instanceRoots", recurses := true, plainKeys := false, apart := false, narrowed := true }
def InstanceRootsUptoSaid : Prop := instanceRootsUptoRow.holds Tryz.pinned (OpenSpec.upto instanceRootsSpec)

end Rows
end Go.Proofs.YtmnglemlimfpbaaGreat
