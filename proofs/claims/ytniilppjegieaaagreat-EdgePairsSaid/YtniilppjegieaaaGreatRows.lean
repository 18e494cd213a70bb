/-
  No cell of these rows narrows 'for every input' (looked for: loops, veiled, ifaces, maps, wideKeys, modest, calm, conditions, laid).
  DERIVED. THE GIVEN ROWS OF THIS SEAT. 2 by the template 'for every input the law returns true; each argument reads behind the call as it read before'; 0 by the template 'total and deterministic' (their statements: YtniilppjegieaaaGreatTotals.lean).
  GIVEN WITH THE SEED: the statements are not yours to turn. If you find one false, say at which input.
  Laid BY PROGRAM, IN A SANDBOX (cutbox-rows.mjs): the forced cells as the released guide's own fill.sh prints them over the translation fe0de33443c0a9ab… (all of the seat's roots in one cut). By AI agents, Wed Nov 11 2026. No macro, syntax, notation, axiom, sorry.
-/
import Derived.Test.YtniilppjegieaaaGreatChecked
import GoSem.Claim
import GoSem.ClaimJoined
import GoSem.ClaimMapViews
import Derived.JoinedTies
import Derived.KernelRfl
namespace Go.Proofs.YtniilppjegieaaaGreat
/- THE CELL 'sum', in the pinned program and in every row, IS THE sha256 OF THE DUMP (.gsa) THAT YtniilppjegieaaaGreatProg.lean LOADS. Nothing in Lean hashes anything: it is a label: what it is worth is what the hold of that sum in a sandbox is worth. -/
noncomputable def Tryz.pinned : Pinned := { name := "ytniilppjegieaaagreat", sum := "fe0de33443c0a9abbac493b21ea25aa5c49061b40e9796bd31d9cc3ebb77ee69", checked := Tryz.checked }
namespace Rows
def none {H : Type} : Left H := { results := [], args := [] }

/-- 'lockorderlaw20.EdgePairs': WHATEVER THE INPUT: true; the input reads as it did. -/
def edgePairsSpec : ChangeSpec := { name := "edgePairs", fn := fun _ => fun
  | [d1, d2] => { results := [.lit (.bool true)], args := [d1, d2] }
  | _ => none }
def edgePairsRow : OpenClaim := { program := "ytniilppjegieaaagreat", sum := "fe0de33443c0a9abbac493b21ea25aa5c49061b40e9796bd31d9cc3ebb77ee69", func := "lockorder/lockorderlaw20.EdgePairs", spec := "edgePairs", unfollowed := true, recurses := true, plainKeys := false, apart := false }
def EdgePairsSaid : Prop := edgePairsRow.holds Tryz.pinned (OpenSpec.ofChange edgePairsSpec)

/-- ITS FALSE NEIGHBOUR: 'it returns false'. Refute it at one input. -/
def edgePairsWrong : ChangeSpec := { name := "edgePairs", fn := fun _ => fun
  | [d1, d2] => { results := [.lit (.bool false)], args := [d1, d2] }
  | _ => none }
def EdgePairsWrongFalsely : Prop := edgePairsRow.holds Tryz.pinned (OpenSpec.ofChange edgePairsWrong)

/-- 'lockorderlaw23.FindingLess': WHATEVER THE INPUT: true; the input reads as it did. -/
def findingLessSpec : ChangeSpec := { name := "findingLess", fn := fun _ => fun
  | [d1, d2, d3] => { results := [.lit (.bool true)], args := [d1, d2, d3] }
  | _ => none }
def findingLessRow : OpenClaim := { program := "ytniilppjegieaaagreat", sum := "fe0de33443c0a9abbac493b21ea25aa5c49061b40e9796bd31d9cc3ebb77ee69", func := "lockorder/lockorderlaw23.FindingLess", spec := "findingLess", unfollowed := true, recurses := true, plainKeys := false, apart := false }
def FindingLessSaid : Prop := findingLessRow.holds Tryz.pinned (OpenSpec.ofChange findingLessSpec)

/-- ITS FALSE NEIGHBOUR: 'it returns false'. Refute it at one input. -/
def findingLessWrong : ChangeSpec := { name := "findingLess", fn := fun _ => fun
  | [d1, d2, d3] => { results := [.lit (.bool false)], args := [d1, d2, d3] }
  | _ => none }
def FindingLessWrongFalsely : Prop := findingLessRow.holds Tryz.pinned (OpenSpec.ofChange findingLessWrong)

/- THE SECOND FORM. 'bulk': how many values and letters a reading holds, each counted each time it is reached (what is shared counts as often as it is met; a slice's spare places count too). A statement '..UptoSaid' is the law's where the arguments, and the package variables that the reading takes, are together of bulk at most 1048576: NARROWER than '..Said'. Prove '..Said' where nothing that the law and all that it calls make is longer than what came in: it says more and counts as full. Else prove '..UptoSaid'. A law counts once. -/
mutual
def uptoBulk {H : Type} : DataW H → Nat
  | .lit (.string bytes) => bytes.length + 1
  | .lit _ => 1
  | .nil => 1
  | .ptr d => uptoBulk d + 1
  | .slice elems spare => uptoBulkAll elems + uptoBulkAll spare + 1
  | .agg parts => uptoBulkAll parts + 1
  | .iface _ d => uptoBulk d + 1
  | .map entries => uptoBulkEntries entries + 1
  | .held _ => 1
def uptoBulkAll {H : Type} : List (DataW H) → Nat
  | [] => 0
  | d :: r => uptoBulk d + uptoBulkAll r
def uptoBulkEntries {H : Type} : List (Lit × DataW H) → Nat
  | [] => 0
  | x :: r => uptoBulkEntry x + uptoBulkEntries r
def uptoBulkEntry {H : Type} : Lit × DataW H → Nat
  | (.string bytes, d) => bytes.length + uptoBulk d + 1
  | (_, d) => uptoBulk d + 1
 end
def uptoSmall : (H : Type) → List (DataW H) → Bool := fun _ ds => decide (uptoBulkAll ds ≤ 1048576)
def OpenSpec.upto (s : _root_.Go.ChangeSpec) : _root_.Go.OpenSpec := { _root_.Go.OpenSpec.ofChange s with cond := some uptoSmall }

/-- 'lockorderlaw20.EdgePairs', WHERE WHAT IT READS IS OF BULK AT MOST 1048576: true; the input reads as it did. -/
def edgePairsUptoRow : OpenClaim := { program := "ytniilppjegieaaagreat", sum := "fe0de33443c0a9abbac493b21ea25aa5c49061b40e9796bd31d9cc3ebb77ee69", func := "lockorder/lockorderlaw20.EdgePairs", spec := "edgePairs", unfollowed := true, recurses := true, plainKeys := false, apart := false, narrowed := true }
def EdgePairsUptoSaid : Prop := edgePairsUptoRow.holds Tryz.pinned (OpenSpec.upto edgePairsSpec)

/-- 'lockorderlaw23.FindingLess', WHERE WHAT IT READS IS OF BULK AT MOST 1048576: true; the input reads as it did. -/
def findingLessUptoRow : OpenClaim := { program := "ytniilppjegieaaagreat", sum := "fe0de33443c0a9abbac493b21ea25aa5c49061b40e9796bd31d9cc3ebb77ee69", func := "lockorder/lockorderlaw23.FindingLess", spec := "findingLess", unfollowed := true, recurses := true, plainKeys := false, apart := false, narrowed := true }
def FindingLessUptoSaid : Prop := findingLessUptoRow.holds Tryz.pinned (OpenSpec.upto findingLessSpec)

end Rows
end Go.Proofs.YtniilppjegieaaaGreat
