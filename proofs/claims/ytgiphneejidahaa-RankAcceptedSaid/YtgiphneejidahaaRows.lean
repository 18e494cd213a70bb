/-
  No cell of these rows narrows 'for every input' (looked for: loops, veiled, ifaces, maps, wideKeys, modest, calm, conditions, laid).
  DERIVED. THE GIVEN ROWS OF THIS SEAT. 11 by the template 'for every input the law returns true; each argument reads behind the call as it read before'; 0 by the template 'total and deterministic' (their statements: YtgiphneejidahaaTotals.lean).
  GIVEN WITH THE SEED: the statements are not yours to turn. If you find one false, say at which input.
  Laid BY PROGRAM, IN A SANDBOX (cutbox-rows.mjs): the forced cells as the released guide's own fill.sh prints them over the translation f72c617e931725d8… (all of the seat's roots in one cut). By AI agents, Wed Nov 11 2026. No macro, syntax, notation, axiom, sorry.
-/
import Derived.Test.YtgiphneejidahaaChecked
import GoSem.Claim
import GoSem.ClaimJoined
import GoSem.ClaimMapViews
import Derived.JoinedTies
import Derived.KernelRfl
namespace Go.Proofs.Ytgiphneejidahaa
/- THE CELL 'sum', in the pinned program and in every row, IS THE sha256 OF THE DUMP (.gsa) THAT YtgiphneejidahaaProg.lean LOADS. Nothing in Lean hashes anything: it is a label: what it is worth is what the hold of that sum in a sandbox is worth. -/
noncomputable def Try.pinned : Pinned := { name := "ytgiphneejidahaa", sum := "f72c617e931725d82f3d06b85958f78667b6bde4688c86ca85d4fe612a20e26e", checked := Try.checked }
namespace Rows
def none {H : Type} : Left H := { results := [], args := [] }

/-- 'lockorderlaw21.SccComponents': WHATEVER THE INPUT: true; the input reads as it did. -/
def sccComponentsSpec : ChangeSpec := { name := "sccComponents", fn := fun _ => fun
  | [d1, d2] => { results := [.lit (.bool true)], args := [d1, d2] }
  | _ => none }
def sccComponentsRow : OpenClaim := { program := "ytgiphneejidahaa", sum := "f72c617e931725d82f3d06b85958f78667b6bde4688c86ca85d4fe612a20e26e", func := "lockorder/lockorderlaw21.SccComponents", spec := "sccComponents", unfollowed := true, recurses := true, apart := false }
def SccComponentsSaid : Prop := sccComponentsRow.holds Try.pinned (OpenSpec.ofChange sccComponentsSpec)

/-- ITS FALSE NEIGHBOUR: 'it returns false'. Refute it at one input. -/
def sccComponentsWrong : ChangeSpec := { name := "sccComponents", fn := fun _ => fun
  | [d1, d2] => { results := [.lit (.bool false)], args := [d1, d2] }
  | _ => none }
def SccComponentsWrongFalsely : Prop := sccComponentsRow.holds Try.pinned (OpenSpec.ofChange sccComponentsWrong)

/-- 'lockorderlaw21.SccRaw': WHATEVER THE INPUT: true; the input reads as it did. -/
def sccRawSpec : ChangeSpec := { name := "sccRaw", fn := fun _ => fun
  | [d1, d2, d3] => { results := [.lit (.bool true)], args := [d1, d2, d3] }
  | _ => none }
def sccRawRow : OpenClaim := { program := "ytgiphneejidahaa", sum := "f72c617e931725d82f3d06b85958f78667b6bde4688c86ca85d4fe612a20e26e", func := "lockorder/lockorderlaw21.SccRaw", spec := "sccRaw", unfollowed := true, recurses := true, apart := false }
def SccRawSaid : Prop := sccRawRow.holds Try.pinned (OpenSpec.ofChange sccRawSpec)

/-- ITS FALSE NEIGHBOUR: 'it returns false'. Refute it at one input. -/
def sccRawWrong : ChangeSpec := { name := "sccRaw", fn := fun _ => fun
  | [d1, d2, d3] => { results := [.lit (.bool false)], args := [d1, d2, d3] }
  | _ => none }
def SccRawWrongFalsely : Prop := sccRawRow.holds Try.pinned (OpenSpec.ofChange sccRawWrong)

/-- 'lockorderlaw21.SccReaches': WHATEVER THE INPUT: true; the input reads as it did. -/
def sccReachesSpec : ChangeSpec := { name := "sccReaches", fn := fun _ => fun
  | [d1, d2, d3, d4, d5] => { results := [.lit (.bool true)], args := [d1, d2, d3, d4, d5] }
  | _ => none }
def sccReachesRow : OpenClaim := { program := "ytgiphneejidahaa", sum := "f72c617e931725d82f3d06b85958f78667b6bde4688c86ca85d4fe612a20e26e", func := "lockorder/lockorderlaw21.SccReaches", spec := "sccReaches", unfollowed := true, recurses := true, apart := false }
def SccReachesSaid : Prop := sccReachesRow.holds Try.pinned (OpenSpec.ofChange sccReachesSpec)

/-- ITS FALSE NEIGHBOUR: 'it returns false'. Refute it at one input. -/
def sccReachesWrong : ChangeSpec := { name := "sccReaches", fn := fun _ => fun
  | [d1, d2, d3, d4, d5] => { results := [.lit (.bool false)], args := [d1, d2, d3, d4, d5] }
  | _ => none }
def SccReachesWrongFalsely : Prop := sccReachesRow.holds Try.pinned (OpenSpec.ofChange sccReachesWrong)

/-- 'lockorderlaw21.SccPartition': WHATEVER THE INPUT: true; the input reads as it did. -/
def sccPartitionSpec : ChangeSpec := { name := "sccPartition", fn := fun _ => fun
  | [d1, d2] => { results := [.lit (.bool true)], args := [d1, d2] }
  | _ => none }
def sccPartitionRow : OpenClaim := { program := "ytgiphneejidahaa", sum := "f72c617e931725d82f3d06b85958f78667b6bde4688c86ca85d4fe612a20e26e", func := "lockorder/lockorderlaw21.SccPartition", spec := "sccPartition", unfollowed := true, recurses := true, apart := false }
def SccPartitionSaid : Prop := sccPartitionRow.holds Try.pinned (OpenSpec.ofChange sccPartitionSpec)

/-- ITS FALSE NEIGHBOUR: 'it returns false'. Refute it at one input. -/
def sccPartitionWrong : ChangeSpec := { name := "sccPartition", fn := fun _ => fun
  | [d1, d2] => { results := [.lit (.bool false)], args := [d1, d2] }
  | _ => none }
def SccPartitionWrongFalsely : Prop := sccPartitionRow.holds Try.pinned (OpenSpec.ofChange sccPartitionWrong)

/-- 'lockorderlaw21.SccOrder': WHATEVER THE INPUT: true; the input reads as it did. -/
def sccOrderSpec : ChangeSpec := { name := "sccOrder", fn := fun _ => fun
  | [d1, d2, d3] => { results := [.lit (.bool true)], args := [d1, d2, d3] }
  | _ => none }
def sccOrderRow : OpenClaim := { program := "ytgiphneejidahaa", sum := "f72c617e931725d82f3d06b85958f78667b6bde4688c86ca85d4fe612a20e26e", func := "lockorder/lockorderlaw21.SccOrder", spec := "sccOrder", unfollowed := true, recurses := true, apart := false }
def SccOrderSaid : Prop := sccOrderRow.holds Try.pinned (OpenSpec.ofChange sccOrderSpec)

/-- ITS FALSE NEIGHBOUR: 'it returns false'. Refute it at one input. -/
def sccOrderWrong : ChangeSpec := { name := "sccOrder", fn := fun _ => fun
  | [d1, d2, d3] => { results := [.lit (.bool false)], args := [d1, d2, d3] }
  | _ => none }
def SccOrderWrongFalsely : Prop := sccOrderRow.holds Try.pinned (OpenSpec.ofChange sccOrderWrong)

/-- 'lockorderlaw21.SccUnite': WHATEVER THE INPUT: true; the input reads as it did. -/
def sccUniteSpec : ChangeSpec := { name := "sccUnite", fn := fun _ => fun
  | [d1, d2, d3, d4] => { results := [.lit (.bool true)], args := [d1, d2, d3, d4] }
  | _ => none }
def sccUniteRow : OpenClaim := { program := "ytgiphneejidahaa", sum := "f72c617e931725d82f3d06b85958f78667b6bde4688c86ca85d4fe612a20e26e", func := "lockorder/lockorderlaw21.SccUnite", spec := "sccUnite", unfollowed := true, recurses := true, apart := false }
def SccUniteSaid : Prop := sccUniteRow.holds Try.pinned (OpenSpec.ofChange sccUniteSpec)

/-- ITS FALSE NEIGHBOUR: 'it returns false'. Refute it at one input. -/
def sccUniteWrong : ChangeSpec := { name := "sccUnite", fn := fun _ => fun
  | [d1, d2, d3, d4] => { results := [.lit (.bool false)], args := [d1, d2, d3, d4] }
  | _ => none }
def SccUniteWrongFalsely : Prop := sccUniteRow.holds Try.pinned (OpenSpec.ofChange sccUniteWrong)

/-- 'lockorderlaw29.RankOf': WHATEVER THE INPUT: true; the input reads as it did. -/
def rankOfSpec : ChangeSpec := { name := "rankOf", fn := fun _ => fun
  | [d1, d2, d3] => { results := [.lit (.bool true)], args := [d1, d2, d3] }
  | _ => none }
def rankOfRow : OpenClaim := { program := "ytgiphneejidahaa", sum := "f72c617e931725d82f3d06b85958f78667b6bde4688c86ca85d4fe612a20e26e", func := "lockorder/lockorderlaw29.RankOf", spec := "rankOf", unfollowed := true, recurses := true, apart := false }
def RankOfSaid : Prop := rankOfRow.holds Try.pinned (OpenSpec.ofChange rankOfSpec)

/-- ITS FALSE NEIGHBOUR: 'it returns false'. Refute it at one input. -/
def rankOfWrong : ChangeSpec := { name := "rankOf", fn := fun _ => fun
  | [d1, d2, d3] => { results := [.lit (.bool false)], args := [d1, d2, d3] }
  | _ => none }
def RankOfWrongFalsely : Prop := rankOfRow.holds Try.pinned (OpenSpec.ofChange rankOfWrong)

/-- 'lockorderlaw29.RankRaw': WHATEVER THE INPUT: true; the input reads as it did. -/
def rankRawSpec : ChangeSpec := { name := "rankRaw", fn := fun _ => fun
  | [d1, d2, d3, d4] => { results := [.lit (.bool true)], args := [d1, d2, d3, d4] }
  | _ => none }
def rankRawRow : OpenClaim := { program := "ytgiphneejidahaa", sum := "f72c617e931725d82f3d06b85958f78667b6bde4688c86ca85d4fe612a20e26e", func := "lockorder/lockorderlaw29.RankRaw", spec := "rankRaw", unfollowed := true, recurses := true, apart := false }
def RankRawSaid : Prop := rankRawRow.holds Try.pinned (OpenSpec.ofChange rankRawSpec)

/-- ITS FALSE NEIGHBOUR: 'it returns false'. Refute it at one input. -/
def rankRawWrong : ChangeSpec := { name := "rankRaw", fn := fun _ => fun
  | [d1, d2, d3, d4] => { results := [.lit (.bool false)], args := [d1, d2, d3, d4] }
  | _ => none }
def RankRawWrongFalsely : Prop := rankRawRow.holds Try.pinned (OpenSpec.ofChange rankRawWrong)

/-- 'lockorderlaw29.RankCheck': WHATEVER THE INPUT: true; the input reads as it did. -/
def rankCheckSpec : ChangeSpec := { name := "rankCheck", fn := fun _ => fun
  | [d1, d2, d3, d4, d5] => { results := [.lit (.bool true)], args := [d1, d2, d3, d4, d5] }
  | _ => none }
def rankCheckRow : OpenClaim := { program := "ytgiphneejidahaa", sum := "f72c617e931725d82f3d06b85958f78667b6bde4688c86ca85d4fe612a20e26e", func := "lockorder/lockorderlaw29.RankCheck", spec := "rankCheck", unfollowed := true, recurses := true, apart := false }
def RankCheckSaid : Prop := rankCheckRow.holds Try.pinned (OpenSpec.ofChange rankCheckSpec)

/-- ITS FALSE NEIGHBOUR: 'it returns false'. Refute it at one input. -/
def rankCheckWrong : ChangeSpec := { name := "rankCheck", fn := fun _ => fun
  | [d1, d2, d3, d4, d5] => { results := [.lit (.bool false)], args := [d1, d2, d3, d4, d5] }
  | _ => none }
def RankCheckWrongFalsely : Prop := rankCheckRow.holds Try.pinned (OpenSpec.ofChange rankCheckWrong)

/-- 'lockorderlaw29.RankAccepted': WHATEVER THE INPUT: true; the input reads as it did. -/
def rankAcceptedSpec : ChangeSpec := { name := "rankAccepted", fn := fun _ => fun
  | [d1, d2, d3, d4] => { results := [.lit (.bool true)], args := [d1, d2, d3, d4] }
  | _ => none }
def rankAcceptedRow : OpenClaim := { program := "ytgiphneejidahaa", sum := "f72c617e931725d82f3d06b85958f78667b6bde4688c86ca85d4fe612a20e26e", func := "lockorder/lockorderlaw29.RankAccepted", spec := "rankAccepted", unfollowed := true, recurses := true, apart := false }
def RankAcceptedSaid : Prop := rankAcceptedRow.holds Try.pinned (OpenSpec.ofChange rankAcceptedSpec)

/-- ITS FALSE NEIGHBOUR: 'it returns false'. Refute it at one input. -/
def rankAcceptedWrong : ChangeSpec := { name := "rankAccepted", fn := fun _ => fun
  | [d1, d2, d3, d4] => { results := [.lit (.bool false)], args := [d1, d2, d3, d4] }
  | _ => none }
def RankAcceptedWrongFalsely : Prop := rankAcceptedRow.holds Try.pinned (OpenSpec.ofChange rankAcceptedWrong)

/-- 'lockorderlaw29.RankLevels': WHATEVER THE INPUT: true; the input reads as it did. -/
def rankLevelsSpec : ChangeSpec := { name := "rankLevels", fn := fun _ => fun
  | [d1, d2, d3] => { results := [.lit (.bool true)], args := [d1, d2, d3] }
  | _ => none }
def rankLevelsRow : OpenClaim := { program := "ytgiphneejidahaa", sum := "f72c617e931725d82f3d06b85958f78667b6bde4688c86ca85d4fe612a20e26e", func := "lockorder/lockorderlaw29.RankLevels", spec := "rankLevels", unfollowed := true, recurses := true, apart := false }
def RankLevelsSaid : Prop := rankLevelsRow.holds Try.pinned (OpenSpec.ofChange rankLevelsSpec)

/-- ITS FALSE NEIGHBOUR: 'it returns false'. Refute it at one input. -/
def rankLevelsWrong : ChangeSpec := { name := "rankLevels", fn := fun _ => fun
  | [d1, d2, d3] => { results := [.lit (.bool false)], args := [d1, d2, d3] }
  | _ => none }
def RankLevelsWrongFalsely : Prop := rankLevelsRow.holds Try.pinned (OpenSpec.ofChange rankLevelsWrong)

/- THE SECOND FORM. 'bulk': how many values and letters a reading holds, each counted each time it is reached (what is shared counts as often as it is met; a slice's spare places count too). A statement '..UptoSaid' is the law's where the arguments, and the package variables that the reading takes, are together of bulk at most 1048576: NARROWER than '..Said'. Prove '..Said' where nothing that the law and all that it calls make is longer than what came in: it says more and counts as full. Else prove '..UptoSaid'. A law counts once. -/
mutual
def uptoBulk {H : Type} : DataW H → Nat
  | .lit (.string bytes) => bytes.length + 1
  | .lit _ => 1
  | .nil => 1
  | .ptr d => uptoBulk d + 1
  | .slice elems spare => uptoBulkAll elems + uptoBulkAll spare + 1
  | .agg parts => uptoBulkAll parts + 1
  | .iface _ d => uptoBulk d + 1
  | .map entries => uptoBulkEntries entries + 1
  | .held _ => 1
def uptoBulkAll {H : Type} : List (DataW H) → Nat
  | [] => 0
  | d :: r => uptoBulk d + uptoBulkAll r
def uptoBulkEntries {H : Type} : List (Lit × DataW H) → Nat
  | [] => 0
  | x :: r => uptoBulkEntry x + uptoBulkEntries r
def uptoBulkEntry {H : Type} : Lit × DataW H → Nat
  | (.string bytes, d) => bytes.length + uptoBulk d + 1
  | (_, d) => uptoBulk d + 1
 end
def uptoSmall : (H : Type) → List (DataW H) → Bool := fun _ ds => decide (uptoBulkAll ds ≤ 1048576)
def OpenSpec.upto (s : _root_.Go.ChangeSpec) : _root_.Go.OpenSpec := { _root_.Go.OpenSpec.ofChange s with cond := some uptoSmall }

/-- 'lockorderlaw21.SccComponents', WHERE WHAT IT READS IS OF BULK AT MOST 1048576: true; the input reads as it did. -/
def sccComponentsUptoRow : OpenClaim := { program := "ytgiphneejidahaa", sum := "f72c617e931725d82f3d06b85958f78667b6bde4688c86ca85d4fe612a20e26e", func := "lockorder/lockorderlaw21.SccComponents", spec := "sccComponents", unfollowed := true, recurses := true, apart := false, narrowed := true }
def SccComponentsUptoSaid : Prop := sccComponentsUptoRow.holds Try.pinned (OpenSpec.upto sccComponentsSpec)

/-- 'lockorderlaw21.SccRaw', WHERE WHAT IT READS IS OF BULK AT MOST 1048576: true; the input reads as it did. -/
def sccRawUptoRow : OpenClaim := { program := "ytgiphneejidahaa", sum := "f72c617e931725d82f3d06b85958f78667b6bde4688c86ca85d4fe612a20e26e", func := "lockorder/lockorderlaw21.SccRaw", spec := "sccRaw", unfollowed := true, recurses := true, apart := false, narrowed := true }
def SccRawUptoSaid : Prop := sccRawUptoRow.holds Try.pinned (OpenSpec.upto sccRawSpec)

/-- 'lockorderlaw21.SccReaches', WHERE WHAT IT READS IS OF BULK AT MOST 1048576: true; the input reads as it did. -/
def sccReachesUptoRow : OpenClaim := { program := "ytgiphneejidahaa", sum := "f72c617e931725d82f3d06b85958f78667b6bde4688c86ca85d4fe612a20e26e", func := "lockorder/lockorderlaw21.SccReaches", spec := "sccReaches", unfollowed := true, recurses := true, apart := false, narrowed := true }
def SccReachesUptoSaid : Prop := sccReachesUptoRow.holds Try.pinned (OpenSpec.upto sccReachesSpec)

/-- 'lockorderlaw21.SccPartition', WHERE WHAT IT READS IS OF BULK AT MOST 1048576: true; the input reads as it did. -/
def sccPartitionUptoRow : OpenClaim := { program := "ytgiphneejidahaa", sum := "f72c617e931725d82f3d06b85958f78667b6bde4688c86ca85d4fe612a20e26e", func := "lockorder/lockorderlaw21.SccPartition", spec := "sccPartition", unfollowed := true, recurses := true, apart := false, narrowed := true }
def SccPartitionUptoSaid : Prop := sccPartitionUptoRow.holds Try.pinned (OpenSpec.upto sccPartitionSpec)

/-- 'lockorderlaw21.SccOrder', WHERE WHAT IT READS IS OF BULK AT MOST 1048576: true; the input reads as it did. -/
def sccOrderUptoRow : OpenClaim := { program := "ytgiphneejidahaa", sum := "f72c617e931725d82f3d06b85958f78667b6bde4688c86ca85d4fe612a20e26e", func := "lockorder/lockorderlaw21.SccOrder", spec := "sccOrder", unfollowed := true, recurses := true, apart := false, narrowed := true }
def SccOrderUptoSaid : Prop := sccOrderUptoRow.holds Try.pinned (OpenSpec.upto sccOrderSpec)

/-- 'lockorderlaw21.SccUnite', WHERE WHAT IT READS IS OF BULK AT MOST 1048576: true; the input reads as it did. -/
def sccUniteUptoRow : OpenClaim := { program := "ytgiphneejidahaa", sum := "f72c617e931725d82f3d06b85958f78667b6bde4688c86ca85d4fe612a20e26e", func := "lockorder/lockorderlaw21.SccUnite", spec := "sccUnite", unfollowed := true, recurses := true, apart := false, narrowed := true }
def SccUniteUptoSaid : Prop := sccUniteUptoRow.holds Try.pinned (OpenSpec.upto sccUniteSpec)

/-- 'lockorderlaw29.RankOf', WHERE WHAT IT READS IS OF BULK AT MOST 1048576: true; the input reads as it did. -/
def rankOfUptoRow : OpenClaim := { program := "ytgiphneejidahaa", sum := "f72c617e931725d82f3d06b85958f78667b6bde4688c86ca85d4fe612a20e26e", func := "lockorder/lockorderlaw29.RankOf", spec := "rankOf", unfollowed := true, recurses := true, apart := false, narrowed := true }
def RankOfUptoSaid : Prop := rankOfUptoRow.holds Try.pinned (OpenSpec.upto rankOfSpec)

/-- 'lockorderlaw29.RankRaw', WHERE WHAT IT READS IS OF BULK AT MOST 1048576: true; the input reads as it did. -/
def rankRawUptoRow : OpenClaim := { program := "ytgiphneejidahaa", sum := "f72c617e931725d82f3d06b85958f78667b6bde4688c86ca85d4fe612a20e26e", func := "lockorder/lockorderlaw29.RankRaw", spec := "rankRaw", unfollowed := true, recurses := true, apart := false, narrowed := true }
def RankRawUptoSaid : Prop := rankRawUptoRow.holds Try.pinned (OpenSpec.upto rankRawSpec)

/-- 'lockorderlaw29.RankCheck', WHERE WHAT IT READS IS OF BULK AT MOST 1048576: true; the input reads as it did. -/
def rankCheckUptoRow : OpenClaim := { program := "ytgiphneejidahaa", sum := "f72c617e931725d82f3d06b85958f78667b6bde4688c86ca85d4fe612a20e26e", func := "lockorder/lockorderlaw29.RankCheck", spec := "rankCheck", unfollowed := true, recurses := true, apart := false, narrowed := true }
def RankCheckUptoSaid : Prop := rankCheckUptoRow.holds Try.pinned (OpenSpec.upto rankCheckSpec)

/-- 'lockorderlaw29.RankAccepted', WHERE WHAT IT READS IS OF BULK AT MOST 1048576: true; the input reads as it did. -/
def rankAcceptedUptoRow : OpenClaim := { program := "ytgiphneejidahaa", sum := "f72c617e931725d82f3d06b85958f78667b6bde4688c86ca85d4fe612a20e26e", func := "lockorder/lockorderlaw29.RankAccepted", spec := "rankAccepted", unfollowed := true, recurses := true, apart := false, narrowed := true }
def RankAcceptedUptoSaid : Prop := rankAcceptedUptoRow.holds Try.pinned (OpenSpec.upto rankAcceptedSpec)

/-- 'lockorderlaw29.RankLevels', WHERE WHAT IT READS IS OF BULK AT MOST 1048576: true; the input reads as it did. -/
def rankLevelsUptoRow : OpenClaim := { program := "ytgiphneejidahaa", sum := "f72c617e931725d82f3d06b85958f78667b6bde4688c86ca85d4fe612a20e26e", func := "lockorder/lockorderlaw29.RankLevels", spec := "rankLevels", unfollowed := true, recurses := true, apart := false, narrowed := true }
def RankLevelsUptoSaid : Prop := rankLevelsUptoRow.holds Try.pinned (OpenSpec.upto rankLevelsSpec)

end Rows
end Go.Proofs.Ytgiphneejidahaa
