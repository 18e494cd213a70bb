/-
  NARROWER THAN 'FOR EVERY INPUT', by the rows' own cells (each row's printed sentence says how): ReplayCheck: laid · ReplayRaw: laid · ReplayReach: laid.
  DERIVED. THE GIVEN ROWS OF THIS SEAT. 3 by the template 'for every input the law returns true; each argument reads behind the call as it read before'; 0 by the template 'total and deterministic' (their statements: YtlkmbdfhdknlgaaGreatDoorTotals.lean).
  GIVEN WITH THE SEED: the statements are not yours to turn. If you find one false, say at which input.
  Laid BY PROGRAM, IN A SANDBOX (cutbox-rows.mjs): the forced cells as the released guide's own fill.sh prints them over the translation ddc121dae36c936e… (all of the seat's roots in one cut). By AI agents, Wed Nov 11 2026. No macro, syntax, notation, axiom, sorry.
-/
import Derived.Test.YtlkmbdfhdknlgaaGreatDoorChecked
import GoSem.Claim
import GoSem.ClaimJoined
import GoSem.ClaimMapViews
import Derived.JoinedTies
import Derived.KernelRfl
namespace Go.Proofs.YtlkmbdfhdknlgaaGreatDoor
/- THE CELL 'sum', in the pinned program and in every row, IS THE sha256 OF THE DUMP (.gsa) THAT YtlkmbdfhdknlgaaGreatDoorProg.lean LOADS. Nothing in Lean hashes anything: it is a label: what it is worth is what the hold of that sum in a sandbox is worth. -/
noncomputable def Tryz.pinned : Pinned := { name := "ytlkmbdfhdknlgaagreatdoor", sum := "ddc121dae36c936ecd6864616a85fd3af5ffc18aff7207dff8b8a3fae3049b1c", checked := Tryz.checked }
namespace Rows
def none {H : Type} : Left H := { results := [], args := [] }

/- WHAT THE LISTED PACKAGE-LEVEL VARIABLES READ AS WHEN THE CALL BEGINS. Each datum BY PROGRAM (the guide's laid-datum.mjs) off the statement by which the dump's own 'gosem.cut.vars' lays the variable. In a bare row this is a premise. The card (YtlkmbdfhdknlgaaGreatDoorCards.lean) ties it to the program's text. -/
def laid_lockorder_grammar_calling {H : Type} : DataW H := .agg [.lit (.bool false), .lit (.bool false), .lit (.bool true), .lit (.bool false), .lit (.bool false), .lit (.bool false), .lit (.bool false), .lit (.bool false), .lit (.bool false)]

/-- 'lockorderlaw27.ReplayCheck': WHATEVER THE INPUT: true; the input reads as it did. -/
def replayCheckSpec : ChangeSpec := { name := "replayCheck", fn := fun _ => fun
  | [d1, d2, d3, d4, d5, d6, d7, d8, d9] => { results := [.lit (.bool true)], args := [d1, d2, d3, d4, d5, d6, d7, d8, d9] }
  | _ => none }
def replayCheckRow : OpenClaim := { program := "ytlkmbdfhdknlgaagreatdoor", sum := "ddc121dae36c936ecd6864616a85fd3af5ffc18aff7207dff8b8a3fae3049b1c", func := "lockorder/lockorderlaw27.ReplayCheck", spec := "replayCheck", unfollowed := true, recurses := true, named := ["lockorder/grammar.calling"], apart := false, laid := [("lockorder/grammar.calling", laid_lockorder_grammar_calling)] }
def ReplayCheckSaid : Prop := replayCheckRow.holds Tryz.pinned (OpenSpec.ofChange replayCheckSpec)

/-- ITS FALSE NEIGHBOUR: 'it returns false'. Refute it at one input. -/
def replayCheckWrong : ChangeSpec := { name := "replayCheck", fn := fun _ => fun
  | [d1, d2, d3, d4, d5, d6, d7, d8, d9] => { results := [.lit (.bool false)], args := [d1, d2, d3, d4, d5, d6, d7, d8, d9] }
  | _ => none }
def ReplayCheckWrongFalsely : Prop := replayCheckRow.holds Tryz.pinned (OpenSpec.ofChange replayCheckWrong)

/-- 'lockorderlaw27.ReplayRaw': WHATEVER THE INPUT: true; the input reads as it did. -/
def replayRawSpec : ChangeSpec := { name := "replayRaw", fn := fun _ => fun
  | [d1, d2] => { results := [.lit (.bool true)], args := [d1, d2] }
  | _ => none }
def replayRawRow : OpenClaim := { program := "ytlkmbdfhdknlgaagreatdoor", sum := "ddc121dae36c936ecd6864616a85fd3af5ffc18aff7207dff8b8a3fae3049b1c", func := "lockorder/lockorderlaw27.ReplayRaw", spec := "replayRaw", unfollowed := true, recurses := true, named := ["lockorder/grammar.calling"], apart := false, laid := [("lockorder/grammar.calling", laid_lockorder_grammar_calling)] }
def ReplayRawSaid : Prop := replayRawRow.holds Tryz.pinned (OpenSpec.ofChange replayRawSpec)

/-- ITS FALSE NEIGHBOUR: 'it returns false'. Refute it at one input. -/
def replayRawWrong : ChangeSpec := { name := "replayRaw", fn := fun _ => fun
  | [d1, d2] => { results := [.lit (.bool false)], args := [d1, d2] }
  | _ => none }
def ReplayRawWrongFalsely : Prop := replayRawRow.holds Tryz.pinned (OpenSpec.ofChange replayRawWrong)

/-- 'lockorderlaw27.ReplayReach': WHATEVER THE INPUT: true; the input reads as it did. -/
def replayReachSpec : ChangeSpec := { name := "replayReach", fn := fun _ => fun
  | [d1, d2, d3, d4, d5, d6] => { results := [.lit (.bool true)], args := [d1, d2, d3, d4, d5, d6] }
  | _ => none }
def replayReachRow : OpenClaim := { program := "ytlkmbdfhdknlgaagreatdoor", sum := "ddc121dae36c936ecd6864616a85fd3af5ffc18aff7207dff8b8a3fae3049b1c", func := "lockorder/lockorderlaw27.ReplayReach", spec := "replayReach", unfollowed := true, recurses := true, named := ["lockorder/grammar.calling"], apart := false, laid := [("lockorder/grammar.calling", laid_lockorder_grammar_calling)] }
def ReplayReachSaid : Prop := replayReachRow.holds Tryz.pinned (OpenSpec.ofChange replayReachSpec)

/-- ITS FALSE NEIGHBOUR: 'it returns false'. Refute it at one input. -/
def replayReachWrong : ChangeSpec := { name := "replayReach", fn := fun _ => fun
  | [d1, d2, d3, d4, d5, d6] => { results := [.lit (.bool false)], args := [d1, d2, d3, d4, d5, d6] }
  | _ => none }
def ReplayReachWrongFalsely : Prop := replayReachRow.holds Tryz.pinned (OpenSpec.ofChange replayReachWrong)

/- THE SECOND FORM. 'bulk': how many values and letters a reading holds, each counted each time it is reached (what is shared counts as often as it is met; a slice's spare places count too). A statement '..UptoSaid' is the law's where the arguments, and the package variables that the reading takes, are together of bulk at most 1048576: NARROWER than '..Said'. Prove '..Said' where nothing that the law and all that it calls make is longer than what came in: it says more and counts as full. Else prove '..UptoSaid'. A law counts once. -/
mutual
def uptoBulk {H : Type} : DataW H → Nat
  | .lit (.string bytes) => bytes.length + 1
  | .lit _ => 1
  | .nil => 1
  | .ptr d => uptoBulk d + 1
  | .slice elems spare => uptoBulkAll elems + uptoBulkAll spare + 1
  | .agg parts => uptoBulkAll parts + 1
  | .iface _ d => uptoBulk d + 1
  | .map entries => uptoBulkEntries entries + 1
  | .held _ => 1
def uptoBulkAll {H : Type} : List (DataW H) → Nat
  | [] => 0
  | d :: r => uptoBulk d + uptoBulkAll r
def uptoBulkEntries {H : Type} : List (Lit × DataW H) → Nat
  | [] => 0
  | x :: r => uptoBulkEntry x + uptoBulkEntries r
def uptoBulkEntry {H : Type} : Lit × DataW H → Nat
  | (.string bytes, d) => bytes.length + uptoBulk d + 1
  | (_, d) => uptoBulk d + 1
 end
def uptoSmall : (H : Type) → List (DataW H) → Bool := fun _ ds => decide (uptoBulkAll ds ≤ 1048576)
def OpenSpec.upto (s : _root_.Go.ChangeSpec) : _root_.Go.OpenSpec := { _root_.Go.OpenSpec.ofChange s with cond := some uptoSmall }

/-- 'lockorderlaw27.ReplayCheck', WHERE WHAT IT READS IS OF BULK AT MOST 1048576: true; the input reads as it did. -/
def replayCheckUptoRow : OpenClaim := { program := "ytlkmbdfhdknlgaagreatdoor", sum := "ddc121dae36c936ecd6864616a85fd3af5ffc18aff7207dff8b8a3fae3049b1c", func := "lockorder/lockorderlaw27.ReplayCheck", spec := "replayCheck", unfollowed := true, recurses := true, named := ["lockorder/grammar.calling"], apart := false, laid := [("lockorder/grammar.calling", laid_lockorder_grammar_calling)], narrowed := true }
def ReplayCheckUptoSaid : Prop := replayCheckUptoRow.holds Tryz.pinned (OpenSpec.upto replayCheckSpec)

/-- 'lockorderlaw27.ReplayRaw', WHERE WHAT IT READS IS OF BULK AT MOST 1048576: true; the input reads as it did. -/
def replayRawUptoRow : OpenClaim := { program := "ytlkmbdfhdknlgaagreatdoor", sum := "ddc121dae36c936ecd6864616a85fd3af5ffc18aff7207dff8b8a3fae3049b1c", func := "lockorder/lockorderlaw27.ReplayRaw", spec := "replayRaw", unfollowed := true, recurses := true, named := ["lockorder/grammar.calling"], apart := false, laid := [("lockorder/grammar.calling", laid_lockorder_grammar_calling)], narrowed := true }
def ReplayRawUptoSaid : Prop := replayRawUptoRow.holds Tryz.pinned (OpenSpec.upto replayRawSpec)

/-- 'lockorderlaw27.ReplayReach', WHERE WHAT IT READS IS OF BULK AT MOST 1048576: true; the input reads as it did. -/
def replayReachUptoRow : OpenClaim := { program := "ytlkmbdfhdknlgaagreatdoor", sum := "ddc121dae36c936ecd6864616a85fd3af5ffc18aff7207dff8b8a3fae3049b1c", func := "lockorder/lockorderlaw27.ReplayReach", spec := "replayReach", unfollowed := true, recurses := true, named := ["lockorder/grammar.calling"], apart := false, laid := [("lockorder/grammar.calling", laid_lockorder_grammar_calling)], narrowed := true }
def ReplayReachUptoSaid : Prop := replayReachUptoRow.holds Tryz.pinned (OpenSpec.upto replayReachSpec)

end Rows
end Go.Proofs.YtlkmbdfhdknlgaaGreatDoor
