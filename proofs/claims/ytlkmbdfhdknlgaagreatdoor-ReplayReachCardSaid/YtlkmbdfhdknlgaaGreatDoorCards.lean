/-
  DERIVED. GIVEN WITH THE SEED: THE CARDS: each row of YtlkmbdfhdknlgaaGreatDoorRows.lean that lists a variable, with what it lists TIED to the program's text (the seventh form; the later family's looks); each row that meets fmt, with fmt's text TOLD by the authors' own Lean function (tested against real Go, not proved from fmt's source: count such statements apart). THE CARD IS WHAT COUNTS. Prove the row's statement (the work); the ties are given (YtlkmbdfhdknlgaaGreatDoorTie.lean); close each card by the builder's one call (the guide's Derived/Test/ToyasCard.lean, 'card_holds'). Laid BY PROGRAM, IN A SANDBOX (cutbox-door.mjs). By AI agents, Wed Nov 11 2026. No macro, syntax, notation, axiom, sorry.
-/
import Derived.Test.YtlkmbdfhdknlgaaGreatDoorRows
import GoSem.ClaimSeven
namespace Go.Proofs.YtlkmbdfhdknlgaaGreatDoor
namespace Rows

/-- THE TIED CARD OF 'lockorderlaw27.ReplayCheck'. -/
def replayCheckCard : Claim7 := { stood := { row := replayCheckRow, standIns := [], harness := (true, "3644b7c26e8cba4363a5b36de7c8ea6a1cd179b9ff20bc40b08bab7b84ece1fc"), looks := false }, kinds := [], alts := [], laidByText := true, laidKinds := [.data], laidTests := true, laidLooks := .later }
def ReplayCheckCardSaid : Prop := Claim7.holds Tryz.pinned (.plain (OpenSpec.ofChange replayCheckSpec)) replayCheckCard

/-- THE TIED CARD OF 'lockorderlaw27.ReplayRaw'. -/
def replayRawCard : Claim7 := { stood := { row := replayRawRow, standIns := [], harness := (true, "3644b7c26e8cba4363a5b36de7c8ea6a1cd179b9ff20bc40b08bab7b84ece1fc"), looks := false }, kinds := [], alts := [], laidByText := true, laidKinds := [.data], laidTests := true, laidLooks := .later }
def ReplayRawCardSaid : Prop := Claim7.holds Tryz.pinned (.plain (OpenSpec.ofChange replayRawSpec)) replayRawCard

/-- THE TIED CARD OF 'lockorderlaw27.ReplayReach'. -/
def replayReachCard : Claim7 := { stood := { row := replayReachRow, standIns := [], harness := (true, "3644b7c26e8cba4363a5b36de7c8ea6a1cd179b9ff20bc40b08bab7b84ece1fc"), looks := false }, kinds := [], alts := [], laidByText := true, laidKinds := [.data], laidTests := true, laidLooks := .later }
def ReplayReachCardSaid : Prop := Claim7.holds Tryz.pinned (.plain (OpenSpec.ofChange replayReachSpec)) replayReachCard

/-- THE SECOND FORM's CARD OF 'lockorderlaw27.ReplayCheck'. -/
def replayCheckUptoCard : Claim7 := { stood := { row := replayCheckUptoRow, standIns := [], harness := (true, "3644b7c26e8cba4363a5b36de7c8ea6a1cd179b9ff20bc40b08bab7b84ece1fc"), looks := false }, kinds := [], alts := [], laidByText := true, laidKinds := [.data], laidTests := true, laidLooks := .later }
def ReplayCheckUptoCardSaid : Prop := Claim7.holds Tryz.pinned (.plain (OpenSpec.upto replayCheckSpec)) replayCheckUptoCard

/-- THE SECOND FORM's CARD OF 'lockorderlaw27.ReplayRaw'. -/
def replayRawUptoCard : Claim7 := { stood := { row := replayRawUptoRow, standIns := [], harness := (true, "3644b7c26e8cba4363a5b36de7c8ea6a1cd179b9ff20bc40b08bab7b84ece1fc"), looks := false }, kinds := [], alts := [], laidByText := true, laidKinds := [.data], laidTests := true, laidLooks := .later }
def ReplayRawUptoCardSaid : Prop := Claim7.holds Tryz.pinned (.plain (OpenSpec.upto replayRawSpec)) replayRawUptoCard

/-- THE SECOND FORM's CARD OF 'lockorderlaw27.ReplayReach'. -/
def replayReachUptoCard : Claim7 := { stood := { row := replayReachUptoRow, standIns := [], harness := (true, "3644b7c26e8cba4363a5b36de7c8ea6a1cd179b9ff20bc40b08bab7b84ece1fc"), looks := false }, kinds := [], alts := [], laidByText := true, laidKinds := [.data], laidTests := true, laidLooks := .later }
def ReplayReachUptoCardSaid : Prop := Claim7.holds Tryz.pinned (.plain (OpenSpec.upto replayReachSpec)) replayReachUptoCard
end Rows
end Go.Proofs.YtlkmbdfhdknlgaaGreatDoor
