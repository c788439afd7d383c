/-
  DERIVED. GIVEN WITH THE SEED: THE CARDS: each row of YtcalbpdcjklffaaGreatDoorRows.lean that lists a variable, with what it lists TIED to the program's text (the seventh form; the later family's looks); each row that meets fmt, with fmt's text TOLD by the authors' own Lean function (tested against real Go, not proved from fmt's source: count such statements apart). THE CARD IS WHAT COUNTS. Prove the row's statement (the work); the ties are given (YtcalbpdcjklffaaGreatDoorTie.lean); close each card by the builder's one call (the guide's Derived/Test/ToyasCard.lean, 'card_holds'). Laid BY PROGRAM, IN A SANDBOX (cutbox-door.mjs). By AI agents, Wed Nov 11 2026. No macro, syntax, notation, axiom, sorry.
-/
import Derived.Test.YtcalbpdcjklffaaGreatDoorRows
import GoSem.ClaimSeven
namespace Go.Proofs.YtcalbpdcjklffaaGreatDoor
namespace Rows

/-- THE TIED CARD OF 'postbaglaw18.RetryBounces'. -/
def retryBouncesCard : Claim7 := { stood := { row := retryBouncesRow, standIns := [], harness := (true, "7ad6ace1c6ce8a8a6896839f6703b83d24cda89dd9740a650bb4c59ce44eb584"), looks := true }, kinds := [], alts := [], laidByText := true, laidKinds := [.data, .data, .data, .data, .sentinel, .sentinel, .sentinel, .sentinel, .sentinel, .sentinel, .sentinel, .sentinel, .sentinel, .sentinel, .sentinel, .sentinel, .sentinel, .data, .pinned], laidTests := true, laidLooks := .later }
def RetryBouncesCardSaid : Prop := Claim7.holds Tryz.pinned (.plain (OpenSpec.ofChange retryBouncesSpec)) retryBouncesCard

/-- THE SECOND FORM's CARD OF 'postbaglaw18.RetryBounces'. -/
def retryBouncesUptoCard : Claim7 := { stood := { row := retryBouncesUptoRow, standIns := [], harness := (true, "7ad6ace1c6ce8a8a6896839f6703b83d24cda89dd9740a650bb4c59ce44eb584"), looks := true }, kinds := [], alts := [], laidByText := true, laidKinds := [.data, .data, .data, .data, .sentinel, .sentinel, .sentinel, .sentinel, .sentinel, .sentinel, .sentinel, .sentinel, .sentinel, .sentinel, .sentinel, .sentinel, .sentinel, .data, .pinned], laidTests := true, laidLooks := .later }
def RetryBouncesUptoCardSaid : Prop := Claim7.holds Tryz.pinned (.plain (OpenSpec.upto retryBouncesSpec)) retryBouncesUptoCard
end Rows
end Go.Proofs.YtcalbpdcjklffaaGreatDoor
