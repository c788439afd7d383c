/-
  DERIVED. GIVEN WITH THE SEED: THE CARDS: each row of YtgmfhldfdnnafaaGreatDoorRows.lean that lists a variable, with what it lists TIED to the program's text (the seventh form; the later family's looks); each row that meets fmt, with fmt's text TOLD by the authors' own Lean function (tested against real Go, not proved from fmt's source: count such statements apart). THE CARD IS WHAT COUNTS. Prove the row's statement (the work); the ties are given (YtgmfhldfdnnafaaGreatDoorTie.lean); close each card by the builder's one call (the guide's Derived/Test/ToyasCard.lean, 'card_holds'). Laid BY PROGRAM, IN A SANDBOX (cutbox-door.mjs). By AI agents, Wed Nov 11 2026. No macro, syntax, notation, axiom, sorry.
-/
import Derived.Test.YtgmfhldfdnnafaaGreatDoorRows
import GoSem.ClaimSeven
namespace Go.Proofs.YtgmfhldfdnnafaaGreatDoor
namespace Rows

/-- THE TIED CARD OF 'postbaglaw21.ImapLines'. -/
def imapLinesCard : Claim7 := { stood := { row := imapLinesRow, standIns := [], harness := (true, "be8324f202622ad4253baa9c7167b7fa59d9c2307b215fc9549bf95905915587"), looks := true }, kinds := [], alts := [], laidByText := true, laidKinds := [.data, .sentinel, .sentinel, .pinned], laidTests := true, laidLooks := .later }
def ImapLinesCardSaid : Prop := Claim7.holds Tryz.pinned (.plain (OpenSpec.ofChange imapLinesSpec)) imapLinesCard

/-- THE TIED CARD OF 'postbaglaw21.ImapSame'. -/
def imapSameCard : Claim7 := { stood := { row := imapSameRow, standIns := [], harness := (true, "be8324f202622ad4253baa9c7167b7fa59d9c2307b215fc9549bf95905915587"), looks := true }, kinds := [], alts := [], laidByText := true, laidKinds := [.data, .sentinel, .sentinel, .pinned], laidTests := true, laidLooks := .later }
def ImapSameCardSaid : Prop := Claim7.holds Tryz.pinned (.plain (OpenSpec.ofChange imapSameSpec)) imapSameCard

/-- THE TIED CARD OF 'postbaglaw21.ImapStrings'. -/
def imapStringsCard : Claim7 := { stood := { row := imapStringsRow, standIns := [], harness := (true, "be8324f202622ad4253baa9c7167b7fa59d9c2307b215fc9549bf95905915587"), looks := true }, kinds := [], alts := [], laidByText := true, laidKinds := [.data, .sentinel, .sentinel, .pinned], laidTests := true, laidLooks := .later }
def ImapStringsCardSaid : Prop := Claim7.holds Tryz.pinned (.plain (OpenSpec.ofChange imapStringsSpec)) imapStringsCard

/-- THE TIED CARD OF 'postbaglaw21.ImapParses'. -/
def imapParsesCard : Claim7 := { stood := { row := imapParsesRow, standIns := [], harness := (true, "be8324f202622ad4253baa9c7167b7fa59d9c2307b215fc9549bf95905915587"), looks := true }, kinds := [], alts := [], laidByText := true, laidKinds := [.data, .sentinel, .sentinel, .sentinel, .sentinel, .sentinel, .sentinel, .sentinel, .sentinel, .sentinel, .sentinel, .sentinel, .sentinel, .sentinel, .pinned], laidTests := true, laidLooks := .later }
def ImapParsesCardSaid : Prop := Claim7.holds Tryz.pinned (.plain (OpenSpec.ofChange imapParsesSpec)) imapParsesCard

/-- THE SECOND FORM's CARD OF 'postbaglaw21.ImapLines'. -/
def imapLinesUptoCard : Claim7 := { stood := { row := imapLinesUptoRow, standIns := [], harness := (true, "be8324f202622ad4253baa9c7167b7fa59d9c2307b215fc9549bf95905915587"), looks := true }, kinds := [], alts := [], laidByText := true, laidKinds := [.data, .sentinel, .sentinel, .pinned], laidTests := true, laidLooks := .later }
def ImapLinesUptoCardSaid : Prop := Claim7.holds Tryz.pinned (.plain (OpenSpec.upto imapLinesSpec)) imapLinesUptoCard

/-- THE SECOND FORM's CARD OF 'postbaglaw21.ImapSame'. -/
def imapSameUptoCard : Claim7 := { stood := { row := imapSameUptoRow, standIns := [], harness := (true, "be8324f202622ad4253baa9c7167b7fa59d9c2307b215fc9549bf95905915587"), looks := true }, kinds := [], alts := [], laidByText := true, laidKinds := [.data, .sentinel, .sentinel, .pinned], laidTests := true, laidLooks := .later }
def ImapSameUptoCardSaid : Prop := Claim7.holds Tryz.pinned (.plain (OpenSpec.upto imapSameSpec)) imapSameUptoCard

/-- THE SECOND FORM's CARD OF 'postbaglaw21.ImapStrings'. -/
def imapStringsUptoCard : Claim7 := { stood := { row := imapStringsUptoRow, standIns := [], harness := (true, "be8324f202622ad4253baa9c7167b7fa59d9c2307b215fc9549bf95905915587"), looks := true }, kinds := [], alts := [], laidByText := true, laidKinds := [.data, .sentinel, .sentinel, .pinned], laidTests := true, laidLooks := .later }
def ImapStringsUptoCardSaid : Prop := Claim7.holds Tryz.pinned (.plain (OpenSpec.upto imapStringsSpec)) imapStringsUptoCard

/-- THE SECOND FORM's CARD OF 'postbaglaw21.ImapParses'. -/
def imapParsesUptoCard : Claim7 := { stood := { row := imapParsesUptoRow, standIns := [], harness := (true, "be8324f202622ad4253baa9c7167b7fa59d9c2307b215fc9549bf95905915587"), looks := true }, kinds := [], alts := [], laidByText := true, laidKinds := [.data, .sentinel, .sentinel, .sentinel, .sentinel, .sentinel, .sentinel, .sentinel, .sentinel, .sentinel, .sentinel, .sentinel, .sentinel, .sentinel, .pinned], laidTests := true, laidLooks := .later }
def ImapParsesUptoCardSaid : Prop := Claim7.holds Tryz.pinned (.plain (OpenSpec.upto imapParsesSpec)) imapParsesUptoCard
end Rows
end Go.Proofs.YtgmfhldfdnnafaaGreatDoor
