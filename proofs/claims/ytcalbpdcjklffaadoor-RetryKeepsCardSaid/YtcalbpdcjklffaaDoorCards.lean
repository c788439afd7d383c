/-
  DERIVED. GIVEN WITH THE SEED: THE CARDS: each row of YtcalbpdcjklffaaDoorRows.lean that lists a variable, with what it lists TIED to the program's text (the seventh form; the later family's looks); each row that meets fmt, with fmt's text TOLD by the authors' own Lean function (tested against real Go, not proved from fmt's source: count such statements apart). THE CARD IS WHAT COUNTS. Prove the row's statement (the work); the ties are given (YtcalbpdcjklffaaDoorTie.lean); close each card by the builder's one call (the guide's Derived/Test/ToyasCard.lean, 'card_holds'). Laid BY PROGRAM, IN A SANDBOX (cutbox-door.mjs). By AI agents, Wed Nov 11 2026. No macro, syntax, notation, axiom, sorry.
-/
import Derived.Test.YtcalbpdcjklffaaDoorRows
import GoSem.ClaimSeven
namespace Go.Proofs.YtcalbpdcjklffaaDoor
namespace Rows

/-- THE TIED CARD OF 'postbaglaw18.RetryEnds'. -/
def retryEndsCard : Claim7 := { stood := { row := retryEndsRow, standIns := [], harness := (true, "bf341dddc78449a5761186bdf32c4fcba850edbd52a366e1a5565c9501b8133a"), looks := true }, kinds := [], alts := [], laidByText := true, laidKinds := [.sentinel, .data], laidTests := true, laidLooks := .later }
def RetryEndsCardSaid : Prop := Claim7.holds Tryd.pinned (.plain (OpenSpec.ofChange retryEndsSpec)) retryEndsCard

/-- THE TIED CARD OF 'postbaglaw18.RetryDue'. -/
def retryDueCard : Claim7 := { stood := { row := retryDueRow, standIns := [], harness := (true, "bf341dddc78449a5761186bdf32c4fcba850edbd52a366e1a5565c9501b8133a"), looks := true }, kinds := [], alts := [], laidByText := true, laidKinds := [.sentinel, .data], laidTests := true, laidLooks := .later }
def RetryDueCardSaid : Prop := Claim7.holds Tryd.pinned (.plain (OpenSpec.ofChange retryDueSpec)) retryDueCard

/-- THE TIED CARD OF 'postbaglaw18.RetryNext'. -/
def retryNextCard : Claim7 := { stood := { row := retryNextRow, standIns := [], harness := (true, "bf341dddc78449a5761186bdf32c4fcba850edbd52a366e1a5565c9501b8133a"), looks := true }, kinds := [], alts := [], laidByText := true, laidKinds := [.sentinel, .sentinel, .sentinel, .sentinel, .sentinel, .sentinel, .sentinel, .sentinel, .sentinel, .sentinel, .sentinel, .sentinel, .sentinel, .data], laidTests := true, laidLooks := .later }
def RetryNextCardSaid : Prop := Claim7.holds Tryd.pinned (.plain (OpenSpec.ofChange retryNextSpec)) retryNextCard

/-- THE TIED CARD OF 'postbaglaw08.PathParts'. -/
def pathPartsCard : Claim7 := { stood := { row := pathPartsRow, standIns := [], harness := (true, "bf341dddc78449a5761186bdf32c4fcba850edbd52a366e1a5565c9501b8133a"), looks := true }, kinds := [], alts := [], laidByText := true, laidKinds := [.data, .sentinel, .pinned], laidTests := true, laidLooks := .later }
def PathPartsCardSaid : Prop := Claim7.holds Tryd.pinned (.plain (OpenSpec.ofChange pathPartsSpec)) pathPartsCard

/-- THE TIED CARD OF 'postbaglaw08.PathDots'. -/
def pathDotsCard : Claim7 := { stood := { row := pathDotsRow, standIns := [], harness := (true, "bf341dddc78449a5761186bdf32c4fcba850edbd52a366e1a5565c9501b8133a"), looks := true }, kinds := [], alts := [], laidByText := true, laidKinds := [.data, .sentinel, .pinned], laidTests := true, laidLooks := .later }
def PathDotsCardSaid : Prop := Claim7.holds Tryd.pinned (.plain (OpenSpec.ofChange pathDotsSpec)) pathDotsCard

/-- THE TIED CARD OF 'postbaglaw08.PathParses'. -/
def pathParsesCard : Claim7 := { stood := { row := pathParsesRow, standIns := [], harness := (true, "bf341dddc78449a5761186bdf32c4fcba850edbd52a366e1a5565c9501b8133a"), looks := true }, kinds := [], alts := [], laidByText := true, laidKinds := [.data, .sentinel, .sentinel, .sentinel, .sentinel, .sentinel, .sentinel, .sentinel, .sentinel, .sentinel, .sentinel, .sentinel, .sentinel, .sentinel, .pinned], laidTests := true, laidLooks := .later }
def PathParsesCardSaid : Prop := Claim7.holds Tryd.pinned (.plain (OpenSpec.ofChange pathParsesSpec)) pathParsesCard

/-- THE TIED CARD OF 'postbaglaw08.PathTexts'. -/
def pathTextsCard : Claim7 := { stood := { row := pathTextsRow, standIns := [], harness := (true, "bf341dddc78449a5761186bdf32c4fcba850edbd52a366e1a5565c9501b8133a"), looks := true }, kinds := [], alts := [], laidByText := true, laidKinds := [.data, .sentinel, .sentinel, .sentinel, .sentinel, .sentinel, .sentinel, .sentinel, .sentinel, .sentinel, .sentinel, .sentinel, .sentinel, .sentinel, .pinned], laidTests := true, laidLooks := .later }
def PathTextsCardSaid : Prop := Claim7.holds Tryd.pinned (.plain (OpenSpec.ofChange pathTextsSpec)) pathTextsCard

/-- THE TIED CARD OF 'postbaglaw18.RetryStamps'. -/
def retryStampsCard : Claim7 := { stood := { row := retryStampsRow, standIns := [], harness := (true, "bf341dddc78449a5761186bdf32c4fcba850edbd52a366e1a5565c9501b8133a"), looks := true }, kinds := [], alts := [], laidByText := true, laidKinds := [.data, .data, .data, .data, .sentinel, .sentinel, .sentinel, .sentinel, .sentinel, .sentinel, .sentinel, .sentinel, .sentinel, .sentinel, .sentinel, .sentinel, .sentinel, .data, .pinned], laidTests := true, laidLooks := .later }
def RetryStampsCardSaid : Prop := Claim7.holds Tryd.pinned (.plain (OpenSpec.ofChange retryStampsSpec)) retryStampsCard

/-- THE TIED CARD OF 'postbaglaw18.RetryKeeps'. -/
def retryKeepsCard : Claim7 := { stood := { row := retryKeepsRow, standIns := [], harness := (true, "bf341dddc78449a5761186bdf32c4fcba850edbd52a366e1a5565c9501b8133a"), looks := true }, kinds := [], alts := [], laidByText := true, laidKinds := [.data, .data, .data, .data, .sentinel, .sentinel, .sentinel, .data, .pinned], laidTests := true, laidLooks := .later }
def RetryKeepsCardSaid : Prop := Claim7.holds Tryd.pinned (.plain (OpenSpec.ofChange retryKeepsSpec)) retryKeepsCard

/-- THE SECOND FORM's CARD OF 'postbaglaw18.RetryEnds'. -/
def retryEndsUptoCard : Claim7 := { stood := { row := retryEndsUptoRow, standIns := [], harness := (true, "bf341dddc78449a5761186bdf32c4fcba850edbd52a366e1a5565c9501b8133a"), looks := true }, kinds := [], alts := [], laidByText := true, laidKinds := [.sentinel, .data], laidTests := true, laidLooks := .later }
def RetryEndsUptoCardSaid : Prop := Claim7.holds Tryd.pinned (.plain (OpenSpec.upto retryEndsSpec)) retryEndsUptoCard

/-- THE SECOND FORM's CARD OF 'postbaglaw18.RetryDue'. -/
def retryDueUptoCard : Claim7 := { stood := { row := retryDueUptoRow, standIns := [], harness := (true, "bf341dddc78449a5761186bdf32c4fcba850edbd52a366e1a5565c9501b8133a"), looks := true }, kinds := [], alts := [], laidByText := true, laidKinds := [.sentinel, .data], laidTests := true, laidLooks := .later }
def RetryDueUptoCardSaid : Prop := Claim7.holds Tryd.pinned (.plain (OpenSpec.upto retryDueSpec)) retryDueUptoCard

/-- THE SECOND FORM's CARD OF 'postbaglaw18.RetryNext'. -/
def retryNextUptoCard : Claim7 := { stood := { row := retryNextUptoRow, standIns := [], harness := (true, "bf341dddc78449a5761186bdf32c4fcba850edbd52a366e1a5565c9501b8133a"), looks := true }, kinds := [], alts := [], laidByText := true, laidKinds := [.sentinel, .sentinel, .sentinel, .sentinel, .sentinel, .sentinel, .sentinel, .sentinel, .sentinel, .sentinel, .sentinel, .sentinel, .sentinel, .data], laidTests := true, laidLooks := .later }
def RetryNextUptoCardSaid : Prop := Claim7.holds Tryd.pinned (.plain (OpenSpec.upto retryNextSpec)) retryNextUptoCard

/-- THE SECOND FORM's CARD OF 'postbaglaw08.PathParts'. -/
def pathPartsUptoCard : Claim7 := { stood := { row := pathPartsUptoRow, standIns := [], harness := (true, "bf341dddc78449a5761186bdf32c4fcba850edbd52a366e1a5565c9501b8133a"), looks := true }, kinds := [], alts := [], laidByText := true, laidKinds := [.data, .sentinel, .pinned], laidTests := true, laidLooks := .later }
def PathPartsUptoCardSaid : Prop := Claim7.holds Tryd.pinned (.plain (OpenSpec.upto pathPartsSpec)) pathPartsUptoCard

/-- THE SECOND FORM's CARD OF 'postbaglaw08.PathDots'. -/
def pathDotsUptoCard : Claim7 := { stood := { row := pathDotsUptoRow, standIns := [], harness := (true, "bf341dddc78449a5761186bdf32c4fcba850edbd52a366e1a5565c9501b8133a"), looks := true }, kinds := [], alts := [], laidByText := true, laidKinds := [.data, .sentinel, .pinned], laidTests := true, laidLooks := .later }
def PathDotsUptoCardSaid : Prop := Claim7.holds Tryd.pinned (.plain (OpenSpec.upto pathDotsSpec)) pathDotsUptoCard

/-- THE SECOND FORM's CARD OF 'postbaglaw08.PathParses'. -/
def pathParsesUptoCard : Claim7 := { stood := { row := pathParsesUptoRow, standIns := [], harness := (true, "bf341dddc78449a5761186bdf32c4fcba850edbd52a366e1a5565c9501b8133a"), looks := true }, kinds := [], alts := [], laidByText := true, laidKinds := [.data, .sentinel, .sentinel, .sentinel, .sentinel, .sentinel, .sentinel, .sentinel, .sentinel, .sentinel, .sentinel, .sentinel, .sentinel, .sentinel, .pinned], laidTests := true, laidLooks := .later }
def PathParsesUptoCardSaid : Prop := Claim7.holds Tryd.pinned (.plain (OpenSpec.upto pathParsesSpec)) pathParsesUptoCard

/-- THE SECOND FORM's CARD OF 'postbaglaw08.PathTexts'. -/
def pathTextsUptoCard : Claim7 := { stood := { row := pathTextsUptoRow, standIns := [], harness := (true, "bf341dddc78449a5761186bdf32c4fcba850edbd52a366e1a5565c9501b8133a"), looks := true }, kinds := [], alts := [], laidByText := true, laidKinds := [.data, .sentinel, .sentinel, .sentinel, .sentinel, .sentinel, .sentinel, .sentinel, .sentinel, .sentinel, .sentinel, .sentinel, .sentinel, .sentinel, .pinned], laidTests := true, laidLooks := .later }
def PathTextsUptoCardSaid : Prop := Claim7.holds Tryd.pinned (.plain (OpenSpec.upto pathTextsSpec)) pathTextsUptoCard

/-- THE SECOND FORM's CARD OF 'postbaglaw18.RetryStamps'. -/
def retryStampsUptoCard : Claim7 := { stood := { row := retryStampsUptoRow, standIns := [], harness := (true, "bf341dddc78449a5761186bdf32c4fcba850edbd52a366e1a5565c9501b8133a"), looks := true }, kinds := [], alts := [], laidByText := true, laidKinds := [.data, .data, .data, .data, .sentinel, .sentinel, .sentinel, .sentinel, .sentinel, .sentinel, .sentinel, .sentinel, .sentinel, .sentinel, .sentinel, .sentinel, .sentinel, .data, .pinned], laidTests := true, laidLooks := .later }
def RetryStampsUptoCardSaid : Prop := Claim7.holds Tryd.pinned (.plain (OpenSpec.upto retryStampsSpec)) retryStampsUptoCard

/-- THE SECOND FORM's CARD OF 'postbaglaw18.RetryKeeps'. -/
def retryKeepsUptoCard : Claim7 := { stood := { row := retryKeepsUptoRow, standIns := [], harness := (true, "bf341dddc78449a5761186bdf32c4fcba850edbd52a366e1a5565c9501b8133a"), looks := true }, kinds := [], alts := [], laidByText := true, laidKinds := [.data, .data, .data, .data, .sentinel, .sentinel, .sentinel, .data, .pinned], laidTests := true, laidLooks := .later }
def RetryKeepsUptoCardSaid : Prop := Claim7.holds Tryd.pinned (.plain (OpenSpec.upto retryKeepsSpec)) retryKeepsUptoCard
end Rows
end Go.Proofs.YtcalbpdcjklffaaDoor
