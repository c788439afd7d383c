/-
  DERIVED. GIVEN WITH THE SEED: THE CARDS: each row of YtfaojafhamhncaaDoorRows.lean that lists a variable, with what it lists TIED to the program's text (the seventh form; the later family's looks); each row that meets fmt, with fmt's text TOLD by the authors' own Lean function (tested against real Go, not proved from fmt's source: count such statements apart). THE CARD IS WHAT COUNTS. Prove the row's statement (the work); the ties are given (YtfaojafhamhncaaDoorTie.lean); close each card by the builder's one call (the guide's Derived/Test/ToyasCard.lean, 'card_holds'). Laid BY PROGRAM, IN A SANDBOX (cutbox-door.mjs). By AI agents, Wed Nov 11 2026. No macro, syntax, notation, axiom, sorry.
-/
import Derived.Test.YtfaojafhamhncaaDoorRows
import GoSem.ClaimSeven
namespace Go.Proofs.YtfaojafhamhncaaDoor
namespace Rows

/-- THE TIED CARD OF 'postbaglaw14.SeqsHas'. -/
def seqsHasCard : Claim7 := { stood := { row := seqsHasRow, standIns := [], harness := (true, "80b76ddf2748f08208f64246db963dac90144597766c54e5466ab20787e9c225"), looks := true }, kinds := [], alts := [], laidByText := true, laidKinds := [.data, .sentinel, .pinned], laidTests := true, laidLooks := .later }
def SeqsHasCardSaid : Prop := Claim7.holds Tryd.pinned (.plain (OpenSpec.ofChange seqsHasSpec)) seqsHasCard

/-- THE TIED CARD OF 'postbaglaw14.SeqsTurns'. -/
def seqsTurnsCard : Claim7 := { stood := { row := seqsTurnsRow, standIns := [], harness := (true, "80b76ddf2748f08208f64246db963dac90144597766c54e5466ab20787e9c225"), looks := true }, kinds := [], alts := [], laidByText := true, laidKinds := [.data, .sentinel, .pinned], laidTests := true, laidLooks := .later }
def SeqsTurnsCardSaid : Prop := Claim7.holds Tryd.pinned (.plain (OpenSpec.ofChange seqsTurnsSpec)) seqsTurnsCard

/-- THE TIED CARD OF 'postbaglaw14.SeqsJoins'. -/
def seqsJoinsCard : Claim7 := { stood := { row := seqsJoinsRow, standIns := [], harness := (true, "80b76ddf2748f08208f64246db963dac90144597766c54e5466ab20787e9c225"), looks := true }, kinds := [], alts := [], laidByText := true, laidKinds := [.data, .sentinel, .pinned], laidTests := true, laidLooks := .later }
def SeqsJoinsCardSaid : Prop := Claim7.holds Tryd.pinned (.plain (OpenSpec.ofChange seqsJoinsSpec)) seqsJoinsCard

/-- THE TIED CARD OF 'postbaglaw14.SeqsBack'. -/
def seqsBackCard : Claim7 := { stood := { row := seqsBackRow, standIns := [], harness := (true, "80b76ddf2748f08208f64246db963dac90144597766c54e5466ab20787e9c225"), looks := true }, kinds := [], alts := [], laidByText := true, laidKinds := [.data, .sentinel, .pinned], laidTests := true, laidLooks := .later }
def SeqsBackCardSaid : Prop := Claim7.holds Tryd.pinned (.plain (OpenSpec.ofChange seqsBackSpec)) seqsBackCard

/-- THE TIED CARD OF 'postbaglaw14.SeqsSets'. -/
def seqsSetsCard : Claim7 := { stood := { row := seqsSetsRow, standIns := [], harness := (true, "80b76ddf2748f08208f64246db963dac90144597766c54e5466ab20787e9c225"), looks := true }, kinds := [], alts := [], laidByText := true, laidKinds := [.data, .sentinel, .sentinel, .sentinel, .sentinel, .sentinel, .sentinel, .sentinel, .sentinel, .sentinel, .sentinel, .sentinel, .sentinel, .sentinel, .pinned], laidTests := true, laidLooks := .later }
def SeqsSetsCardSaid : Prop := Claim7.holds Tryd.pinned (.plain (OpenSpec.ofChange seqsSetsSpec)) seqsSetsCard

/-- THE TIED CARD OF 'postbaglaw14.SeqsFlags'. -/
def seqsFlagsCard : Claim7 := { stood := { row := seqsFlagsRow, standIns := [], harness := (true, "80b76ddf2748f08208f64246db963dac90144597766c54e5466ab20787e9c225"), looks := true }, kinds := [], alts := [], laidByText := true, laidKinds := [.data, .sentinel, .sentinel, .sentinel, .sentinel, .sentinel, .sentinel, .sentinel, .sentinel, .sentinel, .sentinel, .sentinel, .sentinel, .sentinel, .pinned], laidTests := true, laidLooks := .later }
def SeqsFlagsCardSaid : Prop := Claim7.holds Tryd.pinned (.plain (OpenSpec.ofChange seqsFlagsSpec)) seqsFlagsCard

/-- THE TIED CARD OF 'postbaglaw14.SeqsNumbers'. -/
def seqsNumbersCard : Claim7 := { stood := { row := seqsNumbersRow, standIns := [], harness := (true, "80b76ddf2748f08208f64246db963dac90144597766c54e5466ab20787e9c225"), looks := true }, kinds := [], alts := [], laidByText := true, laidKinds := [.data, .sentinel, .sentinel, .sentinel, .sentinel, .sentinel, .sentinel, .sentinel, .sentinel, .sentinel, .sentinel, .sentinel, .sentinel, .sentinel, .pinned], laidTests := true, laidLooks := .later }
def SeqsNumbersCardSaid : Prop := Claim7.holds Tryd.pinned (.plain (OpenSpec.ofChange seqsNumbersSpec)) seqsNumbersCard

/-- THE TIED CARD OF 'postbaglaw14.SeqsTexts'. -/
def seqsTextsCard : Claim7 := { stood := { row := seqsTextsRow, standIns := [], harness := (true, "80b76ddf2748f08208f64246db963dac90144597766c54e5466ab20787e9c225"), looks := true }, kinds := [], alts := [], laidByText := true, laidKinds := [.data, .data, .data, .data, .sentinel, .sentinel, .sentinel, .sentinel, .sentinel, .sentinel, .sentinel, .sentinel, .sentinel, .sentinel, .sentinel, .sentinel, .sentinel, .pinned], laidTests := true, laidLooks := .later }
def SeqsTextsCardSaid : Prop := Claim7.holds Tryd.pinned (.plain (OpenSpec.ofChange seqsTextsSpec)) seqsTextsCard

/-- THE SECOND FORM's CARD OF 'postbaglaw14.SeqsHas'. -/
def seqsHasUptoCard : Claim7 := { stood := { row := seqsHasUptoRow, standIns := [], harness := (true, "80b76ddf2748f08208f64246db963dac90144597766c54e5466ab20787e9c225"), looks := true }, kinds := [], alts := [], laidByText := true, laidKinds := [.data, .sentinel, .pinned], laidTests := true, laidLooks := .later }
def SeqsHasUptoCardSaid : Prop := Claim7.holds Tryd.pinned (.plain (OpenSpec.upto seqsHasSpec)) seqsHasUptoCard

/-- THE SECOND FORM's CARD OF 'postbaglaw14.SeqsTurns'. -/
def seqsTurnsUptoCard : Claim7 := { stood := { row := seqsTurnsUptoRow, standIns := [], harness := (true, "80b76ddf2748f08208f64246db963dac90144597766c54e5466ab20787e9c225"), looks := true }, kinds := [], alts := [], laidByText := true, laidKinds := [.data, .sentinel, .pinned], laidTests := true, laidLooks := .later }
def SeqsTurnsUptoCardSaid : Prop := Claim7.holds Tryd.pinned (.plain (OpenSpec.upto seqsTurnsSpec)) seqsTurnsUptoCard

/-- THE SECOND FORM's CARD OF 'postbaglaw14.SeqsJoins'. -/
def seqsJoinsUptoCard : Claim7 := { stood := { row := seqsJoinsUptoRow, standIns := [], harness := (true, "80b76ddf2748f08208f64246db963dac90144597766c54e5466ab20787e9c225"), looks := true }, kinds := [], alts := [], laidByText := true, laidKinds := [.data, .sentinel, .pinned], laidTests := true, laidLooks := .later }
def SeqsJoinsUptoCardSaid : Prop := Claim7.holds Tryd.pinned (.plain (OpenSpec.upto seqsJoinsSpec)) seqsJoinsUptoCard

/-- THE SECOND FORM's CARD OF 'postbaglaw14.SeqsBack'. -/
def seqsBackUptoCard : Claim7 := { stood := { row := seqsBackUptoRow, standIns := [], harness := (true, "80b76ddf2748f08208f64246db963dac90144597766c54e5466ab20787e9c225"), looks := true }, kinds := [], alts := [], laidByText := true, laidKinds := [.data, .sentinel, .pinned], laidTests := true, laidLooks := .later }
def SeqsBackUptoCardSaid : Prop := Claim7.holds Tryd.pinned (.plain (OpenSpec.upto seqsBackSpec)) seqsBackUptoCard

/-- THE SECOND FORM's CARD OF 'postbaglaw14.SeqsSets'. -/
def seqsSetsUptoCard : Claim7 := { stood := { row := seqsSetsUptoRow, standIns := [], harness := (true, "80b76ddf2748f08208f64246db963dac90144597766c54e5466ab20787e9c225"), looks := true }, kinds := [], alts := [], laidByText := true, laidKinds := [.data, .sentinel, .sentinel, .sentinel, .sentinel, .sentinel, .sentinel, .sentinel, .sentinel, .sentinel, .sentinel, .sentinel, .sentinel, .sentinel, .pinned], laidTests := true, laidLooks := .later }
def SeqsSetsUptoCardSaid : Prop := Claim7.holds Tryd.pinned (.plain (OpenSpec.upto seqsSetsSpec)) seqsSetsUptoCard

/-- THE SECOND FORM's CARD OF 'postbaglaw14.SeqsFlags'. -/
def seqsFlagsUptoCard : Claim7 := { stood := { row := seqsFlagsUptoRow, standIns := [], harness := (true, "80b76ddf2748f08208f64246db963dac90144597766c54e5466ab20787e9c225"), looks := true }, kinds := [], alts := [], laidByText := true, laidKinds := [.data, .sentinel, .sentinel, .sentinel, .sentinel, .sentinel, .sentinel, .sentinel, .sentinel, .sentinel, .sentinel, .sentinel, .sentinel, .sentinel, .pinned], laidTests := true, laidLooks := .later }
def SeqsFlagsUptoCardSaid : Prop := Claim7.holds Tryd.pinned (.plain (OpenSpec.upto seqsFlagsSpec)) seqsFlagsUptoCard

/-- THE SECOND FORM's CARD OF 'postbaglaw14.SeqsNumbers'. -/
def seqsNumbersUptoCard : Claim7 := { stood := { row := seqsNumbersUptoRow, standIns := [], harness := (true, "80b76ddf2748f08208f64246db963dac90144597766c54e5466ab20787e9c225"), looks := true }, kinds := [], alts := [], laidByText := true, laidKinds := [.data, .sentinel, .sentinel, .sentinel, .sentinel, .sentinel, .sentinel, .sentinel, .sentinel, .sentinel, .sentinel, .sentinel, .sentinel, .sentinel, .pinned], laidTests := true, laidLooks := .later }
def SeqsNumbersUptoCardSaid : Prop := Claim7.holds Tryd.pinned (.plain (OpenSpec.upto seqsNumbersSpec)) seqsNumbersUptoCard

/-- THE SECOND FORM's CARD OF 'postbaglaw14.SeqsTexts'. -/
def seqsTextsUptoCard : Claim7 := { stood := { row := seqsTextsUptoRow, standIns := [], harness := (true, "80b76ddf2748f08208f64246db963dac90144597766c54e5466ab20787e9c225"), looks := true }, kinds := [], alts := [], laidByText := true, laidKinds := [.data, .data, .data, .data, .sentinel, .sentinel, .sentinel, .sentinel, .sentinel, .sentinel, .sentinel, .sentinel, .sentinel, .sentinel, .sentinel, .sentinel, .sentinel, .pinned], laidTests := true, laidLooks := .later }
def SeqsTextsUptoCardSaid : Prop := Claim7.holds Tryd.pinned (.plain (OpenSpec.upto seqsTextsSpec)) seqsTextsUptoCard
end Rows
end Go.Proofs.YtfaojafhamhncaaDoor
