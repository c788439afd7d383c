/-
  NARROWER THAN 'FOR EVERY INPUT', by the rows' own cells (each row's printed sentence says how): ImapLines: laid · ImapSame: laid · ImapStrings: laid · ImapParses: laid.
  DERIVED. THE GIVEN ROWS OF THIS SEAT. 4 by the template 'for every input the law returns true; each argument reads behind the call as it read before'; 0 by the template 'total and deterministic' (their statements: YtgmfhldfdnnafaaGreatDoorTotals.lean).
  GIVEN WITH THE SEED: the statements are not yours to turn. If you find one false, say at which input.
  Laid BY PROGRAM, IN A SANDBOX (cutbox-rows.mjs): the forced cells as the released guide's own fill.sh prints them over the translation fa60b19a6ae2e25d… (all of the seat's roots in one cut). By AI agents, Wed Nov 11 2026. No macro, syntax, notation, axiom, sorry.
-/
import Derived.Test.YtgmfhldfdnnafaaGreatDoorChecked
import GoSem.PinnedTables
import GoSem.Claim
import GoSem.ClaimJoined
import GoSem.ClaimMapViews
import Derived.JoinedTies
import Derived.KernelRfl
namespace Go.Proofs.YtgmfhldfdnnafaaGreatDoor
/- THE CELL 'sum', in the pinned program and in every row, IS THE sha256 OF THE DUMP (.gsa) THAT YtgmfhldfdnnafaaGreatDoorProg.lean LOADS. Nothing in Lean hashes anything: it is a label: what it is worth is what the hold of that sum in a sandbox is worth. -/
noncomputable def Tryz.pinned : Pinned := { name := "ytgmfhldfdnnafaagreatdoor", sum := "fa60b19a6ae2e25dcd321f7bd03d611833de58df5608b6e41cdfb939a2370332", checked := Tryz.checked }
namespace Rows
def none {H : Type} : Left H := { results := [], args := [] }

/- WHAT THE LISTED PACKAGE-LEVEL VARIABLES READ AS WHEN THE CALL BEGINS. Each datum BY PROGRAM (the guide's laid-datum.mjs) off the statement by which the dump's own 'gosem.cut.vars' lays the variable. In a bare row this is a premise. The card (YtgmfhldfdnnafaaGreatDoorCards.lean) ties it to the program's text. -/
def laid_unicode_utf8_acceptRanges {H : Type} : DataW H := .agg [.agg [.lit (.int .u8 128), .lit (.int .u8 191)], .agg [.lit (.int .u8 160), .lit (.int .u8 191)], .agg [.lit (.int .u8 128), .lit (.int .u8 159)], .agg [.lit (.int .u8 144), .lit (.int .u8 191)], .agg [.lit (.int .u8 128), .lit (.int .u8 143)], .agg [.lit (.int .u8 0), .lit (.int .u8 0)], .agg [.lit (.int .u8 0), .lit (.int .u8 0)], .agg [.lit (.int .u8 0), .lit (.int .u8 0)], .agg [.lit (.int .u8 0), .lit (.int .u8 0)], .agg [.lit (.int .u8 0), .lit (.int .u8 0)], .agg [.lit (.int .u8 0), .lit (.int .u8 0)], .agg [.lit (.int .u8 0), .lit (.int .u8 0)], .agg [.lit (.int .u8 0), .lit (.int .u8 0)], .agg [.lit (.int .u8 0), .lit (.int .u8 0)], .agg [.lit (.int .u8 0), .lit (.int .u8 0)], .agg [.lit (.int .u8 0), .lit (.int .u8 0)]]
def laid_postbag_api_ErrRange {H : Type} : DataW H := .iface "*errors.errorString" (.ptr (.agg [.lit (.string [112, 111, 115, 116, 98, 97, 103, 58, 32, 114, 97, 110, 103, 101])]))
def laid_postbag_api_ErrForm {H : Type} : DataW H := .iface "*errors.errorString" (.ptr (.agg [.lit (.string [112, 111, 115, 116, 98, 97, 103, 58, 32, 102, 111, 114, 109])]))
/-- One of Go's own tables, pinned by name: the form's constant. -/
def laid_unicode_utf8_first : DataW Unit := Go.Pinned.utf8First
def laid_postbag_api_ErrLong {H : Type} : DataW H := .iface "*errors.errorString" (.ptr (.agg [.lit (.string [112, 111, 115, 116, 98, 97, 103, 58, 32, 108, 111, 110, 103])]))
def laid_postbag_api_ErrName {H : Type} : DataW H := .iface "*errors.errorString" (.ptr (.agg [.lit (.string [112, 111, 115, 116, 98, 97, 103, 58, 32, 110, 97, 109, 101])]))
def laid_postbag_api_ErrNone {H : Type} : DataW H := .iface "*errors.errorString" (.ptr (.agg [.lit (.string [112, 111, 115, 116, 98, 97, 103, 58, 32, 110, 111, 110, 101])]))
def laid_postbag_api_ErrExists {H : Type} : DataW H := .iface "*errors.errorString" (.ptr (.agg [.lit (.string [112, 111, 115, 116, 98, 97, 103, 58, 32, 101, 120, 105, 115, 116, 115])]))
def laid_postbag_api_ErrQuota {H : Type} : DataW H := .iface "*errors.errorString" (.ptr (.agg [.lit (.string [112, 111, 115, 116, 98, 97, 103, 58, 32, 113, 117, 111, 116, 97])]))
def laid_postbag_api_ErrPower {H : Type} : DataW H := .iface "*errors.errorString" (.ptr (.agg [.lit (.string [112, 111, 115, 116, 98, 97, 103, 58, 32, 112, 111, 119, 101, 114])]))
def laid_postbag_api_ErrState {H : Type} : DataW H := .iface "*errors.errorString" (.ptr (.agg [.lit (.string [112, 111, 115, 116, 98, 97, 103, 58, 32, 115, 116, 97, 116, 101])]))
def laid_postbag_api_ErrSum {H : Type} : DataW H := .iface "*errors.errorString" (.ptr (.agg [.lit (.string [112, 111, 115, 116, 98, 97, 103, 58, 32, 115, 117, 109])]))
def laid_postbag_api_ErrFull {H : Type} : DataW H := .iface "*errors.errorString" (.ptr (.agg [.lit (.string [112, 111, 115, 116, 98, 97, 103, 58, 32, 102, 117, 108, 108])]))
def laid_postbag_api_ErrDepth {H : Type} : DataW H := .iface "*errors.errorString" (.ptr (.agg [.lit (.string [112, 111, 115, 116, 98, 97, 103, 58, 32, 100, 101, 112, 116, 104])]))
def laid_postbag_api_ErrUser {H : Type} : DataW H := .iface "*errors.errorString" (.ptr (.agg [.lit (.string [112, 111, 115, 116, 98, 97, 103, 58, 32, 117, 115, 101, 114])]))

/-- 'postbaglaw21.ImapLines': WHATEVER THE INPUT: true; the input reads as it did. -/
def imapLinesSpec : ChangeSpec := { name := "imapLines", fn := fun _ => fun
  | [d] => { results := [.lit (.bool true)], args := [d] }
  | _ => none }
def imapLinesRow : OpenClaim := { program := "ytgmfhldfdnnafaagreatdoor", sum := "fa60b19a6ae2e25dcd321f7bd03d611833de58df5608b6e41cdfb939a2370332", func := "postbag/postbaglaw21.ImapLines", spec := "imapLines", inPlace := ["internal/bytealg.IndexByteString", "internal/bytealg.IndexString", "internal/bytealg.CountString"], unfollowed := true, recurses := true, named := ["postbag/api.ErrForm", "internal/bytealg.MaxLen", "unicode/utf8.first", "unicode/utf8.acceptRanges", "postbag/api.ErrRange"], apart := false, laid := [("unicode/utf8.acceptRanges", laid_unicode_utf8_acceptRanges), ("postbag/api.ErrRange", laid_postbag_api_ErrRange), ("postbag/api.ErrForm", laid_postbag_api_ErrForm), ("unicode/utf8.first", laid_unicode_utf8_first)] }
def ImapLinesSaid : Prop := imapLinesRow.holds Tryz.pinned (OpenSpec.ofChange imapLinesSpec)

/-- ITS FALSE NEIGHBOUR: 'it returns false'. Refute it at one input. -/
def imapLinesWrong : ChangeSpec := { name := "imapLines", fn := fun _ => fun
  | [d] => { results := [.lit (.bool false)], args := [d] }
  | _ => none }
def ImapLinesWrongFalsely : Prop := imapLinesRow.holds Tryz.pinned (OpenSpec.ofChange imapLinesWrong)

/-- 'postbaglaw21.ImapSame': WHATEVER THE INPUT: true; the input reads as it did. -/
def imapSameSpec : ChangeSpec := { name := "imapSame", fn := fun _ => fun
  | [d1, d2] => { results := [.lit (.bool true)], args := [d1, d2] }
  | _ => none }
def imapSameRow : OpenClaim := { program := "ytgmfhldfdnnafaagreatdoor", sum := "fa60b19a6ae2e25dcd321f7bd03d611833de58df5608b6e41cdfb939a2370332", func := "postbag/postbaglaw21.ImapSame", spec := "imapSame", inPlace := ["internal/bytealg.IndexByteString", "internal/bytealg.IndexString", "internal/bytealg.CountString"], unfollowed := true, recurses := true, named := ["postbag/api.ErrForm", "internal/bytealg.MaxLen", "unicode/utf8.first", "unicode/utf8.acceptRanges", "postbag/api.ErrRange"], apart := false, laid := [("unicode/utf8.acceptRanges", laid_unicode_utf8_acceptRanges), ("postbag/api.ErrRange", laid_postbag_api_ErrRange), ("postbag/api.ErrForm", laid_postbag_api_ErrForm), ("unicode/utf8.first", laid_unicode_utf8_first)] }
def ImapSameSaid : Prop := imapSameRow.holds Tryz.pinned (OpenSpec.ofChange imapSameSpec)

/-- ITS FALSE NEIGHBOUR: 'it returns false'. Refute it at one input. -/
def imapSameWrong : ChangeSpec := { name := "imapSame", fn := fun _ => fun
  | [d1, d2] => { results := [.lit (.bool false)], args := [d1, d2] }
  | _ => none }
def ImapSameWrongFalsely : Prop := imapSameRow.holds Tryz.pinned (OpenSpec.ofChange imapSameWrong)

/-- 'postbaglaw21.ImapStrings': WHATEVER THE INPUT: true; the input reads as it did. -/
def imapStringsSpec : ChangeSpec := { name := "imapStrings", fn := fun _ => fun
  | [d] => { results := [.lit (.bool true)], args := [d] }
  | _ => none }
def imapStringsRow : OpenClaim := { program := "ytgmfhldfdnnafaagreatdoor", sum := "fa60b19a6ae2e25dcd321f7bd03d611833de58df5608b6e41cdfb939a2370332", func := "postbag/postbaglaw21.ImapStrings", spec := "imapStrings", inPlace := ["internal/bytealg.IndexByteString", "internal/bytealg.IndexString", "internal/bytealg.CountString"], unfollowed := true, recurses := true, named := ["postbag/api.ErrForm", "internal/bytealg.MaxLen", "unicode/utf8.first", "unicode/utf8.acceptRanges", "postbag/api.ErrRange"], apart := false, laid := [("unicode/utf8.acceptRanges", laid_unicode_utf8_acceptRanges), ("postbag/api.ErrRange", laid_postbag_api_ErrRange), ("postbag/api.ErrForm", laid_postbag_api_ErrForm), ("unicode/utf8.first", laid_unicode_utf8_first)] }
def ImapStringsSaid : Prop := imapStringsRow.holds Tryz.pinned (OpenSpec.ofChange imapStringsSpec)

/-- ITS FALSE NEIGHBOUR: 'it returns false'. Refute it at one input. -/
def imapStringsWrong : ChangeSpec := { name := "imapStrings", fn := fun _ => fun
  | [d] => { results := [.lit (.bool false)], args := [d] }
  | _ => none }
def ImapStringsWrongFalsely : Prop := imapStringsRow.holds Tryz.pinned (OpenSpec.ofChange imapStringsWrong)

/-- 'postbaglaw21.ImapParses': WHATEVER THE INPUT: true; the input reads as it did. -/
def imapParsesSpec : ChangeSpec := { name := "imapParses", fn := fun _ => fun
  | [d] => { results := [.lit (.bool true)], args := [d] }
  | _ => none }
def imapParsesRow : OpenClaim := { program := "ytgmfhldfdnnafaagreatdoor", sum := "fa60b19a6ae2e25dcd321f7bd03d611833de58df5608b6e41cdfb939a2370332", func := "postbag/postbaglaw21.ImapParses", spec := "imapParses", inPlace := ["internal/bytealg.IndexByteString", "internal/bytealg.IndexString", "internal/bytealg.CountString", "internal/reflectlite.TypeOf"], unfollowed := true, recurses := true, named := ["postbag/api.ErrForm", "internal/bytealg.MaxLen", "unicode/utf8.first", "unicode/utf8.acceptRanges", "postbag/api.ErrRange", "postbag/api.ErrLong", "postbag/api.ErrName", "postbag/api.ErrNone", "postbag/api.ErrExists", "postbag/api.ErrQuota", "postbag/api.ErrPower", "postbag/api.ErrState", "postbag/api.ErrSum", "postbag/api.ErrFull", "postbag/api.ErrDepth", "postbag/api.ErrUser"], apart := false, laid := [("unicode/utf8.acceptRanges", laid_unicode_utf8_acceptRanges), ("postbag/api.ErrRange", laid_postbag_api_ErrRange), ("postbag/api.ErrForm", laid_postbag_api_ErrForm), ("postbag/api.ErrLong", laid_postbag_api_ErrLong), ("postbag/api.ErrName", laid_postbag_api_ErrName), ("postbag/api.ErrNone", laid_postbag_api_ErrNone), ("postbag/api.ErrExists", laid_postbag_api_ErrExists), ("postbag/api.ErrQuota", laid_postbag_api_ErrQuota), ("postbag/api.ErrPower", laid_postbag_api_ErrPower), ("postbag/api.ErrState", laid_postbag_api_ErrState), ("postbag/api.ErrSum", laid_postbag_api_ErrSum), ("postbag/api.ErrFull", laid_postbag_api_ErrFull), ("postbag/api.ErrDepth", laid_postbag_api_ErrDepth), ("postbag/api.ErrUser", laid_postbag_api_ErrUser), ("unicode/utf8.first", laid_unicode_utf8_first)] }
def ImapParsesSaid : Prop := imapParsesRow.holds Tryz.pinned (OpenSpec.ofChange imapParsesSpec)

/-- ITS FALSE NEIGHBOUR: 'it returns false'. Refute it at one input. -/
def imapParsesWrong : ChangeSpec := { name := "imapParses", fn := fun _ => fun
  | [d] => { results := [.lit (.bool false)], args := [d] }
  | _ => none }
def ImapParsesWrongFalsely : Prop := imapParsesRow.holds Tryz.pinned (OpenSpec.ofChange imapParsesWrong)

/- THE SECOND FORM. 'bulk': how many values and letters a reading holds, each counted each time it is reached (what is shared counts as often as it is met; a slice's spare places count too). A statement '..UptoSaid' is the law's where the arguments, and the package variables that the reading takes, are together of bulk at most 1048576: NARROWER than '..Said'. Prove '..Said' where nothing that the law and all that it calls make is longer than what came in: it says more and counts as full. Else prove '..UptoSaid'. A law counts once. -/
mutual
def uptoBulk {H : Type} : DataW H → Nat
  | .lit (.string bytes) => bytes.length + 1
  | .lit _ => 1
  | .nil => 1
  | .ptr d => uptoBulk d + 1
  | .slice elems spare => uptoBulkAll elems + uptoBulkAll spare + 1
  | .agg parts => uptoBulkAll parts + 1
  | .iface _ d => uptoBulk d + 1
  | .map entries => uptoBulkEntries entries + 1
  | .held _ => 1
def uptoBulkAll {H : Type} : List (DataW H) → Nat
  | [] => 0
  | d :: r => uptoBulk d + uptoBulkAll r
def uptoBulkEntries {H : Type} : List (Lit × DataW H) → Nat
  | [] => 0
  | x :: r => uptoBulkEntry x + uptoBulkEntries r
def uptoBulkEntry {H : Type} : Lit × DataW H → Nat
  | (.string bytes, d) => bytes.length + uptoBulk d + 1
  | (_, d) => uptoBulk d + 1
 end
def uptoSmall : (H : Type) → List (DataW H) → Bool := fun _ ds => decide (uptoBulkAll ds ≤ 1048576)
def OpenSpec.upto (s : _root_.Go.ChangeSpec) : _root_.Go.OpenSpec := { _root_.Go.OpenSpec.ofChange s with cond := some uptoSmall }

/-- 'postbaglaw21.ImapLines', WHERE WHAT IT READS IS OF BULK AT MOST 1048576: true; the input reads as it did. -/
def imapLinesUptoRow : OpenClaim := { program := "ytgmfhldfdnnafaagreatdoor", sum := "fa60b19a6ae2e25dcd321f7bd03d611833de58df5608b6e41cdfb939a2370332", func := "postbag/postbaglaw21.ImapLines", spec := "imapLines", inPlace := ["internal/bytealg.IndexByteString", "internal/bytealg.IndexString", "internal/bytealg.CountString"], unfollowed := true, recurses := true, named := ["postbag/api.ErrForm", "internal/bytealg.MaxLen", "unicode/utf8.first", "unicode/utf8.acceptRanges", "postbag/api.ErrRange"], apart := false, laid := [("unicode/utf8.acceptRanges", laid_unicode_utf8_acceptRanges), ("postbag/api.ErrRange", laid_postbag_api_ErrRange), ("postbag/api.ErrForm", laid_postbag_api_ErrForm), ("unicode/utf8.first", laid_unicode_utf8_first)], narrowed := true }
def ImapLinesUptoSaid : Prop := imapLinesUptoRow.holds Tryz.pinned (OpenSpec.upto imapLinesSpec)

/-- 'postbaglaw21.ImapSame', WHERE WHAT IT READS IS OF BULK AT MOST 1048576: true; the input reads as it did. -/
def imapSameUptoRow : OpenClaim := { program := "ytgmfhldfdnnafaagreatdoor", sum := "fa60b19a6ae2e25dcd321f7bd03d611833de58df5608b6e41cdfb939a2370332", func := "postbag/postbaglaw21.ImapSame", spec := "imapSame", inPlace := ["internal/bytealg.IndexByteString", "internal/bytealg.IndexString", "internal/bytealg.CountString"], unfollowed := true, recurses := true, named := ["postbag/api.ErrForm", "internal/bytealg.MaxLen", "unicode/utf8.first", "unicode/utf8.acceptRanges", "postbag/api.ErrRange"], apart := false, laid := [("unicode/utf8.acceptRanges", laid_unicode_utf8_acceptRanges), ("postbag/api.ErrRange", laid_postbag_api_ErrRange), ("postbag/api.ErrForm", laid_postbag_api_ErrForm), ("unicode/utf8.first", laid_unicode_utf8_first)], narrowed := true }
def ImapSameUptoSaid : Prop := imapSameUptoRow.holds Tryz.pinned (OpenSpec.upto imapSameSpec)

/-- 'postbaglaw21.ImapStrings', WHERE WHAT IT READS IS OF BULK AT MOST 1048576: true; the input reads as it did. -/
def imapStringsUptoRow : OpenClaim := { program := "ytgmfhldfdnnafaagreatdoor", sum := "fa60b19a6ae2e25dcd321f7bd03d611833de58df5608b6e41cdfb939a2370332", func := "postbag/postbaglaw21.ImapStrings", spec := "imapStrings", inPlace := ["internal/bytealg.IndexByteString", "internal/bytealg.IndexString", "internal/bytealg.CountString"], unfollowed := true, recurses := true, named := ["postbag/api.ErrForm", "internal/bytealg.MaxLen", "unicode/utf8.first", "unicode/utf8.acceptRanges", "postbag/api.ErrRange"], apart := false, laid := [("unicode/utf8.acceptRanges", laid_unicode_utf8_acceptRanges), ("postbag/api.ErrRange", laid_postbag_api_ErrRange), ("postbag/api.ErrForm", laid_postbag_api_ErrForm), ("unicode/utf8.first", laid_unicode_utf8_first)], narrowed := true }
def ImapStringsUptoSaid : Prop := imapStringsUptoRow.holds Tryz.pinned (OpenSpec.upto imapStringsSpec)

/-- 'postbaglaw21.ImapParses', WHERE WHAT IT READS IS OF BULK AT MOST 1048576: true; the input reads as it did. -/
def imapParsesUptoRow : OpenClaim := { program := "ytgmfhldfdnnafaagreatdoor", sum := "fa60b19a6ae2e25dcd321f7bd03d611833de58df5608b6e41cdfb939a2370332", func := "postbag/postbaglaw21.ImapParses", spec := "imapParses", inPlace := ["internal/bytealg.IndexByteString", "internal/bytealg.IndexString", "internal/bytealg.CountString", "internal/reflectlite.TypeOf"], unfollowed := true, recurses := true, named := ["postbag/api.ErrForm", "internal/bytealg.MaxLen", "unicode/utf8.first", "unicode/utf8.acceptRanges", "postbag/api.ErrRange", "postbag/api.ErrLong", "postbag/api.ErrName", "postbag/api.ErrNone", "postbag/api.ErrExists", "postbag/api.ErrQuota", "postbag/api.ErrPower", "postbag/api.ErrState", "postbag/api.ErrSum", "postbag/api.ErrFull", "postbag/api.ErrDepth", "postbag/api.ErrUser"], apart := false, laid := [("unicode/utf8.acceptRanges", laid_unicode_utf8_acceptRanges), ("postbag/api.ErrRange", laid_postbag_api_ErrRange), ("postbag/api.ErrForm", laid_postbag_api_ErrForm), ("postbag/api.ErrLong", laid_postbag_api_ErrLong), ("postbag/api.ErrName", laid_postbag_api_ErrName), ("postbag/api.ErrNone", laid_postbag_api_ErrNone), ("postbag/api.ErrExists", laid_postbag_api_ErrExists), ("postbag/api.ErrQuota", laid_postbag_api_ErrQuota), ("postbag/api.ErrPower", laid_postbag_api_ErrPower), ("postbag/api.ErrState", laid_postbag_api_ErrState), ("postbag/api.ErrSum", laid_postbag_api_ErrSum), ("postbag/api.ErrFull", laid_postbag_api_ErrFull), ("postbag/api.ErrDepth", laid_postbag_api_ErrDepth), ("postbag/api.ErrUser", laid_postbag_api_ErrUser), ("unicode/utf8.first", laid_unicode_utf8_first)], narrowed := true }
def ImapParsesUptoSaid : Prop := imapParsesUptoRow.holds Tryz.pinned (OpenSpec.upto imapParsesSpec)

end Rows
end Go.Proofs.YtgmfhldfdnnafaaGreatDoor
