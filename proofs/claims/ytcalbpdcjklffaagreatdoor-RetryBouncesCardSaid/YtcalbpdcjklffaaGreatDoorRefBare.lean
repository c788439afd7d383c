/- The walk of the document's own Bare. -/
import Derived.Test.YtcalbpdcjklffaaGreatDoorRefDomain
namespace Go.Proofs.YtcalbpdcjklffaaGreatDoor
open Go.RowKit
open Pl (Bs refLocal refDomain rightB)
def at2 (lo d : ByteArray) : ByteArray := lo ++ ⟨#[64]⟩ ++ d
def refRight (lo d : ByteArray) : Bool := refLocal (bs lo) && refDomain (bs d)
def refNone (lo d : ByteArray) : Bool := lo.toList.isEmpty && d.toList.isEmpty
def refBareS (lo d : ByteArray) : ByteArray := if refNone lo d = true then ⟨#[]⟩ else if refRight lo d = true then at2 lo d else ⟨#[]⟩
def refBareB (lo d : ByteArray) : Bool := refNone lo d || refRight lo d
end Go.Proofs.YtcalbpdcjklffaaGreatDoor
