/- What flags' texts are, over the program's own words for numbers' bits. -/
import Derived.Test.YtfaojafhamhncaaDoorSame
import Derived.Test.YtfaojafhamhncaaDoorSuffix
namespace Go.Proofs.YtfaojafhamhncaaDoor
open Go.RowKit
open Pl (Bs splitB)
/-- the flags' names: \Seen \Answered \Flagged \Deleted \Draft -/
def nameS : Nat → ByteArray
  | 0 => ⟨#[92, 83, 101, 101, 110]⟩
  | 1 => ⟨#[92, 65, 110, 115, 119, 101, 114, 101, 100]⟩
  | 2 => ⟨#[92, 70, 108, 97, 103, 103, 101, 100]⟩
  | 3 => ⟨#[92, 68, 101, 108, 101, 116, 101, 100]⟩
  | _ => ⟨#[92, 68, 114, 97, 102, 116]⟩
def eqw (w : Bs) (i : Nat) : Bool := decide (w.map smallB = (bs (nameS i)).map smallB)
/-- what is known of a word behind the first k names -/
def knownK (w : Bs) : Nat → Int
  | 0 => 0
  | k + 1 => if eqw w k = true then 2 ^ k else knownK w k
theorem names_apart : ∀ i, i < 5 → ∀ j, j < 5 → (bs (nameS i)).map smallB = (bs (nameS j)).map smallB → i = j := by decide +kernel
theorem eqw_one {w : Bs} {i j : Nat} (hi : i < 5) (hj : j < 5) (h1 : eqw w i = true) (h2 : eqw w j = true) : i = j := by
  rw [eqw, decide_eq_true_iff] at h1 h2
  exact names_apart i hi j hj (h1.symm.trans h2)
/-- flags of words: none, if a word is no flag's name -/
def wordsOk (ws : List Bs) : Bool := ws.all fun w => !(knownK w 5 == 0)
def wordsI (ws : List Bs) : Int := ws.foldl (fun f w => bits .or .i64 f (knownK w 5)) 0
theorem wordsI_snoc (ws : List Bs) (w : Bs) : wordsI (ws ++ [w]) = bits .or .i64 (wordsI ws) (knownK w 5) := by rw [wordsI, List.foldl_append]; rfl
end Go.Proofs.YtfaojafhamhncaaDoor
