/- Plain facts: which texts are sets of numbers, and which. No program in sight. -/
import Derived.Test.YtfaojafhamhncaaDoorPlNum
import Derived.Test.YtfaojafhamhncaaDoorPlTake
namespace Go.Proofs.YtfaojafhamhncaaDoor.Pl
/-- an item's two ends -/
def fromB (l : Bs) : Bs := l.take (idxB 58 l)
def toB (l : Bs) : Bs := if idxB 58 l < l.length then l.drop (idxB 58 l + 1) else fromB l
def okItem (l : Bs) : Bool := endOk (fromB l) && endOk (toB l)
def rangeV (l : Bs) : Int × Int := ((endN (fromB l) : Int), (endN (toB l) : Int))
def items (l : Bs) : List Bs := splitB 44 l
def setOk (l : Bs) : Bool := (items l).all okItem && decide ((items l).length ≤ 50)
def setL (l : Bs) : List (Int × Int) := if setOk l = true then (items l).map rangeV else []
/-- a prefix that fails: the set fails -/
theorem set_fails {l : Bs} {pre : List Bs} (hp : pre <+: items l) (h : (pre.all okItem && decide (pre.length ≤ 50)) = false) : setOk l = false := by
  obtain ⟨t, ht⟩ := hp
  cases e : setOk l with
  | false => rfl
  | true =>
    rw [setOk, ← ht, List.all_append, List.length_append] at e
    simp only [Bool.and_eq_true, decide_eq_true_eq] at e
    rw [e.1.1, decide_eq_true (by omega)] at h
    exact absurd h (by decide)
end Go.Proofs.YtfaojafhamhncaaDoor.Pl
