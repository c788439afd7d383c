/- What flags' text is, over the program's own words for numbers' bits; and numbers below 32. -/
import Derived.Test.YtfaojafhamhncaaDoorFlagSpec
import Derived.Test.YtfaojafhamhncaaDoorJoin
namespace Go.Proofs.YtfaojafhamhncaaDoor
open Go.RowKit
open Pl (Bs splitB)
/-- has a number the bit of place i? -/
def hasF (f : Int) (i : Nat) : Bool := !(bits .and .i64 f (2 ^ i) == 0)
def namesF (f : Int) : Nat → List ByteArray
  | 0 => []
  | k + 1 => if hasF f k = true then namesF f k ++ [nameS k] else namesF f k
theorem namesF_yes {f : Int} {k : Nat} (h : hasF f k = true) : namesF f (k + 1) = namesF f k ++ [nameS k] := by rw [namesF, if_pos h]
theorem namesF_no {f : Int} {k : Nat} (h : hasF f k = false) : namesF f (k + 1) = namesF f k := by rw [namesF, if_neg (by rw [h]; decide)]
theorem namesF_length (f : Int) (k : Nat) : (namesF f k).length ≤ k := by
  induction k with
  | zero => exact Nat.le_refl _
  | succ k ih =>
    rw [namesF]
    split
    · rw [List.length_append, List.length_singleton]; omega
    · omega
def flagsTextS (f : Int) : ByteArray := ⟨#[40]⟩ ++ joinS (namesF f 5) ⟨#[32]⟩ ++ ⟨#[41]⟩
theorem namesF_join (f : Int) : (Lib.join ((namesF f 5).map (·.data.toList)) [32]).length ≤ 140737488355328 := by
  simp only [namesF]
  cases hasF f 0 <;> cases hasF f 1 <;> cases hasF f 2 <;> cases hasF f 3 <;> cases hasF f 4 <;> decide +kernel
theorem wrap_few (n : Nat) (h : n ≤ 31) : IntKind.wrap .i64 (n : Int) = n := by
  have key : ∀ n : Nat, n < 32 → IntKind.wrap .i64 (n : Int) = n := by decide +kernel
  exact key n (by omega)
/-- what 'x & 31' may be -/
theorem and31 (x : Int) : ∃ n : Nat, n < 32 ∧ bits .and .i64 x 31 = (n : Int) := by
  have h : ((BitVec.ofInt 64 x &&& BitVec.ofInt 64 31).toNat) ≤ 31 := by
    rw [BitVec.toNat_and]
    exact Nat.le_trans Nat.and_le_right (by decide)
  exact ⟨(BitVec.ofInt 64 x &&& BitVec.ofInt 64 31).toNat, by omega, wrap_few _ h⟩
end Go.Proofs.YtfaojafhamhncaaDoor
