/- What the rows' list gives: the table of waits. -/
import Derived.Test.YtcalbpdcjklffaaGreatDoorSeat
import Derived.Test.YtcalbpdcjklffaaGreatDoorRetryA
namespace Go.Proofs.YtcalbpdcjklffaaGreatDoor
open Go
theorem waits_of {W : World} {l : List (String × DataW Unit)} (h : laidMet Tryz.prog l W) (i : Nat) (hi : l[i]? = some ("postbag/retry.waits", Rows.laid_postbag_retry_waits)) : Waits W := by
  intro t h0 h3
  have h := fun j hj => laid_table (zs := [60, 300, 1800, 7200]) (k := .i64) (n := 4) (t := 48) (e := 3) (g := 13) h hi (by kernel_rfl) (by kernel_rfl) Tryz.underlying48 Tryz.underlying3 (by kernel_rfl) (by kernel_rfl) j hj
  obtain ⟨k, rfl⟩ := Int.eq_ofNat_of_zero_le h0
  have e : ((k : Int)).toNat = k := rfl
  rw [e, h k (by simp; omega)]
  have : k = 0 ∨ k = 1 ∨ k = 2 ∨ k = 3 := by omega
  rcases this with rfl | rfl | rfl | rfl <;> rfl
end Go.Proofs.YtcalbpdcjklffaaGreatDoor
