/- The walks of the document's own letter, digit, mark and Local. -/
import Derived.Test.YtcalbpdcjklffaaGreatDoorDotted
namespace Go.Proofs.YtcalbpdcjklffaaGreatDoor
open Go.RowKit
open Pl (idxB Bs plainB marks atomB at_ condL refLocal)

def letterI (c : Int) : Bool := decide (97 ≤ c) && decide (c ≤ 122) || decide (65 ≤ c) && decide (c ≤ 90)
def digitI (c : Int) : Bool := decide (48 ≤ c) && decide (c ≤ 57)
set_option maxHeartbeats 400000 in
theorem letter_walk (c : Int) (w : World) : Calls Tryz.prog 20 #[.int .u8 c] w fun e w' => e = .returned (.bool (letterI c)) ∧ w = w' := by
  go_enter Tryz.func20, Tryz.ntmps20
  go_wp2
  all_goals
    go_ret
    refine ⟨?_, rfl⟩
    exact ret_bool (by unfold letterI; rw [Bool.eq_iff_iff]; simp; omega)
set_option maxHeartbeats 400000 in
theorem digit_walk (c : Int) (w : World) : Calls Tryz.prog 21 #[.int .u8 c] w fun e w' => e = .returned (.bool (digitI c)) ∧ w = w' := by
  go_enter Tryz.func21, Tryz.ntmps21
  go_wp2
  all_goals
    go_ret
    refine ⟨?_, rfl⟩
    exact ret_bool (by unfold digitI; rw [Bool.eq_iff_iff]; simp; try omega)
def markI (c : Int) : Bool := c == 33 || c == 35 || c == 36 || c == 37 || c == 38 || c == 39 || c == 42 || c == 43 || c == 45 || c == 47 || c == 61 || c == 63 || c == 94 || c == 95 || c == 96 || c == 123 || c == 124 || c == 125 || c == 126
set_option maxHeartbeats 1000000 in
theorem mark_walk (c : Int) (w : World) : Calls Tryz.prog 55 #[.int .u8 c] w fun e w' => e = .returned (.bool (markI c)) ∧ w = w' := by
  go_enter Tryz.func55, Tryz.ntmps55
  go_wp2
  all_goals
    go_ret
    refine ⟨?_, rfl⟩
    exact ret_bool (by unfold markI; simp_all)
end Go.Proofs.YtcalbpdcjklffaaGreatDoor
