/- The walks of dates.Leap, dates.Days, dates.inRange and of the document's Leap, Days, before. -/
import Derived.Test.YtcalbpdcjklffaaGreatDoorPlCivil
import Derived.Test.YtcalbpdcjklffaaGreatDoorOwn
import Derived.Test.YtcalbpdcjklffaaGreatDoorChecked
import Derived.Handy
import Derived.Lib.Hide
import Derived.IntWalk
import Derived.RangeFuncBox
namespace Go.Proofs.YtcalbpdcjklffaaGreatDoor
open Go.RowKit
open Pl (leapB daysM dM cum)
set_option linter.unusedSimpArgs false
set_option linter.unusedVariables false
theorem retBool {x y : Bool} (h : x = y) : Ending.returned (.bool x) = Ending.returned (.bool y) := by rw [h]
theorem retInt {x y : Int} (h : x = y) : Ending.returned (.int .i64 x) = Ending.returned (.int .i64 y) := by rw [h]
set_option maxHeartbeats 1000000 in
theorem leap_walk (y : Nat) (hy : y ≤ 10000) (w : World) :
    Calls Tryz.prog 71 #[.int .i64 y] w fun e w' => e = .returned (.bool (leapB y)) ∧ w = w' := by
  go_enter Tryz.func71, Tryz.ntmps71
  go_wp2
  all_goals go_ret
  all_goals exact ⟨retBool (by rw [Bool.eq_iff_iff]; simp [leapB]; omega), rfl⟩
set_option maxHeartbeats 1000000 in
theorem refLeap_walk (y : Nat) (hy : y ≤ 10000) (w : World) :
    Calls Tryz.prog 70 #[.int .i64 y] w fun e w' => e = .returned (.bool (leapB y)) ∧ w = w' := by
  go_enter Tryz.func70, Tryz.ntmps70
  go_wp2
  all_goals go_ret
  all_goals refine ⟨retBool ?_, rfl⟩
  all_goals rw [Bool.eq_iff_iff]
  all_goals simp [leapB] at *
  all_goals omega
theorem days_not (y m : Nat) (h2 : m ≠ 2) (h1 : 1 ≤ m) (h12 : m ≤ 12) : daysM y m = if m = 4 ∨ m = 6 ∨ m = 9 ∨ m = 11 then 30 else 31 := by
  rw [daysM, if_neg h2]; split
  · rfl
  · rw [if_pos ⟨h1, h12⟩]
theorem days_two (y : Nat) : daysM y 2 = if leapB y = true then 29 else 28 := rfl
set_option maxHeartbeats 4000000 in
theorem days_walk (y m : Nat) (hy : y ≤ 10000) (h1 : 1 ≤ m) (h12 : m ≤ 12) (w : World) :
    Calls Tryz.prog 59 #[.int .i64 y, .int .i64 m] w fun e w' => e = .returned (.int .i64 (daysM y m)) ∧ w = w' := by
  by_cases h2 : m = 2
  · subst h2
    have HD := Lib.hid (days_two y)
    go_enter Tryz.func59, Tryz.ntmps59
    go_wp2_with fail
    refine (leap_walk y hy _).mono ?_
    rintro e w' ⟨rfl, rfl⟩
    cases hl : leapB y
    · rw [hl] at HD
      go_wp2
      go_ret
      exact ⟨retInt (by rw [HD.out]; rfl), rfl⟩
    · rw [hl] at HD
      go_wp2
      go_ret
      exact ⟨retInt (by rw [HD.out]; rfl), rfl⟩
  · have HD := Lib.hid (days_not y m h2 h1 h12)
    have hm : m = 1 ∨ m = 3 ∨ m = 4 ∨ m = 5 ∨ m = 6 ∨ m = 7 ∨ m = 8 ∨ m = 9 ∨ m = 10 ∨ m = 11 ∨ m = 12 := by omega
    clear h2 h1 h12
    go_enter Tryz.func59, Tryz.ntmps59
    rcases hm with rfl | rfl | rfl | rfl | rfl | rfl | rfl | rfl | rfl | rfl | rfl
    all_goals
      go_wp2
      go_ret
      exact ⟨retInt (by rw [HD.out]; rfl), rfl⟩
theorem row_cells {W w1 : World} {t : TypeId} {cs : Array Value} (h : W.alloc (Obj.cells cs t) = w1) {i : Nat} {v : Value} (hv : cs[i]? = some v) : w1.cell? ⟨W.heap.size, i, none⟩ = some v := by
  have hP : w1.heap[W.heap.size]? = some (Obj.cells cs t) := by rw [← h]; exact World.alloc_heap_new W _
  simp [World.cell?, hP, hv]
set_option maxHeartbeats 4000000 in
theorem refDays_walk (y m : Nat) (hy : y ≤ 10000) (h1 : 1 ≤ m) (h12 : m ≤ 12) (w : World) :
    Calls Tryz.prog 57 #[.int .i64 y, .int .i64 m] w fun e w' => e = .returned (.int .i64 (daysM y m)) ∧ Below w.heap.size w w' := by
  have hB : Below w.heap.size w (w.alloc (Obj.cells #[.int .i64 31, .int .i64 28, .int .i64 31, .int .i64 30, .int .i64 31, .int .i64 30, .int .i64 31, .int .i64 31, .int .i64 30, .int .i64 31, .int .i64 30, .int .i64 31] 3)) := (Below.refl _ _).alloc (Nat.le_refl _) _
  generalize hw : w.alloc (Obj.cells #[.int .i64 31, .int .i64 28, .int .i64 31, .int .i64 30, .int .i64 31, .int .i64 30, .int .i64 31, .int .i64 31, .int .i64 30, .int .i64 31, .int .i64 30, .int .i64 31] 3) = w1 at hB
  have HB := Lib.hid hB
  clear hB
  have hm : m = 1 ∨ m = 2 ∨ m = 3 ∨ m = 4 ∨ m = 5 ∨ m = 6 ∨ m = 7 ∨ m = 8 ∨ m = 9 ∨ m = 10 ∨ m = 11 ∨ m = 12 := by omega
  by_cases h2 : m = 2
  · subst h2
    have HD := Lib.hid (days_two y)
    have c := row_cells hw (i := 1) rfl
    clear hm
    go_enter Tryz.func57, Tryz.ntmps57
    go_wp2_with fail
    refine (refLeap_walk y hy _).mono ?_
    rintro e w' ⟨rfl, rfl⟩
    cases hl : leapB y
    · rw [hl] at HD
      go_wp2
      go_ret
      exact ⟨retInt (by rw [HD.out]; rfl), HB.out⟩
    · rw [hl] at HD
      go_wp2
      go_ret
      exact ⟨retInt (by rw [HD.out]; rfl), HB.out⟩
  · have HD := Lib.hid (days_not y m h2 h1 h12)
    clear h1 h12
    rcases hm with rfl | rfl | rfl | rfl | rfl | rfl | rfl | rfl | rfl | rfl | rfl | rfl
    · have c := row_cells hw (i := 0) rfl
      go_enter Tryz.func57, Tryz.ntmps57
      go_wp2
      go_ret
      exact ⟨retInt (by rw [HD.out]; rfl), HB.out⟩
    · exact absurd rfl h2
    · have c := row_cells hw (i := 2) rfl
      go_enter Tryz.func57, Tryz.ntmps57
      go_wp2
      go_ret
      exact ⟨retInt (by rw [HD.out]; rfl), HB.out⟩
    · have c := row_cells hw (i := 3) rfl
      go_enter Tryz.func57, Tryz.ntmps57
      go_wp2
      go_ret
      exact ⟨retInt (by rw [HD.out]; rfl), HB.out⟩
    · have c := row_cells hw (i := 4) rfl
      go_enter Tryz.func57, Tryz.ntmps57
      go_wp2
      go_ret
      exact ⟨retInt (by rw [HD.out]; rfl), HB.out⟩
    · have c := row_cells hw (i := 5) rfl
      go_enter Tryz.func57, Tryz.ntmps57
      go_wp2
      go_ret
      exact ⟨retInt (by rw [HD.out]; rfl), HB.out⟩
    · have c := row_cells hw (i := 6) rfl
      go_enter Tryz.func57, Tryz.ntmps57
      go_wp2
      go_ret
      exact ⟨retInt (by rw [HD.out]; rfl), HB.out⟩
    · have c := row_cells hw (i := 7) rfl
      go_enter Tryz.func57, Tryz.ntmps57
      go_wp2
      go_ret
      exact ⟨retInt (by rw [HD.out]; rfl), HB.out⟩
    · have c := row_cells hw (i := 8) rfl
      go_enter Tryz.func57, Tryz.ntmps57
      go_wp2
      go_ret
      exact ⟨retInt (by rw [HD.out]; rfl), HB.out⟩
    · have c := row_cells hw (i := 9) rfl
      go_enter Tryz.func57, Tryz.ntmps57
      go_wp2
      go_ret
      exact ⟨retInt (by rw [HD.out]; rfl), HB.out⟩
    · have c := row_cells hw (i := 10) rfl
      go_enter Tryz.func57, Tryz.ntmps57
      go_wp2
      go_ret
      exact ⟨retInt (by rw [HD.out]; rfl), HB.out⟩
    · have c := row_cells hw (i := 11) rfl
      go_enter Tryz.func57, Tryz.ntmps57
      go_wp2
      go_ret
      exact ⟨retInt (by rw [HD.out]; rfl), HB.out⟩
theorem ahead_small (k : Nat) : Pl.ahead k ≤ 366 * k := by
  induction k with
  | zero => exact Nat.le_refl _
  | succ k ih => rw [Pl.ahead_succ]; split <;> omega
set_option maxHeartbeats 4000000 in
theorem before_walk (K : Nat) (hK : K ≤ 200) (w : World) :
    Calls Tryz.prog 56 #[.int .i64 ((1970 + K : Nat) : Int)] w fun e w' => e = .returned (.int .i64 (Pl.ahead K)) ∧ w = w' := by
  generalize hY : ((1970 + K : Nat) : Int) = Y
  go_enter Tryz.func56, Tryz.ntmps56
  go_wp2
  go_loop [3, 4] (fun n y => ∃ k : Nat, k ≤ K ∧ n = .int .i64 ((Pl.ahead k : Nat) : Int) ∧ y = .int .i64 ((1970 + k : Nat) : Int)) (fun _ y => 2400 - (intOf y).toNat)
  case atStart => exact ⟨0, Nat.zero_le _, rfl, rfl⟩
  case round =>
    obtain ⟨k, hk, rfl, rfl⟩ := hrel
    have ha := ahead_small k
    have HS := Lib.hid (Pl.ahead_succ k)
    by_cases hkn : k < K
    · go_wp2_with fail
      refine (refLeap_walk (1970 + k) (by omega) _).mono ?_
      rintro e w' ⟨rfl, rfl⟩
      cases hl : leapB (1970 + k)
      · rw [hl] at HS
        go_wp2
        go_round
        case rel => exact ⟨k + 1, by omega, by rw [HS.out]; go_num, by go_num⟩
        case measure => simp [intOf]; omega
      · rw [hl] at HS
        go_wp2
        go_round
        case rel => exact ⟨k + 1, by omega, by rw [HS.out]; go_num, by go_num⟩
        case measure => simp [intOf]; omega
    · obtain rfl : k = K := by omega
      go_wp2
      go_ret
      exact ⟨rfl, rfl⟩
end Go.Proofs.YtcalbpdcjklffaaGreatDoor
