/- The walks of the document's own Next and Most. -/
import Derived.Test.YtcalbpdcjklffaaDoorRetryA
import Derived.Test.YtcalbpdcjklffaaDoorOwn
namespace Go.Proofs.YtcalbpdcjklffaaDoor
open Go.RowKit
set_option maxHeartbeats 400000 in
theorem rwait_walk (t : Int) (w : World) (h0 : 0 ≤ t) (h3 : t ≤ 3) :
    Calls Tryd.prog 38 #[.int .i64 t] w fun e w' => e = .returned (.int .i64 (waitI t)) ∧ Below w.heap.size w w' := by
  have ht : t = 0 ∨ t = 1 ∨ t = 2 ∨ t = 3 := by omega
  rcases ht with rfl | rfl | rfl | rfl
  all_goals
    go_enter Tryd.func38, Tryd.ntmps38
    go_wp2
    go_ret
    exact ⟨rfl, (Below.refl _ _).alloc (Nat.le_refl _) _⟩
set_option maxHeartbeats 400000 in
theorem rcut_walk (t : Int) (w : World) :
    Calls Tryd.prog 37 #[.int .i64 t] w fun e w' => e = .returned (.int .i64 (min t 4102444799)) ∧ w = w' := by
  by_cases h : 4102444799 < t
  · go_enter Tryd.func37, Tryd.ntmps37
    go_wp2
    go_ret
    exact ⟨by rw [Int.min_eq_right (by omega)]; rfl, rfl⟩
  · go_enter Tryd.func37, Tryd.ntmps37
    go_wp2
    go_ret
    exact ⟨by rw [Int.min_eq_left (by omega)]; rfl, rfl⟩
set_option maxHeartbeats 400000 in
theorem rnext_ok (t n : Int) (w : World) (h0 : 0 ≤ t) (h3 : t ≤ 3) (n0 : 0 ≤ n) (n1 : n ≤ 4102444799) :
    Calls Tryd.prog 17 #[.int .i64 t, .int .i64 n] w fun e w' => e = .returned (.tuple #[.int .i64 (dueI t n), .bool false, .bool true]) ∧ Below w.heap.size w w' := by
  have hb := waitI_bd t
  have h4 : (t == 4) = false := by rw [beq_eq_false_iff_ne]; omega
  go_enter Tryd.func17, Tryd.ntmps17
  go_wp2_with fail
  refine (rwait_walk _ _ h0 h3).mono ?_
  rintro e w1 ⟨rfl, hB⟩
  have HB := Lib.hid hB
  clear hB
  go_wp2_with fail
  refine (rcut_walk _ _).mono ?_
  rintro e w2 ⟨rfl, rfl⟩
  go_wp2
  go_ret3
  exact ⟨rfl, HB.out⟩
set_option maxHeartbeats 400000 in
theorem rnext_end (n : Int) (w : World) (n0 : 0 ≤ n) (n1 : n ≤ 4102444799) :
    Calls Tryd.prog 17 #[.int .i64 4, .int .i64 n] w fun e w' => e = .returned (.tuple #[.int .i64 0, .bool true, .bool true]) ∧ w = w' := by
  go_enter Tryd.func17, Tryd.ntmps17
  go_wp2
  go_ret3
  exact ⟨rfl, rfl⟩
set_option maxHeartbeats 400000 in
theorem rnext_bad (t n : Int) (w : World) (h : t < 0 ∨ 5 ≤ t ∨ n < 0 ∨ 4102444799 < n) :
    Calls Tryd.prog 17 #[.int .i64 t, .int .i64 n] w fun e w' => e = .returned (.tuple #[.int .i64 0, .bool false, .bool false]) ∧ w = w' := by
  go_enter Tryd.func17, Tryd.ntmps17
  go_wp2
  all_goals
    go_ret3
    exact ⟨rfl, rfl⟩
set_option maxHeartbeats 400000 in
theorem rmost_bad (n : Int) (w : World) (h : n < 0 ∨ 4102444799 < n) :
    Calls Tryd.prog 19 #[.int .i64 n] w fun e w' => e = .returned (.int .i64 (mostI n)) ∧ w = w' := by
  have em : mostI n = 0 := by rw [mostI, if_neg (by omega)]
  rw [em]
  go_enter Tryd.func19, Tryd.ntmps19
  go_wp2
  all_goals
    go_ret
    exact ⟨rfl, rfl⟩
set_option maxHeartbeats 1000000 in
theorem rmost_ok (n : Int) (w : World) (n0 : 0 ≤ n) (n1 : n ≤ 4102444799) :
    Calls Tryd.prog 19 #[.int .i64 n] w fun e w' => e = .returned (.int .i64 (mostI n)) ∧ Below w.heap.size w w' := by
  have b0 := dueI_bd 0 n n0 n1
  have b1 := dueI_bd 1 _ b0.1 b0.2.1
  have b2 := dueI_bd 2 _ b1.1 b1.2.1
  have b3 := dueI_bd 3 _ b2.1 b2.2.1
  have v0 := waitI_bd 0
  have v1 := waitI_bd 1
  have v2 := waitI_bd 2
  have v3 := waitI_bd 3
  have e0 : min (n + waitI 0) 4102444799 = dueI 0 n := rfl
  have e1 : min (dueI 0 n + waitI 1) 4102444799 = dueI 1 (dueI 0 n) := rfl
  have e2 : min (dueI 1 (dueI 0 n) + waitI 2) 4102444799 = dueI 2 (dueI 1 (dueI 0 n)) := rfl
  have e3 : min (dueI 2 (dueI 1 (dueI 0 n)) + waitI 3) 4102444799 = dueI 3 (dueI 2 (dueI 1 (dueI 0 n))) := rfl
  have E0 := Lib.hid e0
  have E1 := Lib.hid e1
  have E2 := Lib.hid e2
  have E3 := Lib.hid e3
  clear e0 e1 e2 e3
  go_enter Tryd.func19, Tryd.ntmps19
  go_wp2
  refine wp_loop_rounds 5 ?_
  rw [rounds_succ]
  go_wp2_with fail
  refine (rwait_walk _ _ (by omega) (by omega)).mono ?_
  rintro e w1 ⟨rfl, hB1⟩
  have HB1 := Lib.hid hB1
  clear hB1
  go_wp2_with fail
  refine (rcut_walk _ _).mono ?_
  rintro e w2 ⟨rfl, rfl⟩
  rw [E0.out]
  go_wp2
  rw [rounds_succ]
  go_wp2_with fail
  refine (rwait_walk _ _ (by omega) (by omega)).mono ?_
  rintro e w2 ⟨rfl, hB2⟩
  have HB2 := Lib.hid (below_then HB1.out hB2)
  clear hB2
  go_wp2_with fail
  refine (rcut_walk _ _).mono ?_
  rintro e w2 ⟨rfl, rfl⟩
  rw [E1.out]
  go_wp2
  rw [rounds_succ]
  go_wp2_with fail
  refine (rwait_walk _ _ (by omega) (by omega)).mono ?_
  rintro e w3 ⟨rfl, hB3⟩
  have HB3 := Lib.hid (below_then HB2.out hB3)
  clear hB3
  go_wp2_with fail
  refine (rcut_walk _ _).mono ?_
  rintro e w2 ⟨rfl, rfl⟩
  rw [E2.out]
  go_wp2
  rw [rounds_succ]
  go_wp2_with fail
  refine (rwait_walk _ _ (by omega) (by omega)).mono ?_
  rintro e w4 ⟨rfl, hB4⟩
  have HB4 := Lib.hid (below_then HB3.out hB4)
  clear hB4
  go_wp2_with fail
  refine (rcut_walk _ _).mono ?_
  rintro e w2 ⟨rfl, rfl⟩
  rw [E3.out]
  go_wp2
  rw [rounds_succ]
  go_wp2
  go_ret
  refine ⟨?_, HB4.out⟩
  show Ending.returned (.int .i64 (dueI 3 (dueI 2 (dueI 1 (dueI 0 n))) - n)) = _
  rw [mostI, if_pos ⟨n0, n1⟩]
end Go.Proofs.YtcalbpdcjklffaaDoor
