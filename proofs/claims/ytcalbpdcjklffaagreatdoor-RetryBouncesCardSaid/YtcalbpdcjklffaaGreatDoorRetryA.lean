/- The walks of retry.Next and retry.Most, of the document's Next and Most, and of the examples: what each call answers; the table of waits is a hypothesis on its cells. -/
import Derived.Test.YtcalbpdcjklffaaGreatDoorRows
import Derived.WalkKit
import Derived.WalkSpells
import Derived.WalkLawsBesides
import Derived.Handy
import Derived.Lib.Hide
import Derived.Deep.QuietTactic
import Derived.BigQuiet
namespace Go.Proofs.YtcalbpdcjklffaaGreatDoor
open Go.RowKit

/-- the wait behind try t -/
def waitI (t : Int) : Int := if t = 0 then 60 else if t = 1 then 300 else if t = 2 then 1800 else 7200
/-- when it is due -/
def dueI (t n : Int) : Int := min (n + waitI t) 4102444799
/-- the table of waits lies -/
def Waits (w : World) : Prop := ∀ t : Int, 0 ≤ t → t ≤ 3 → w.cell? ⟨13, t.toNat, none⟩ = some (.int .i64 (waitI t))

theorem waitI_bd (t : Int) : 60 ≤ waitI t ∧ waitI t ≤ 7200 := by
  unfold waitI; split <;> (try split) <;> (try split) <;> omega

theorem dueI_bd (t n : Int) (n0 : 0 ≤ n) (n1 : n ≤ 4102444799) : 0 ≤ dueI t n ∧ dueI t n ≤ 4102444799 ∧ n ≤ dueI t n := by
  have := waitI_bd t
  unfold dueI; omega

set_option maxHeartbeats 400000 in
theorem next_ok (t n : Int) (w : World) (hw : Waits w) (h0 : 0 ≤ t) (h3 : t ≤ 3) (n0 : 0 ≤ n) (n1 : n ≤ 4102444799) :
    Calls Tryz.prog 12 #[.int .i64 t, .int .i64 n] w fun e w' => e = .returned (.tuple #[.int .i64 (dueI t n), .bool false, .nilIface]) ∧ w = w' := by
  have hc := hw t h0 h3
  have hb := waitI_bd t
  clear hw
  go_enter Tryz.func12, Tryz.ntmps12
  go_wp2
  all_goals
    go_ret3
    refine ⟨?_, rfl⟩
    have e : dueI t n = min (n + waitI t) 4102444799 := rfl
    rw [e, Int.min_def]
    split <;> first | rfl | omega
set_option maxHeartbeats 400000 in
theorem next_end (t n : Int) (w : World) (h : t = 4) (n0 : 0 ≤ n) (n1 : n ≤ 4102444799) :
    Calls Tryz.prog 12 #[.int .i64 t, .int .i64 n] w fun e w' => e = .returned (.tuple #[.int .i64 0, .bool true, .nilIface]) ∧ w = w' := by
  subst h
  go_enter Tryz.func12, Tryz.ntmps12
  go_wp2
  all_goals
    go_ret3
    exact ⟨rfl, rfl⟩
set_option maxHeartbeats 400000 in
theorem next_bad (t n : Int) (v : Value) (w : World) (hv : w.cell? ⟨0, 0, none⟩ = some v) (h : t < 0 ∨ 5 ≤ t ∨ n < 0 ∨ 4102444799 < n) :
    Calls Tryz.prog 12 #[.int .i64 t, .int .i64 n] w fun e w' => e = .returned (.tuple #[.int .i64 0, .bool false, v]) ∧ ∃ q, w' = w.drewN q := by
  go_enter Tryz.func12, Tryz.ntmps12
  go_wp2
  all_goals
    go_quiet (fail)
    go_wp2
    go_ret3
    exact ⟨rfl, _, rfl⟩

/-- how long an item waits in all -/
def mostI (n : Int) : Int := if 0 ≤ n ∧ n ≤ 4102444799 then dueI 3 (dueI 2 (dueI 1 (dueI 0 n))) - n else 0
set_option maxHeartbeats 400000 in
theorem most_ok (n : Int) (w : World) (hw : Waits w) (n0 : 0 ≤ n) (n1 : n ≤ 4102444799) :
    Calls Tryz.prog 13 #[.int .i64 n] w fun e w' => e = .returned (.int .i64 (mostI n)) ∧ w = w' := by
  have b0 := dueI_bd 0 n n0 n1
  have b1 := dueI_bd 1 _ b0.1 b0.2.1
  have b2 := dueI_bd 2 _ b1.1 b1.2.1
  have b3 := dueI_bd 3 _ b2.1 b2.2.1
  have H := Lib.hid hw
  clear hw
  go_enter Tryz.func13, Tryz.ntmps13
  go_wp2
  refine wp_loop_rounds 5 ?_
  rw [rounds_succ]
  go_wp2_with (go_at_call 12; refine (next_ok _ _ _ H.out (by omega) (by omega) (by omega) (by omega)).mono ?_; rintro e w' ⟨rfl, rfl⟩)
  rw [rounds_succ]
  go_wp2_with (go_at_call 12; refine (next_ok _ _ _ H.out (by omega) (by omega) (by omega) (by omega)).mono ?_; rintro e w' ⟨rfl, rfl⟩)
  rw [rounds_succ]
  go_wp2_with (go_at_call 12; refine (next_ok _ _ _ H.out (by omega) (by omega) (by omega) (by omega)).mono ?_; rintro e w' ⟨rfl, rfl⟩)
  rw [rounds_succ]
  go_wp2_with (go_at_call 12; refine (next_ok _ _ _ H.out (by omega) (by omega) (by omega) (by omega)).mono ?_; rintro e w' ⟨rfl, rfl⟩)
  rw [rounds_succ]
  go_wp2
  go_ret
  refine ⟨?_, rfl⟩
  show Ending.returned (.int .i64 (dueI 3 (dueI 2 (dueI 1 (dueI 0 n))) - n)) = _
  rw [mostI, if_pos ⟨n0, n1⟩]

set_option maxHeartbeats 400000 in
theorem most_bad (n : Int) (v : Value) (w : World) (hv : w.cell? ⟨0, 0, none⟩ = some v) (hnn : ∃ T x, v = .iface T x) (h : n < 0 ∨ 4102444799 < n) :
    Calls Tryz.prog 13 #[.int .i64 n] w fun e w' => e = .returned (.int .i64 (mostI n)) ∧ ∃ q, w' = w.drewN q := by
  obtain ⟨T, x, rfl⟩ := hnn
  have em : mostI n = 0 := by rw [mostI, if_neg (by omega)]
  rw [em]
  go_enter Tryz.func13, Tryz.ntmps13
  go_wp2
  refine wp_loop_rounds 1 ?_
  rw [rounds_succ]
  go_wp2_with (go_at_call 12; refine (next_bad _ _ _ _ hv (by omega)).mono ?_; rintro e w' ⟨rfl, q, rfl⟩)
  go_ret
  exact ⟨rfl, _, rfl⟩

set_option maxHeartbeats 400000 in
/-- the examples of chapter 18 hold -/
theorem alive18 (w : World) (hw : Waits w) :
    Calls Tryz.prog 4 #[] w fun e w' => e = .returned (.bool true) ∧ w = w' := by
  have H := Lib.hid hw
  clear hw
  have e1 : dueI 0 1000 = 1060 := by decide
  have e2 : mostI 0 = 9360 := by decide
  have E1 := Lib.hid e1
  have E2 := Lib.hid e2
  clear e1 e2
  go_enter Tryz.func4, Tryz.ntmps4
  go_wp2_with fail
  refine (next_ok _ _ _ H.out (by decide) (by decide) (by decide) (by decide)).mono ?_
  rintro e w' ⟨rfl, rfl⟩
  rw [E1.out]
  go_wp2_with fail
  refine (next_end _ _ _ rfl (by decide) (by decide)).mono ?_
  rintro e w' ⟨rfl, rfl⟩
  go_wp2_with fail
  refine (most_ok _ _ H.out (by decide) (by decide)).mono ?_
  rintro e w' ⟨rfl, rfl⟩
  rw [E2.out]
  go_wp2
  go_ret
  exact ⟨rfl, rfl⟩
end Go.Proofs.YtcalbpdcjklffaaGreatDoor
