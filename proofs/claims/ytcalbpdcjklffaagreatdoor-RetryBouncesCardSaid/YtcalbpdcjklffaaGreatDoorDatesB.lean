/- The walks of dates.two, week, month and of the document's week and Month. -/
import Derived.Test.YtcalbpdcjklffaaGreatDoorCivilB
import Derived.Test.YtcalbpdcjklffaaGreatDoorItoa
namespace Go.Proofs.YtcalbpdcjklffaaGreatDoor
open Go.RowKit
set_option linter.unusedSimpArgs false
set_option linter.unusedVariables false
def dayNames : ByteArray := ⟨#[83, 117, 110, 77, 111, 110, 84, 117, 101, 87, 101, 100, 84, 104, 117, 70, 114, 105, 83, 97, 116]⟩
def monthNames : ByteArray := ⟨#[74, 97, 110, 70, 101, 98, 77, 97, 114, 65, 112, 114, 77, 97, 121, 74, 117, 110, 74, 117, 108, 65, 117, 103, 83, 101, 112, 79, 99, 116, 78, 111, 118, 68, 101, 99]⟩
def weekS (k : Int) : ByteArray := dayNames.extract (3 * k).toNat (3 * k + 3).toNat
def monthS (m : Int) : ByteArray := monthNames.extract (3 * m - 3).toNat (3 * m).toNat
def twoS (n : Int) (a : ByteArray) : ByteArray := if n < 10 then a ++ decS n.toNat else decS n.toNat
abbrev civ (y m d h mi s wk : Int) : Value := .agg #[.int .i64 y, .int .i64 m, .int .i64 d, .int .i64 h, .int .i64 mi, .int .i64 s, .int .i64 wk]
theorem civ_boxed (w : World) (y m d h mi s wk : Int) : CivAt (w.alloc (Obj.cells #[.int .i64 y, .int .i64 m, .int .i64 d, .int .i64 h, .int .i64 mi, .int .i64 s, .int .i64 wk] 51)) w.heap.size y m d h mi s wk := ⟨World.alloc_heap_new w _⟩
theorem alloc_b (w : World) (o : Obj) : Below w.heap.size w (w.alloc o) := (Below.refl _ _).alloc (Nat.le_refl _) _
set_option maxHeartbeats 1000000 in
set_option maxRecDepth 100000 in
theorem week_walk (y m d h mi s wk : Int) (h0 : 0 ≤ wk) (h6 : wk ≤ 6) (w : World) :
    Calls Tryz.prog 27 #[civ y m d h mi s wk] w fun e w' => e = .returned (.string (weekS wk)) ∧ Below w.heap.size w w' := by
  have hC := civ_boxed w y m d h mi s wk
  have hB := alloc_b w (Obj.cells #[.int .i64 y, .int .i64 m, .int .i64 d, .int .i64 h, .int .i64 mi, .int .i64 s, .int .i64 wk] 51)
  generalize hw : w.alloc (Obj.cells #[.int .i64 y, .int .i64 m, .int .i64 d, .int .i64 h, .int .i64 mi, .int .i64 s, .int .i64 wk] 51) = w1 at hC hB
  obtain ⟨c0, c1, c2, c3, c4, c5, c6⟩ := hC.cells
  have HB := Lib.hid hB
  clear hC hB
  go_enter Tryz.func27, Tryz.ntmps27
  go_wp2
  go_ret
  exact ⟨rfl, HB.out⟩
set_option maxHeartbeats 1000000 in
set_option maxRecDepth 100000 in
theorem refWeek_walk (y m d h mi s wk : Int) (h0 : 0 ≤ wk) (h6 : wk ≤ 6) (w : World) :
    Calls Tryz.prog 42 #[civ y m d h mi s wk] w fun e w' => e = .returned (.string (weekS wk)) ∧ Below w.heap.size w w' := by
  have hC := civ_boxed w y m d h mi s wk
  have hB := alloc_b w (Obj.cells #[.int .i64 y, .int .i64 m, .int .i64 d, .int .i64 h, .int .i64 mi, .int .i64 s, .int .i64 wk] 51)
  generalize hw : w.alloc (Obj.cells #[.int .i64 y, .int .i64 m, .int .i64 d, .int .i64 h, .int .i64 mi, .int .i64 s, .int .i64 wk] 51) = w1 at hC hB
  obtain ⟨c0, c1, c2, c3, c4, c5, c6⟩ := hC.cells
  have HB := Lib.hid hB
  clear hC hB
  go_enter Tryz.func42, Tryz.ntmps42
  go_wp2
  go_ret
  exact ⟨rfl, HB.out⟩
set_option maxHeartbeats 1000000 in
set_option maxRecDepth 100000 in
theorem month_walk (y m d h mi s wk : Int) (h0 : 1 ≤ m) (h6 : m ≤ 12) (w : World) :
    Calls Tryz.prog 29 #[civ y m d h mi s wk] w fun e w' => e = .returned (.string (monthS m)) ∧ Below w.heap.size w w' := by
  have hC := civ_boxed w y m d h mi s wk
  have hB := alloc_b w (Obj.cells #[.int .i64 y, .int .i64 m, .int .i64 d, .int .i64 h, .int .i64 mi, .int .i64 s, .int .i64 wk] 51)
  generalize hw : w.alloc (Obj.cells #[.int .i64 y, .int .i64 m, .int .i64 d, .int .i64 h, .int .i64 mi, .int .i64 s, .int .i64 wk] 51) = w1 at hC hB
  obtain ⟨c0, c1, c2, c3, c4, c5, c6⟩ := hC.cells
  have HB := Lib.hid hB
  clear hC hB
  go_enter Tryz.func29, Tryz.ntmps29
  go_wp2
  go_ret
  exact ⟨rfl, HB.out⟩
set_option maxHeartbeats 1000000 in
set_option maxRecDepth 100000 in
theorem refMonth_walk (m : Int) (h0 : 1 ≤ m) (h6 : m ≤ 12) (w : World) :
    Calls Tryz.prog 44 #[.int .i64 m] w fun e w' => e = .returned (.string (monthS m)) ∧ w = w' := by
  go_enter Tryz.func44, Tryz.ntmps44
  go_wp2
  go_ret
  exact ⟨rfl, rfl⟩
theorem decS_few (n : Nat) (hn : n ≤ 9223372036854775807) : (decS n).size ≤ 20 := decS_size n (by omega)
theorem twoS_size (n : Int) (h1 : n ≤ 99) (a : ByteArray) (ha : a.size ≤ 1) : (twoS n a).size ≤ 21 := by
  rw [twoS]
  have := decS_few n.toNat (by omega)
  split
  · rw [ByteArray.size_append]; omega
  · omega
set_option maxHeartbeats 1000000 in
set_option maxRecDepth 100000 in
theorem two_walk (n : Int) (h0 : 0 ≤ n) (h1 : n ≤ 99) (a : ByteArray) (ha : a.size ≤ 1) (w : World) (ht : TabW w) :
    Calls Tryz.prog 28 #[.int .i64 n, .string a] w fun e w' => e = .returned (.string (twoS n a)) ∧ Below w.heap.size w w' := by
  have hI := itoa_walk n.toNat (by omega) w ht
  have hz := decS_few n.toNat (by omega)
  rw [show ((n.toNat : Nat) : Int) = n by omega] at hI
  have HI := Lib.hid hI
  clear ht hI
  by_cases h : n < 10
  · have HV := Lib.hid (show twoS n a = a ++ decS n.toNat by rw [twoS, if_pos h])
    generalize decS n.toNat = D at *
    go_enter Tryz.func28, Tryz.ntmps28
    go_wp2_with fail
    refine HI.out.mono ?_
    rintro e w' ⟨rfl, hB⟩
    have HB := Lib.hid hB
    clear hB
    go_wp2
    go_ret
    exact ⟨by rw [HV.out]; rfl, HB.out⟩
  · have HV := Lib.hid (show twoS n a = decS n.toNat by rw [twoS, if_neg h])
    generalize decS n.toNat = D at *
    go_enter Tryz.func28, Tryz.ntmps28
    go_wp2_with fail
    refine HI.out.mono ?_
    rintro e w' ⟨rfl, hB⟩
    have HB := Lib.hid hB
    clear hB
    go_wp2
    go_ret
    exact ⟨by rw [HV.out]; rfl, HB.out⟩
end Go.Proofs.YtcalbpdcjklffaaGreatDoor
