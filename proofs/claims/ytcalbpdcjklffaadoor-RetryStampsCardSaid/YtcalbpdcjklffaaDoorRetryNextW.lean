/- The walk of RetryNext: whatever the numbers are, the call answers true. -/
import Derived.Test.YtcalbpdcjklffaaDoorRef18
import Derived.Test.YtcalbpdcjklffaaDoorNum
namespace Go.Proofs.YtcalbpdcjklffaaDoor
open Go.RowKit

theorem waits_below {w w1 : World} (h : Waits w) (hb : Below w.heap.size w w1) : Waits w1 := fun t h0 h3 =>
  (hb.cell (p := ⟨1, t.toNat, none⟩) (World.block_lt_of_cell? w _ (h t h0 h3))).trans (h t h0 h3)

set_option maxHeartbeats 1000000 in
theorem rn_ok (t n : Int) (w : World) (hw : Waits w) (h0 : 0 ≤ t) (h3 : t ≤ 3) (n0 : 0 ≤ n) (n1 : n ≤ 4102444799) :
    Calls Tryd.prog 5 #[.int .i64 t, .int .i64 n] w fun e w' => e = .returned (.bool true) ∧ Below w.heap.size w w' := by
  have H := Lib.hid hw
  clear hw
  go_enter Tryd.func5, Tryd.ntmps5
  go_wp2_with fail
  refine (alive18 _ H.out).mono ?_
  rintro e w' ⟨rfl, rfl⟩
  go_wp2_with fail
  refine (next_ok _ _ _ H.out h0 h3 n0 n1).mono ?_
  rintro e w' ⟨rfl, rfl⟩
  go_wp2_with fail
  refine (rnext_ok _ _ _ h0 h3 n0 n1).mono ?_
  rintro e w1 ⟨rfl, hB1⟩
  have HB1 := Lib.hid hB1
  clear hB1
  go_wp2_with fail
  refine (most_ok _ _ (waits_below H.out HB1.out) n0 n1).mono ?_
  rintro e w2 ⟨rfl, rfl⟩
  go_wp2_with fail
  refine (rmost_ok _ _ n0 n1).mono ?_
  rintro e w3 ⟨rfl, hB3⟩
  have HB3 := Lib.hid (below_then HB1.out hB3)
  clear hB3
  go_wp2
  go_ret
  exact ⟨rfl, HB3.out⟩

set_option maxHeartbeats 1000000 in
theorem rn_end (n : Int) (w : World) (hw : Waits w) (n0 : 0 ≤ n) (n1 : n ≤ 4102444799) :
    Calls Tryd.prog 5 #[.int .i64 4, .int .i64 n] w fun e w' => e = .returned (.bool true) ∧ Below w.heap.size w w' := by
  have H := Lib.hid hw
  clear hw
  go_enter Tryd.func5, Tryd.ntmps5
  go_wp2_with fail
  refine (alive18 _ H.out).mono ?_
  rintro e w' ⟨rfl, rfl⟩
  go_wp2_with fail
  refine (next_end _ _ _ rfl n0 n1).mono ?_
  rintro e w' ⟨rfl, rfl⟩
  go_wp2_with fail
  refine (rnext_end _ _ n0 n1).mono ?_
  rintro e w' ⟨rfl, rfl⟩
  go_wp2_with fail
  refine (most_ok _ _ H.out n0 n1).mono ?_
  rintro e w2 ⟨rfl, rfl⟩
  go_wp2_with fail
  refine (rmost_ok _ _ n0 n1).mono ?_
  rintro e w3 ⟨rfl, hB3⟩
  have HB3 := Lib.hid hB3
  clear hB3
  go_wp2
  go_ret
  exact ⟨rfl, HB3.out⟩

set_option maxHeartbeats 1000000 in
theorem rn_bad {a0 a1 a2 a3 a4 a5 a6 a7 a8 a9 a10 a11 a12 : Addr} (t n : Int) (w : World) (hw : Waits w) (hE : ErrsAt w a0 a1 a2 a3 a4 a5 a6 a7 a8 a9 a10 a11 a12) (h : t < 0 ∨ 5 ≤ t ∨ n < 0 ∨ 4102444799 < n) :
    Calls Tryd.prog 5 #[.int .i64 t, .int .i64 n] w fun e w' => e = .returned (.bool true) ∧ Below w.heap.size w w' := by
  have H := Lib.hid hw
  have HE := Lib.hid hE
  have h := Lib.hid h
  clear hw hE
  go_enter Tryd.func5, Tryd.ntmps5
  go_wp2_with fail
  refine (alive18 _ H.out).mono ?_
  rintro e w' ⟨rfl, rfl⟩
  go_wp2_with fail
  refine (next_bad _ _ _ _ HE.out.h0.1 h.out).mono ?_
  rintro e w' ⟨rfl, q, rfl⟩
  have HB := Lib.hid (below_draws (Below.refl w.heap.size w) q)
  have HE1 := Lib.hid (HE.out.below HB.out)
  have H1 := Lib.hid (waits_below H.out HB.out)
  generalize w.drewN q = w1 at *
  go_wp2_with fail
  refine (rnext_bad _ _ _ h.out).mono ?_
  rintro e w' ⟨rfl, rfl⟩
  go_wp2_with fail
  refine (num_range HE1.out).mono ?_
  rintro e w2 ⟨rfl, hB2⟩
  have HB2 := Lib.hid (below_then HB.out hB2)
  have HE2 := Lib.hid (HE1.out.below hB2)
  have H2 := Lib.hid (waits_below H1.out hB2)
  clear hB2
  by_cases hn : 0 ≤ n ∧ n ≤ 4102444799
  · obtain ⟨n0, n1⟩ := hn
    go_wp2_with fail
    refine (most_ok _ _ H2.out n0 n1).mono ?_
    rintro e w' ⟨rfl, rfl⟩
    go_wp2_with fail
    refine (rmost_ok _ _ n0 n1).mono ?_
    rintro e w3 ⟨rfl, hB3⟩
    have HB3 := Lib.hid (below_then HB2.out hB3)
    clear hB3
    go_wp2
    go_ret
    exact ⟨rfl, HB3.out⟩
  · have hn := Lib.hid (show n < 0 ∨ 4102444799 < n by omega)
    go_wp2_with fail
    refine (most_bad _ _ _ HE2.out.h0.1 ⟨_, _, rfl⟩ hn.out).mono ?_
    rintro e w' ⟨rfl, q2, rfl⟩
    have HB3 := Lib.hid (below_draws HB2.out q2)
    generalize w2.drewN q2 = w3 at *
    go_wp2_with fail
    refine (rmost_bad _ _ hn.out).mono ?_
    rintro e w' ⟨rfl, rfl⟩
    go_wp2
    go_ret
    exact ⟨rfl, HB3.out⟩

theorem rn_any {a0 a1 a2 a3 a4 a5 a6 a7 a8 a9 a10 a11 a12 : Addr} (t n : Int) (w : World) (hw : Waits w) (hE : ErrsAt w a0 a1 a2 a3 a4 a5 a6 a7 a8 a9 a10 a11 a12) :
    Calls Tryd.prog 5 #[.int .i64 t, .int .i64 n] w fun e w' => e = .returned (.bool true) ∧ Below w.heap.size w w' := by
  by_cases h : t < 0 ∨ 5 ≤ t ∨ n < 0 ∨ 4102444799 < n
  · exact rn_bad t n w hw hE h
  · by_cases h4 : t = 4
    · subst h4; exact rn_end n w hw (by omega) (by omega)
    · exact rn_ok t n w hw (by omega) (by omega) (by omega) (by omega)
end Go.Proofs.YtcalbpdcjklffaaDoor
