/- The walks of the laws SeqsHas, SeqsTurns, SeqsJoins. -/
import Derived.Test.YtfaojafhamhncaaDoorAlive14
import Derived.Test.YtfaojafhamhncaaDoorRefIn
import Derived.Laws.AppendOwnNone
namespace Go.Proofs.YtfaojafhamhncaaDoor
open Go.RowKit
set_option linter.unusedSimpArgs false
set_option linter.unusedVariables false
set_option maxHeartbeats 2000000 in
set_option maxRecDepth 100000 in
theorem seqsHas_walk (A : Option Addr) (n c : Nat) (xs : List (Int × Int)) (x m : Int) (v : Value) (w : World) (hA : RangesAt w A n xs) (hc : w.cell? ⟨0, 0, none⟩ = some v) (hv : ∃ t x, v = .iface t x) :
    Calls Tryd.prog 3 #[.slice A n c, .int .i64 x, .int .i64 m] w fun e w' => e = .returned (.bool true) ∧ Below w.heap.size w w' := by
  have HAl := Lib.hid (alive14 v w hc hv)
  have HA := Lib.hid hA
  have zn := hA.2.1
  clear hc hv hA
  by_cases hn : n ≤ 1000
  · go_enter Tryd.func3, Tryd.ntmps3
    go_wp2_with fail
    refine HAl.out.mono ?_
    rintro e w2 ⟨rfl, hB2⟩
    have HB2 := Lib.hid hB2
    have HA2 := Lib.hid (HA.out.then hB2)
    clear hB2
    go_wp2_with fail
    refine (has_walk A n c xs x m w2 HA2.out).mono ?_
    rintro e w3 ⟨rfl, hB3⟩
    have HB3 := Lib.hid (below_then HB2.out hB3)
    have HA3 := Lib.hid (HA2.out.then hB3)
    clear hB3
    go_wp2_with fail
    refine (refIn_walk A n c xs x m w3 HA3.out).mono ?_
    rintro e w4 ⟨rfl, hB4⟩
    have HB4 := Lib.hid (below_then HB3.out hB4)
    clear hB4
    generalize inB xs x m = b
    cases b
    · go_wp2
      go_ret
      exact ⟨rfl, HB4.out⟩
    · go_wp2
      go_ret
      exact ⟨rfl, HB4.out⟩
  · go_enter Tryd.func3, Tryd.ntmps3
    go_wp2_with fail
    refine HAl.out.mono ?_
    rintro e w2 ⟨rfl, hB2⟩
    have HB2 := Lib.hid hB2
    clear hB2
    go_wp2
    go_ret
    exact ⟨rfl, HB2.out⟩
theorem ranges_one {W w1 : World} {f t : Int} (h : W.alloc (Obj.cells #[.int .i64 f, .int .i64 t] 28) = w1) : RangesAt w1 (some ⟨W.heap.size, 0, none⟩) 1 [(f, t)] := by
  have hP : w1.heap[W.heap.size]? = some (Obj.cells #[.int .i64 f, .int .i64 t] 28) := by rw [← h]; exact World.alloc_heap_new W _
  have hz : w1.heap.size = W.heap.size + 1 := by rw [← h]; simp
  obtain ⟨d0, d1, d2, d3⟩ := two_cells hP
  refine ⟨rfl, by decide, fun _ => ⟨W.heap.size, 0, rfl, by omega, fun j hj => ?_⟩⟩
  obtain rfl : j = 0 := by omega
  exact ⟨by first | exact d0 | exact d1 | exact d2 | exact d3, by first | exact d0 | exact d1 | exact d2 | exact d3⟩
theorem in_turn (f t n m : Int) : inB [(t, f)] n m = inB [(f, t)] n m := by
  rw [Bool.eq_iff_iff]
  simp only [inB, List.any_cons, List.any_nil, Bool.or_false, hasB, decide_eq_true_iff, hasP]
  omega
theorem in_star (n m : Int) : inB [(0, 0)] n m = (decide (1 ≤ n) && (n == m)) := by
  rw [Bool.eq_iff_iff]
  simp only [inB, List.any_cons, List.any_nil, Bool.or_false, hasB, decide_eq_true_iff, hasP, topI, Bool.and_eq_true, beq_iff_eq, if_true]
  split <;> omega
theorem in_both (xs ys : List (Int × Int)) (n m : Int) : inB (xs ++ ys) n m = (inB xs n m || inB ys n m) := by rw [inB, List.any_append]; rfl
end Go.Proofs.YtfaojafhamhncaaDoor
