/- The walk of the law SeqsTurns. -/
import Derived.Test.YtfaojafhamhncaaDoorSeqLaws
namespace Go.Proofs.YtfaojafhamhncaaDoor
open Go.RowKit
set_option linter.unusedSimpArgs false
set_option linter.unusedVariables false
theorem four_cells {W : World} {g : Nat} {a b c d : Value} {t : TypeId} (hP : W.heap[g]? = some (Obj.cells #[a, b, c, d] t)) :
    W.cell? ⟨g, 0, none⟩ = some a ∧ W.cell? ⟨g, 1, none⟩ = some b ∧ W.cell? ⟨g, 2, none⟩ = some c ∧ W.cell? ⟨g, 3, none⟩ = some d := by
  refine ⟨?_, ?_, ?_, ?_⟩ <;> simp [World.cell?, hP]
set_option maxHeartbeats 4000000 in
set_option maxRecDepth 100000 in
theorem seqsTurns_walk (f t n m : Int) (v : Value) (w : World) (hc : w.cell? ⟨0, 0, none⟩ = some v) (hv : ∃ t x, v = .iface t x) :
    Calls Tryd.prog 4 #[.agg #[.int .i64 f, .int .i64 t, .int .i64 n, .int .i64 m]] w fun e w' => e = .returned (.bool true) ∧ Below w.heap.size w w' := by
  generalize h1 : w.alloc (Obj.cells #[.int .i64 f, .int .i64 t, .int .i64 n, .int .i64 m] 26) = w1
  have hB1 : Below w.heap.size w w1 := by rw [← h1]; exact (Below.refl _ _).alloc (Nat.le_refl _) _
  have hP1 : w1.heap[w.heap.size]? = some (Obj.cells #[.int .i64 f, .int .i64 t, .int .i64 n, .int .i64 m] 26) := by rw [← h1]; exact World.alloc_heap_new w _
  obtain ⟨p0, p1, p2, p3⟩ := four_cells hP1
  have hAl : ∀ q, Calls Tryd.prog 11 #[] (w1.drewN q) fun e w' => e = .returned (.bool true) ∧ Below (w1.drewN q).heap.size (w1.drewN q) w' := fun q => alive14 v (w1.drewN q) (sent_then hc (below_draws hB1 q)) hv
  have HAl := Lib.hid hAl
  have HB1 := Lib.hid hB1
  clear hB1 hP1 hAl hc hv
  go_enter Tryd.func4, Tryd.ntmps4
  go_wp2
  go_quiet (fail)
  go_wp2_with fail
  refine (HAl.out _).mono ?_
  rintro e w2 ⟨rfl, hB2⟩
  have HB2 := Lib.hid (below_then (below_draws HB1.out _) hB2)
  clear hB2
  go_wp2_with fail
  generalize h3 : w2.alloc (Obj.cells #[.int .i64 f, .int .i64 t] 28) = w3
  generalize h4 : w3.alloc (Obj.cells #[.int .i64 t, .int .i64 f] 28) = w4
  generalize h5 : w4.alloc (Obj.cells #[.int .i64 0, .int .i64 0] 28) = w5
  have b3 : Below w2.heap.size w2 w3 := by rw [← h3]; exact (Below.refl _ _).alloc (Nat.le_refl _) _
  have b4 : Below w3.heap.size w3 w4 := by rw [← h4]; exact (Below.refl _ _).alloc (Nat.le_refl _) _
  have b5 : Below w4.heap.size w4 w5 := by rw [← h5]; exact (Below.refl _ _).alloc (Nat.le_refl _) _
  have HA := Lib.hid (((ranges_one h3).then b4).then b5)
  have HC := Lib.hid ((ranges_one h4).then b5)
  have HD := Lib.hid (ranges_one h5)
  have HB5 := Lib.hid (below_then (below_then (below_then HB2.out b3) b4) b5)
  have z3 : w3.heap.size = w2.heap.size + 1 := by rw [← h3]; simp
  have z4 : w4.heap.size = w2.heap.size + 1 + 1 := by rw [← h4]; simp [z3]
  rw [z3] at HC
  rw [z4] at HD
  clear b3 b4 b5 h3 h4 h5 p0 p1 p2 p3 h1
  refine (has_walk _ _ _ [(f, t)] n m w5 HA.out).mono ?_
  rintro e w6 ⟨rfl, hB6⟩
  have HB6 := Lib.hid (below_then HB5.out hB6)
  have HC6 := Lib.hid (HC.out.then hB6)
  have HD6 := Lib.hid (HD.out.then hB6)
  clear hB6
  go_wp2_with fail
  refine (has_walk _ _ _ [(t, f)] n m w6 HC6.out).mono ?_
  rintro e w7 ⟨rfl, hB7⟩
  rw [in_turn]
  have HB7 := Lib.hid (below_then HB6.out hB7)
  have HD7 := Lib.hid (HD6.out.then hB7)
  clear hB7
  have eb : (inB [(f, t)] n m == inB [(f, t)] n m) = true := by simp
  generalize inB [(f, t)] n m = b at *
  go_wp2_with fail
  refine (has_walk _ _ _ [(0, 0)] n m w7 HD7.out).mono ?_
  rintro e w8 ⟨rfl, hB8⟩
  rw [in_star]
  have HB8 := Lib.hid (below_then HB7.out hB8)
  clear hB8
  by_cases hn : 1 ≤ n
  · have e1 : decide (1 ≤ n) = true := decide_eq_true hn
    rw [e1, Bool.true_and]
    cases hm : (n == m)
    · go_wp2
      go_ret
      exact ⟨rfl, HB8.out⟩
    · go_wp2
      go_ret
      exact ⟨rfl, HB8.out⟩
  · have e1 : decide (1 ≤ n) = false := decide_eq_false hn
    rw [e1, Bool.false_and]
    go_wp2
    go_ret
    exact ⟨rfl, HB8.out⟩
end Go.Proofs.YtfaojafhamhncaaDoor
