/- The walks of the document's Has and In. -/
import Derived.Test.YtfaojafhamhncaaDoorHas
namespace Go.Proofs.YtfaojafhamhncaaDoor
open Go.RowKit
set_option linter.unusedSimpArgs false
set_option linter.unusedVariables false
theorem ret_bool {x y : Bool} (h : x = y) : Ending.returned (.bool x) = Ending.returned (.bool y) := by rw [h]
theorem hasB_def (f t x m : Int) : hasB x m (f, t) = decide (1 ≤ x ∧ (((if f = 0 then m else f) ≤ x ∧ x ≤ (if t = 0 then m else t)) ∨ ((if t = 0 then m else t) ≤ x ∧ x ≤ (if f = 0 then m else f)))) := rfl
set_option maxHeartbeats 4000000 in
set_option maxRecDepth 100000 in
theorem refHas_walk (f t x m : Int) (w : World) :
    Calls Tryd.prog 28 #[.agg #[.int .i64 f, .int .i64 t], .int .i64 x, .int .i64 m] w fun e w' => e = .returned (.bool (hasB x (topI m) (f, t))) ∧ Below w.heap.size w w' := by
  generalize h1 : w.alloc (Obj.cells #[.int .i64 f, .int .i64 t] 28) = w1
  have hP : w1.heap[w.heap.size]? = some (Obj.cells #[.int .i64 f, .int .i64 t] 28) := by rw [← h1]; exact World.alloc_heap_new w _
  have HB := Lib.hid (show Below w.heap.size w w1 by rw [← h1]; exact (Below.refl _ _).alloc (Nat.le_refl _) _)
  obtain ⟨d1, d2, d3, d4⟩ := two_cells hP
  clear hP
  by_cases hm : m < 0
  · have HT := Lib.hid (show topI m = 0 by rw [topI, if_pos hm])
    by_cases hf : f = 0
    · by_cases ht : t = 0
      · subst hf
        subst ht
        go_enter Tryd.func28, Tryd.ntmps28
        go_wp2
        go_quiet (fail)
        go_wp2
        all_goals
          go_ret
          exact ⟨ret_bool (by rw [HT.out, hasB_def, Bool.eq_iff_iff]; simp only [if_true, if_true]; simp; omega), below_draws HB.out _⟩
      · subst hf
        have GT : ((t == 0) : Bool) = false := by rw [beq_eq_false_iff_ne]; exact ht
        go_enter Tryd.func28, Tryd.ntmps28
        go_wp2
        go_quiet (fail)
        go_wp2
        all_goals
          go_ret
          exact ⟨ret_bool (by rw [HT.out, hasB_def, Bool.eq_iff_iff]; simp only [if_true, ht, if_false]; simp; omega), below_draws HB.out _⟩
    · by_cases ht : t = 0
      · have GF : ((f == 0) : Bool) = false := by rw [beq_eq_false_iff_ne]; exact hf
        subst ht
        go_enter Tryd.func28, Tryd.ntmps28
        go_wp2
        go_quiet (fail)
        go_wp2
        all_goals
          go_ret
          exact ⟨ret_bool (by rw [HT.out, hasB_def, Bool.eq_iff_iff]; simp only [hf, if_false, if_true]; simp; omega), below_draws HB.out _⟩
      · have GF : ((f == 0) : Bool) = false := by rw [beq_eq_false_iff_ne]; exact hf
        have GT : ((t == 0) : Bool) = false := by rw [beq_eq_false_iff_ne]; exact ht
        go_enter Tryd.func28, Tryd.ntmps28
        go_wp2
        go_quiet (fail)
        go_wp2
        all_goals
          go_ret
          exact ⟨ret_bool (by rw [HT.out, hasB_def, Bool.eq_iff_iff]; simp only [hf, if_false, ht, if_false]; simp; omega), below_draws HB.out _⟩
  · have HT := Lib.hid (show topI m = m by rw [topI, if_neg hm])
    have hm : 0 ≤ m := by omega
    by_cases hf : f = 0
    · by_cases ht : t = 0
      · subst hf
        subst ht
        go_enter Tryd.func28, Tryd.ntmps28
        go_wp2
        go_quiet (fail)
        go_wp2
        all_goals
          go_ret
          exact ⟨ret_bool (by rw [HT.out, hasB_def, Bool.eq_iff_iff]; simp only [if_true, if_true]; simp; omega), below_draws HB.out _⟩
      · subst hf
        have GT : ((t == 0) : Bool) = false := by rw [beq_eq_false_iff_ne]; exact ht
        go_enter Tryd.func28, Tryd.ntmps28
        go_wp2
        go_quiet (fail)
        go_wp2
        all_goals
          go_ret
          exact ⟨ret_bool (by rw [HT.out, hasB_def, Bool.eq_iff_iff]; simp only [if_true, ht, if_false]; simp; omega), below_draws HB.out _⟩
    · by_cases ht : t = 0
      · have GF : ((f == 0) : Bool) = false := by rw [beq_eq_false_iff_ne]; exact hf
        subst ht
        go_enter Tryd.func28, Tryd.ntmps28
        go_wp2
        go_quiet (fail)
        go_wp2
        all_goals
          go_ret
          exact ⟨ret_bool (by rw [HT.out, hasB_def, Bool.eq_iff_iff]; simp only [hf, if_false, if_true]; simp; omega), below_draws HB.out _⟩
      · have GF : ((f == 0) : Bool) = false := by rw [beq_eq_false_iff_ne]; exact hf
        have GT : ((t == 0) : Bool) = false := by rw [beq_eq_false_iff_ne]; exact ht
        go_enter Tryd.func28, Tryd.ntmps28
        go_wp2
        go_quiet (fail)
        go_wp2
        all_goals
          go_ret
          exact ⟨ret_bool (by rw [HT.out, hasB_def, Bool.eq_iff_iff]; simp only [hf, if_false, ht, if_false]; simp; omega), below_draws HB.out _⟩
set_option maxHeartbeats 4000000 in
set_option maxRecDepth 100000 in
theorem refIn_walk (A : Option Addr) (n c : Nat) (xs : List (Int × Int)) (x m : Int) (w : World) (hA : RangesAt w A n xs) :
    Calls Tryd.prog 13 #[.slice A n c, .int .i64 x, .int .i64 m] w fun e w' => e = .returned (.bool (inB xs x m)) ∧ Below w.heap.size w w' := by
  obtain ⟨lx, hn, hx⟩ := hA
  have LX := Lib.hid lx
  clear lx
  by_cases h0 : n = 0
  · subst h0
    have e : inB xs x m = false := in_none LX.out.symm (fun j h => absurd h (Nat.not_lt_zero j))
    have E := Lib.hid e
    clear hx e
    go_enter Tryd.func13, Tryd.ntmps13
    go_wp2
    refine wp_loop_rounds 1 ?_
    rw [rounds_succ]
    go_wp2
    go_ret
    exact ⟨by rw [E.out]; rfl, Below.refl _ _⟩
  · obtain ⟨g, o, rfl, hg, cx⟩ := hx (by omega)
    have CX := Lib.hid cx
    clear cx hx
    go_enter Tryd.func13, Tryd.ntmps13
    go_wp2
    go_loopw [11] (fun i wr => ∃ k : Nat, k ≤ n ∧ i = .int .i64 k ∧ Hid (∀ j, j < k → ¬ hasP (xs.getD j (0, 0)).1 (xs.getD j (0, 0)).2 x (topI m)) ∧ Hid (Below w.heap.size w wr)) (fun i _ => n - (intOf i).toNat)
    case atStart => exact ⟨0, Nat.zero_le _, rfl, Lib.hid (fun j h => absurd h (Nat.not_lt_zero j)), Lib.hid (Below.refl _ _)⟩
    case round =>
      obtain ⟨k, hk, rfl, HS, HB⟩ := hrel
      by_cases hkn : k < n
      · have hB := HB.out
        have zz : w.heap.size ≤ wr.heap.size := hB.size
        have c1 : wr.cell? ⟨g, o + k * 2, none⟩ = some (.int .i64 (xs.getD k (0, 0)).1) := (hB.cell (p := ⟨g, _, none⟩) hg).trans (CX.out k hkn).1
        have c2 : wr.cell? ⟨g, o + k * 2 + 1, none⟩ = some (.int .i64 (xs.getD k (0, 0)).2) := (hB.cell (p := ⟨g, _, none⟩) hg).trans (CX.out k hkn).2
        have HI : Hid (hasP (xs.getD k (0, 0)).1 (xs.getD k (0, 0)).2 x (topI m) → inB xs x m = true) := Lib.hid (in_hit (by rw [LX.out]; exact hkn))
        have HN : Hid (¬ hasP (xs.getD k (0, 0)).1 (xs.getD k (0, 0)).2 x (topI m) → ∀ j, j < k + 1 → ¬ hasP (xs.getD j (0, 0)).1 (xs.getD j (0, 0)).2 x (topI m)) := Lib.hid (fun h => upto_next HS.out h)
        generalize (xs.getD k (0, 0)).1 = f at c1 HI HN
        generalize (xs.getD k (0, 0)).2 = t at c2 HI HN
        generalize h3 : wr.alloc (Obj.cells #[.int .i64 0, .int .i64 0] 28) = w3
        generalize h4 : (w3.setCell ⟨wr.heap.size, 0, none⟩ (.int .i64 f)).setCell ⟨wr.heap.size, 1, none⟩ (.int .i64 t) = w4
        obtain ⟨hB4, hP4, hP3, hB3⟩ := two_laid wr f t h3 h4
        have HB4 := Lib.hid (below_then hB hB4)
        have c3 : w3.cell? ⟨g, o + k * 2, none⟩ = some (.int .i64 f) := (hB3.cell (p := ⟨g, _, none⟩) (Nat.lt_of_lt_of_le hg zz)).trans c1
        have c4 : w3.cell? ⟨g, o + k * 2 + 1, none⟩ = some (.int .i64 t) := (hB3.cell (p := ⟨g, _, none⟩) (Nat.lt_of_lt_of_le hg zz)).trans c2
        obtain ⟨d1, d2, d3, d4⟩ := two_cells hP3
        obtain ⟨e1, e2, e3, e4⟩ := two_cells hP4
        clear hB hB4 hP4 hP3 hB3
        by_cases hh : hasP f t x (topI m)
        · have V := Lib.hid (show hasB x (topI m) (f, t) = true from decide_eq_true hh)
          have E := Lib.hid (HI.out hh)
          clear hh HI HN
          go_wp2_with fail
          refine (refHas_walk _ _ _ _ _).mono ?_
          rintro e w5 ⟨rfl, hB5⟩
          rw [V.out]
          have HB5 := Lib.hid (below_then HB4.out hB5)
          clear hB5
          go_wp2
          go_ret
          exact ⟨by rw [E.out]; rfl, HB5.out⟩
        · have V := Lib.hid (show hasB x (topI m) (f, t) = false from decide_eq_false hh)
          have E := Lib.hid (HN.out hh)
          clear hh HI HN
          go_wp2_with fail
          refine (refHas_walk _ _ _ _ _).mono ?_
          rintro e w5 ⟨rfl, hB5⟩
          rw [V.out]
          have HB5 := Lib.hid (below_then HB4.out hB5)
          clear hB5
          go_wp2
          go_roundw
          case rel => exact ⟨k + 1, by omega, by go_num, E, HB5⟩
          case measure => simp [intOf]; omega
      · obtain rfl : k = n := by omega
        have e := in_none (m := m) (n := x) LX.out.symm HS.out
        have E := Lib.hid e
        clear e
        go_wp2
        go_ret
        exact ⟨by rw [E.out]; rfl, HB.out⟩
end Go.Proofs.YtfaojafhamhncaaDoor
