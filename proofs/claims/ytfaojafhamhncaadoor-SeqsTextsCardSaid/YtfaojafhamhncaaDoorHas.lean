/- The walks of seqs.Has and the document's Has and In: which numbers a set has. -/
import Derived.Test.YtfaojafhamhncaaDoorOwn
import Derived.Test.YtfaojafhamhncaaDoorStructs
import Derived.Test.YtfaojafhamhncaaDoorChecked
import Derived.Handy
import Derived.RangeFuncRecord
import Derived.Lib.Hide
import Derived.IntWalk
import Derived.Deep.QuietTactic
import Derived.BigQuiet
import Derived.WalkLawsBesides
namespace Go.Proofs.YtfaojafhamhncaaDoor
open Go.RowKit
set_option linter.unusedSimpArgs false
set_option linter.unusedVariables false
/-- a set: a slice that reads as a list of ranges -/
def RangesAt (w : World) (A : Option Addr) (n : Nat) (xs : List (Int × Int)) : Prop :=
  xs.length = n ∧ n ≤ 9223372036854775807 ∧ (0 < n → ∃ g o, A = some ⟨g, o, none⟩ ∧ g < w.heap.size ∧ ∀ j, j < n → w.cell? ⟨g, o + j * 2, none⟩ = some (.int .i64 (xs.getD j (0, 0)).1) ∧ w.cell? ⟨g, o + j * 2 + 1, none⟩ = some (.int .i64 (xs.getD j (0, 0)).2))
theorem RangesAt.then {w w1 : World} {A : Option Addr} {n : Nat} {xs : List (Int × Int)} (h : RangesAt w A n xs) (hb : Below w.heap.size w w1) : RangesAt w1 A n xs := by
  refine ⟨h.1, h.2.1, fun hp => ?_⟩
  obtain ⟨g, o, rfl, hg, hc⟩ := h.2.2 hp
  exact ⟨g, o, rfl, Nat.lt_of_lt_of_le hg hb.size, fun j hj => ⟨(hb.cell (p := ⟨g, _, none⟩) hg).trans (hc j hj).1, (hb.cell (p := ⟨g, _, none⟩) hg).trans (hc j hj).2⟩⟩
def hasP (f t n m : Int) : Prop := 1 ≤ n ∧ (((if f = 0 then m else f) ≤ n ∧ n ≤ (if t = 0 then m else t)) ∨ ((if t = 0 then m else t) ≤ n ∧ n ≤ (if f = 0 then m else f)))
instance (f t n m : Int) : Decidable (hasP f t n m) := by unfold hasP; infer_instance
def hasB (n m : Int) (r : Int × Int) : Bool := decide (hasP r.1 r.2 n m)
def topI (m : Int) : Int := if m < 0 then 0 else m
def inB (xs : List (Int × Int)) (n m : Int) : Bool := xs.any (hasB n (topI m))
theorem in_hit {xs : List (Int × Int)} {n m : Int} {k : Nat} (hk : k < xs.length) (h : hasP (xs.getD k (0, 0)).1 (xs.getD k (0, 0)).2 n (topI m)) : inB xs n m = true := by
  rw [inB, List.any_eq_true]
  refine ⟨xs[k], List.getElem_mem hk, ?_⟩
  rw [hasB, decide_eq_true_iff]
  simpa [List.getD_eq_getElem?_getD, List.getElem?_eq_getElem hk] using h
theorem in_none {xs : List (Int × Int)} {n m : Int} {k : Nat} (hk : k = xs.length) (h : ∀ j, j < k → ¬ hasP (xs.getD j (0, 0)).1 (xs.getD j (0, 0)).2 n (topI m)) : inB xs n m = false := by
  rw [inB, List.any_eq_false]
  intro x hx
  obtain ⟨j, hj, rfl⟩ := List.getElem_of_mem hx
  have := h j (by omega)
  rw [hasB, decide_eq_true_iff]
  simpa [List.getD_eq_getElem?_getD, List.getElem?_eq_getElem hj] using this
theorem upto_next {q : Nat → Prop} {k : Nat} (h : ∀ j, j < k → q j) (hk : q k) : ∀ j, j < k + 1 → q j := fun j hj => by
  by_cases e : j = k
  · subst e; exact hk
  · exact h j (by omega)
/-- a struct of two numbers, laid anew at a block -/
theorem two_laid (w : World) (x y : Int) {w3 w4 : World} (h3 : w.alloc (Obj.cells #[.int .i64 0, .int .i64 0] 28) = w3)
    (h4 : (w3.setCell ⟨w.heap.size, 0, none⟩ (.int .i64 x)).setCell ⟨w.heap.size, 1, none⟩ (.int .i64 y) = w4) :
    Below w.heap.size w w4 ∧ w4.heap[w.heap.size]? = some (Obj.cells #[.int .i64 x, .int .i64 y] 28) ∧ w3.heap[w.heap.size]? = some (Obj.cells #[.int .i64 0, .int .i64 0] 28) ∧ Below w.heap.size w w3 := by
  subst h4
  subst h3
  have h0 : (w.alloc (Obj.cells #[.int .i64 0, .int .i64 0] 28)).heap[w.heap.size]? = some (Obj.cells #[.int .i64 0, .int .i64 0] 28) := World.alloc_heap_new w _
  refine ⟨(((Below.refl _ _).alloc (Nat.le_refl _) _).setCell (Nat.le_refl _) _).setCell (Nat.le_refl _) _, ?_, h0, (Below.refl _ _).alloc (Nat.le_refl _) _⟩
  obtain ⟨hl, hx⟩ := Array.getElem?_eq_some_iff.1 h0
  simp [World.setCell, Array.getElem_modify]
  rw [hx]
  rfl
theorem two_cells {w : World} {b : Nat} {t : TypeId} {x y : Value} (h : w.heap[b]? = some (Obj.cells #[x, y] t)) :
    w.cell? ⟨b, 0, none⟩ = some x ∧ w.cell? ⟨b, 1, none⟩ = some y ∧ w.frozen? ⟨b, 0, none⟩ = false ∧ w.frozen? ⟨b, 1, none⟩ = false := by
  refine ⟨?_, ?_, ?_, ?_⟩
  · simp [World.cell?, h]
  · simp [World.cell?, h]
  · simp [World.frozen?, h]
  · simp [World.frozen?, h]
set_option maxHeartbeats 4000000 in
set_option maxRecDepth 100000 in
theorem has_round (A : Option Addr) (n c : Nat) (xs : List (Int × Int)) (x m : Int) (w : World) (hA : RangesAt w A n xs) (hm : 0 ≤ m) :
    Calls Tryd.prog 12 #[.slice A n c, .int .i64 x, .int .i64 m] w fun e w' => e = .returned (.bool (inB xs x m)) ∧ Below w.heap.size w w' := by
  obtain ⟨lx, hn, hx⟩ := hA
  have LX := Lib.hid lx
  clear lx
  have tm : topI m = m := by rw [topI, if_neg (by omega)]
  have TM := Lib.hid tm
  clear tm
  by_cases h0 : n = 0
  · subst h0
    have e : inB xs x m = false := in_none LX.out.symm (fun j h => absurd h (Nat.not_lt_zero j))
    have E := Lib.hid e
    clear hx e
    go_enter Tryd.func12, Tryd.ntmps12
    go_wp2
    refine wp_loop_rounds 1 ?_
    rw [rounds_succ]
    go_wp2
    go_ret
    exact ⟨by rw [E.out]; rfl, Below.refl _ _⟩
  · obtain ⟨g, o, rfl, hg, cx⟩ := hx (by omega)
    have CX := Lib.hid cx
    clear cx hx
    go_enter Tryd.func12, Tryd.ntmps12
    go_wp2
    go_loopw [15] (fun i wr => ∃ k : Nat, k ≤ n ∧ i = .int .i64 k ∧ Hid (∀ j, j < k → ¬ hasP (xs.getD j (0, 0)).1 (xs.getD j (0, 0)).2 x m) ∧ Hid (Below w.heap.size w wr)) (fun i _ => n - (intOf i).toNat)
    case atStart => exact ⟨0, Nat.zero_le _, rfl, Lib.hid (fun j h => absurd h (Nat.not_lt_zero j)), Lib.hid (Below.refl _ _)⟩
    case round =>
      obtain ⟨k, hk, rfl, HS, HB⟩ := hrel
      by_cases hkn : k < n
      · have hB := HB.out
        have zz : w.heap.size ≤ wr.heap.size := hB.size
        have c1 : wr.cell? ⟨g, o + k * 2, none⟩ = some (.int .i64 (xs.getD k (0, 0)).1) := (hB.cell (p := ⟨g, _, none⟩) hg).trans (CX.out k hkn).1
        have c2 : wr.cell? ⟨g, o + k * 2 + 1, none⟩ = some (.int .i64 (xs.getD k (0, 0)).2) := (hB.cell (p := ⟨g, _, none⟩) hg).trans (CX.out k hkn).2
        have HI : Hid (hasP (xs.getD k (0, 0)).1 (xs.getD k (0, 0)).2 x m → inB xs x m = true) := Lib.hid (fun h => in_hit (by rw [LX.out]; exact hkn) (by rw [TM.out]; exact h))
        have HN : Hid (¬ hasP (xs.getD k (0, 0)).1 (xs.getD k (0, 0)).2 x m → ∀ j, j < k + 1 → ¬ hasP (xs.getD j (0, 0)).1 (xs.getD j (0, 0)).2 x m) := Lib.hid (fun h => upto_next HS.out h)
        generalize (xs.getD k (0, 0)).1 = f at c1 HI HN
        generalize (xs.getD k (0, 0)).2 = t at c2 HI HN
        generalize h3 : wr.alloc (Obj.cells #[.int .i64 0, .int .i64 0] 28) = w3
        generalize h4 : (w3.setCell ⟨wr.heap.size, 0, none⟩ (.int .i64 f)).setCell ⟨wr.heap.size, 1, none⟩ (.int .i64 t) = w4
        obtain ⟨hB4, hP4, hP3, hB3⟩ := two_laid wr f t h3 h4
        have HB4 := Lib.hid (below_then hB hB4)
        have c3 : w3.cell? ⟨g, o + k * 2, none⟩ = some (.int .i64 f) := (hB3.cell (p := ⟨g, _, none⟩) (Nat.lt_of_lt_of_le hg zz)).trans c1
        have c4 : w3.cell? ⟨g, o + k * 2 + 1, none⟩ = some (.int .i64 t) := (hB3.cell (p := ⟨g, _, none⟩) (Nat.lt_of_lt_of_le hg zz)).trans c2
        obtain ⟨d1, d2, d3, d4⟩ := two_cells hP3
        obtain ⟨e1, e2, e3, e4⟩ := two_cells hP4
        clear hB hB4 hP4 hP3 hB3
        by_cases hf : f = 0
        · by_cases ht : t = 0
          · skip
            subst hf
            subst ht
            go_wp2
            go_quiet (fail)
            go_wp2
            all_goals
              first
              | (go_ret
                 exact ⟨by rw [HI.out (by unfold hasP; simp only [if_true]; omega)]; rfl, below_draws HB4.out _⟩)
              | (go_roundw
                 case rel => exact ⟨k + 1, by omega, by go_num, Lib.hid (HN.out (by unfold hasP; simp only [if_true]; omega)), Lib.hid (below_draws HB4.out _)⟩
                 case measure => simp [intOf]; omega)
          · skip
            subst hf
            have GT : ((t == 0) : Bool) = false := by rw [beq_eq_false_iff_ne]; exact ht
            go_wp2
            go_quiet (fail)
            go_wp2
            all_goals
              first
              | (go_ret
                 exact ⟨by rw [HI.out (by unfold hasP; simp only [if_true, ht, if_false]; omega)]; rfl, below_draws HB4.out _⟩)
              | (go_roundw
                 case rel => exact ⟨k + 1, by omega, by go_num, Lib.hid (HN.out (by unfold hasP; simp only [if_true, ht, if_false]; omega)), Lib.hid (below_draws HB4.out _)⟩
                 case measure => simp [intOf]; omega)
        · by_cases ht : t = 0
          · skip
            have GF : ((f == 0) : Bool) = false := by rw [beq_eq_false_iff_ne]; exact hf
            subst ht
            go_wp2
            go_quiet (fail)
            go_wp2
            all_goals
              first
              | (go_ret
                 exact ⟨by rw [HI.out (by unfold hasP; simp only [hf, if_false, if_true]; omega)]; rfl, below_draws HB4.out _⟩)
              | (go_roundw
                 case rel => exact ⟨k + 1, by omega, by go_num, Lib.hid (HN.out (by unfold hasP; simp only [hf, if_false, if_true]; omega)), Lib.hid (below_draws HB4.out _)⟩
                 case measure => simp [intOf]; omega)
          · skip
            have GF : ((f == 0) : Bool) = false := by rw [beq_eq_false_iff_ne]; exact hf
            have GT : ((t == 0) : Bool) = false := by rw [beq_eq_false_iff_ne]; exact ht
            go_wp2
            go_quiet (fail)
            go_wp2
            all_goals
              first
              | (go_ret
                 exact ⟨by rw [HI.out (by unfold hasP; simp only [hf, if_false, ht, if_false]; omega)]; rfl, below_draws HB4.out _⟩)
              | (go_roundw
                 case rel => exact ⟨k + 1, by omega, by go_num, Lib.hid (HN.out (by unfold hasP; simp only [hf, if_false, ht, if_false]; omega)), Lib.hid (below_draws HB4.out _)⟩
                 case measure => simp [intOf]; omega)
      · obtain rfl : k = n := by omega
        have e := in_none (m := m) (n := x) LX.out.symm (by rw [TM.out]; exact HS.out)
        have E := Lib.hid e
        clear e
        go_wp2
        go_ret
        exact ⟨by rw [E.out]; rfl, HB.out⟩
set_option maxHeartbeats 4000000 in
set_option maxRecDepth 100000 in
theorem has_neg (A : Option Addr) (n c : Nat) (xs : List (Int × Int)) (x m : Int) (w : World) (hA : RangesAt w A n xs) (hm : m < 0) :
    Calls Tryd.prog 12 #[.slice A n c, .int .i64 x, .int .i64 m] w fun e w' => e = .returned (.bool (inB xs x m)) ∧ Below w.heap.size w w' := by
  obtain ⟨lx, hn, hx⟩ := hA
  have LX := Lib.hid lx
  clear lx
  have tm : topI m = 0 := by rw [topI, if_pos hm]
  have TM := Lib.hid tm
  clear tm
  by_cases h0 : n = 0
  · subst h0
    have e : inB xs x m = false := in_none LX.out.symm (fun j h => absurd h (Nat.not_lt_zero j))
    have E := Lib.hid e
    clear hx e
    go_enter Tryd.func12, Tryd.ntmps12
    go_wp2
    refine wp_loop_rounds 1 ?_
    rw [rounds_succ]
    go_wp2
    go_ret
    exact ⟨by rw [E.out]; rfl, Below.refl _ _⟩
  · obtain ⟨g, o, rfl, hg, cx⟩ := hx (by omega)
    have CX := Lib.hid cx
    clear cx hx
    go_enter Tryd.func12, Tryd.ntmps12
    go_wp2
    go_loopw [15] (fun i wr => ∃ k : Nat, k ≤ n ∧ i = .int .i64 k ∧ Hid (∀ j, j < k → ¬ hasP (xs.getD j (0, 0)).1 (xs.getD j (0, 0)).2 x 0) ∧ Hid (Below w.heap.size w wr)) (fun i _ => n - (intOf i).toNat)
    case atStart => exact ⟨0, Nat.zero_le _, rfl, Lib.hid (fun j h => absurd h (Nat.not_lt_zero j)), Lib.hid (Below.refl _ _)⟩
    case round =>
      obtain ⟨k, hk, rfl, HS, HB⟩ := hrel
      by_cases hkn : k < n
      · have hB := HB.out
        have zz : w.heap.size ≤ wr.heap.size := hB.size
        have c1 : wr.cell? ⟨g, o + k * 2, none⟩ = some (.int .i64 (xs.getD k (0, 0)).1) := (hB.cell (p := ⟨g, _, none⟩) hg).trans (CX.out k hkn).1
        have c2 : wr.cell? ⟨g, o + k * 2 + 1, none⟩ = some (.int .i64 (xs.getD k (0, 0)).2) := (hB.cell (p := ⟨g, _, none⟩) hg).trans (CX.out k hkn).2
        have HI : Hid (hasP (xs.getD k (0, 0)).1 (xs.getD k (0, 0)).2 x 0 → inB xs x m = true) := Lib.hid (fun h => in_hit (by rw [LX.out]; exact hkn) (by rw [TM.out]; exact h))
        have HN : Hid (¬ hasP (xs.getD k (0, 0)).1 (xs.getD k (0, 0)).2 x 0 → ∀ j, j < k + 1 → ¬ hasP (xs.getD j (0, 0)).1 (xs.getD j (0, 0)).2 x 0) := Lib.hid (fun h => upto_next HS.out h)
        generalize (xs.getD k (0, 0)).1 = f at c1 HI HN
        generalize (xs.getD k (0, 0)).2 = t at c2 HI HN
        generalize h3 : wr.alloc (Obj.cells #[.int .i64 0, .int .i64 0] 28) = w3
        generalize h4 : (w3.setCell ⟨wr.heap.size, 0, none⟩ (.int .i64 f)).setCell ⟨wr.heap.size, 1, none⟩ (.int .i64 t) = w4
        obtain ⟨hB4, hP4, hP3, hB3⟩ := two_laid wr f t h3 h4
        have HB4 := Lib.hid (below_then hB hB4)
        have c3 : w3.cell? ⟨g, o + k * 2, none⟩ = some (.int .i64 f) := (hB3.cell (p := ⟨g, _, none⟩) (Nat.lt_of_lt_of_le hg zz)).trans c1
        have c4 : w3.cell? ⟨g, o + k * 2 + 1, none⟩ = some (.int .i64 t) := (hB3.cell (p := ⟨g, _, none⟩) (Nat.lt_of_lt_of_le hg zz)).trans c2
        obtain ⟨d1, d2, d3, d4⟩ := two_cells hP3
        obtain ⟨e1, e2, e3, e4⟩ := two_cells hP4
        clear hB hB4 hP4 hP3 hB3
        by_cases hf : f = 0
        · by_cases ht : t = 0
          · skip
            subst hf
            subst ht
            go_wp2
            go_quiet (fail)
            go_wp2
            all_goals
              first
              | (go_ret
                 exact ⟨by rw [HI.out (by unfold hasP; simp only [if_true]; omega)]; rfl, below_draws HB4.out _⟩)
              | (go_roundw
                 case rel => exact ⟨k + 1, by omega, by go_num, Lib.hid (HN.out (by unfold hasP; simp only [if_true]; omega)), Lib.hid (below_draws HB4.out _)⟩
                 case measure => simp [intOf]; omega)
          · skip
            subst hf
            have GT : ((t == 0) : Bool) = false := by rw [beq_eq_false_iff_ne]; exact ht
            go_wp2
            go_quiet (fail)
            go_wp2
            all_goals
              first
              | (go_ret
                 exact ⟨by rw [HI.out (by unfold hasP; simp only [if_true, ht, if_false]; omega)]; rfl, below_draws HB4.out _⟩)
              | (go_roundw
                 case rel => exact ⟨k + 1, by omega, by go_num, Lib.hid (HN.out (by unfold hasP; simp only [if_true, ht, if_false]; omega)), Lib.hid (below_draws HB4.out _)⟩
                 case measure => simp [intOf]; omega)
        · by_cases ht : t = 0
          · skip
            have GF : ((f == 0) : Bool) = false := by rw [beq_eq_false_iff_ne]; exact hf
            subst ht
            go_wp2
            go_quiet (fail)
            go_wp2
            all_goals
              first
              | (go_ret
                 exact ⟨by rw [HI.out (by unfold hasP; simp only [hf, if_false, if_true]; omega)]; rfl, below_draws HB4.out _⟩)
              | (go_roundw
                 case rel => exact ⟨k + 1, by omega, by go_num, Lib.hid (HN.out (by unfold hasP; simp only [hf, if_false, if_true]; omega)), Lib.hid (below_draws HB4.out _)⟩
                 case measure => simp [intOf]; omega)
          · skip
            have GF : ((f == 0) : Bool) = false := by rw [beq_eq_false_iff_ne]; exact hf
            have GT : ((t == 0) : Bool) = false := by rw [beq_eq_false_iff_ne]; exact ht
            go_wp2
            go_quiet (fail)
            go_wp2
            all_goals
              first
              | (go_ret
                 exact ⟨by rw [HI.out (by unfold hasP; simp only [hf, if_false, ht, if_false]; omega)]; rfl, below_draws HB4.out _⟩)
              | (go_roundw
                 case rel => exact ⟨k + 1, by omega, by go_num, Lib.hid (HN.out (by unfold hasP; simp only [hf, if_false, ht, if_false]; omega)), Lib.hid (below_draws HB4.out _)⟩
                 case measure => simp [intOf]; omega)
      · obtain rfl : k = n := by omega
        have e := in_none (m := m) (n := x) LX.out.symm (by rw [TM.out]; exact HS.out)
        have E := Lib.hid e
        clear e
        go_wp2
        go_ret
        exact ⟨by rw [E.out]; rfl, HB.out⟩
theorem has_walk (A : Option Addr) (n c : Nat) (xs : List (Int × Int)) (x m : Int) (w : World) (hA : RangesAt w A n xs) :
    Calls Tryd.prog 12 #[.slice A n c, .int .i64 x, .int .i64 m] w fun e w' => e = .returned (.bool (inB xs x m)) ∧ Below w.heap.size w w' := by
  by_cases h : 0 ≤ m
  · exact has_round A n c xs x m w hA h
  · exact has_neg A n c xs x m w hA (by omega)
end Go.Proofs.YtfaojafhamhncaaDoor
