/- The walk of the document's SameRanges at two lists of one set, or of any. -/
import Derived.Test.YtfaojafhamhncaaDoorSeqJoins
namespace Go.Proofs.YtfaojafhamhncaaDoor
open Go.RowKit
set_option linter.unusedSimpArgs false
set_option linter.unusedVariables false
set_option maxHeartbeats 400000 in
theorem sameR_ne (A B : Option Addr) (n m c d : Nat) (w : World) (h : n ≠ m) :
    Calls Tryd.prog 19 #[.slice A n c, .slice B m d] w fun e w' => e = .returned (.bool false) ∧ w = w' := by
  have hh : ((n : Int) != (m : Int)) = true := by rw [bne_iff_ne]; omega
  go_enter Tryd.func19, Tryd.ntmps19
  go_wp2
  go_ret
  exact ⟨rfl, rfl⟩
set_option maxHeartbeats 4000000 in
set_option maxRecDepth 100000 in
/-- two slices that read as one list -/
theorem sameR_eq (A B : Option Addr) (n c d : Nat) (xs : List (Int × Int)) (w : World) (hx : RangesAt w A n xs) (hy : RangesAt w B n xs) :
    Calls Tryd.prog 19 #[.slice A n c, .slice B n d] w fun e w' => e = .returned (.bool true) ∧ ∃ q, w' = w.drewN q := by
  have hn := hx.2.1
  have HX := Lib.hid hx
  have HY := Lib.hid hy
  have hh : ((n : Int) != (n : Int)) = false := by simp
  clear hx hy
  by_cases h0 : n = 0
  · subst h0
    go_enter Tryd.func19, Tryd.ntmps19
    go_wp2
    refine wp_loop_rounds 1 ?_
    rw [rounds_succ]
    go_wp2
    go_ret
    exact ⟨rfl, 0, rfl⟩
  · obtain ⟨g, o, rfl, hg, hcx⟩ := HX.out.2.2 (by omega)
    obtain ⟨g2, o2, rfl, hg2, hcy⟩ := HY.out.2.2 (by omega)
    have CX := Lib.hid hcx
    have CY := Lib.hid hcy
    clear hcx hcy
    go_enter Tryd.func19, Tryd.ntmps19
    go_wp2
    go_loopw [13] (fun i wr => ∃ k : Nat, k ≤ n ∧ i = .int .i64 k ∧ ∃ q, wr = w.drewN q) (fun i _ => n - (intOf i).toNat)
    case atStart => exact ⟨0, Nat.zero_le _, rfl, 0, rfl⟩
    case round =>
      obtain ⟨k, hk, rfl, q, rfl⟩ := hrel
      by_cases hkn : k < n
      · have x1 : (w.drewN q).cell? ⟨g, o + k * 2, none⟩ = _ := (CX.out k hkn).1
        have x2 : (w.drewN q).cell? ⟨g, o + k * 2 + 1, none⟩ = _ := (CX.out k hkn).2
        have y1 : (w.drewN q).cell? ⟨g2, o2 + k * 2, none⟩ = _ := (CY.out k hkn).1
        have y2 : (w.drewN q).cell? ⟨g2, o2 + k * 2 + 1, none⟩ = _ := (CY.out k hkn).2
        generalize (xs.getD k (0, 0)).1 = f at *
        generalize (xs.getD k (0, 0)).2 = t at *
        generalize hwq : w.drewN q = wq at *
        go_wp2
        go_quiet (fail)
        go_wp2
        go_roundw
        case rel => exact ⟨k + 1, by omega, by go_num, q + nq, by rw [← hwq]; simp [World.drewN, Nat.add_assoc]⟩
        case measure => simp [intOf]; omega
      · obtain rfl : k = n := by omega
        go_wp2
        go_ret
        exact ⟨rfl, q, rfl⟩
end Go.Proofs.YtfaojafhamhncaaDoor
