/- The walk of the document's own Domain (printed by wip/bin/genrefdomain.py). -/
import Derived.Test.YtcalbpdcjklffaaGreatDoorRefLocal
namespace Go.Proofs.YtcalbpdcjklffaaGreatDoor
open Go.RowKit
open Pl (idxB Bs plainB marks atomB at_ condD refDomain)
theorem byte_45 (c : UInt8) : (c = 45) ↔ ((c.toNat : Int) = 45) := byte_eq c 45 (by decide)
theorem refDomain_no {s : ByteArray} {k : Nat} (hk : k < s.size) (h : condD (bs s) k = false) : refDomain (bs s) = false := by
  rw [refDomain, decide_eq_false (p := ∀ i, _)]
  · simp
  · intro hh
    have := hh k (by rw [bs_size]; exact hk)
    rw [h] at this; cases this
theorem beq_46 (c : UInt8) : (c == 46) = ((c.toNat : Int) == 46) := by rw [Bool.eq_iff_iff, beq_iff_eq, beq_iff_eq]; exact byte_46 c
theorem beq_45 (c : UInt8) : (c == 45) = ((c.toNat : Int) == 45) := by rw [Bool.eq_iff_iff, beq_iff_eq, beq_iff_eq]; exact byte_45 c
theorem dec_46 (c : UInt8) : decide (c = 46) = ((c.toNat : Int) == 46) := by rw [Bool.eq_iff_iff, decide_eq_true_iff, beq_iff_eq]; exact byte_46 c
def condV (p c45 c46 z l v n : Bool) : Bool := (p || c45 || c46) && !(((z || l || v) || n) && !c46 && !p || c46 && (z || l || v))
theorem condD_I {s : ByteArray} {k : Nat} (hk : k < s.size) : condD (bs s) k = condV (letterI s[k].toNat || digitI s[k].toNat) ((s[k].toNat : Int) == 45) ((s[k].toNat : Int) == 46) (decide (k = 0)) (decide (k + 1 = s.size)) (decide (at_ (bs s) (k - 1) = 46)) (decide (at_ (bs s) (k + 1) = 46)) := by
  simp only [condD, at_get s k hk, plainB_I, beq_45, beq_46, bs_size]; rfl
theorem letter_not {c : Int} (h : letterI c = true) : (c == 45) = false ∧ (c == 46) = false := by
  simp only [letterI, Bool.or_eq_true, Bool.and_eq_true, decide_eq_true_eq] at h
  constructor <;> rw [beq_eq_false_iff_ne] <;> omega
theorem digit_not {c : Int} (h : digitI c = true) : (c == 45) = false ∧ (c == 46) = false := by
  simp only [digitI, Bool.and_eq_true, decide_eq_true_eq] at h
  constructor <;> rw [beq_eq_false_iff_ne] <;> omega

set_option maxHeartbeats 4000000 in
set_option maxRecDepth 100000 in
theorem refDomain_walk (s : ByteArray) (w : World) (hs : s.size ≤ 9223372036854775807) :
    Calls Tryz.prog 9 #[.string s] w fun e w' => e = .returned (.bool (refDomain (bs s))) ∧ w = w' := by
  by_cases h1 : 1 ≤ s.size ∧ s.size ≤ 100
  · obtain ⟨h1, h64⟩ := h1
    go_enter Tryz.func9, Tryz.ntmps9
    go_wp2
    go_loop [3] (fun i => ∃ k : Nat, k ≤ s.size ∧ i = .int .i64 k ∧ Hid (∀ j, j < k → condD (bs s) j = true)) (fun i => s.size - (intOf i).toNat)
    case atStart => exact ⟨0, Nat.zero_le _, rfl, Lib.hid (fun j h => absurd h (Nat.not_lt_zero j))⟩
    case round =>
      obtain ⟨k, hk, rfl, HA⟩ := hrel
      by_cases hlt : k < s.size
      · have hd := condD_I hlt
        by_cases b0 : k = 0
        · subst b0
          generalize hcc : (s[0].toNat : Int) = c at hd
          cases l1 : letterI c with
          | true =>
            obtain ⟨E45, E46⟩ := letter_not l1
            have hcond : condD (bs s) 0 = true := by rw [hd, E45, E46, l1]; simp [condV]
            have HC := Lib.hid (upto_next HA.out hcond)
            have L1 := Lib.hid l1
            clear hd hcond l1
            have N46 : (c != 46) = true := by rw [bne, E46]; rfl
            have N45 : (c != 45) = true := by rw [bne, E45]; rfl
            go_wp2_with ((go_at_call 20; refine (letter_walk _ _).mono ?_; rintro e w' ⟨rfl, rfl⟩; rw [L1.out]))
            go_round
            case rel => exact ⟨0 + 1, by omega, by go_num, HC⟩
            case measure => simp [intOf]; omega
          | false =>
            cases l2 : digitI c with
            | true =>
              obtain ⟨E45, E46⟩ := digit_not l2
              have hcond : condD (bs s) 0 = true := by rw [hd, E45, E46, l1, l2]; simp [condV]
              have HC := Lib.hid (upto_next HA.out hcond)
              have L1 := Lib.hid l1
              have L2 := Lib.hid l2
              clear hd hcond l1 l2
              have N46 : (c != 46) = true := by rw [bne, E46]; rfl
              have N45 : (c != 45) = true := by rw [bne, E45]; rfl
              go_wp2_with (first | (go_at_call 20; refine (letter_walk _ _).mono ?_; rintro e w' ⟨rfl, rfl⟩; rw [L1.out]) | (go_at_call 21; refine (digit_walk _ _).mono ?_; rintro e w' ⟨rfl, rfl⟩; rw [L2.out]))
              go_round
              case rel => exact ⟨0 + 1, by omega, by go_num, HC⟩
              case measure => simp [intOf]; omega
            | false =>
              cases E45 : (c == 45) with
              | true =>
                have E46 : (c == 46) = false := by rw [beq_eq_false_iff_ne]; rw [beq_iff_eq] at E45; omega
                have hcond : condD (bs s) 0 = false := by rw [hd, E45, E46, l1, l2]; simp [condV]
                have HC := Lib.hid (refDomain_no hlt hcond)
                have L1 := Lib.hid l1
                have L2 := Lib.hid l2
                clear hd hcond l1 l2
                have N46 : (c != 46) = true := by rw [bne, E46]; rfl
                have N45 : (c != 45) = false := by rw [bne, E45]; rfl
                go_wp2_with (first | (go_at_call 20; refine (letter_walk _ _).mono ?_; rintro e w' ⟨rfl, rfl⟩; rw [L1.out]) | (go_at_call 21; refine (digit_walk _ _).mono ?_; rintro e w' ⟨rfl, rfl⟩; rw [L2.out]))
                go_ret
                exact ⟨by rw [HC.out]; rfl, rfl⟩
              | false =>
                cases E46 : (c == 46) with
                | true =>
                  have hcond : condD (bs s) 0 = false := by rw [hd, E45, E46, l1, l2]; simp [condV]
                  have HC := Lib.hid (refDomain_no hlt hcond)
                  have L1 := Lib.hid l1
                  have L2 := Lib.hid l2
                  clear hd hcond l1 l2
                  have N46 : (c != 46) = false := by rw [bne, E46]; rfl
                  have N45 : (c != 45) = true := by rw [bne, E45]; rfl
                  go_wp2_with (first | (go_at_call 20; refine (letter_walk _ _).mono ?_; rintro e w' ⟨rfl, rfl⟩; rw [L1.out]) | (go_at_call 21; refine (digit_walk _ _).mono ?_; rintro e w' ⟨rfl, rfl⟩; rw [L2.out]))
                  go_ret
                  exact ⟨by rw [HC.out]; rfl, rfl⟩
                | false =>
                  have hcond : condD (bs s) 0 = false := by rw [hd, E45, E46, l1, l2]; simp [condV]
                  have HC := Lib.hid (refDomain_no hlt hcond)
                  have L1 := Lib.hid l1
                  have L2 := Lib.hid l2
                  clear hd hcond l1 l2
                  have N46 : (c != 46) = true := by rw [bne, E46]; rfl
                  have N45 : (c != 45) = true := by rw [bne, E45]; rfl
                  go_wp2_with (first | (go_at_call 20; refine (letter_walk _ _).mono ?_; rintro e w' ⟨rfl, rfl⟩; rw [L1.out]) | (go_at_call 21; refine (digit_walk _ _).mono ?_; rintro e w' ⟨rfl, rfl⟩; rw [L2.out]))
                  go_ret
                  exact ⟨by rw [HC.out]; rfl, rfl⟩
        · have hv0 := at_get s (k - 1) (by omega)
          rw [hv0, dec_46 s[k - 1]] at hd
          clear hv0
          have g1 : ((k : Int) == 0) = false := by rw [beq_eq_false_iff_ne]; omega
          by_cases b1 : k + 1 = s.size
          · have g2 : ((k : Int) == (s.size : Int) - 1) = true := by rw [beq_iff_eq]; omega
            generalize hcc : (s[k].toNat : Int) = c at hd
            have b1' := b1
            rw [decide_eq_true b1] at hd
            clear b1
            cases l1 : letterI c with
            | true =>
              obtain ⟨E45, E46⟩ := letter_not l1
              have hcond : condD (bs s) k = true := by rw [hd, E45, E46, l1]; simp [condV]
              have HC := Lib.hid (upto_next HA.out hcond)
              have L1 := Lib.hid l1
              clear hd hcond l1
              have N46 : (c != 46) = true := by rw [bne, E46]; rfl
              have N45 : (c != 45) = true := by rw [bne, E45]; rfl
              go_wp2_with ((go_at_call 20; refine (letter_walk _ _).mono ?_; rintro e w' ⟨rfl, rfl⟩; rw [L1.out]))
              go_round
              case rel => exact ⟨k + 1, by omega, by go_num, HC⟩
              case measure => simp [intOf]; omega
            | false =>
              cases l2 : digitI c with
              | true =>
                obtain ⟨E45, E46⟩ := digit_not l2
                have hcond : condD (bs s) k = true := by rw [hd, E45, E46, l1, l2]; simp [condV]
                have HC := Lib.hid (upto_next HA.out hcond)
                have L1 := Lib.hid l1
                have L2 := Lib.hid l2
                clear hd hcond l1 l2
                have N46 : (c != 46) = true := by rw [bne, E46]; rfl
                have N45 : (c != 45) = true := by rw [bne, E45]; rfl
                go_wp2_with (first | (go_at_call 20; refine (letter_walk _ _).mono ?_; rintro e w' ⟨rfl, rfl⟩; rw [L1.out]) | (go_at_call 21; refine (digit_walk _ _).mono ?_; rintro e w' ⟨rfl, rfl⟩; rw [L2.out]))
                go_round
                case rel => exact ⟨k + 1, by omega, by go_num, HC⟩
                case measure => simp [intOf]; omega
              | false =>
                cases E45 : (c == 45) with
                | true =>
                  have E46 : (c == 46) = false := by rw [beq_eq_false_iff_ne]; rw [beq_iff_eq] at E45; omega
                  have hcond : condD (bs s) k = false := by rw [hd, E45, E46, l1, l2]; simp [condV]
                  have HC := Lib.hid (refDomain_no hlt hcond)
                  have L1 := Lib.hid l1
                  have L2 := Lib.hid l2
                  clear hd hcond l1 l2
                  have N46 : (c != 46) = true := by rw [bne, E46]; rfl
                  have N45 : (c != 45) = false := by rw [bne, E45]; rfl
                  go_wp2_with (first | (go_at_call 20; refine (letter_walk _ _).mono ?_; rintro e w' ⟨rfl, rfl⟩; rw [L1.out]) | (go_at_call 21; refine (digit_walk _ _).mono ?_; rintro e w' ⟨rfl, rfl⟩; rw [L2.out]))
                  go_ret
                  exact ⟨by rw [HC.out]; rfl, rfl⟩
                | false =>
                  cases E46 : (c == 46) with
                  | true =>
                    have hcond : condD (bs s) k = false := by rw [hd, E45, E46, l1, l2]; simp [condV]
                    have HC := Lib.hid (refDomain_no hlt hcond)
                    have L1 := Lib.hid l1
                    have L2 := Lib.hid l2
                    clear hd hcond l1 l2
                    have N46 : (c != 46) = false := by rw [bne, E46]; rfl
                    have N45 : (c != 45) = true := by rw [bne, E45]; rfl
                    go_wp2_with (first | (go_at_call 20; refine (letter_walk _ _).mono ?_; rintro e w' ⟨rfl, rfl⟩; rw [L1.out]) | (go_at_call 21; refine (digit_walk _ _).mono ?_; rintro e w' ⟨rfl, rfl⟩; rw [L2.out]))
                    go_ret
                    exact ⟨by rw [HC.out]; rfl, rfl⟩
                  | false =>
                    have hcond : condD (bs s) k = false := by rw [hd, E45, E46, l1, l2]; simp [condV]
                    have HC := Lib.hid (refDomain_no hlt hcond)
                    have L1 := Lib.hid l1
                    have L2 := Lib.hid l2
                    clear hd hcond l1 l2
                    have N46 : (c != 46) = true := by rw [bne, E46]; rfl
                    have N45 : (c != 45) = true := by rw [bne, E45]; rfl
                    go_wp2_with (first | (go_at_call 20; refine (letter_walk _ _).mono ?_; rintro e w' ⟨rfl, rfl⟩; rw [L1.out]) | (go_at_call 21; refine (digit_walk _ _).mono ?_; rintro e w' ⟨rfl, rfl⟩; rw [L2.out]))
                    go_ret
                    exact ⟨by rw [HC.out]; rfl, rfl⟩
          · have g2 : ((k : Int) == (s.size : Int) - 1) = false := by rw [beq_eq_false_iff_ne]; omega
            have hk1 : k + 1 < s.size := by omega
            have hn0 := at_get s (k + 1) hk1
            rw [hn0, dec_46 s[k + 1]] at hd
            clear hn0
            cases hv : ((s[k - 1].toNat : Int) == 46) with
            | true =>
              rw [hv] at hd
              generalize hcc : (s[k].toNat : Int) = c at hd
              cases l1 : letterI c with
              | true =>
                obtain ⟨E45, E46⟩ := letter_not l1
                have hcond : condD (bs s) k = true := by rw [hd, E45, E46, l1]; simp [condV]
                have HC := Lib.hid (upto_next HA.out hcond)
                have L1 := Lib.hid l1
                clear hd hcond l1
                have N46 : (c != 46) = true := by rw [bne, E46]; rfl
                have N45 : (c != 45) = true := by rw [bne, E45]; rfl
                go_wp2_with ((go_at_call 20; refine (letter_walk _ _).mono ?_; rintro e w' ⟨rfl, rfl⟩; rw [L1.out]))
                go_round
                case rel => exact ⟨k + 1, by omega, by go_num, HC⟩
                case measure => simp [intOf]; omega
              | false =>
                cases l2 : digitI c with
                | true =>
                  obtain ⟨E45, E46⟩ := digit_not l2
                  have hcond : condD (bs s) k = true := by rw [hd, E45, E46, l1, l2]; simp [condV]
                  have HC := Lib.hid (upto_next HA.out hcond)
                  have L1 := Lib.hid l1
                  have L2 := Lib.hid l2
                  clear hd hcond l1 l2
                  have N46 : (c != 46) = true := by rw [bne, E46]; rfl
                  have N45 : (c != 45) = true := by rw [bne, E45]; rfl
                  go_wp2_with (first | (go_at_call 20; refine (letter_walk _ _).mono ?_; rintro e w' ⟨rfl, rfl⟩; rw [L1.out]) | (go_at_call 21; refine (digit_walk _ _).mono ?_; rintro e w' ⟨rfl, rfl⟩; rw [L2.out]))
                  go_round
                  case rel => exact ⟨k + 1, by omega, by go_num, HC⟩
                  case measure => simp [intOf]; omega
                | false =>
                  cases E45 : (c == 45) with
                  | true =>
                    have E46 : (c == 46) = false := by rw [beq_eq_false_iff_ne]; rw [beq_iff_eq] at E45; omega
                    have hcond : condD (bs s) k = false := by rw [hd, E45, E46, l1, l2]; simp [condV]
                    have HC := Lib.hid (refDomain_no hlt hcond)
                    have L1 := Lib.hid l1
                    have L2 := Lib.hid l2
                    clear hd hcond l1 l2
                    have N46 : (c != 46) = true := by rw [bne, E46]; rfl
                    have N45 : (c != 45) = false := by rw [bne, E45]; rfl
                    go_wp2_with (first | (go_at_call 20; refine (letter_walk _ _).mono ?_; rintro e w' ⟨rfl, rfl⟩; rw [L1.out]) | (go_at_call 21; refine (digit_walk _ _).mono ?_; rintro e w' ⟨rfl, rfl⟩; rw [L2.out]))
                    go_ret
                    exact ⟨by rw [HC.out]; rfl, rfl⟩
                  | false =>
                    cases E46 : (c == 46) with
                    | true =>
                      have hcond : condD (bs s) k = false := by rw [hd, E45, E46, l1, l2]; simp [condV]
                      have HC := Lib.hid (refDomain_no hlt hcond)
                      have L1 := Lib.hid l1
                      have L2 := Lib.hid l2
                      clear hd hcond l1 l2
                      have N46 : (c != 46) = false := by rw [bne, E46]; rfl
                      have N45 : (c != 45) = true := by rw [bne, E45]; rfl
                      go_wp2_with (first | (go_at_call 20; refine (letter_walk _ _).mono ?_; rintro e w' ⟨rfl, rfl⟩; rw [L1.out]) | (go_at_call 21; refine (digit_walk _ _).mono ?_; rintro e w' ⟨rfl, rfl⟩; rw [L2.out]))
                      go_ret
                      exact ⟨by rw [HC.out]; rfl, rfl⟩
                    | false =>
                      have hcond : condD (bs s) k = false := by rw [hd, E45, E46, l1, l2]; simp [condV]
                      have HC := Lib.hid (refDomain_no hlt hcond)
                      have L1 := Lib.hid l1
                      have L2 := Lib.hid l2
                      clear hd hcond l1 l2
                      have N46 : (c != 46) = true := by rw [bne, E46]; rfl
                      have N45 : (c != 45) = true := by rw [bne, E45]; rfl
                      go_wp2_with (first | (go_at_call 20; refine (letter_walk _ _).mono ?_; rintro e w' ⟨rfl, rfl⟩; rw [L1.out]) | (go_at_call 21; refine (digit_walk _ _).mono ?_; rintro e w' ⟨rfl, rfl⟩; rw [L2.out]))
                      go_ret
                      exact ⟨by rw [HC.out]; rfl, rfl⟩
            | false =>
              rw [hv, decide_eq_false b0, decide_eq_false b1] at hd
              cases hn : ((s[k + 1].toNat : Int) == 46) with
              | true =>
                rw [hn] at hd
                generalize hcc : (s[k].toNat : Int) = c at hd
                cases l1 : letterI c with
                | true =>
                  obtain ⟨E45, E46⟩ := letter_not l1
                  have hcond : condD (bs s) k = true := by rw [hd, E45, E46, l1]; simp [condV]
                  have HC := Lib.hid (upto_next HA.out hcond)
                  have L1 := Lib.hid l1
                  clear hd hcond l1
                  have N46 : (c != 46) = true := by rw [bne, E46]; rfl
                  have N45 : (c != 45) = true := by rw [bne, E45]; rfl
                  go_wp2_with ((go_at_call 20; refine (letter_walk _ _).mono ?_; rintro e w' ⟨rfl, rfl⟩; rw [L1.out]))
                  go_round
                  case rel => exact ⟨k + 1, by omega, by go_num, HC⟩
                  case measure => simp [intOf]; omega
                | false =>
                  cases l2 : digitI c with
                  | true =>
                    obtain ⟨E45, E46⟩ := digit_not l2
                    have hcond : condD (bs s) k = true := by rw [hd, E45, E46, l1, l2]; simp [condV]
                    have HC := Lib.hid (upto_next HA.out hcond)
                    have L1 := Lib.hid l1
                    have L2 := Lib.hid l2
                    clear hd hcond l1 l2
                    have N46 : (c != 46) = true := by rw [bne, E46]; rfl
                    have N45 : (c != 45) = true := by rw [bne, E45]; rfl
                    go_wp2_with (first | (go_at_call 20; refine (letter_walk _ _).mono ?_; rintro e w' ⟨rfl, rfl⟩; rw [L1.out]) | (go_at_call 21; refine (digit_walk _ _).mono ?_; rintro e w' ⟨rfl, rfl⟩; rw [L2.out]))
                    go_round
                    case rel => exact ⟨k + 1, by omega, by go_num, HC⟩
                    case measure => simp [intOf]; omega
                  | false =>
                    cases E45 : (c == 45) with
                    | true =>
                      have E46 : (c == 46) = false := by rw [beq_eq_false_iff_ne]; rw [beq_iff_eq] at E45; omega
                      have hcond : condD (bs s) k = false := by rw [hd, E45, E46, l1, l2]; simp [condV]
                      have HC := Lib.hid (refDomain_no hlt hcond)
                      have L1 := Lib.hid l1
                      have L2 := Lib.hid l2
                      clear hd hcond l1 l2
                      have N46 : (c != 46) = true := by rw [bne, E46]; rfl
                      have N45 : (c != 45) = false := by rw [bne, E45]; rfl
                      go_wp2_with (first | (go_at_call 20; refine (letter_walk _ _).mono ?_; rintro e w' ⟨rfl, rfl⟩; rw [L1.out]) | (go_at_call 21; refine (digit_walk _ _).mono ?_; rintro e w' ⟨rfl, rfl⟩; rw [L2.out]))
                      go_ret
                      exact ⟨by rw [HC.out]; rfl, rfl⟩
                    | false =>
                      cases E46 : (c == 46) with
                      | true =>
                        have hcond : condD (bs s) k = true := by rw [hd, E45, E46, l1, l2]; simp [condV]
                        have HC := Lib.hid (upto_next HA.out hcond)
                        have L1 := Lib.hid l1
                        have L2 := Lib.hid l2
                        clear hd hcond l1 l2
                        have N46 : (c != 46) = false := by rw [bne, E46]; rfl
                        have N45 : (c != 45) = true := by rw [bne, E45]; rfl
                        go_wp2_with (first | (go_at_call 20; refine (letter_walk _ _).mono ?_; rintro e w' ⟨rfl, rfl⟩; rw [L1.out]) | (go_at_call 21; refine (digit_walk _ _).mono ?_; rintro e w' ⟨rfl, rfl⟩; rw [L2.out]))
                        go_round
                        case rel => exact ⟨k + 1, by omega, by go_num, HC⟩
                        case measure => simp [intOf]; omega
                      | false =>
                        have hcond : condD (bs s) k = false := by rw [hd, E45, E46, l1, l2]; simp [condV]
                        have HC := Lib.hid (refDomain_no hlt hcond)
                        have L1 := Lib.hid l1
                        have L2 := Lib.hid l2
                        clear hd hcond l1 l2
                        have N46 : (c != 46) = true := by rw [bne, E46]; rfl
                        have N45 : (c != 45) = true := by rw [bne, E45]; rfl
                        go_wp2_with (first | (go_at_call 20; refine (letter_walk _ _).mono ?_; rintro e w' ⟨rfl, rfl⟩; rw [L1.out]) | (go_at_call 21; refine (digit_walk _ _).mono ?_; rintro e w' ⟨rfl, rfl⟩; rw [L2.out]))
                        go_ret
                        exact ⟨by rw [HC.out]; rfl, rfl⟩
              | false =>
                rw [hn] at hd
                generalize hcc : (s[k].toNat : Int) = c at hd
                cases l1 : letterI c with
                | true =>
                  obtain ⟨E45, E46⟩ := letter_not l1
                  have hcond : condD (bs s) k = true := by rw [hd, E45, E46, l1]; simp [condV]
                  have HC := Lib.hid (upto_next HA.out hcond)
                  have L1 := Lib.hid l1
                  clear hd hcond l1
                  have N46 : (c != 46) = true := by rw [bne, E46]; rfl
                  have N45 : (c != 45) = true := by rw [bne, E45]; rfl
                  go_wp2_with ((go_at_call 20; refine (letter_walk _ _).mono ?_; rintro e w' ⟨rfl, rfl⟩; rw [L1.out]))
                  go_round
                  case rel => exact ⟨k + 1, by omega, by go_num, HC⟩
                  case measure => simp [intOf]; omega
                | false =>
                  cases l2 : digitI c with
                  | true =>
                    obtain ⟨E45, E46⟩ := digit_not l2
                    have hcond : condD (bs s) k = true := by rw [hd, E45, E46, l1, l2]; simp [condV]
                    have HC := Lib.hid (upto_next HA.out hcond)
                    have L1 := Lib.hid l1
                    have L2 := Lib.hid l2
                    clear hd hcond l1 l2
                    have N46 : (c != 46) = true := by rw [bne, E46]; rfl
                    have N45 : (c != 45) = true := by rw [bne, E45]; rfl
                    go_wp2_with (first | (go_at_call 20; refine (letter_walk _ _).mono ?_; rintro e w' ⟨rfl, rfl⟩; rw [L1.out]) | (go_at_call 21; refine (digit_walk _ _).mono ?_; rintro e w' ⟨rfl, rfl⟩; rw [L2.out]))
                    go_round
                    case rel => exact ⟨k + 1, by omega, by go_num, HC⟩
                    case measure => simp [intOf]; omega
                  | false =>
                    cases E45 : (c == 45) with
                    | true =>
                      have E46 : (c == 46) = false := by rw [beq_eq_false_iff_ne]; rw [beq_iff_eq] at E45; omega
                      have hcond : condD (bs s) k = true := by rw [hd, E45, E46, l1, l2]; simp [condV]
                      have HC := Lib.hid (upto_next HA.out hcond)
                      have L1 := Lib.hid l1
                      have L2 := Lib.hid l2
                      clear hd hcond l1 l2
                      have N46 : (c != 46) = true := by rw [bne, E46]; rfl
                      have N45 : (c != 45) = false := by rw [bne, E45]; rfl
                      go_wp2_with (first | (go_at_call 20; refine (letter_walk _ _).mono ?_; rintro e w' ⟨rfl, rfl⟩; rw [L1.out]) | (go_at_call 21; refine (digit_walk _ _).mono ?_; rintro e w' ⟨rfl, rfl⟩; rw [L2.out]))
                      go_round
                      case rel => exact ⟨k + 1, by omega, by go_num, HC⟩
                      case measure => simp [intOf]; omega
                    | false =>
                      cases E46 : (c == 46) with
                      | true =>
                        have hcond : condD (bs s) k = true := by rw [hd, E45, E46, l1, l2]; simp [condV]
                        have HC := Lib.hid (upto_next HA.out hcond)
                        have L1 := Lib.hid l1
                        have L2 := Lib.hid l2
                        clear hd hcond l1 l2
                        have N46 : (c != 46) = false := by rw [bne, E46]; rfl
                        have N45 : (c != 45) = true := by rw [bne, E45]; rfl
                        go_wp2_with (first | (go_at_call 20; refine (letter_walk _ _).mono ?_; rintro e w' ⟨rfl, rfl⟩; rw [L1.out]) | (go_at_call 21; refine (digit_walk _ _).mono ?_; rintro e w' ⟨rfl, rfl⟩; rw [L2.out]))
                        go_round
                        case rel => exact ⟨k + 1, by omega, by go_num, HC⟩
                        case measure => simp [intOf]; omega
                      | false =>
                        have hcond : condD (bs s) k = false := by rw [hd, E45, E46, l1, l2]; simp [condV]
                        have HC := Lib.hid (refDomain_no hlt hcond)
                        have L1 := Lib.hid l1
                        have L2 := Lib.hid l2
                        clear hd hcond l1 l2
                        have N46 : (c != 46) = true := by rw [bne, E46]; rfl
                        have N45 : (c != 45) = true := by rw [bne, E45]; rfl
                        go_wp2_with (first | (go_at_call 20; refine (letter_walk _ _).mono ?_; rintro e w' ⟨rfl, rfl⟩; rw [L1.out]) | (go_at_call 21; refine (digit_walk _ _).mono ?_; rintro e w' ⟨rfl, rfl⟩; rw [L2.out]))
                        go_ret
                        exact ⟨by rw [HC.out]; rfl, rfl⟩
      · obtain rfl : k = s.size := by omega
        have e : refDomain (bs s) = true := by
          rw [refDomain, bs_size, decide_eq_true h1, decide_eq_true h64, decide_eq_true (fun i hi => HA.out i hi)]; rfl
        have E := Lib.hid e
        clear e
        go_wp2
        go_ret
        exact ⟨by rw [E.out]; rfl, rfl⟩
  · have e : refDomain (bs s) = false := by
      rw [refDomain, bs_size]
      have : (decide (1 ≤ s.size) && decide (s.size ≤ 100)) = false := by
        rw [Bool.eq_false_iff]; simp only [ne_eq, Bool.and_eq_true, decide_eq_true_eq]; exact h1
      rw [this]; rfl
    rw [e]
    clear e
    have h1 : s.size < 1 ∨ 100 < s.size := by omega
    go_enter Tryz.func9, Tryz.ntmps9
    go_wp2
    all_goals
      go_ret
      exact ⟨rfl, rfl⟩
end Go.Proofs.YtcalbpdcjklffaaGreatDoor
