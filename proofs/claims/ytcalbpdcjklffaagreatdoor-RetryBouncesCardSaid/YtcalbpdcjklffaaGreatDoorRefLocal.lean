/- The walk of the document's own Local: a text's bytes one by one. -/
import Derived.Test.YtcalbpdcjklffaaGreatDoorRef08
namespace Go.Proofs.YtcalbpdcjklffaaGreatDoor
open Go.RowKit
open Pl (idxB Bs plainB marks atomB at_ condL refLocal)
theorem at_get (s : ByteArray) (k : Nat) (h : k < s.size) : at_ (bs s) k = s[k] := by
  have : k < (bs s).length := by rw [bs_size]; exact h
  rw [at_, List.getD_eq_getElem?_getD, List.getElem?_eq_getElem this]
  simp [bs]; rfl
theorem byte_eq (c : UInt8) (n : Nat) (hn : n < 256) : (c = n.toUInt8) ↔ ((c.toNat : Int) = (n : Int)) := by
  have e : (Nat.toUInt8 n).toNat = n := by simp [Nat.toUInt8, UInt8.toNat_ofNat']; omega
  rw [← UInt8.toNat_inj, e]; omega
theorem byte_46 (c : UInt8) : (c = 46) ↔ ((c.toNat : Int) = 46) := byte_eq c 46 (by decide)
theorem plainB_I (c : UInt8) : plainB c = (letterI c.toNat || digitI c.toNat) := by
  have h := plainI_iff (c.toNat : Int) (by omega) (by have := c.toNat_lt; omega)
  rw [plainI, toNat_byte] at h
  rw [h]; rfl
theorem marks_I (c : UInt8) : marks.contains c = markI c.toNat := by
  simp only [marks, markI, List.contains_cons, List.contains_nil, Bool.or_false]
  simp only [← Bool.or_assoc]
  have key : ∀ n : Nat, n < 256 → (c == n.toUInt8) = ((c.toNat : Int) == (n : Int)) := fun n hn => by
    rw [Bool.eq_iff_iff, beq_iff_eq, beq_iff_eq]; exact byte_eq c n hn
  have e1 := key 33 (by decide)
  have e2 := key 35 (by decide)
  have e3 := key 36 (by decide)
  have e4 := key 37 (by decide)
  have e5 := key 38 (by decide)
  have e6 := key 39 (by decide)
  have e7 := key 42 (by decide)
  have e8 := key 43 (by decide)
  have e9 := key 45 (by decide)
  have e10 := key 47 (by decide)
  have e11 := key 61 (by decide)
  have e12 := key 63 (by decide)
  have e13 := key 94 (by decide)
  have e14 := key 95 (by decide)
  have e15 := key 96 (by decide)
  have e16 := key 123 (by decide)
  have e17 := key 124 (by decide)
  have e18 := key 125 (by decide)
  have e19 := key 126 (by decide)
  simp only [show Nat.toUInt8 33 = 33 from rfl, show Nat.toUInt8 35 = 35 from rfl, show Nat.toUInt8 36 = 36 from rfl, show Nat.toUInt8 37 = 37 from rfl, show Nat.toUInt8 38 = 38 from rfl, show Nat.toUInt8 39 = 39 from rfl, show Nat.toUInt8 42 = 42 from rfl, show Nat.toUInt8 43 = 43 from rfl, show Nat.toUInt8 45 = 45 from rfl, show Nat.toUInt8 47 = 47 from rfl, show Nat.toUInt8 61 = 61 from rfl, show Nat.toUInt8 63 = 63 from rfl, show Nat.toUInt8 94 = 94 from rfl, show Nat.toUInt8 95 = 95 from rfl, show Nat.toUInt8 96 = 96 from rfl, show Nat.toUInt8 123 = 123 from rfl, show Nat.toUInt8 124 = 124 from rfl, show Nat.toUInt8 125 = 125 from rfl, show Nat.toUInt8 126 = 126 from rfl] at e1 e2 e3 e4 e5 e6 e7 e8 e9 e10 e11 e12 e13 e14 e15 e16 e17 e18 e19
  rw [e1, e2, e3, e4, e5, e6, e7, e8, e9, e10, e11, e12, e13, e14, e15, e16, e17, e18, e19]
  rfl
theorem atomB_I (c : UInt8) : atomB c = (letterI c.toNat || digitI c.toNat || markI c.toNat) := by rw [atomB, plainB_I, marks_I]

theorem refLocal_no {s : ByteArray} {k : Nat} (hk : k < s.size) (h : condL (bs s) k = false) : refLocal (bs s) = false := by
  rw [refLocal, decide_eq_false (p := ∀ i, _)]
  · simp
  · intro hh
    have := hh k (by rw [bs_size]; exact hk)
    rw [h] at this; cases this
theorem condL_dot {s : ByteArray} {k : Nat} (hk : k < s.size) (h : (s[k].toNat : Int) = 46) : condL (bs s) k = !(decide (k = 0) || decide (k + 1 = s.size) || decide (at_ (bs s) (k - 1) = 46)) := by
  rw [condL, at_get s k hk, if_pos ((byte_46 _).2 h), bs_size]
theorem condL_other {s : ByteArray} {k : Nat} (hk : k < s.size) (h : ¬ (s[k].toNat : Int) = 46) : condL (bs s) k = (letterI s[k].toNat || digitI s[k].toNat || markI s[k].toNat) := by
  rw [condL, at_get s k hk, if_neg (fun e => h ((byte_46 _).1 e)), atomB_I]

theorem upto_next {q : Nat → Bool} {k : Nat} (h : ∀ j, j < k → q j = true) (hk : q k = true) : ∀ j, j < k + 1 → q j = true := fun j hj => by
  by_cases e : j = k
  · subst e; exact hk
  · exact h j (by omega)
set_option maxHeartbeats 1000000 in
set_option maxRecDepth 100000 in
theorem refLocal_walk (s : ByteArray) (w : World) (hs : s.size ≤ 9223372036854775807) :
    Calls Tryz.prog 40 #[.string s] w fun e w' => e = .returned (.bool (refLocal (bs s))) ∧ w = w' := by
  by_cases h1 : 1 ≤ s.size ∧ s.size ≤ 64
  · obtain ⟨h1, h64⟩ := h1
    go_enter Tryz.func40, Tryz.ntmps40
    go_wp2
    go_loop [3] (fun i => ∃ k : Nat, k ≤ s.size ∧ i = .int .i64 k ∧ Hid (∀ j, j < k → condL (bs s) j = true)) (fun i => s.size - (intOf i).toNat)
    case atStart => exact ⟨0, Nat.zero_le _, rfl, Lib.hid (fun j h => absurd h (Nat.not_lt_zero j))⟩
    case round =>
      obtain ⟨k, hk, rfl, HA⟩ := hrel
      by_cases hlt : k < s.size
      · by_cases hc : (s[k].toNat : Int) = 46
        · have hd := condL_dot hlt hc
          by_cases b0 : k = 0
          · subst b0
            have hcond : condL (bs s) 0 = false := by rw [hd]; simp
            have HC := Lib.hid (refLocal_no hlt hcond)
            clear hd hcond
            have g0 : ((s[0].toNat : Int) == 46) = true := by simpa using hc
            clear hc
            go_wp2
            go_ret
            exact ⟨by rw [HC.out]; rfl, rfl⟩
          · by_cases b1 : k + 1 = s.size
            · have hcond : condL (bs s) k = false := by rw [hd]; simp [b1]
              have HC := Lib.hid (refLocal_no hlt hcond)
              clear hd hcond
              have g0 : ((s[k].toNat : Int) == 46) = true := by simpa using hc
              have g1 : ((k : Int) == 0) = false := by rw [beq_eq_false_iff_ne]; omega
              have g2 : ((k : Int) == (s.size : Int) - 1) = true := by rw [beq_iff_eq]; omega
              clear hc b1
              go_wp2
              go_ret
              exact ⟨by rw [HC.out]; rfl, rfl⟩
            · by_cases b2 : (s[k - 1].toNat : Int) = 46
              · have hcond : condL (bs s) k = false := by rw [hd, at_get s (k - 1) (by omega)]; simp [(byte_46 _).2 b2]
                have HC := Lib.hid (refLocal_no hlt hcond)
                clear hd hcond
                have g0 : ((s[k].toNat : Int) == 46) = true := by simpa using hc
                have g1 : ((k : Int) == 0) = false := by rw [beq_eq_false_iff_ne]; omega
                have g2 : ((k : Int) == (s.size : Int) - 1) = false := by rw [beq_eq_false_iff_ne]; omega
                have g3 : ((s[k - 1].toNat : Int) == 46) = true := by rw [beq_iff_eq]; exact b2
                clear hc b2
                go_wp2
                go_ret
                exact ⟨by rw [HC.out]; rfl, rfl⟩
              · have hcond : condL (bs s) k = true := by
                  rw [hd, at_get s (k - 1) (by omega)]
                  have hn : ¬ s[k - 1] = 46 := fun e => b2 ((byte_46 _).1 e)
                  simp [b0, b1, hn]
                have HC := Lib.hid (upto_next HA.out hcond)
                clear hd hcond
                have g0 : ((s[k].toNat : Int) == 46) = true := by simpa using hc
                have g1 : ((k : Int) == 0) = false := by rw [beq_eq_false_iff_ne]; omega
                have g2 : ((k : Int) == (s.size : Int) - 1) = false := by rw [beq_eq_false_iff_ne]; omega
                have g3 : ((s[k - 1].toNat : Int) == 46) = false := by rw [beq_eq_false_iff_ne]; exact b2
                clear hc
                go_wp2
                go_round
                case rel => exact ⟨k + 1, by omega, by go_num, HC⟩
                case measure => simp [intOf]; omega
        · have hd := condL_other hlt hc
          have g0 : ((s[k].toNat : Int) == 46) = false := by rw [beq_eq_false_iff_ne]; exact hc
          clear hc
          generalize hcc : (s[k].toNat : Int) = c at hd g0
          cases l1 : letterI c with
          | true =>
            have HC := Lib.hid (upto_next HA.out (by rw [hd, l1]; rfl))
            have L1 := Lib.hid l1
            clear hd l1
            go_wp2_with (go_at_call 20; refine (letter_walk _ _).mono ?_; rintro e w' ⟨rfl, rfl⟩; rw [L1.out])
            go_round
            case rel => exact ⟨k + 1, by omega, by go_num, HC⟩
            case measure => simp [intOf]; omega
          | false =>
            cases l2 : digitI c with
            | true =>
              have HC := Lib.hid (upto_next HA.out (by rw [hd, l1, l2]; rfl))
              have L1 := Lib.hid l1
              have L2 := Lib.hid l2
              clear hd l1 l2
              go_wp2_with (first | (go_at_call 20; refine (letter_walk _ _).mono ?_; rintro e w' ⟨rfl, rfl⟩; rw [L1.out]) | (go_at_call 21; refine (digit_walk _ _).mono ?_; rintro e w' ⟨rfl, rfl⟩; rw [L2.out]))
              go_round
              case rel => exact ⟨k + 1, by omega, by go_num, HC⟩
              case measure => simp [intOf]; omega
            | false =>
              cases l3 : markI c with
              | true =>
                have HC := Lib.hid (upto_next HA.out (by rw [hd, l1, l2, l3]; rfl))
                have L1 := Lib.hid l1
                have L2 := Lib.hid l2
                have L3 := Lib.hid l3
                clear hd l1 l2 l3
                go_wp2_with (first | (go_at_call 20; refine (letter_walk _ _).mono ?_; rintro e w' ⟨rfl, rfl⟩; rw [L1.out]) | (go_at_call 21; refine (digit_walk _ _).mono ?_; rintro e w' ⟨rfl, rfl⟩; rw [L2.out]) | (go_at_call 55; refine (mark_walk _ _).mono ?_; rintro e w' ⟨rfl, rfl⟩; rw [L3.out]))
                go_round
                case rel => exact ⟨k + 1, by omega, by go_num, HC⟩
                case measure => simp [intOf]; omega
              | false =>
                have HC := Lib.hid (refLocal_no hlt (by rw [hd, l1, l2, l3]; rfl))
                have L1 := Lib.hid l1
                have L2 := Lib.hid l2
                have L3 := Lib.hid l3
                clear hd l1 l2 l3
                go_wp2_with (first | (go_at_call 20; refine (letter_walk _ _).mono ?_; rintro e w' ⟨rfl, rfl⟩; rw [L1.out]) | (go_at_call 21; refine (digit_walk _ _).mono ?_; rintro e w' ⟨rfl, rfl⟩; rw [L2.out]) | (go_at_call 55; refine (mark_walk _ _).mono ?_; rintro e w' ⟨rfl, rfl⟩; rw [L3.out]))
                go_ret
                exact ⟨by rw [HC.out]; rfl, rfl⟩
      · obtain rfl : k = s.size := by omega
        have e : refLocal (bs s) = true := by
          rw [refLocal, bs_size, decide_eq_true h1, decide_eq_true h64, decide_eq_true (fun i hi => HA.out i hi)]; rfl
        have E := Lib.hid e
        clear e
        go_wp2
        go_ret
        exact ⟨by rw [E.out]; rfl, rfl⟩
  · have e : refLocal (bs s) = false := by
      rw [refLocal, bs_size]
      have : (decide (1 ≤ s.size) && decide (s.size ≤ 64)) = false := by
        rw [Bool.eq_false_iff]; simp only [ne_eq, Bool.and_eq_true, decide_eq_true_eq]; exact h1
      rw [this]; rfl
    rw [e]
    clear e
    have h1 : s.size < 1 ∨ 64 < s.size := by omega
    go_enter Tryz.func40, Tryz.ntmps40
    go_wp2
    all_goals
      go_ret
      exact ⟨rfl, rfl⟩
end Go.Proofs.YtcalbpdcjklffaaGreatDoor
