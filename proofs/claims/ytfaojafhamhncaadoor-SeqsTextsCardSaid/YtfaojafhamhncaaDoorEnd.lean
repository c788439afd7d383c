/- The walks of seqs.end and of the document's Number. -/
import Derived.Test.YtfaojafhamhncaaDoorNumber
namespace Go.Proofs.YtfaojafhamhncaaDoor
open Go.RowKit
open Pl (Bs digB val val_next val_small numOk numN numN_pos numN_zero num_len num_digit num_zero num_big num_yes endOk endN)
set_option linter.unusedSimpArgs false
set_option linter.unusedVariables false
def endV (l : Bs) (v : Value) : Value := .tuple #[.int .i64 (endN l), if endOk l = true then .nilIface else v]
theorem endV_no {l : Bs} (h : endOk l = false) (v : Value) : endV l v = .tuple #[.int .i64 0, v] := by
  have h1 : (l == [42]) = false := by cases e : (l == [42]) with | false => rfl | true => rw [endOk, e] at h; exact absurd h (by simp)
  have h2 : numOk l = false := by cases e : numOk l with | false => rfl | true => rw [endOk, e] at h; exact absurd h (by simp)
  rw [endV, endN, if_neg (fun e => by rw [e] at h1; exact absurd h1 (by decide)), numN_zero l h2, h]; rfl
theorem endV_yes {l : Bs} (h : endOk l = true) (v : Value) : endV l v = .tuple #[.int .i64 (endN l), .nilIface] := by rw [endV, if_pos h]
set_option maxHeartbeats 1000000 in
theorem end_walk (s : ByteArray) (v : Value) (w : World) (hs : s.size ≤ 140737488351232) (hc : w.cell? ⟨0, 0, none⟩ = some v) (hv : ∃ t x, v = .iface t x) :
    Calls Tryd.prog 36 #[.string s] w fun e w' => e = .returned (endV (bs s) v) ∧ Below w.heap.size w w' := by
  have hn := number_walk s v w hs hc hv
  have HN := Lib.hid hn
  clear hn hc
  cases h42 : (s.toList == [42]) with
  | true =>
    have hb : bs s = [42] := by rw [Lib.toList_data] at h42; simpa using h42
    have HV := Lib.hid (show endV (bs s) v = .tuple #[.int .i64 0, .nilIface] by rw [hb]; rfl)
    clear hb
    go_enter Tryd.func36, Tryd.ntmps36
    go_wp2
    go_ret2
    exact ⟨by rw [HV.out]; rfl, Below.refl _ _⟩
  | false =>
    have hb : ¬ bs s = [42] := fun e => by rw [Lib.toList_data] at h42; rw [show s.data.toList = [42] from e] at h42; exact absurd h42 (by decide)
    have HV := Lib.hid (show endV (bs s) v = numV (bs s) v by
      rw [endV, numV, endN, if_neg hb, endOk, show ((bs s) == [42]) = false by rw [beq_eq_false_iff_ne]; exact hb, Bool.false_or])
    clear hb
    have HW : numV (bs s) v = .tuple #[.int .i64 (numN (bs s)), if numOk (bs s) = true then .nilIface else v] := rfl
    rw [HW] at HN HV
    generalize (if numOk (bs s) = true then Value.nilIface else v) = E at HN HV
    clear HW
    go_enter Tryd.func36, Tryd.ntmps36
    go_wp2_with fail
    refine HN.out.mono ?_
    rintro e w' ⟨rfl, hB⟩
    have HB := Lib.hid hB
    clear hB
    go_wp2
    go_ret2
    exact ⟨by rw [HV.out]; rfl, HB.out⟩
set_option maxHeartbeats 4000000 in
set_option maxRecDepth 100000 in
theorem refNumber_walk (s : ByteArray) (w : World) (hs : s.size ≤ 140737488351232) :
    Calls Tryd.prog 23 #[.string s] w fun e w' => e = .returned (.int .i64 (numN (bs s))) ∧ w = w' := by
  have zl : (bs s).length = s.size := bs_size s
  by_cases z0 : s.size = 0
  · have HV := Lib.hid (numN_zero _ (num_len (bs s) (.inl (by omega))))
    go_enter Tryd.func23, Tryd.ntmps23
    go_wp2
    go_ret
    exact ⟨by rw [HV.out]; rfl, rfl⟩
  · by_cases z1 : 10 < s.size
    · have HV := Lib.hid (numN_zero _ (num_len (bs s) (.inr (by omega))))
      have g1 : (1 : Int) ≤ (s.size : Int) := by omega
      have g2 : (10 : Int) < (s.size : Int) := by omega
      go_enter Tryd.func23, Tryd.ntmps23
      go_wp2
      go_ret
      exact ⟨by rw [HV.out]; rfl, rfl⟩
    · have g1 : (1 : Int) ≤ (s.size : Int) := by omega
      have g2 : (s.size : Int) ≤ 10 := by omega
      have z2 : 0 < s.size := by omega
      have hh := head_bs s z2
      by_cases h48 : (s[0].toNat : Int) = 48
      · have g48 : ((s[0].toNat : Int) == 48) = true := by rw [beq_iff_eq]; exact h48
        have HV := Lib.hid (numN_zero _ (num_zero (bs s) (by rw [hh, (byte_eq s[0] 48 (by decide)).2 h48]; rfl)))
        clear h48 hh
        go_enter Tryd.func23, Tryd.ntmps23
        go_wp2
        go_ret
        exact ⟨by rw [HV.out]; rfl, rfl⟩
      · have g48 : ((s[0].toNat : Int) == 48) = false := by rw [beq_eq_false_iff_ne]; exact h48
        have hh' : ¬ (bs s).head? = some 48 := by
          rw [hh]; intro e
          exact h48 ((byte_eq s[0] 48 (by decide)).1 (Option.some.inj e))
        have HH := Lib.hid hh'
        clear hh hh'
        go_enter Tryd.func23, Tryd.ntmps23
        go_wp2
        go_loop [3, 4] (fun n i => ∃ k : Nat, k ≤ s.size ∧ i = .int .i64 k ∧ n = .int .i64 (val ((bs s).take k)) ∧ Hid (∀ c ∈ (bs s).take k, digB c = true)) (fun _ i => s.size - (intOf i).toNat)
        case atStart => exact ⟨0, Nat.zero_le _, rfl, rfl, Lib.hid (fun c h => by simp at h)⟩
        case round =>
          obtain ⟨k, hk, rfl, rfl, HA⟩ := hrel
          have hN : val ((bs s).take k) ≤ 9999999999 := by
            have h1 := val_small _ HA.out
            have h2 : 10 ^ ((bs s).take k).length ≤ 10 ^ 10 := Nat.pow_le_pow_right (by decide) (by rw [List.length_take]; omega)
            have h3 : (10 : Nat) ^ 10 = 10000000000 := by decide
            omega
          by_cases hlt : k < s.size
          · have hat := at_bs s k hlt
            by_cases hd : digB s[k] = true
            · have hd' := hd
              simp only [digB, Bool.and_eq_true, decide_eq_true_eq] at hd'
              obtain ⟨d1, d2⟩ := hd'
              have hv := val_next (bs s) k (by omega)
              rw [hat] at hv
              have HN := Lib.hid (show ∀ c ∈ (bs s).take (k + 1), digB c = true from fun c hc => by
                rw [List.take_succ_eq_append_getElem (by omega), List.mem_append] at hc
                rcases hc with hc | hc
                · exact HA.out c hc
                · rw [List.mem_singleton.1 hc, hat]; exact hd)
              generalize val ((bs s).take k) = N at *
              have hv' : (val ((bs s).take (k + 1)) : Int) = 10 * (N : Int) + ((s[k].toNat : Int) - 48) := by omega
              have HV := Lib.hid hv'
              clear hv hd hat hv'
              have b1 : (48 : Int) ≤ (s[k].toNat : Int) := by omega
              have b2 : (s[k].toNat : Int) ≤ 57 := by omega
              clear d1 d2 h48 g48
              generalize hC : (s[k].toNat : Int) = C at *
              go_wp2
              go_round
              case rel => exact ⟨k + 1, by omega, by go_num, by rw [HV.out], HN⟩
              case measure => simp [intOf]; omega
            · have HV := Lib.hid (numN_zero _ (num_digit (bs s) k (by omega) (by rw [hat]; simpa using hd)))
              have hd' : s[k].toNat < 48 ∨ 57 < s[k].toNat := by
                simp only [digB, Bool.and_eq_true, decide_eq_true_eq] at hd; omega
              clear hd hat
              have b1 : (s[k].toNat : Int) < 48 ∨ 57 < (s[k].toNat : Int) := by omega
              clear hd' h48 g48
              generalize hC : (s[k].toNat : Int) = C at *
              by_cases b2 : C < 48
              · clear b1
                go_wp2
                go_ret
                exact ⟨by rw [HV.out]; rfl, rfl⟩
              · have b3 : 57 < C := by omega
                have b4 : 48 ≤ C := by omega
                clear b1 b2
                go_wp2
                go_ret
                exact ⟨by rw [HV.out]; rfl, rfl⟩
          · obtain rfl : k = s.size := by omega
            have ht : (bs s).take s.size = bs s := List.take_of_length_le (by omega)
            rw [ht] at hN HA ⊢
            by_cases hbig : 2147483648 < val (bs s)
            · have HV := Lib.hid (numN_zero _ (num_big (bs s) hbig))
              clear ht
              generalize val (bs s) = N at *
              have hb' : (2147483648 : Int) < (N : Int) := by omega
              go_wp2
              go_ret
              exact ⟨by rw [HV.out]; rfl, rfl⟩
            · have ho := num_yes (bs s) (by omega) (by omega) HH.out HA.out (by omega)
              have HV := Lib.hid (show numN (bs s) = val (bs s) by rw [numN, ho]; rfl)
              clear ht ho
              generalize val (bs s) = N at *
              have hb' : (N : Int) ≤ (2147483648 : Int) := by omega
              go_wp2
              go_ret
              exact ⟨by rw [HV.out]; rfl, rfl⟩
end Go.Proofs.YtfaojafhamhncaaDoor
