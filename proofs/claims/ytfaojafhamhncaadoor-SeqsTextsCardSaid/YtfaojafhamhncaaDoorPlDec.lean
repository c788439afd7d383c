/- Plain facts on decimal numerals: what they read as. -/
import Derived.Lib.ItoaNum
import Derived.Test.YtfaojafhamhncaaDoorPlNum
namespace Go.Proofs.YtfaojafhamhncaaDoor.Pl
open Go.Lib (decDigits)
theorem dec_one {u : Nat} (h : u < 10) : decDigits u = [UInt8.ofNat (48 + u)] := by rw [decDigits, dif_pos h]
theorem dec_more {u : Nat} (h : ¬ u < 10) : decDigits u = decDigits (u / 10) ++ [UInt8.ofNat (48 + u % 10)] := by rw [decDigits, dif_neg h]
theorem dig_nat {k : Nat} (h : k < 10) : (UInt8.ofNat (48 + k)).toNat = 48 + k := by
  rw [UInt8.toNat_ofNat']; omega
theorem dec_ne (u : Nat) : decDigits u ≠ [] := by
  by_cases h : u < 10
  · rw [dec_one h]; simp
  · rw [dec_more h]; simp
theorem val_snoc (l : List UInt8) (c : UInt8) : val (l ++ [c]) = 10 * val l + (c.toNat - 48) := by rw [val, List.foldl_append]; rfl
theorem dec_val : ∀ u, val (decDigits u) = u := by
  intro u
  induction u using Nat.strongRecOn with
  | _ u ih =>
    by_cases h : u < 10
    · rw [dec_one h]
      show 10 * 0 + ((UInt8.ofNat (48 + u)).toNat - 48) = u
      rw [dig_nat h]; omega
    · rw [dec_more h, val_snoc, ih (u / 10) (by omega), dig_nat (by omega)]; omega
theorem dec_digits : ∀ u, ∀ c ∈ decDigits u, digB c = true := by
  intro u
  induction u using Nat.strongRecOn with
  | _ u ih =>
    have one : ∀ k, k < 10 → digB (UInt8.ofNat (48 + k)) = true := fun k hk => by
      simp only [digB, Bool.and_eq_true, decide_eq_true_eq, dig_nat hk]; omega
    by_cases h : u < 10
    · rw [dec_one h]; intro c hc; simp only [List.mem_singleton] at hc; subst hc; exact one u h
    · rw [dec_more h]; intro c hc
      rcases List.mem_append.1 hc with hc | hc
      · exact ih (u / 10) (by omega) c hc
      · simp only [List.mem_singleton] at hc; subst hc; exact one _ (by omega)
theorem dec_len : ∀ k u, u < 10 ^ (k + 1) → (decDigits u).length ≤ k + 1 := by
  intro k
  induction k with
  | zero => intro u hu; rw [dec_one (by simpa using hu)]; simp
  | succ k ih =>
    intro u hu
    by_cases h : u < 10
    · rw [dec_one h]; simp
    · rw [dec_more h, List.length_append]
      have := ih (u / 10) (by rw [Nat.div_lt_iff_lt_mul (by decide)]; rw [Nat.pow_succ] at hu; exact hu)
      simp only [List.length_singleton]; omega
theorem dec_head : ∀ u, 0 < u → ¬ (decDigits u).head? = some 48 := by
  intro u
  induction u using Nat.strongRecOn with
  | _ u ih =>
    intro h0
    by_cases h : u < 10
    · rw [dec_one h]
      intro e
      simp only [List.head?_cons, Option.some.injEq] at e
      have := congrArg UInt8.toNat e
      rw [dig_nat h] at this
      have h48 : (48 : UInt8).toNat = 48 := rfl
      omega
    · rw [dec_more h, List.head?_append]
      have := ih (u / 10) (by omega) (by omega)
      cases e : (decDigits (u / 10)).head? with
      | none => rw [List.head?_eq_none_iff] at e; exact absurd e (dec_ne _)
      | some c => rw [e] at this; simpa using this
theorem dec_numOk (u : Nat) (h0 : 0 < u) (h1 : u ≤ 2147483648) : numOk (decDigits u) = true := by
  refine num_yes _ ?_ (dec_len 9 u (by omega)) (dec_head u h0) (dec_digits u) (by rw [dec_val]; exact h1)
  have := dec_ne u
  cases e : decDigits u with
  | nil => exact absurd e this
  | cons => simp
theorem dec_numN (u : Nat) (h0 : 0 < u) (h1 : u ≤ 2147483648) : numN (decDigits u) = u := by
  rw [numN, if_pos (dec_numOk u h0 h1), dec_val]
end Go.Proofs.YtfaojafhamhncaaDoor.Pl
