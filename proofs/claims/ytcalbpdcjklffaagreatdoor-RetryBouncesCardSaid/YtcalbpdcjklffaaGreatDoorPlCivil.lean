/- Plain facts on dates: months counted from January 1970; which month and day a day's number has. No program in sight. -/
namespace Go.Proofs.YtcalbpdcjklffaaGreatDoor.Pl
def leapB (y : Nat) : Bool := (decide (y % 4 = 0) && !decide (y % 100 = 0)) || decide (y % 400 = 0)
def daysM (y m : Nat) : Nat := if m = 2 then (if leapB y = true then 29 else 28) else if m = 4 ∨ m = 6 ∨ m = 9 ∨ m = 11 then 30 else if 1 ≤ m ∧ m ≤ 12 then 31 else 0
/-- the days of month n -/
def dM (n : Nat) : Nat := daysM (1970 + n / 12) (n % 12 + 1)
/-- the days ahead of month n -/
def cum : Nat → Nat
  | 0 => 0
  | n + 1 => cum n + dM n
theorem cum_succ (n : Nat) : cum (n + 1) = cum n + dM n := rfl
theorem cum_mono {a b : Nat} (h : a ≤ b) : cum a ≤ cum b := by
  induction b with
  | zero => obtain rfl : a = 0 := by omega
            exact Nat.le_refl _
  | succ b ih =>
    by_cases hb : a = b + 1
    · subst hb; exact Nat.le_refl _
    · have := ih (by omega); rw [cum_succ]; omega
theorem dM_pos (n : Nat) : 28 ≤ dM n := by
  unfold dM daysM
  have : n % 12 < 12 := Nat.mod_lt _ (by decide)
  split
  · split <;> omega
  · split
    · omega
    · rw [if_pos ⟨by omega, by omega⟩]; omega
theorem month_one {d n1 k1 n2 k2 : Nat} (h1 : cum n1 + k1 = d) (l1 : k1 < dM n1) (h2 : cum n2 + k2 = d) (l2 : k2 < dM n2) : n1 = n2 ∧ k1 = k2 := by
  have key : ∀ a b : Nat, a < b → cum a + dM a ≤ cum b := fun a b h => by rw [← cum_succ]; exact cum_mono h
  by_cases h : n1 = n2
  · subst h; omega
  · rcases Nat.lt_or_gt_of_ne h with h | h
    · have := key n1 n2 h; omega
    · have := key n2 n1 h; omega
/-- a day's month and its place there -/
def civN : Nat → Nat × Nat
  | 0 => (0, 0)
  | d + 1 => if (civN d).2 + 1 < dM (civN d).1 then ((civN d).1, (civN d).2 + 1) else ((civN d).1 + 1, 0)
theorem civ_is (d : Nat) : cum (civN d).1 + (civN d).2 = d ∧ (civN d).2 < dM (civN d).1 := by
  induction d with
  | zero => exact ⟨rfl, by decide⟩
  | succ d ih =>
    rw [civN]
    split
    · next h => exact ⟨by simp only; omega, h⟩
    · next h =>
      refine ⟨?_, Nat.lt_of_lt_of_le (show 0 < 28 by decide) (dM_pos _)⟩
      simp only [cum_succ]; omega
theorem civ_one {d n k : Nat} (h : cum n + k = d) (l : k < dM n) : n = (civN d).1 ∧ k = (civN d).2 := month_one h l (civ_is d).1 (civ_is d).2
/-- the days ahead of a year -/
def ahead : Nat → Nat
  | 0 => 0
  | k + 1 => ahead k + 365 + (if leapB (1970 + k) = true then 1 else 0)
theorem ahead_succ (k : Nat) : ahead (k + 1) = ahead k + 365 + (if leapB (1970 + k) = true then 1 else 0) := rfl
theorem cum_year (k : Nat) : cum (12 * k) = ahead k := by
  induction k with
  | zero => rfl
  | succ k ih =>
    have e : ∀ i, i < 12 → dM (12 * k + i) = daysM (1970 + k) (i + 1) := fun i hi => by
      rw [dM, show (12 * k + i) / 12 = k by omega, show (12 * k + i) % 12 = i by omega]
    have e0 := e 0 (by omega)
    rw [Nat.add_zero] at e0
    rw [show 12 * (k + 1) = 12 * k + 1 + 1 + 1 + 1 + 1 + 1 + 1 + 1 + 1 + 1 + 1 + 1 by omega]
    simp only [cum_succ]
    rw [ih, e0, e 1 (by omega), show 12 * k + 1 + 1 = 12 * k + 2 by omega, e 2 (by omega), show 12 * k + 2 + 1 = 12 * k + 3 by omega, e 3 (by omega), show 12 * k + 3 + 1 = 12 * k + 4 by omega, e 4 (by omega), show 12 * k + 4 + 1 = 12 * k + 5 by omega, e 5 (by omega),
      show 12 * k + 5 + 1 = 12 * k + 6 by omega, e 6 (by omega), show 12 * k + 6 + 1 = 12 * k + 7 by omega, e 7 (by omega), show 12 * k + 7 + 1 = 12 * k + 8 by omega, e 8 (by omega), show 12 * k + 8 + 1 = 12 * k + 9 by omega, e 9 (by omega), show 12 * k + 9 + 1 = 12 * k + 10 by omega, e 10 (by omega),
      show 12 * k + 10 + 1 = 12 * k + 11 by omega, e 11 (by omega), ahead_succ]
    have l : ∀ m, daysM (1970 + k) m = if m = 2 then (if leapB (1970 + k) = true then 29 else 28) else if m = 4 ∨ m = 6 ∨ m = 9 ∨ m = 11 then 30 else if 1 ≤ m ∧ m ≤ 12 then 31 else 0 := fun _ => rfl
    simp only [l]
    cases leapB (1970 + k) <;> simp <;> omega
end Go.Proofs.YtcalbpdcjklffaaGreatDoor.Pl
