/- Plain facts on lists of bytes: which texts are numbers, as sets of numbers have them. No program in sight. -/
namespace Go.Proofs.YtfaojafhamhncaaDoor.Pl
def digB (c : UInt8) : Bool := decide (48 ≤ c.toNat) && decide (c.toNat ≤ 57)
def val (l : List UInt8) : Nat := l.foldl (fun n c => 10 * n + (c.toNat - 48)) 0
theorem val_next (l : List UInt8) (k : Nat) (hk : k < l.length) : val (l.take (k + 1)) = 10 * val (l.take k) + (l[k].toNat - 48) := by
  rw [val, List.take_succ_eq_append_getElem hk, List.foldl_append]; rfl
theorem val_small (l : List UInt8) : (∀ c ∈ l, digB c = true) → val l < 10 ^ l.length := by
  intro h
  have key : ∀ (l : List UInt8) (n : Nat), (∀ c ∈ l, digB c = true) → l.foldl (fun n c => 10 * n + (c.toNat - 48)) n < (n + 1) * 10 ^ l.length := by
    intro l
    induction l with
    | nil => intro n _; simp
    | cons c cs ih =>
      intro n hh
      have hc := hh c (List.mem_cons_self ..)
      simp only [digB, Bool.and_eq_true, decide_eq_true_eq] at hc
      have := ih (10 * n + (c.toNat - 48)) (fun x hx => hh x (List.mem_cons_of_mem _ hx))
      simp only [List.foldl_cons, List.length_cons, Nat.pow_succ]
      refine Nat.lt_of_lt_of_le this ?_
      have h1 : 10 * n + (c.toNat - 48) + 1 ≤ (n + 1) * 10 := by omega
      calc (10 * n + (c.toNat - 48) + 1) * 10 ^ cs.length ≤ ((n + 1) * 10) * 10 ^ cs.length := Nat.mul_le_mul_right _ h1
        _ = (n + 1) * (10 ^ cs.length * 10) := by rw [Nat.mul_assoc, Nat.mul_comm 10]
  simpa [val] using key l 0 h
/-- the number of a text; 0: it is none -/
def numOk (l : List UInt8) : Bool := decide (1 ≤ l.length) && decide (l.length ≤ 10) && !(l.head? == some 48) && l.all digB && decide (val l ≤ 2147483648)
def numN (l : List UInt8) : Nat := if numOk l = true then val l else 0
theorem val_pos (l : List UInt8) (h0 : 1 ≤ l.length) (h : ∀ c ∈ l, digB c = true) (h1 : ¬ l.head? = some 48) : 0 < val l := by
  cases l with
  | nil => simp at h0
  | cons c cs =>
    have key : ∀ (l : List UInt8) (n : Nat), 0 < n → 0 < l.foldl (fun n c => 10 * n + (c.toNat - 48)) n := by
      intro l
      induction l with
      | nil => intro n hn; exact hn
      | cons c cs ih => intro n hn; exact ih (10 * n + (c.toNat - 48)) (by omega)
    have hc := h c (List.mem_cons_self ..)
    simp only [digB, Bool.and_eq_true, decide_eq_true_eq] at hc
    have hne : c.toNat ≠ 48 := fun e => h1 (by simp [← UInt8.toNat_inj]; exact e)
    exact key cs (10 * 0 + (c.toNat - 48)) (by omega)
theorem numN_pos (l : List UInt8) (h : numOk l = true) : numN l = val l ∧ 0 < val l ∧ val l ≤ 2147483648 := by
  have h' := h
  simp only [numOk, Bool.and_eq_true, decide_eq_true_eq, Bool.not_eq_true', beq_eq_false_iff_ne] at h'
  refine ⟨by rw [numN, if_pos h], val_pos l h'.1.1.1.1 (fun c hc => List.all_eq_true.1 h'.1.2 c hc) h'.1.1.2, h'.2⟩
theorem numN_zero (l : List UInt8) (h : numOk l = false) : numN l = 0 := by rw [numN, if_neg (by rw [h]; decide)]
theorem num_len (l : List UInt8) (h : l.length = 0 ∨ 10 < l.length) : numOk l = false := by
  cases e : numOk l with
  | false => rfl
  | true =>
    simp only [numOk, Bool.and_eq_true, decide_eq_true_eq] at e
    omega
theorem num_digit (l : List UInt8) (k : Nat) (hk : k < l.length) (h : digB l[k] = false) : numOk l = false := by
  cases e : numOk l with
  | false => rfl
  | true =>
    simp only [numOk, Bool.and_eq_true] at e
    have := List.all_eq_true.1 e.1.2 l[k] (List.getElem_mem hk)
    rw [h] at this; cases this
theorem num_zero (l : List UInt8) (h : l.head? = some 48) : numOk l = false := by simp [numOk, h]
theorem num_big (l : List UInt8) (h : 2147483648 < val l) : numOk l = false := by
  cases e : numOk l with
  | false => rfl
  | true =>
    simp only [numOk, Bool.and_eq_true, decide_eq_true_eq] at e
    omega
theorem num_yes (l : List UInt8) (h1 : 1 ≤ l.length) (h2 : l.length ≤ 10) (h3 : ¬ l.head? = some 48) (h4 : ∀ c ∈ l, digB c = true) (h5 : val l ≤ 2147483648) : numOk l = true := by
  simp only [numOk, Bool.and_eq_true, decide_eq_true_eq, Bool.not_eq_true', beq_eq_false_iff_ne]
  exact ⟨⟨⟨⟨h1, h2⟩, h3⟩, List.all_eq_true.2 h4⟩, h5⟩
/-- an end of a range: '*' is 0 -/
def endOk (l : List UInt8) : Bool := (l == [42]) || numOk l
def endN (l : List UInt8) : Nat := if l = [42] then 0 else numN l
end Go.Proofs.YtfaojafhamhncaaDoor.Pl
