/- Plain facts: a set's text, and that it is read back. No program in sight. -/
import Derived.Lib.Join
import Derived.Test.YtfaojafhamhncaaDoorPlDec
import Derived.Test.YtfaojafhamhncaaDoorPlSet
namespace Go.Proofs.YtfaojafhamhncaaDoor.Pl
open Go.Lib (decDigits)
def endT (n : Int) : Bs := if n = 0 then [42] else decDigits n.toNat
def itemT (r : Int × Int) : Bs := if r.2 = r.1 then endT r.1 else endT r.1 ++ 58 :: endT r.2
def okN (n : Int) : Bool := decide (0 ≤ n) && decide (n ≤ 2147483648)
def okR (r : Int × Int) : Bool := okN r.1 && okN r.2
def textOk (xs : List (Int × Int)) : Bool := xs.all okR && decide (1 ≤ xs.length) && decide (xs.length ≤ 50)
def textB (xs : List (Int × Int)) : Bs := Go.Lib.join (xs.map itemT) [44]
theorem endT_mem {n : Int} {c : UInt8} (h : c ∈ endT n) : c = 42 ∨ digB c = true := by
  rw [endT] at h
  split at h
  · exact .inl (by simpa using h)
  · exact .inr (dec_digits _ c h)
theorem endT_58 (n : Int) : (58 : UInt8) ∉ endT n := fun h => by
  rcases endT_mem h with h | h
  · exact absurd h (by decide)
  · exact absurd h (by decide)
theorem endT_44 (n : Int) : (44 : UInt8) ∉ endT n := fun h => by
  rcases endT_mem h with h | h
  · exact absurd h (by decide)
  · exact absurd h (by decide)
theorem itemT_44 (r : Int × Int) : (44 : UInt8) ∉ itemT r := fun h => by
  rw [itemT] at h
  split at h
  · exact endT_44 _ h
  · rcases List.mem_append.1 h with h | h
    · exact endT_44 _ h
    · rcases List.mem_cons.1 h with h | h
      · exact absurd h (by decide)
      · exact endT_44 _ h
theorem endT_ok {n : Int} (h : okN n = true) : endOk (endT n) = true ∧ (endN (endT n) : Int) = n := by
  simp only [okN, Bool.and_eq_true, decide_eq_true_eq] at h
  rw [endT]
  split
  · next e => exact ⟨by simp [endOk], by simp [endN, e]⟩
  · next e =>
    have h0 : 0 < n.toNat := by omega
    have h1 : n.toNat ≤ 2147483648 := by omega
    have hne : decDigits n.toNat ≠ [42] := fun e => by
      have := dec_digits n.toNat 42 (by rw [e]; simp)
      exact absurd this (by decide)
    refine ⟨by rw [endOk, dec_numOk _ h0 h1, Bool.or_true], ?_⟩
    rw [endN, if_neg hne, dec_numN _ h0 h1]; omega
theorem item_ok {r : Int × Int} (h : okR r = true) : okItem (itemT r) = true ∧ rangeV (itemT r) = r := by
  rw [okR, Bool.and_eq_true] at h
  obtain ⟨a1, a2⟩ := endT_ok h.1
  obtain ⟨b1, b2⟩ := endT_ok h.2
  rw [okItem, rangeV]
  by_cases e : r.2 = r.1
  · have hi : itemT r = endT r.1 := by rw [itemT, if_pos e]
    have hx := idxB_notmem 58 (endT r.1) (endT_58 r.1)
    have hf : fromB (itemT r) = endT r.1 := by rw [hi, fromB, hx, List.take_length]
    have ht : toB (itemT r) = endT r.1 := by rw [toB, hf, hi, hx, if_neg (Nat.lt_irrefl _)]
    rw [hf, ht, a1, a2]
    exact ⟨rfl, Prod.ext rfl e.symm⟩
  · have hi : itemT r = endT r.1 ++ 58 :: endT r.2 := by rw [itemT, if_neg e]
    have hx := idxB_append_mem 58 (endT r.1) (endT r.2) (endT_58 r.1)
    have hf : fromB (itemT r) = endT r.1 := by rw [hi, fromB, hx, List.take_left]
    have ht : toB (itemT r) = endT r.2 := by
      rw [toB, hi, hx, if_pos (by simp), show (endT r.1).length + 1 = (endT r.1 ++ [58]).length by simp, show endT r.1 ++ 58 :: endT r.2 = (endT r.1 ++ [58]) ++ endT r.2 by simp, List.drop_left]
    rw [hf, ht, a1, a2, b1, b2]
    exact ⟨rfl, rfl⟩
theorem splitB_mid (x : UInt8) (a b : Bs) (h : x ∉ a) : splitB x (a ++ x :: b) = a :: splitB x b := by
  induction a with
  | nil => simp [splitB]
  | cons c cs ih =>
    have hc : ¬ c = x := fun e => h (by simp [e])
    have := ih (fun hm => h (List.mem_cons_of_mem _ hm))
    simp only [List.cons_append, splitB, if_neg hc, this]
theorem splitB_none (x : UInt8) (a : Bs) (h : x ∉ a) : splitB x a = [a] := by
  induction a with
  | nil => rfl
  | cons c cs ih =>
    have hc : ¬ c = x := fun e => h (by simp [e])
    have := ih (fun hm => h (List.mem_cons_of_mem _ hm))
    simp only [splitB, if_neg hc, this]
theorem split_join (x : UInt8) : ∀ (a : Bs) (r : List Bs), x ∉ a → (∀ b ∈ r, x ∉ b) → splitB x (Go.Lib.join (a :: r) [x]) = a :: r
  | a, [], ha, _ => by rw [Go.Lib.join_one]; exact splitB_none x a ha
  | a, b :: r, ha, hr => by
    have := split_join x b r (hr b (List.mem_cons_self ..)) (fun c hc => hr c (List.mem_cons_of_mem _ hc))
    have e : Go.Lib.join (a :: b :: r) [x] = a ++ x :: Go.Lib.join (b :: r) [x] := by
      rw [Go.Lib.join_cons, Go.Lib.join_cons]; simp [Go.Lib.joinTail]
    rw [e, splitB_mid x a _ ha, this]
theorem text_back {xs : List (Int × Int)} (h : textOk xs = true) : setOk (textB xs) = true ∧ setL (textB xs) = xs := by
  simp only [textOk, Bool.and_eq_true, decide_eq_true_eq] at h
  obtain ⟨⟨h1, h2⟩, h3⟩ := h
  have hi : items (textB xs) = xs.map itemT := by
    cases xs with
    | nil => simp at h2
    | cons r rs =>
      rw [items, textB, List.map_cons]
      exact split_join 44 _ _ (itemT_44 r) (fun b hb => by obtain ⟨q, _, rfl⟩ := List.mem_map.1 hb; exact itemT_44 q)
  have ha : ∀ r ∈ xs, okR r = true := List.all_eq_true.1 h1
  have hok : setOk (textB xs) = true := by
    rw [setOk, hi, Bool.and_eq_true]
    refine ⟨List.all_eq_true.2 (fun b hb => ?_), by rw [decide_eq_true_iff, List.length_map]; exact h3⟩
    obtain ⟨q, hq, rfl⟩ := List.mem_map.1 hb
    exact (item_ok (ha q hq)).1
  refine ⟨hok, ?_⟩
  rw [setL, if_pos hok, hi, List.map_map]
  exact (List.map_congr_left (g := id) (fun q hq => (item_ok (ha q hq)).2)).trans (List.map_id xs)
end Go.Proofs.YtfaojafhamhncaaDoor.Pl
