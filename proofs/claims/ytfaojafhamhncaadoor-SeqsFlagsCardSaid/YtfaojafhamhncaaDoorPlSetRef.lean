/- Plain facts: the document's reading of a set's item. No program in sight. -/
import Derived.Test.YtfaojafhamhncaaDoorPlCut
namespace Go.Proofs.YtfaojafhamhncaaDoor.Pl
theorem numN_star : numN [42] = 0 := by decide
theorem endN_num (l : Bs) : endN l = numN l := by
  rw [endN]; split
  · next h => rw [h, numN_star]
  · rfl
theorem endOk_num (l : Bs) : endOk l = (decide (l = [42]) || !decide (numN l = 0)) := by
  rw [endOk]
  cases h : numOk l with
  | true =>
    have := numN_pos l h
    rw [Bool.or_true, decide_eq_false (show ¬ numN l = 0 by omega)]; simp
  | false => rw [numN_zero l h, Bool.eq_iff_iff]; simp
theorem splitB_hitl (x : UInt8) (l : Bs) (h : idxB x l < l.length) : splitB x l = l.take (idxB x l) :: splitB x (l.drop (idxB x l + 1)) := by
  have h1 := idxB_at x l h
  have h2 : x ∉ l.take (idxB x l) := by
    intro hm
    obtain ⟨i, hi, e⟩ := List.getElem_of_mem hm
    rw [List.length_take] at hi
    rw [List.getElem_take] at e
    exact idxB_before x l i (by omega) (by omega) e
  have h3 : l = l.take (idxB x l) ++ x :: l.drop (idxB x l + 1) := by
    have h4 : l.drop (idxB x l) = x :: l.drop (idxB x l + 1) := by
      rw [List.drop_eq_getElem_cons h]; rw [h1]
    rw [← h4, List.take_append_drop]
  conv => lhs; rw [h3]
  exact splitB_mid x _ _ h2
theorem splitB_missl (x : UInt8) (l : Bs) (h : ¬ idxB x l < l.length) : splitB x l = [l] := by
  refine splitB_none x l (fun hm => ?_)
  obtain ⟨i, hi, e⟩ := List.getElem_of_mem hm
  have hle := idxB_le x l
  exact idxB_before x l i hi (by omega) e
/-- one part -/
theorem item_one {l a : Bs} (h : splitB 58 l = [a]) : okItem l = endOk a ∧ rangeV l = ((numN a : Int), (numN a : Int)) := by
  by_cases hi : idxB 58 l < l.length
  · rw [splitB_hitl 58 l hi] at h
    obtain ⟨x, t, e⟩ := splitB_ne 58 (l.drop (idxB 58 l + 1))
    rw [e] at h; simp at h
  · rw [splitB_missl 58 l hi] at h
    obtain rfl : l = a := by simpa using h
    have hle := idxB_le 58 l
    have hf : fromB l = l := by rw [fromB, show idxB 58 l = l.length by omega, List.take_length]
    have ht : toB l = l := by rw [toB, if_neg hi, hf]
    rw [okItem, rangeV, hf, ht, Bool.and_self, endN_num]; exact ⟨rfl, rfl⟩
/-- two parts -/
theorem item_two {l a b : Bs} (h : splitB 58 l = [a, b]) : okItem l = (endOk a && endOk b) ∧ rangeV l = ((numN a : Int), (numN b : Int)) := by
  by_cases hi : idxB 58 l < l.length
  · have hs := splitB_hitl 58 l hi
    rw [h] at hs
    simp only [List.cons.injEq] at hs
    have hb : l.drop (idxB 58 l + 1) = b := by
      by_cases hj : idxB 58 (l.drop (idxB 58 l + 1)) < (l.drop (idxB 58 l + 1)).length
      · rw [splitB_hitl 58 _ hj] at hs
        obtain ⟨x, t, e⟩ := splitB_ne 58 ((l.drop (idxB 58 l + 1)).drop (idxB 58 (l.drop (idxB 58 l + 1)) + 1))
        rw [e] at hs; simp at hs
      · rw [splitB_missl 58 _ hj] at hs; simpa using hs.2.symm
    have hf : fromB l = a := hs.1.symm
    have ht : toB l = b := by rw [toB, if_pos hi, hb]
    rw [okItem, rangeV, hf, ht, endN_num, endN_num]; exact ⟨rfl, rfl⟩
  · rw [splitB_missl 58 l hi] at h; simp at h
/-- more parts: a colon stands behind the first -/
theorem item_more {l : Bs} (h : 2 < (splitB 58 l).length) : okItem l = false := by
  by_cases hi : idxB 58 l < l.length
  · have hs := splitB_hitl 58 l hi
    rw [hs] at h
    have hj : idxB 58 (l.drop (idxB 58 l + 1)) < (l.drop (idxB 58 l + 1)).length := by
      by_cases hj : idxB 58 (l.drop (idxB 58 l + 1)) < (l.drop (idxB 58 l + 1)).length
      · exact hj
      · rw [splitB_missl 58 _ hj] at h; simp at h
    have ht : toB l = l.drop (idxB 58 l + 1) := by rw [toB, if_pos hi]
    have hc := idxB_at 58 _ hj
    generalize l.drop (idxB 58 l + 1) = m at *
    have hm : endOk m = false := by
      have h1 : numOk m = false := num_digit m _ hj (by rw [hc]; decide)
      rw [endOk, h1, Bool.or_false, beq_eq_false_iff_ne]
      intro e
      have : (58 : UInt8) ∈ m := by rw [← hc]; exact List.getElem_mem hj
      rw [e] at this
      exact absurd this (by decide)
    rw [okItem, ht, hm, Bool.and_false]
  · rw [splitB_missl 58 l hi] at h; simp at h
end Go.Proofs.YtfaojafhamhncaaDoor.Pl
