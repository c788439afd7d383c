/- Plain facts: how far a cut at a byte has come. No program in sight. -/
import Derived.Test.YtfaojafhamhncaaDoorPlText
namespace Go.Proofs.YtfaojafhamhncaaDoor.Pl
def CutSt (l : Bs) (x : UInt8) (xs : List Bs) (fr k : Nat) : Prop :=
  (k ≤ l.length ∧ fr ≤ k ∧ (∀ (j : Nat) (h : j < l.length), fr ≤ j → j < k → l[j] ≠ x) ∧ splitB x l = xs ++ splitB x (l.drop fr)) ∨ (k = l.length + 1 ∧ splitB x l = xs)
theorem cut_start (l : Bs) (x : UInt8) : CutSt l x [] 0 0 := .inl ⟨Nat.zero_le _, Nat.le_refl _, fun j h _ h0 => absurd h0 (Nat.not_lt_zero j), by simp⟩
theorem cut_notin {l : Bs} {x : UInt8} {fr k : Nat} (hk : k ≤ l.length) (h : ∀ (j : Nat) (h : j < l.length), fr ≤ j → j < k → l[j] ≠ x) : x ∉ (l.take k).drop fr := by
  intro hm
  obtain ⟨i, hi, e⟩ := List.getElem_of_mem hm
  rw [List.length_drop, List.length_take] at hi
  rw [List.getElem_drop, List.getElem_take] at e
  exact h (fr + i) (by omega) (by omega) (by omega) e
theorem cut_hit {l : Bs} {x : UInt8} {xs : List Bs} {fr k : Nat} (hk : k < l.length) (hx : l[k] = x) (h : CutSt l x xs fr k) : CutSt l x (xs ++ [(l.take k).drop fr]) (k + 1) (k + 1) := by
  rcases h with ⟨h1, h2, h3, h4⟩ | ⟨h1, _⟩
  · refine .inl ⟨hk, Nat.le_refl _, fun j h a b => absurd b (by omega), ?_⟩
    have e : l.drop fr = (l.take k).drop fr ++ x :: l.drop (k + 1) := by
      have : l = l.take k ++ x :: l.drop (k + 1) := by
        rw [← hx, ← List.drop_eq_getElem_cons hk, List.take_append_drop]
      conv => lhs; rw [this]
      rw [List.drop_append_of_le_length (by rw [List.length_take]; omega)]
    rw [h4, e, splitB_mid x _ _ (cut_notin (by omega) h3)]; simp
  · omega
theorem cut_miss {l : Bs} {x : UInt8} {xs : List Bs} {fr k : Nat} (hk : k < l.length) (hx : l[k] ≠ x) (h : CutSt l x xs fr k) : CutSt l x xs fr (k + 1) := by
  rcases h with ⟨h1, h2, h3, h4⟩ | ⟨h1, _⟩
  · refine .inl ⟨hk, by omega, fun j h a b => ?_, h4⟩
    by_cases e : j = k
    · subst e; exact hx
    · exact h3 j h a (by omega)
  · omega
theorem cut_end {l : Bs} {x : UInt8} {xs : List Bs} {fr : Nat} (h : CutSt l x xs fr l.length) : CutSt l x (xs ++ [(l.take l.length).drop fr]) (l.length + 1) (l.length + 1) := by
  rcases h with ⟨h1, h2, h3, h4⟩ | ⟨h1, _⟩
  · refine .inr ⟨rfl, ?_⟩
    have := cut_notin (Nat.le_refl _) h3
    rw [List.take_length] at this ⊢
    rw [h4, splitB_none x _ this]
  · omega
theorem cut_done {l : Bs} {x : UInt8} {xs : List Bs} {fr k : Nat} (hk : ¬ k ≤ l.length) (h : CutSt l x xs fr k) : splitB x l = xs := by
  rcases h with ⟨h1, _⟩ | ⟨_, h2⟩
  · omega
  · exact h2
theorem cut_le {l : Bs} {x : UInt8} {xs : List Bs} {fr k : Nat} (h : CutSt l x xs fr k) : k ≤ l.length + 1 ∧ (k ≤ l.length → fr ≤ k) := by
  rcases h with ⟨h1, h2, _⟩ | ⟨h1, _⟩
  · exact ⟨by omega, fun _ => h2⟩
  · exact ⟨by omega, fun h => by omega⟩
theorem split_small (x : UInt8) (l : Bs) : ∀ p ∈ splitB x l, p.length ≤ l.length := by
  induction l with
  | nil => intro p hp; simp [splitB] at hp; simp [hp]
  | cons c cs ih =>
    obtain ⟨h, t, e⟩ := splitB_ne x cs
    rw [e] at ih
    intro p hp
    by_cases hc : c = x
    · simp only [splitB, if_pos hc, e, List.mem_cons] at hp
      rcases hp with rfl | hp
      · simp
      · have := ih p (by simpa using hp); simp only [List.length_cons]; omega
    · simp only [splitB, if_neg hc, e, List.mem_cons] at hp
      rcases hp with rfl | hp
      · have := ih h (by simp); simp only [List.length_cons]; omega
      · have := ih p (by simp [hp]); simp only [List.length_cons]; omega
theorem split_few (x : UInt8) (l : Bs) : (splitB x l).length ≤ l.length + 1 := by
  induction l with
  | nil => simp [splitB]
  | cons c cs ih =>
    obtain ⟨h, t, e⟩ := splitB_ne x cs
    rw [e] at ih
    by_cases hc : c = x
    · simp only [splitB, if_pos hc, e, List.length_cons] at ih ⊢; omega
    · simp only [splitB, if_neg hc, e, List.length_cons] at ih ⊢; omega
end Go.Proofs.YtfaojafhamhncaaDoor.Pl
