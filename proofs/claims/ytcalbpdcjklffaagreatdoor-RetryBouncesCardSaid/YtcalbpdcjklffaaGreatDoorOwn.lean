/- Small facts on rows of the call's own, beside the library's. -/
import Derived.WalkKit
import Derived.WalkSpells
import Derived.Laws.AppendOwn
import Derived.Maps.AppendAt
import Derived.Deep.Draws
import Derived.Laws.Rows
namespace Go.Proofs.YtcalbpdcjklffaaGreatDoor
open Go.RowKit
theorem own_base {w : World} {base : Nat} {e : TypeId} {size n : Nat} {v : Value} {xs : List Value} (h : w.ownsRow base e size v n xs) : ∀ k, v.ownBlock = some k → base ≤ k := by
  intro k hk
  rcases h.2 with ⟨rfl, _⟩ | ⟨g, cap, cur, rfl, hb, _⟩
  · cases hk
  · have : g = k := by simpa [Value.ownBlock] using hk
    omega
/-- behind an append to a row of the call's own: what lay below the call's base lies as it lay -/
theorem below_append {w wr w1 : World} {base base' : Nat} {e : TypeId} {size n : Nat} {v : Value} {xs : List Value} {W2 : World} (hB : Below base w wr) (hg : wr.grownBy w1 v.ownBlock) (hown : W2.ownsRow base' e size v n xs) (hbb : base ≤ base') (hs : base ≤ wr.heap.size) : Below base w w1 :=
  hB.grown hg hs (fun k hk => Nat.le_trans hbb (own_base hown k hk))
theorem add_at (g j : Nat) : (⟨g, 0, none⟩ : Addr).add j = ⟨g, j, none⟩ := by
  unfold Addr.add; split <;> simp_all
/-- an owned row of numbers read as a slice -/
theorem own_cells {w : World} {base n : Nat} {e : TypeId} {k : IntKind} {v : Value} {xs : List Int} (h : w.ownsRow base e 1 v n (xs.map (Value.int k))) :
    xs.length = n ∧ ∃ A c, v = .slice A n c ∧ (0 < n → ∃ g, A = some ⟨g, 0, none⟩ ∧ g < w.heap.size ∧ base ≤ g ∧ ∀ j, j < n → w.cell? ⟨g, j, none⟩ = some (.int k (xs.getD j 0))) := by
  have hl : xs.length = n := by simpa using h.1
  refine ⟨hl, ?_⟩
  rcases h.2 with ⟨rfl, rfl⟩ | ⟨g, cap, cur, rfl, hb, hh, h1, h2, h3, h4⟩
  · exact ⟨none, 0, rfl, fun hp => absurd hp (by omega)⟩
  · refine ⟨_, _, rfl, fun _ => ⟨g, rfl, (Array.getElem?_eq_some_iff.1 hh).1, hb, fun j hj => ?_⟩⟩
    have := h.cells (g := g) rfl j (.int k (xs.getD j 0)) (by simp [List.getElem?_eq_getElem (show j < xs.length by omega), List.getD_eq_getElem?_getD])
    rw [add_at] at this
    exact this
theorem below_then {w W1 W2 : World} (h : Below w.heap.size w W1) (k : Below W1.heap.size W1 W2) : Below w.heap.size w W2 := h.trans (k.mono h.size)
theorem own_below {w w1 : World} {base : Nat} {e : TypeId} {size n : Nat} {v : Value} {xs : List Value} (h : w.ownsRow base e size v n xs) (hb : Below w.heap.size w w1) : w1.ownsRow base e size v n xs :=
  h.kept (row := none) ⟨hb.os, hb.tape, hb.output, hb.size, fun i hi _ => hb.block i hi⟩ (by cases v.ownBlock <;> simp)
/-- '[]T{}': a row of its own, of no elements -/
theorem own_empty (w : World) (e : TypeId) (size : Nat) : (w.alloc (.cells #[] e)).ownsRow w.heap.size e size (.slice (some ⟨w.heap.size, 0, none⟩) 0 0) 0 [] :=
  ⟨by simp, .inr ⟨w.heap.size, 0, #[], rfl, Nat.le_refl _, heap_alloc_new w _, Nat.le_refl _, Nat.zero_le _, by simp, by simp⟩⟩
theorem below_draws {B : Nat} {w W : World} (h : Below B w W) (q : Nat) : Below B w (W.drewN q) := ⟨h.os, h.tape, h.output, h.size, h.block⟩
end Go.Proofs.YtcalbpdcjklffaaGreatDoor
