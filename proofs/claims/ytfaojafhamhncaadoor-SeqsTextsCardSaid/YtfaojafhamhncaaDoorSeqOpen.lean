/- A list of ranges that came in; a struct of four numbers that came in. -/
import Derived.Test.YtfaojafhamhncaaDoorHas
import Derived.Test.YtfaojafhamhncaaDoorStructs
import Derived.ChangeSame
import Derived.WideShapes
import Derived.OpenShut
namespace Go.Proofs.YtfaojafhamhncaaDoor
open Go Go.ChangeShapes Go.WideShapes Go.Deep Go.RowKit
set_option maxRecDepth 100000 in
theorem ranges_of {H : Type} {enc : TypeId × Value → H} {W : World} {b0 base : Nat} {sp : Nat → Bool} {held : Bool} {v : Value} {d : DataW H} {p : List MemPlace}
    (ok : Value.okWide Tryd.prog W .any b0 22 v) (h : DataW.Trod enc Tryd.prog W base sp held 22 v d p) : ∃ A n c xs, v = .slice A n c ∧ n ≤ c ∧ c ≤ maxLen ∧ RangesAt W A n xs ∧ (A = none → c = 0) := by
  obtain ⟨a0, n, cap, rfl⟩ := okWide_slice Tryd.underlying22 ok
  obtain ⟨fuel, hf⟩ := h
  rcases structs_cells (e := 28) Tryd.underlying22 Tryd.underlying28 (by kernel_rfl) (by kernel_rfl) hf with h0 | ⟨a, len, cap', F, hcs, _, hl, hm, hel⟩
  · simp [Value.cells] at h0
    obtain ⟨rfl, rfl, rfl⟩ := h0
    exact ⟨none, 0, 0, [], rfl, Nat.le_refl _, Nat.zero_le _, ⟨rfl, Nat.zero_le _, fun hp => absurd hp (Nat.lt_irrefl 0)⟩, fun _ => rfl⟩
  · simp [Value.cells] at hcs
    obtain ⟨rfl, rfl, rfl⟩ := hcs
    have hm' : n ≤ 9223372036854775807 := by unfold maxLen at hm; omega
    by_cases hn : n = 0
    · subst hn
      exact ⟨_, _, _, [], rfl, hl, hm, ⟨rfl, Nat.zero_le _, fun hp => absurd hp (Nat.lt_irrefl 0)⟩, fun h => by cases h⟩
    · obtain ⟨b, off, rfl⟩ := plain_addr (by simpa using (hel 0 0 _ (by omega) rfl).1)
      have hi : ∀ i, i < n → ∃ z, F i 0 = .int .i64 z := fun i hi => by
        obtain ⟨_, m, y, hy⟩ := hel i 0 _ hi rfl
        obtain ⟨z, e, _⟩ := DataW.trod_int Tryd.underlying3 hy
        exact ⟨z, by simpa using e⟩
      have hd : ∀ i, i < n → ∃ z, F i 1 = .int .i64 z := fun i hi => by
        obtain ⟨_, m, y, hy⟩ := hel i 1 _ hi rfl
        obtain ⟨z, e, _⟩ := DataW.trod_int Tryd.underlying3 hy
        exact ⟨z, by simpa using e⟩
      obtain ⟨fs, hfs⟩ := choose_lt hi
      obtain ⟨ts, hts⟩ := choose_lt hd
      refine ⟨_, n, cap, (List.range n).map (fun i => (fs i, ts i)), rfl, hl, hm, ⟨by simp, hm', fun _ => ⟨b, off, rfl, cell_lt (hel 0 0 _ (by omega) rfl).1, fun j hj => ?_⟩⟩, fun h => by cases h⟩
      have e : ((List.range n).map (fun i => (fs i, ts i))).getD j (0, 0) = (fs j, ts j) := by
        rw [List.getD_eq_getElem?_getD, List.getElem?_map, List.getElem?_range hj]; rfl
      rw [e]
      have k0 := (hel j 0 _ hj rfl).1
      have k1 := (hel j 1 _ hj rfl).1
      rw [hfs j hj] at k0
      rw [hts j hj] at k1
      exact ⟨by simpa [add_plain, Nat.add_assoc] using k0, by simpa [add_plain, Nat.add_assoc] using k1⟩
theorem turn_cells : Tryd.prog.cellsOf 26 = 4 := by kernel_rfl
theorem int_cells : Tryd.prog.cellsOf 3 = 1 := by kernel_rfl
set_option maxRecDepth 100000 in
theorem turn_open {H : Type} {enc : TypeId × Value → H} {W : World} {b0 base : Nat} {sp : Nat → Bool} {held : Bool} {v : Value} {d : DataW H} {ps : List MemPlace} (hval : Value.okWide Tryd.prog W .any b0 26 v) (hd : DataW.Trod enc Tryd.prog W base sp held 26 v d ps) :
    ∃ f t n m : Int, v = .agg #[.int .i64 f, .int .i64 t, .int .i64 n, .int .i64 m] := by
  obtain ⟨cs, rfl, hs⟩ := okWide_struct (P := Tryd.prog) (w := W) (r := .any) (base := b0) (t := 26) Tryd.underlying26 hval
  rw [turn_cells] at hs
  obtain ⟨fuel, hf⟩ := hd
  obtain ⟨xs, n, _, _, _, hlen, hf⟩ := DataW.trod_struct Tryd.underlying26 hf
  obtain ⟨l⟩ := cs
  match xs, hlen, l, hs with
  | [y0, y1, y2, y3], _, [c0, c1, c2, c3], _ =>
    have h0 := hf 0 _ rfl
    have h1 := hf 1 _ rfl
    have h2 := hf 2 _ rfl
    have h3 := hf 3 _ rfl
    obtain ⟨z0, e0, _⟩ := DataW.trod_int Tryd.underlying3 h0
    obtain ⟨z1, e1, _⟩ := DataW.trod_int Tryd.underlying3 h1
    obtain ⟨z2, e2, _⟩ := DataW.trod_int Tryd.underlying3 h2
    obtain ⟨z3, e3, _⟩ := DataW.trod_int Tryd.underlying3 h3
    simp [Value.cells, int_cells] at e0 e1 e2 e3
    exact ⟨z0, z1, z2, z3, by rw [e0, e1, e2, e3]⟩
end Go.Proofs.YtfaojafhamhncaaDoor
