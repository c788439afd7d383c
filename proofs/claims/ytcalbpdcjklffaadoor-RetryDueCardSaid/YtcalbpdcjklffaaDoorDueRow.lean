/- What a list of items that came in gives the walk of RetryDue. -/
import Derived.Test.YtcalbpdcjklffaaDoorDueW
import Derived.Test.YtcalbpdcjklffaaDoorStructs
namespace Go.Proofs.YtcalbpdcjklffaaDoor
open Go Go.ChangeShapes Go.WideShapes Go.Deep Go.RowKit
set_option maxRecDepth 100000 in
theorem items_of {H : Type} {enc : TypeId × Value → H} {W : World} {sp : Nat → Bool} {a0 : Option Addr} {n cap : Nat} {d : DataW H} {p : List MemPlace} (h : DataW.Trod enc Tryd.prog W 0 sp true 29 (.slice a0 n cap) d p) :
    n ≤ 9223372036854775807 ∧ (n = 0 ∨ ∃ b off F ids dues, a0 = some ⟨b, off, none⟩ ∧ ItemsAt W b off n F ids dues) := by
  obtain ⟨fuel, hf⟩ := h
  rcases structs_cells (e := 32) Tryd.underlying29 Tryd.underlying32 (by kernel_rfl) (by kernel_rfl) hf with h0 | ⟨a, len, cap', F, hcs, _, hl, hm, hel⟩
  · simp [Value.cells] at h0
    omega
  · simp [Value.cells] at hcs
    obtain ⟨rfl, rfl, rfl⟩ := hcs
    have hm' : n ≤ 9223372036854775807 := by unfold maxLen at hm; omega
    refine ⟨hm', ?_⟩
    by_cases hn : n = 0
    · exact .inl hn
    · right
      obtain ⟨b, off, rfl⟩ := plain_addr (by simpa using (hel 0 0 _ (by omega) rfl).1)
      have hi : ∀ i, i < n → ∃ z, F i 0 = .int .i64 z := fun i hi => by
        obtain ⟨_, m, y, hy⟩ := hel i 0 _ hi rfl
        obtain ⟨z, e, _⟩ := DataW.trod_int Tryd.underlying3 hy
        exact ⟨z, by simpa using e⟩
      have hd : ∀ i, i < n → ∃ z, F i 5 = .int .i64 z := fun i hi => by
        obtain ⟨_, m, y, hy⟩ := hel i 5 _ hi rfl
        obtain ⟨z, e, _⟩ := DataW.trod_int Tryd.underlying3 hy
        exact ⟨z, by simpa using e⟩
      obtain ⟨ids, hids⟩ := choose_lt hi
      obtain ⟨dues, hdues⟩ := choose_lt hd
      refine ⟨b, off, F, ids, dues, rfl, cell_lt (hel 0 0 _ (by omega) rfl).1, fun i j hi hj => ?_, fun i j hi hj => ?_, hids, hdues⟩
      · have key : ∀ f, _ → _ := hel i j
        match j, hj, key with
        | 0, _, key => simpa [add_plain, Nat.add_assoc] using (key _ hi rfl).1
        | 1, _, key => simpa [add_plain, Nat.add_assoc] using (key _ hi rfl).1
        | 2, _, key => simpa [add_plain, Nat.add_assoc] using (key _ hi rfl).1
        | 3, _, key => simpa [add_plain, Nat.add_assoc] using (key _ hi rfl).1
        | 4, _, key => simpa [add_plain, Nat.add_assoc] using (key _ hi rfl).1
        | 5, _, key => simpa [add_plain, Nat.add_assoc] using (key _ hi rfl).1
        | 6, _, key => simpa [add_plain, Nat.add_assoc] using (key _ hi rfl).1
      · have key := hel i j
        match j, hj, key with
        | 0, _, key => obtain ⟨_, m, y, hy⟩ := key _ hi rfl; exact one_int Tryd.underlying3 hy
        | 1, _, key => obtain ⟨_, m, y, hy⟩ := key _ hi rfl; exact one_str Tryd.underlying9 hy
        | 2, _, key => obtain ⟨_, m, y, hy⟩ := key _ hi rfl; exact one_slice Tryd.underlying30 hy
        | 3, _, key => obtain ⟨_, m, y, hy⟩ := key _ hi rfl; exact one_int Tryd.underlying3 hy
        | 4, _, key => obtain ⟨_, m, y, hy⟩ := key _ hi rfl; exact one_int Tryd.underlying3 hy
        | 5, _, key => obtain ⟨_, m, y, hy⟩ := key _ hi rfl; exact one_int Tryd.underlying3 hy
        | 6, _, key => obtain ⟨_, m, y, hy⟩ := key _ hi rfl; exact one_str Tryd.underlying9 hy
set_option maxRecDepth 100000 in
theorem dueLaw_any {H : Type} {enc : TypeId × Value → H} {W : World} {sp : Nat → Bool} {base : Nat} {v : Value} {d : DataW H} {p : List MemPlace} (now : Int) (hw : Waits W)
    (ok : Value.okWide Tryd.prog W .any base 29 v) (h : DataW.Trod enc Tryd.prog W 0 sp true 29 v d p) :
    Calls Tryd.prog 4 #[v, .int .i64 now] W fun e w' => e = .returned (.bool true) ∧ Below W.heap.size W w' := by
  obtain ⟨a0, n, cap, rfl⟩ := okWide_slice Tryd.underlying29 ok
  obtain ⟨hm, h0 | ⟨b, off, F, ids, dues, rfl, hI⟩⟩ := items_of h
  · subst h0
    exact dueLaw_none a0 cap now W hw
  · by_cases hn : n ≤ 1000
    · exact dueLaw_some b off n cap F ids dues now W hw hn hI
    · exact dueLaw_many _ n cap now W hw (by omega) hm
end Go.Proofs.YtcalbpdcjklffaaDoor
