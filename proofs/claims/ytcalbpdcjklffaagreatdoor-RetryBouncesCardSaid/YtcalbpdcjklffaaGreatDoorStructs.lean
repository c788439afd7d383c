/- A slice of structs that came in, opened to its cells: of whatever program. -/
import Derived.Deep.Slices
import Derived.Deep.Fields
import Derived.ChangeSame
import Derived.OpenShut
namespace Go.Proofs.YtcalbpdcjklffaaGreatDoor
open Go Go.ChangeShapes Go.WideShapes Go.Deep Go.RowKit
variable {H : Type} {enc : TypeId × Value → H} {P : Program} {w : World} {base : Nat} {spare : Nat → Bool} {held : Bool}

/-- element i's field j: its cell, and that the cell reads at the field's type -/
theorem structs_cells {t e : TypeId} {fs : Array Field} {fuel : Nat} {cs : List Value} {x : DataW H × List MemPlace} (ht : P.underlying t = some (.slice e)) (he : P.underlying e = some (.struct fs))
    (hone : oneCellFields P fs = true) (hC : P.cellsOf e = fs.size) (h : DataW.trod enc P w base spare held fuel t cs = some x) :
    cs = [.slice none 0 0] ∨
    ∃ (a : Addr) (len cap : Nat) (F : Nat → Nat → Value), cs = [.slice (some a) len cap] ∧ base ≤ a.block ∧ len ≤ cap ∧ cap ≤ maxLen ∧
      ∀ i j f, i < len → fs[j]? = some f → w.cell? (a.add (i * fs.size + j)) = some (F i j) ∧ ∃ n y, DataW.trod enc P w base spare held n f.type [F i j] = some y := by
  rcases open_slice ht h with ⟨h0, _⟩ | ⟨a, len, cap, m, n, D, Pl, hcs, hb, hl, hm, hmm, _, hel⟩
  · exact .inl h0
  · refine .inr ⟨a, len, cap, fun i j => (w.cell? (a.add (i * fs.size + j))).getD (.bool false), hcs, hb, hl, hm, fun i j f hi hj => ?_⟩
    have him : i < m := by rw [hmm]; split <;> omega
    obtain ⟨cs', hc, ht'⟩ := hel i him
    rw [hC] at hc
    obtain ⟨_, hlen, hat⟩ := World.cells?_some hc
    obtain ⟨ys, n', _, _, _, _, hf⟩ := DataW.trod_struct he ht'
    obtain ⟨ho, hk⟩ := hone_of hone j f hj
    have hjl : j < fs.size := (Array.getElem?_eq_some_iff.1 hj).1
    have hget := hat j hjl
    rw [add_add, List.getElem?_eq_getElem (by omega)] at hget
    have hread := hf j f hj
    rw [ho, hk, List.drop_eq_getElem_cons (by omega : j < cs'.length), List.take_succ_cons, List.take_zero] at hread
    simp only [hget, Option.getD_some]
    refine ⟨trivial, n', ?_⟩
    cases hy : ys[j]? with
    | some y => exact ⟨y, by rw [hread, hy]⟩
    | none =>
      exfalso
      obtain ⟨ys', n'', _, _, _, hyl, hf'⟩ := DataW.trod_struct he ht'
      have h1 := hf' j f hj
      rw [ho, hk, List.drop_eq_getElem_cons (by omega : j < cs'.length), List.take_succ_cons, List.take_zero, List.getElem?_eq_getElem (by omega)] at h1
      rename_i hn _ _ _
      simp_all

/-- where there is an element the address is a plain one -/
theorem plain_addr {a : Addr} {v : Value} (h : w.cell? (a.add 0) = some v) : ∃ b off, a = ⟨b, off, none⟩ := by
  obtain ⟨b, off, spot⟩ := a
  have hspot : spot = none := by simpa [Addr.add] using World.cell?_spot h
  subst hspot
  exact ⟨b, off, rfl⟩
theorem cell_lt {a : Addr} {v : Value} (h : w.cell? a = some v) : a.block < w.heap.size := World.block_lt_of_cell? w a h
theorem one_int {t : TypeId} {k : IntKind} {n : Nat} {v : Value} {y : DataW H × List MemPlace} (ht : P.underlying t = some (.int k)) (h : DataW.trod enc P w base spare held n t [v] = some y) : v.oneCell' = true := by
  obtain ⟨z, e, _⟩ := DataW.trod_int ht h
  obtain rfl : v = _ := by simpa using e
  rfl
theorem one_str {t : TypeId} {n : Nat} {v : Value} {y : DataW H × List MemPlace} (ht : P.underlying t = some .string) (h : DataW.trod enc P w base spare held n t [v] = some y) : v.oneCell' = true := by
  obtain ⟨z, e, _⟩ := DataW.trod_string ht h
  obtain rfl : v = _ := by simpa using e
  rfl
theorem one_slice {t e : TypeId} {n : Nat} {v : Value} {y : DataW H × List MemPlace} (ht : P.underlying t = some (.slice e)) (h : DataW.trod enc P w base spare held n t [v] = some y) : v.oneCell' = true := by
  rcases open_slice ht h with ⟨h0, _⟩ | ⟨a, len, cap, _, _, _, _, h0, _⟩ <;> (obtain rfl : v = _ := by simpa using h0) <;> rfl
end Go.Proofs.YtcalbpdcjklffaaGreatDoor
