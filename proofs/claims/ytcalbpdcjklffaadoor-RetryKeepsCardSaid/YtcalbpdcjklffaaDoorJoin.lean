/- strings.Join's contract off the kit's library, laid at this seat in plain declarations (printed by wip/bin/genlay.py); and its use on a row of the call's own. -/
import Derived.Shelf.Strings.OnBuilder
import Derived.Test.YtcalbpdcjklffaaDoorOwn
import Derived.Test.YtcalbpdcjklffaaDoorChecked
namespace Go.Proofs.YtcalbpdcjklffaaDoor
open Go.Shelf Go.RowKit
def lays156_ren : Go.Shelf.Ren := ⟨fun | 156 => 54 | 165 => 77 | 166 => 78 | 169 => 79 | 240 => 88 | 241 => 89 | 276 => 104 | 277 => 105 | n => n, fun | 0 => 0 | 3 => 3 | 4 => 4 | 5 => 5 | 9 => 9 | 20 => 20 | 31 => 59 | 37 => 92 | 70 => 96 | 72 => 98 | 75 => 24 | 76 => 100 | 80 => 102 | 127 => 119 | 164 => 129 | n => n, fun n => n⟩
theorem lays156 : Lays.n156 Tryd.prog lays156_ren := {
  mixed := by kernel_rfl,
  f156 := by kernel_rfl,
  f165 := by kernel_rfl,
  f166 := by kernel_rfl,
  f169 := by kernel_rfl,
  f240 := by kernel_rfl,
  f241 := by kernel_rfl,
  f276 := by kernel_rfl,
  f277 := by kernel_rfl,
  t0 := Tryd.underlying0,
  a0 := Tryd.isAgg0,
  z0 := Tryd.sizeOf0,
  v0 := Tryd.zeroValue0,
  t3 := Tryd.underlying3,
  a3 := Tryd.isAgg3,
  z3 := Tryd.sizeOf3,
  v3 := Tryd.zeroValue3,
  t4 := Tryd.underlying4,
  a4 := Tryd.isAgg4,
  z4 := Tryd.sizeOf4,
  v4 := Tryd.zeroValue4,
  t9 := Tryd.underlying9,
  a9 := Tryd.isAgg9,
  z9 := Tryd.sizeOf9,
  v9 := Tryd.zeroValue9,
  t20 := Tryd.underlying20,
  a20 := Tryd.isAgg20,
  z20 := Tryd.sizeOf20,
  v20 := Tryd.zeroValue20,
  t31 := Tryd.underlying59,
  a31 := Tryd.isAgg59,
  z31 := Tryd.sizeOf59,
  v31 := Tryd.zeroValue59,
  t37 := Tryd.underlying92,
  a37 := Tryd.isAgg92,
  z37 := Tryd.sizeOf92,
  v37 := Tryd.zeroValue92,
  t70 := Tryd.underlying96,
  a70 := Tryd.isAgg96,
  z70 := Tryd.sizeOf96,
  v70 := Tryd.zeroValue96,
  t72 := Tryd.underlying98,
  a72 := Tryd.isAgg98,
  z72 := Tryd.sizeOf98,
  v72 := Tryd.zeroValue98,
  t75 := Tryd.underlying24,
  a75 := Tryd.isAgg24,
  z75 := Tryd.sizeOf24,
  v75 := Tryd.zeroValue24,
  t76 := Tryd.underlying100,
  a76 := Tryd.isAgg100,
  z76 := Tryd.sizeOf100,
  v76 := Tryd.zeroValue100,
  t127 := Tryd.underlying119,
  a127 := Tryd.isAgg119,
  z127 := Tryd.sizeOf119,
  v127 := Tryd.zeroValue119,
  t164 := Tryd.underlying129,
  a164 := Tryd.isAgg129,
  z164 := Tryd.sizeOf129,
  v164 := Tryd.zeroValue129 }
theorem extra156 : Builder.Extra Tryd.prog lays156_ren := {
  sizeBuilder := by kernel_rfl,
  liesBuilder := by kernel_rfl,
  t5 := Tryd.underlying5,
  a5 := Tryd.isAgg5,
  z5 := Tryd.sizeOf5,
  v5 := Tryd.zeroValue5,
  infoByte := by kernel_rfl,
  cellsByte := by kernel_rfl,
  sizeByte := by kernel_rfl,
  neB5 := by decide }
def joinS (xs : List ByteArray) (sep : ByteArray) : ByteArray := ⟨(Lib.join (xs.map (·.data.toList)) sep.data.toList).toArray⟩
theorem joinS_size {xs : List ByteArray} {sep : ByteArray} {n : Nat} (h : (Lib.join (xs.map (·.data.toList)) sep.data.toList).length ≤ n) : (joinS xs sep).size ≤ n := by
  rw [joinS, ByteArray.size]; simpa using h
theorem own_strings {w : World} {base n : Nat} {e : TypeId} {v : Value} {xs : List ByteArray} (h : w.ownsRow base e 1 v n (xs.map Value.string)) :
    xs.length = n ∧ ∃ A c, v = .slice A n c ∧ n ≤ c ∧ (0 < n → ∃ g, A = some ⟨g, 0, none⟩ ∧ g < w.heap.size ∧ base ≤ g ∧ ∀ (j : Nat) x, xs[j]? = some x → w.cell? ⟨g, 0 + j, none⟩ = some (.string x)) := by
  have hl : xs.length = n := by simpa using h.1
  refine ⟨hl, ?_⟩
  rcases h.2 with ⟨rfl, rfl⟩ | ⟨g, cap, cur, rfl, hb, hh, h1, h2, h3, h4⟩
  · exact ⟨none, 0, rfl, Nat.le_refl _, fun hp => absurd hp (by omega)⟩
  · refine ⟨_, _, rfl, h1, fun _ => ⟨g, rfl, (Array.getElem?_eq_some_iff.1 hh).1, hb, fun j x hx => ?_⟩⟩
    have := h.cells (g := g) rfl j (.string x) (by rw [List.getElem?_map, hx]; rfl)
    rw [add_at] at this
    rw [Nat.zero_add]
    exact this
theorem join_walk {base : Nat} (v : Value) (xs : List ByteArray) (sep : ByteArray) (w : World) (hown : w.ownsRow base 9 1 v xs.length (xs.map Value.string)) (hN : xs.length ≤ 140737488355328)
    (hz : (Lib.join (xs.map (·.data.toList)) sep.data.toList).length ≤ 140737488355328) :
    Calls Tryd.prog 54 #[v, .string sep] w fun e w' => e = .returned (.string (joinS xs sep)) ∧ Below w.heap.size w w' := by
  obtain ⟨_, A, c, rfl, hc, hcells⟩ := own_strings hown
  by_cases h0 : xs.length = 0
  · obtain rfl : xs = [] := List.eq_nil_of_length_eq_zero h0
    refine (Any.strings_Join_none lays156 extra156 A c sep w).mono ?_
    rintro e w' ⟨rfl, rfl⟩
    exact ⟨rfl, Below.refl _ _⟩
  · obtain ⟨g, rfl, hg, _, hx⟩ := hcells (by omega)
    exact Any.strings_Join lays156 extra156 g 0 c xs sep w hx hg hN hc hz
end Go.Proofs.YtcalbpdcjklffaaDoor
