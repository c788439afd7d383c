/- strings.Join's contract off the kit's library, laid at this seat in plain declarations (printed by wip/bin/genlay.py); and its use on a row of the call's own. -/
import Derived.Shelf.Strings.OnBuilder
import Derived.Test.YtcalbpdcjklffaaGreatDoorOwn
import Derived.Test.YtcalbpdcjklffaaGreatDoorChecked
namespace Go.Proofs.YtcalbpdcjklffaaGreatDoor
open Go.Shelf Go.RowKit
def lays156_ren : Go.Shelf.Ren := ⟨fun | 156 => 18 | 165 => 35 | 166 => 36 | 169 => 37 | 240 => 53 | 241 => 54 | 276 => 68 | 277 => 69 | n => n, fun | 0 => 0 | 3 => 3 | 4 => 4 | 5 => 5 | 9 => 9 | 20 => 20 | 31 => 22 | 37 => 58 | 70 => 57 | 72 => 60 | 75 => 27 | 76 => 62 | 80 => 64 | 127 => 81 | 164 => 104 | n => n, fun n => n⟩
theorem lays156 : Lays.n156 Tryz.prog lays156_ren := {
  mixed := by kernel_rfl,
  f156 := by kernel_rfl,
  f165 := by kernel_rfl,
  f166 := by kernel_rfl,
  f169 := by kernel_rfl,
  f240 := by kernel_rfl,
  f241 := by kernel_rfl,
  f276 := by kernel_rfl,
  f277 := by kernel_rfl,
  t0 := Tryz.underlying0,
  a0 := Tryz.isAgg0,
  z0 := Tryz.sizeOf0,
  v0 := Tryz.zeroValue0,
  t3 := Tryz.underlying3,
  a3 := Tryz.isAgg3,
  z3 := Tryz.sizeOf3,
  v3 := Tryz.zeroValue3,
  t4 := Tryz.underlying4,
  a4 := Tryz.isAgg4,
  z4 := Tryz.sizeOf4,
  v4 := Tryz.zeroValue4,
  t9 := Tryz.underlying9,
  a9 := Tryz.isAgg9,
  z9 := Tryz.sizeOf9,
  v9 := Tryz.zeroValue9,
  t20 := Tryz.underlying20,
  a20 := Tryz.isAgg20,
  z20 := Tryz.sizeOf20,
  v20 := Tryz.zeroValue20,
  t31 := Tryz.underlying22,
  a31 := Tryz.isAgg22,
  z31 := Tryz.sizeOf22,
  v31 := Tryz.zeroValue22,
  t37 := Tryz.underlying58,
  a37 := Tryz.isAgg58,
  z37 := Tryz.sizeOf58,
  v37 := Tryz.zeroValue58,
  t70 := Tryz.underlying57,
  a70 := Tryz.isAgg57,
  z70 := Tryz.sizeOf57,
  v70 := Tryz.zeroValue57,
  t72 := Tryz.underlying60,
  a72 := Tryz.isAgg60,
  z72 := Tryz.sizeOf60,
  v72 := Tryz.zeroValue60,
  t75 := Tryz.underlying27,
  a75 := Tryz.isAgg27,
  z75 := Tryz.sizeOf27,
  v75 := Tryz.zeroValue27,
  t76 := Tryz.underlying62,
  a76 := Tryz.isAgg62,
  z76 := Tryz.sizeOf62,
  v76 := Tryz.zeroValue62,
  t127 := Tryz.underlying81,
  a127 := Tryz.isAgg81,
  z127 := Tryz.sizeOf81,
  v127 := Tryz.zeroValue81,
  t164 := Tryz.underlying104,
  a164 := Tryz.isAgg104,
  z164 := Tryz.sizeOf104,
  v164 := Tryz.zeroValue104 }
theorem extra156 : Builder.Extra Tryz.prog lays156_ren := {
  sizeBuilder := by kernel_rfl,
  liesBuilder := by kernel_rfl,
  t5 := Tryz.underlying5,
  a5 := Tryz.isAgg5,
  z5 := Tryz.sizeOf5,
  v5 := Tryz.zeroValue5,
  infoByte := by kernel_rfl,
  cellsByte := by kernel_rfl,
  sizeByte := by kernel_rfl,
  neB5 := by decide }
def joinS (xs : List ByteArray) (sep : ByteArray) : ByteArray := ⟨(Lib.join (xs.map (·.data.toList)) sep.data.toList).toArray⟩
theorem joinS_size {xs : List ByteArray} {sep : ByteArray} {n : Nat} (h : (Lib.join (xs.map (·.data.toList)) sep.data.toList).length ≤ n) : (joinS xs sep).size ≤ n := by
  rw [joinS, ByteArray.size]; simpa using h
theorem own_strings {w : World} {base n : Nat} {e : TypeId} {v : Value} {xs : List ByteArray} (h : w.ownsRow base e 1 v n (xs.map Value.string)) :
    xs.length = n ∧ ∃ A c, v = .slice A n c ∧ n ≤ c ∧ (0 < n → ∃ g, A = some ⟨g, 0, none⟩ ∧ g < w.heap.size ∧ base ≤ g ∧ ∀ (j : Nat) x, xs[j]? = some x → w.cell? ⟨g, 0 + j, none⟩ = some (.string x)) := by
  have hl : xs.length = n := by simpa using h.1
  refine ⟨hl, ?_⟩
  rcases h.2 with ⟨rfl, rfl⟩ | ⟨g, cap, cur, rfl, hb, hh, h1, h2, h3, h4⟩
  · exact ⟨none, 0, rfl, Nat.le_refl _, fun hp => absurd hp (by omega)⟩
  · refine ⟨_, _, rfl, h1, fun _ => ⟨g, rfl, (Array.getElem?_eq_some_iff.1 hh).1, hb, fun j x hx => ?_⟩⟩
    have := h.cells (g := g) rfl j (.string x) (by rw [List.getElem?_map, hx]; rfl)
    rw [add_at] at this
    rw [Nat.zero_add]
    exact this
theorem join_walk {base : Nat} (v : Value) (xs : List ByteArray) (sep : ByteArray) (w : World) (hown : w.ownsRow base 9 1 v xs.length (xs.map Value.string)) (hN : xs.length ≤ 140737488355328)
    (hz : (Lib.join (xs.map (·.data.toList)) sep.data.toList).length ≤ 140737488355328) :
    Calls Tryz.prog 18 #[v, .string sep] w fun e w' => e = .returned (.string (joinS xs sep)) ∧ Below w.heap.size w w' := by
  obtain ⟨_, A, c, rfl, hc, hcells⟩ := own_strings hown
  by_cases h0 : xs.length = 0
  · obtain rfl : xs = [] := List.eq_nil_of_length_eq_zero h0
    refine (Any.strings_Join_none lays156 extra156 A c sep w).mono ?_
    rintro e w' ⟨rfl, rfl⟩
    exact ⟨rfl, Below.refl _ _⟩
  · obtain ⟨g, rfl, hg, _, hx⟩ := hcells (by omega)
    exact Any.strings_Join lays156 extra156 g 0 c xs sep w hx hg hN hc hz
end Go.Proofs.YtcalbpdcjklffaaGreatDoor
