/- A path that came in: two strings. -/
import Derived.Test.YtcalbpdcjklffaaDoorChecked
import Derived.ChangeSame
import Derived.WideShapes
import Derived.OpenShut
import Derived.WalkKit
namespace Go.Proofs.YtcalbpdcjklffaaDoor
open Go Go.ChangeShapes Go.WideShapes
theorem path_cells : Tryd.prog.cellsOf 47 = 2 := by kernel_rfl
theorem string_cells : Tryd.prog.cellsOf 9 = 1 := by kernel_rfl
set_option maxRecDepth 100000 in
theorem path_open {H : Type} {enc : TypeId × Value → H} {W : World} {b0 base : Nat} {sp : Nat → Bool} {held : Bool} {v : Value} {d : DataW H} {ps : List MemPlace} (hval : Value.okWide Tryd.prog W .any b0 47 v) (hd : DataW.Trod enc Tryd.prog W base sp held 47 v d ps) :
    ∃ lo dd : ByteArray, v = .agg #[.string lo, .string dd] := by
  obtain ⟨cs, rfl, hs⟩ := okWide_struct (P := Tryd.prog) (w := W) (r := .any) (base := b0) (t := 47) Tryd.underlying47 hval
  rw [path_cells] at hs
  obtain ⟨fuel, hf⟩ := hd
  obtain ⟨y0, y1, n, _, _, h0, h1⟩ := trod_struct2 Tryd.underlying47 hf
  obtain ⟨s0, e0, _⟩ := DataW.trod_string Tryd.underlying9 h0
  obtain ⟨s1, e1, _⟩ := DataW.trod_string Tryd.underlying9 h1
  obtain ⟨l⟩ := cs
  match l, hs with
  | [c0, c1], _ =>
    simp [Value.cells, string_cells] at e0 e1
    exact ⟨s0, s1, by rw [e0, e1]⟩
end Go.Proofs.YtcalbpdcjklffaaDoor
