/- The numbers of this seat's types on the way to a sentinel's text, and where the listed variables lie. -/
import Derived.Test.YtcalbpdcjklffaaDoorRows
import Derived.Test.YtcalbpdcjklffaaDoorLaid
import Derived.LaidLaws
namespace Go.Proofs.YtcalbpdcjklffaaDoor
open Go
theorem starErr : "*" ++ "errors.errorString" = "*errors.errorString" := by decide
theorem errTypes : ErrTypes Tryd.prog "*errors.errorString" 24 146 174 9 where
  iface := ⟨_, Tryd.underlying24⟩
  row := fun u h => typeName_ptr_named (nm := "errors.errorString") (by rw [starErr]; kernel_rfl) (by kernel_rfl) (by decide) u (by rw [starErr]; exact h)
  ptr := Tryd.underlying146
  str := ⟨_, Tryd.underlying174, rfl, rfl⟩
  text := Tryd.underlying9
  one := by kernel_rfl
  one' := by kernel_rfl
end Go.Proofs.YtcalbpdcjklffaaDoor
