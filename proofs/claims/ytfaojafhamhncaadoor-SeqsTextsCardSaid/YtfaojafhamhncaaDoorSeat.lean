/- The numbers of this seat's types on the way to a sentinel's text, and where the listed variables lie. -/
import Derived.Test.YtfaojafhamhncaaDoorRows
import Derived.Test.YtfaojafhamhncaaDoorLaid
import Derived.LaidLaws
namespace Go.Proofs.YtfaojafhamhncaaDoor
open Go
theorem starErr : "*" ++ "errors.errorString" = "*errors.errorString" := by decide
theorem errTypes : ErrTypes Tryd.prog "*errors.errorString" 32 130 153 9 where
  iface := ⟨_, Tryd.underlying32⟩
  row := fun u h => typeName_ptr_named (nm := "errors.errorString") (by rw [starErr]; kernel_rfl) (by kernel_rfl) (by decide) u (by rw [starErr]; exact h)
  ptr := Tryd.underlying130
  str := ⟨_, Tryd.underlying153, rfl, rfl⟩
  text := Tryd.underlying9
  one := by kernel_rfl
  one' := by kernel_rfl
end Go.Proofs.YtfaojafhamhncaaDoor
