/- The numbers of this seat's types on the way to a sentinel's text, and where the listed variables lie. -/
import Derived.Test.YtcalbpdcjklffaaGreatDoorRows
import Derived.Test.YtcalbpdcjklffaaGreatDoorLaid
import Derived.LaidLaws
namespace Go.Proofs.YtcalbpdcjklffaaGreatDoor
open Go
theorem starErr : "*" ++ "errors.errorString" = "*errors.errorString" := by decide
theorem errTypes : ErrTypes Tryz.prog "*errors.errorString" 27 128 151 9 where
  iface := ⟨_, Tryz.underlying27⟩
  row := fun u h => typeName_ptr_named (nm := "errors.errorString") (by rw [starErr]; kernel_rfl) (by kernel_rfl) (by decide) u (by rw [starErr]; exact h)
  ptr := Tryz.underlying128
  str := ⟨_, Tryz.underlying151, rfl, rfl⟩
  text := Tryz.underlying9
  one := by kernel_rfl
  one' := by kernel_rfl
end Go.Proofs.YtcalbpdcjklffaaGreatDoor
