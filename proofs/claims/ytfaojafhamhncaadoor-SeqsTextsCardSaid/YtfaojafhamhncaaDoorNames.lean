/- The walk of seqs.names. -/
import Derived.Test.YtfaojafhamhncaaDoorFlagSpec
import Derived.Laws.ResultCell
namespace Go.Proofs.YtfaojafhamhncaaDoor
open Go.RowKit
set_option linter.unusedSimpArgs false
def namesV : Value := .agg #[.string (nameS 0), .string (nameS 1), .string (nameS 2), .string (nameS 3), .string (nameS 4)]
theorem results_cell_one {fn : Func} {p : Tmp} {ty : TypeId} (h : fn.results = #[.cell p ty]) (tmps : Array Value) (P : Program) (w : World) :
    (results fn tmps).run P w = ((asAddr (tmps.getD p undef)).run P w).andThen fun a w₁ => (loadVar ty a).run P w₁ := by
  simp only [results, h]
  simp [Sem.run_bind, Result.andThen]
set_option maxHeartbeats 1000000 in
theorem names_walk (w : World) : Calls Tryd.prog 32 #[] w fun e w' => e = .returned namesV ∧ Below w.heap.size w w' := by
  go_enter Tryd.func32, Tryd.ntmps32
  go_wp2
  refine bodyPost_ret (v := namesV) ?_ rfl ⟨rfl, (Below.refl _ _).alloc (Nat.le_refl _) _⟩
  rw [results_cell_one rfl]
  simp [namesV, nameS, go_sem]
end Go.Proofs.YtfaojafhamhncaaDoor
