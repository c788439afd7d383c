/- A region of three operations that draws its order, in a round of a range over a function: the kit's gi_region serves where the fence has no round. Two orders: 0 1 2 and 1 0 2. Of whatever program. -/
import Derived.OrdersIn
import Derived.TacticsIn
namespace Go.Proofs.YtfaojafhamhncaaDoor
open Go
theorem list_op {F : Fence} {n : Nat} {P : Program} {ops : Array Oper} {Q : Exit → Act → World → Prop} {i : Nat} {o : Oper} {rest : List Oper} {K : Act → World → Prop} {a : Act} {w : World} (ho : ops[i]? = some o)
    (hk : ∀ a w, wpListIn F n P ops Q rest a w → K a w) (h : wpListIn F n P ops Q (o :: rest) a w) : wpOpIn F n P ops Q i K a w := by
  unfold wpOpIn
  rw [ho]
  unfold wpListIn at h
  show if _ then _ else _
  by_cases hw : Region.wanted o (yielded ops a.tmps) = true
  · rw [if_pos hw] at h ⊢
    exact Oper.wpIn_mono hk h
  · rw [if_neg hw] at h ⊢
    exact ⟨h.1, hk _ _ h.2⟩
theorem wpIn_three {F : Fence} {n : Nat} {P : Program} {id : Nat} {Q : Exit → Act → World → Prop} {a : Act} {w : World} {o0 o1 o2 : Oper} (hm : P.follows .mixedOrders = true)
    (r1 : Region.ready .any #[o0, o1, o2] #[false, false, false] = [0, 1]) (r2 : Region.ready .any #[o0, o1, o2] #[true, false, false] = [1]) (r3 : Region.ready .any #[o0, o1, o2] #[false, true, false] = [0])
    (r4 : Region.ready .any #[o0, o1, o2] #[true, true, false] = [2]) (r5 : Region.ready .any #[o0, o1, o2] #[true, true, true] = [])
    (hx : wpListIn F n P #[o0, o1, o2] Q [o0, o1, o2] a w.drew) (hy : wpListIn F n P #[o0, o1, o2] Q [o1, o0, o2] a w.drew) : (Code.region id #[o0, o1, o2] true).wpIn F n P Q a w := by
  refine wpIn_region_any hm ?_
  have last : ∀ a w, wpListIn F n P #[o0, o1, o2] Q [] a w → wpAnyIn F n P .any #[o0, o1, o2] Q 0 #[true, true, true] a w := fun a w h => ⟨r5, h⟩
  have two : ∀ a w, wpListIn F n P #[o0, o1, o2] Q [o2] a w → wpAnyIn F n P .any #[o0, o1, o2] Q 1 #[true, true, false] a w := fun a w h =>
    wpAnyIn_all r4 (by simp) (fun i hi => by obtain rfl := List.mem_singleton.1 hi; exact list_op rfl last h)
  show wpAnyIn F n P .any #[o0, o1, o2] Q 3 #[false, false, false] a w.drew
  refine wpAnyIn_all r1 (by simp) (fun i hi => ?_)
  rcases List.mem_cons.1 hi with rfl | hi
  · refine list_op rfl (fun a w h => ?_) hx
    exact wpAnyIn_all r2 (by simp) (fun i hi => by obtain rfl := List.mem_singleton.1 hi; exact list_op rfl two h)
  · obtain rfl := List.mem_singleton.1 hi
    refine list_op rfl (fun a w h => ?_) hy
    exact wpAnyIn_all r3 (by simp) (fun i hi => by obtain rfl := List.mem_singleton.1 hi; exact list_op rfl two h)
end Go.Proofs.YtfaojafhamhncaaDoor
