/- Small facts on the world in which strings.SplitSeq's iterator lies. -/
import Derived.Test.YtfaojafhamhncaaDoorSplitLaw
import Derived.Test.YtfaojafhamhncaaDoorOwn
namespace Go.Proofs.YtfaojafhamhncaaDoor
open Go.RowKit Go.Shelf
open Pl (idxB Bs splitB)
theorem below_putObj {B : Nat} {w W : World} (h : Below B w W) (l : Nat) (o : Obj) (hl : B ≤ l) (hs : B ≤ W.heap.size) : Below B w (W.putObj l o) := h.grown (grownBy_putObj' W l o) hs (fun k e => by cases e; exact hl)
theorem splitWorld_size (w : World) (x : UInt8) (s : ByteArray) : (splitWorld w x s).heap.size = w.heap.size + 3 := by simp [splitWorld]
theorem splitWorld_stay (w : World) (x : UInt8) (s : ByteArray) : Stay (fun _ => True) w (splitWorld w x s) := (Stay.alloc _ _ _).trans ((Stay.alloc _ _ _).trans (Stay.alloc _ _ _))
theorem splitWorld_below (w : World) (x : UInt8) (s : ByteArray) : Below w.heap.size w (splitWorld w x s) := (((Below.refl _ _).alloc (Nat.le_refl _) _).alloc (by simp) _).alloc (by simp; omega) _
theorem splitWorld_box (w : World) (x : UInt8) (s : ByteArray) : SplitBox (w.heap.size + 1) w.heap.size (w.heap.size + 2) x s (splitWorld w x s) := by
  refine ⟨?_, ?_, ?_⟩
  · have := World.alloc_heap_new (w.alloc (.cells #[.string s] 9)) (.cells #[.string ⟨#[x]⟩] 9)
    rw [World.size_alloc] at this
    exact (Below.heap_alloc _ _ _ (by simp)).trans this
  · exact (Below.heap_alloc _ _ _ (by simp; omega)).trans ((Below.heap_alloc _ _ _ (by simp)).trans (World.alloc_heap_new w _))
  · have := World.alloc_heap_new ((w.alloc (.cells #[.string s] 9)).alloc (.cells #[.string ⟨#[x]⟩] 9)) (.cells #[.int .i64 0] 3)
    rw [World.size_alloc, World.size_alloc] at this
    exact this

theorem own_putObj {w : World} {base : Nat} {e : TypeId} {size n : Nat} {v : Value} {xs : List Value} (h : w.ownsRow base e size v n xs) {l : Nat} (o : Obj) (hl : l < base) : (w.putObj l o).ownsRow base e size v n xs :=
  h.kept (row := some l) (grownBy_putObj' w l o) (by
    cases hb : v.ownBlock with
    | none => exact .inl rfl
    | some k =>
      refine .inr (fun e => ?_)
      have := own_base h k hb
      cases e
      omega)
end Go.Proofs.YtfaojafhamhncaaDoor
