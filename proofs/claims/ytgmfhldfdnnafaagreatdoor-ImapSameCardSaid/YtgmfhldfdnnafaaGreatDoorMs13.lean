/- A part of the proofs of the statements on chapter 21: walks of functions that they reach, and plain laws. What is proved is stated in the last text. Conditions: none of its own. -/
import Derived.Test.YtgmfhldfdnnafaaGreatDoorMs12
import Derived.StillTailTactics
set_option maxHeartbeats 8000000
set_option maxRecDepth 100000
set_option linter.unusedSimpArgs false
set_option linter.unusedVariables false
namespace Go.Proofs.YtgmfhldfdnnafaaGreatDoor
open Go.RowKit
open Pl (Bs)
theorem cv_fin {w W0 w1 w2 w3 : World} {T : Nat → Prop} {tg nm bo : ByteArray} {ui si : Bool} {aA sA iA kA A9 A8 : Option Addr} {aN aC sN sC iN iC kN kC c9 c8 : Nat} {ho fl da : Int} {x : CmdP} {ics kcs : List Value}
  (h1 : CmdAt w T ⟨tg, nm, ui, aA, aN, aC, sA, sN, sC, ho, fl, si, da, bo, iA, iN, iC, kA, kN, kC⟩ x) (hT : ∀ i, T i → i < w.heap.size) (hz : W0.heap.size = w.heap.size + 2)
  (hB1 : Below w.heap.size w w1) (hB1s : Below W0.heap.size W0 w1) (hB2 : Below w.heap.size w w2) (hB2s : Below w1.heap.size w1 w2) (hG3 : w2.grownBy w3 (some (w.heap.size + 1)))
  (hR9 : RowC w1 (newT W0 w1) (.slice A9 iN c9) iN ics) (hR8 : RowC w2 (newT w1 w2) (.slice A8 kN c8) kN kcs) (hK8 : KeysC w2 (fun i => T i ∨ newT w1 w2 i) x.keys kcs) (hics : ItemsC w T x.items ics) :
  Below w.heap.size w w3 ∧ ∃ c' : CmdV, Ending.returned (.agg (CmdV.cells ⟨tg, nm, ui, aA, aN, aC, sA, sN, sC, ho, fl, si, da, bo, A9, iN, c9, A8, kN, c8⟩)) = .returned (.agg c'.cells) ∧ CmdAt w3 (fun i => T i ∨ newT w w3 i) c' x := by
 have hB3 : Below w.heap.size w w3 := hB2.grown hG3 hB2.size (fun k e => by rw [← Option.some.inj e]; omega)
 have z1 := hB1s.size
 have z2 := hB2s.size
 have z3 := hG3.size
 have hkT : ∀ i, T i → w3.heap[i]? = w.heap[i]? := fun i hi => hB3.block i (hT i hi)
 have hk1 : ∀ i, newT W0 w1 i → w3.heap[i]? = w1.heap[i]? := fun i hi => (hG3.block i (by have := hi.2; omega) (fun e => by have := Option.some.inj e; have := hi.1; omega)).trans (hB2s.block i hi.2)
 have hk2 : ∀ i, (T i ∨ newT w1 w2 i) → w3.heap[i]? = w2.heap[i]? := fun i hi => by
  rcases hi with hi | hi
  ·
   have := hT i hi; exact hG3.block i (by have := hB2.size; omega) (fun e => by have := Option.some.inj e; omega)
  ·
   exact hG3.block i hi.2 (fun e => by have := Option.some.inj e; have := hi.1; omega)
 obtain ⟨e0, e1, e2, ⟨e3, r3⟩, ⟨e4, r4⟩, e5, e6, e7, e8, e9, ⟨e10, _⟩, ⟨e11, _⟩⟩ := h1
 dsimp only at *
 subst e10 e11
 refine ⟨hB3, ⟨tg, nm, ui, aA, aN, aC, sA, sN, sC, ho, fl, si, da, bo, A9, x.items.length, c9, A8, x.keys.length, c8⟩, rfl, e0, e1, e2, ⟨e3, (r3.kept hkT).more (fun i hi => .inl hi)⟩, ⟨e4, (r4.kept hkT).more (fun i hi => .inl hi)⟩, e5, e6, e7, e8, e9, ⟨rfl, ics, (hR9.kept hk1).more (fun i hi => .inr ⟨by have := hi.1; omega, by have := hi.2; omega⟩), (hics.kept hkT).more (fun i hi => .inl hi)⟩, ⟨rfl, kcs, (hR8.kept (fun i hi => hk2 i (.inr hi))).more (fun i hi => .inr ⟨by have := hi.1; omega, by have := hi.2; omega⟩), (hK8.kept hk2).more (fun i hi => hi.imp id (fun h => ⟨by have := h.1; omega, by have := h.2; omega⟩))⟩⟩
theorem cvCmd_walk (x : CmdP) (hx : CmdFit x) (c : CmdV) (T : Nat → Prop) (w : World) (hT : ∀ i, T i → i < w.heap.size) (h1 : CmdAt w T c x) :
  Calls Tryz.prog 15 #[.agg c.cells] w fun e w' => Below w.heap.size w w' ∧ ∃ c' : CmdV, e = .returned (.agg c'.cells) ∧ CmdAt w' (fun i => T i ∨ newT w w' i) c' x := by
 have hin := h1.items.1
 have hkn := h1.keys.1
 obtain ⟨ics, hri, hii⟩ := h1.items.2
 obtain ⟨kcs0, hrk, hkk⟩ := h1.keys.2
 obtain ⟨tg, nm, ui, aA, aN, aC, sA, sN, sC, ho, fl, si, da, bo, iA, iN, iC, kA, kN, kC⟩ := c
 dsimp only at *
 have hM : ∀ {W : World}, Below w.heap.size w W → ∀ i, T i → i < W.heap.size := fun hB i hi => Nat.lt_of_lt_of_le (hT i hi) hB.size
 have KI := Lib.hid (fun W (hB : Below w.heap.size w W) => cvItems_walk x.items iA iC ics T W hx.items (hM hB) (hri.below hT hB) (hii.kept (fun i hi => hB.block i (hT i hi))))
 have KK := Lib.hid (fun W (hB : Below w.heap.size w W) => cvKeys_walk x.keys kA kC kcs0 T W hx.keys hx.deep (hM hB) (hrk.below hT hB) (hkk.kept (fun i hi => hB.block i (hT i hi))))
 rw [← hin] at KI
 rw [← hkn] at KK
 have HAt := Lib.hid h1
 have HT := Lib.hid hT
 have hits := Lib.hid hii
 have HB0 := (box2 w (Obj.cells #[.string tg, .string nm, .bool ui, .slice aA aN aC, .slice sA sN sC, .int .i64 ho, .int .i64 fl, .bool si, .int .i64 da, .string bo, .slice iA iN iC, .slice kA kN kC] 33) (Obj.cells #[.string ⟨#[]⟩, .string ⟨#[]⟩, .bool false, .slice none 0 0, .slice none 0 0, .int .i64 0, .int .i64 0, .bool false, .int .i64 0, .string ⟨#[]⟩, .slice none 0 0, .slice none 0 0] 43))
 have HBX := Lib.hid (show ((w.alloc (Obj.cells #[.string tg, .string nm, .bool ui, .slice aA aN aC, .slice sA sN sC, .int .i64 ho, .int .i64 fl, .bool si, .int .i64 da, .string bo, .slice iA iN iC, .slice kA kN kC] 33)).alloc (Obj.cells #[.string ⟨#[]⟩, .string ⟨#[]⟩, .bool false, .slice none 0 0, .slice none 0 0, .int .i64 0, .int .i64 0, .bool false, .int .i64 0, .string ⟨#[]⟩, .slice none 0 0, .slice none 0 0] 43)).drew.heap[w.heap.size]? = some (Obj.cells #[.string tg, .string nm, .bool ui, .slice aA aN aC, .slice sA sN sC, .int .i64 ho, .int .i64 fl, .bool si, .int .i64 da, .string bo, .slice iA iN iC, .slice kA kN kC] 33) ∧ ((w.alloc (Obj.cells #[.string tg, .string nm, .bool ui, .slice aA aN aC, .slice sA sN sC, .int .i64 ho, .int .i64 fl, .bool si, .int .i64 da, .string bo, .slice iA iN iC, .slice kA kN kC] 33)).alloc (Obj.cells #[.string ⟨#[]⟩, .string ⟨#[]⟩, .bool false, .slice none 0 0, .slice none 0 0, .int .i64 0, .int .i64 0, .bool false, .int .i64 0, .string ⟨#[]⟩, .slice none 0 0, .slice none 0 0] 43)).drew.heap[w.heap.size + 1]? = some (Obj.cells #[.string ⟨#[]⟩, .string ⟨#[]⟩, .bool false, .slice none 0 0, .slice none 0 0, .int .i64 0, .int .i64 0, .bool false, .int .i64 0, .string ⟨#[]⟩, .slice none 0 0, .slice none 0 0] 43) from HB0.1)
 have HBd : Hid (Below w.heap.size w ((w.alloc (Obj.cells #[.string tg, .string nm, .bool ui, .slice aA aN aC, .slice sA sN sC, .int .i64 ho, .int .i64 fl, .bool si, .int .i64 da, .string bo, .slice iA iN iC, .slice kA kN kC] 33)).alloc (Obj.cells #[.string ⟨#[]⟩, .string ⟨#[]⟩, .bool false, .slice none 0 0, .slice none 0 0, .int .i64 0, .int .i64 0, .bool false, .int .i64 0, .string ⟨#[]⟩, .slice none 0 0, .slice none 0 0] 43)).drew) := Lib.hid (below_draws HB0.2 1)
 have HZ1 : Hid (((w.alloc (Obj.cells #[.string tg, .string nm, .bool ui, .slice aA aN aC, .slice sA sN sC, .int .i64 ho, .int .i64 fl, .bool si, .int .i64 da, .string bo, .slice iA iN iC, .slice kA kN kC] 33)).alloc (Obj.cells #[.string ⟨#[]⟩, .string ⟨#[]⟩, .bool false, .slice none 0 0, .slice none 0 0, .int .i64 0, .int .i64 0, .bool false, .int .i64 0, .string ⟨#[]⟩, .slice none 0 0, .slice none 0 0] 43)).drew.heap.size = w.heap.size + 2) := Lib.hid (by show ((w.alloc _).alloc _).heap.size = _; simp)
 have HZ0 : Hid (w.heap.size < ((w.alloc (Obj.cells #[.string tg, .string nm, .bool ui, .slice aA aN aC, .slice sA sN sC, .int .i64 ho, .int .i64 fl, .bool si, .int .i64 da, .string bo, .slice iA iN iC, .slice kA kN kC] 33)).alloc (Obj.cells #[.string ⟨#[]⟩, .string ⟨#[]⟩, .bool false, .slice none 0 0, .slice none 0 0, .int .i64 0, .int .i64 0, .bool false, .int .i64 0, .string ⟨#[]⟩, .slice none 0 0, .slice none 0 0] 43)).drew.heap.size ∧ w.heap.size + 1 < ((w.alloc (Obj.cells #[.string tg, .string nm, .bool ui, .slice aA aN aC, .slice sA sN sC, .int .i64 ho, .int .i64 fl, .bool si, .int .i64 da, .string bo, .slice iA iN iC, .slice kA kN kC] 33)).alloc (Obj.cells #[.string ⟨#[]⟩, .string ⟨#[]⟩, .bool false, .slice none 0 0, .slice none 0 0, .int .i64 0, .int .i64 0, .bool false, .int .i64 0, .string ⟨#[]⟩, .slice none 0 0, .slice none 0 0] 43)).drew.heap.size) := Lib.hid (by rw [HZ1.out]; omega)
 clear h1 hT hx hin hkn hri hii hrk hkk hM HB0
 go_enter Tryz.func15, Tryz.ntmps15
 go_wp2_with fail
 refine wp_region_held_drew (S := fun W => W.cell? ⟨w.heap.size, 0, none⟩ = some (.string tg) ∧ W.cell? ⟨w.heap.size, 1, none⟩ = some (.string nm) ∧ W.cell? ⟨w.heap.size, 2, none⟩ = some (.bool ui) ∧ W.cell? ⟨w.heap.size, 3, none⟩ = some (.slice aA aN aC) ∧ W.cell? ⟨w.heap.size, 4, none⟩ = some (.slice sA sN sC) ∧ W.cell? ⟨w.heap.size, 5, none⟩ = some (.int .i64 ho) ∧ W.cell? ⟨w.heap.size, 6, none⟩ = some (.int .i64 fl) ∧ W.cell? ⟨w.heap.size, 7, none⟩ = some (.bool si) ∧ W.cell? ⟨w.heap.size, 8, none⟩ = some (.int .i64 da) ∧ W.cell? ⟨w.heap.size, 9, none⟩ = some (.string bo) ∧ W.cell? ⟨w.heap.size, 10, none⟩ = some (.slice iA iN iC) ∧ W.cell? ⟨w.heap.size, 11, none⟩ = some (.slice kA kN kC)) (by kernel_rfl) ⟨obj_cell HBX.out.1 0 _ rfl, obj_cell HBX.out.1 1 _ rfl, obj_cell HBX.out.1 2 _ rfl, obj_cell HBX.out.1 3 _ rfl, obj_cell HBX.out.1 4 _ rfl, obj_cell HBX.out.1 5 _ rfl, obj_cell HBX.out.1 6 _ rfl, obj_cell HBX.out.1 7 _ rfl, obj_cell HBX.out.1 8 _ rfl, obj_cell HBX.out.1 9 _ rfl, obj_cell HBX.out.1 10 _ rfl, obj_cell HBX.out.1 11 _ rfl⟩ (fun hHeld => ?_)
 refine wpAnyH_take (i := 0) rfl (by kernel_rfl) (by kernel_rfl) (by kernel_rfl) (fun _ _ _ h => h) (.inl ⟨by rfl, by intro _ h; (try dsimp only at h); go_simp; try with_reducible rfl⟩) hHeld ?_
 try simp only [Act.put, t0, t1, t2, t3, t4, t5]
 refine wpAnyH_take (i := 1) rfl (by kernel_rfl) (by kernel_rfl) (by kernel_rfl) (fun _ _ _ h => h) (.inl ⟨by rfl, by intro _ h; (try dsimp only at h); go_simp; try with_reducible rfl⟩) hHeld ?_
 try simp only [Act.put, t0, t1, t2, t3, t4, t5]
 refine wpAnyH_take (i := 2) rfl (by kernel_rfl) (by kernel_rfl) (by kernel_rfl) (fun _ _ _ h => h) (.inl ⟨by rfl, by intro _ h; (try dsimp only at h); go_simp; try with_reducible rfl⟩) hHeld ?_
 try simp only [Act.put, t0, t1, t2, t3, t4, t5]
 refine wpAnyH_take (i := 3) rfl (by kernel_rfl) (by kernel_rfl) (by kernel_rfl) (fun _ _ _ h => h) (.inl ⟨by rfl, by intro _ h; (try dsimp only at h); go_simp; try with_reducible rfl⟩) hHeld ?_
 try simp only [Act.put, t0, t1, t2, t3, t4, t5]
 refine wpAnyH_take (i := 4) rfl (by kernel_rfl) (by kernel_rfl) (by kernel_rfl) (fun _ _ _ h => h) (.inl ⟨by rfl, by intro _ h; (try dsimp only at h); go_simp; try with_reducible rfl⟩) hHeld ?_
 try simp only [Act.put, t0, t1, t2, t3, t4, t5]
 refine wpAnyH_take (i := 5) rfl (by kernel_rfl) (by kernel_rfl) (by kernel_rfl) (fun _ _ _ h => h) (.inl ⟨by rfl, by intro _ h; (try dsimp only at h); go_simp; try with_reducible rfl⟩) hHeld ?_
 try simp only [Act.put, t0, t1, t2, t3, t4, t5]
 refine wpAnyH_take (i := 6) rfl (by kernel_rfl) (by kernel_rfl) (by kernel_rfl) (fun _ _ _ h => h) (.inl ⟨by rfl, by intro _ h; (try dsimp only at h); go_simp; try with_reducible rfl⟩) hHeld ?_
 try simp only [Act.put, t0, t1, t2, t3, t4, t5]
 refine wpAnyH_take (i := 7) rfl (by kernel_rfl) (by kernel_rfl) (by kernel_rfl) (fun _ _ _ h => h) (.inl ⟨by rfl, by intro _ h; (try dsimp only at h); go_simp; try with_reducible rfl⟩) hHeld ?_
 try simp only [Act.put, t0, t1, t2, t3, t4, t5]
 refine wpAnyH_take (i := 8) rfl (by kernel_rfl) (by kernel_rfl) (by kernel_rfl) (fun _ _ _ h => h) (.inl ⟨by rfl, by intro _ h; (try dsimp only at h); go_simp; try with_reducible rfl⟩) hHeld ?_
 try simp only [Act.put, t0, t1, t2, t3, t4, t5]
 refine wpAnyH_take (i := 9) rfl (by kernel_rfl) (by kernel_rfl) (by kernel_rfl) (fun _ _ _ h => h) (.inl ⟨by rfl, by intro _ h; (try dsimp only at h); go_simp; try with_reducible rfl⟩) hHeld ?_
 try simp only [Act.put, t0, t1, t2, t3, t4, t5]
 refine wpAnyH_take (i := 10) rfl (by kernel_rfl) (by kernel_rfl) (by kernel_rfl) (fun _ _ _ h => h) (.inl ⟨by rfl, by intro _ h; (try dsimp only at h); go_simp; try with_reducible rfl⟩) hHeld ?_
 try simp only [Act.put, t0, t1, t2, t3, t4, t5]
 refine wpAnyH_take (i := 11) rfl (by kernel_rfl) (by kernel_rfl) (by kernel_rfl) (fun _ _ _ h => h) (.inl ⟨by rfl, by intro _ h; (try dsimp only at h); go_simp; try with_reducible rfl⟩) hHeld ?_
 try simp only [Act.put, t0, t1, t2, t3, t4, t5]
 refine wpAnyH_take (i := 12) rfl (by kernel_rfl) (by kernel_rfl) (by kernel_rfl) (fun _ _ _ h => h) (.inl ⟨by rfl, by intro _ h; (try dsimp only at h); go_simp; try with_reducible rfl⟩) hHeld ?_
 try simp only [Act.put, t0, t1, t2, t3, t4, t5]
 refine wpAnyH_take (i := 13) rfl (by kernel_rfl) (by kernel_rfl) (by kernel_rfl) (fun _ _ _ h => h) (.inl ⟨by rfl, by intro _ h; (try dsimp only at h); go_simp; try with_reducible rfl⟩) hHeld ?_
 try simp only [Act.put, t0, t1, t2, t3, t4, t5]
 refine wpAnyH_take (i := 14) rfl (by kernel_rfl) (by kernel_rfl) (by kernel_rfl) (fun _ _ _ h => h) (.inl ⟨by rfl, by intro _ h; (try dsimp only at h); go_simp; try with_reducible rfl⟩) hHeld ?_
 try simp only [Act.put, t0, t1, t2, t3, t4, t5]
 refine wpAnyH_take (i := 15) rfl (by kernel_rfl) (by kernel_rfl) (by kernel_rfl) (fun _ _ _ h => h) (.inl ⟨by rfl, by intro _ h; (try dsimp only at h); go_simp; try with_reducible rfl⟩) hHeld ?_
 try simp only [Act.put, t0, t1, t2, t3, t4, t5]
 refine wpAnyH_take (i := 16) rfl (by kernel_rfl) (by kernel_rfl) (by kernel_rfl) (fun _ _ _ h => h) (.inl ⟨by rfl, by intro _ h; (try dsimp only at h); go_simp; try with_reducible rfl⟩) hHeld ?_
 try simp only [Act.put, t0, t1, t2, t3, t4, t5]
 refine wpAnyH_take (i := 17) rfl (by kernel_rfl) (by kernel_rfl) (by kernel_rfl) (fun _ _ _ h => h) (.inl ⟨by rfl, by intro _ h; (try dsimp only at h); go_simp; try with_reducible rfl⟩) hHeld ?_
 try simp only [Act.put, t0, t1, t2, t3, t4, t5]
 refine wpAnyH_take (i := 18) rfl (by kernel_rfl) (by kernel_rfl) (by kernel_rfl) (fun _ _ _ h => h) (.inl ⟨by rfl, by intro _ h; (try dsimp only at h); go_simp; try with_reducible rfl⟩) hHeld ?_
 try simp only [Act.put, t0, t1, t2, t3, t4, t5]
 refine wpAnyH_take (i := 19) rfl (by kernel_rfl) (by kernel_rfl) (by kernel_rfl) (fun _ _ _ h => h) (.inl ⟨by rfl, by intro _ h; (try dsimp only at h); go_simp; try with_reducible rfl⟩) hHeld ?_
 try simp only [Act.put, t0, t1, t2, t3, t4, t5]
 refine wpAnyH_take (i := 20) rfl (by kernel_rfl) (by kernel_rfl) (by kernel_rfl) (fun _ _ _ h => h) (.inl ⟨by rfl, by intro _ h; (try dsimp only at h); go_simp; try with_reducible rfl⟩) hHeld ?_
 try simp only [Act.put, t0, t1, t2, t3, t4, t5]
 refine wpAnyH_take (i := 21) rfl (by kernel_rfl) (by kernel_rfl) (by kernel_rfl) (fun _ _ _ h => h) (.inl ⟨by rfl, by intro _ h; (try dsimp only at h); go_simp; try with_reducible rfl⟩) hHeld ?_
 try simp only [Act.put, t0, t1, t2, t3, t4, t5]
 refine wpAnyH_take (i := 23) rfl (by kernel_rfl) (by kernel_rfl) (by kernel_rfl) (fun _ _ _ h => h) (.inl ⟨by rfl, by intro _ h; (try dsimp only at h); go_simp; try with_reducible rfl⟩) hHeld ?_
 try simp only [Act.put, t0, t1, t2, t3, t4, t5]
 refine wpAnyH_take (i := 24) rfl (by kernel_rfl) (by kernel_rfl) (by kernel_rfl) (fun _ _ _ h => h) (.inl ⟨by rfl, by intro _ h; (try dsimp only at h); go_simp; try with_reducible rfl⟩) hHeld ?_
 try simp only [Act.put, t0, t1, t2, t3, t4, t5]
 refine wpAnyH_ready (rs := [22]) (by kernel_rfl) (by simp) ?_
 refine AllReadyH.cons rfl (fun K9 hK9 => ?_) ?_
 ·
  go_simp
  refine (KI.out _ HBd.out).mono ?_
  rintro e w1 ⟨hB1, A9, c9, rfl, hR9⟩
  have HB1 := Lib.hid (below_then HBd.out hB1)
  have HX1 := Lib.hid (show w1.heap[w.heap.size]? = some (Obj.cells #[.string tg, .string nm, .bool ui, .slice aA aN aC, .slice sA sN sC, .int .i64 ho, .int .i64 fl, .bool si, .int .i64 da, .string bo, .slice iA iN iC, .slice kA kN kC] 33) ∧ w1.heap[w.heap.size + 1]? = some (Obj.cells #[.string ⟨#[]⟩, .string ⟨#[]⟩, .bool false, .slice none 0 0, .slice none 0 0, .int .i64 0, .int .i64 0, .bool false, .int .i64 0, .string ⟨#[]⟩, .slice none 0 0, .slice none 0 0] 43) from ⟨(hB1.block _ HZ0.out.1).trans HBX.out.1, (hB1.block _ HZ0.out.2).trans HBX.out.2⟩)
  have HR9 := Lib.hid hR9
  have HB1s := Lib.hid hB1
  clear hB1 hR9
  refine hK9.out _ _ ⟨obj_cell HX1.out.1 0 _ rfl, obj_cell HX1.out.1 1 _ rfl, obj_cell HX1.out.1 2 _ rfl, obj_cell HX1.out.1 3 _ rfl, obj_cell HX1.out.1 4 _ rfl, obj_cell HX1.out.1 5 _ rfl, obj_cell HX1.out.1 6 _ rfl, obj_cell HX1.out.1 7 _ rfl, obj_cell HX1.out.1 8 _ rfl, obj_cell HX1.out.1 9 _ rfl, obj_cell HX1.out.1 10 _ rfl, obj_cell HX1.out.1 11 _ rfl⟩ (fun hHeld => ?_)
  clear hK9 K9
  try simp only [Act.put, t0, t1, t2, t3, t4, t5]
  refine wpAnyH_ready (rs := [25]) (by kernel_rfl) (by simp) ?_
  refine AllReadyH.cons rfl (fun K9 hK9 => ?_) ?_
  ·
   go_simp
   refine (KK.out _ HB1.out).mono ?_
   rintro e w2 ⟨hB2, A8, c8, kcs, rfl, hR8, hK8⟩
   have HB2 := Lib.hid (below_then HB1.out hB2)
   have HX2 := Lib.hid (show w2.heap[w.heap.size]? = some (Obj.cells #[.string tg, .string nm, .bool ui, .slice aA aN aC, .slice sA sN sC, .int .i64 ho, .int .i64 fl, .bool si, .int .i64 da, .string bo, .slice iA iN iC, .slice kA kN kC] 33) ∧ w2.heap[w.heap.size + 1]? = some (Obj.cells #[.string ⟨#[]⟩, .string ⟨#[]⟩, .bool false, .slice none 0 0, .slice none 0 0, .int .i64 0, .int .i64 0, .bool false, .int .i64 0, .string ⟨#[]⟩, .slice none 0 0, .slice none 0 0] 43) from ⟨(hB2.block _ (Array.getElem?_eq_some_iff.1 HX1.out.1).1).trans HX1.out.1, (hB2.block _ (Array.getElem?_eq_some_iff.1 HX1.out.2).1).trans HX1.out.2⟩)
   have HR8 := Lib.hid hR8
   have HK8 := Lib.hid hK8
   have HB2s := Lib.hid hB2
   have z0 := obj_cell HX2.out.2 0 _ rfl
   have z1 := obj_cell HX2.out.2 1 _ rfl
   have z2 := obj_cell HX2.out.2 2 _ rfl
   have z3 := obj_cell HX2.out.2 3 _ rfl
   have z4 := obj_cell HX2.out.2 4 _ rfl
   have z5 := obj_cell HX2.out.2 5 _ rfl
   have z6 := obj_cell HX2.out.2 6 _ rfl
   have z7 := obj_cell HX2.out.2 7 _ rfl
   have z8 := obj_cell HX2.out.2 8 _ rfl
   have z9 := obj_cell HX2.out.2 9 _ rfl
   have z10 := obj_cell HX2.out.2 10 _ rfl
   have z11 := obj_cell HX2.out.2 11 _ rfl
   have zf : ∀ i, w2.frozen? ⟨w.heap.size + 1, i, none⟩ = false := fun i => by have h := HX2.out.2; simp [World.frozen?, h]
   have HX3 : Hid ((put12 w2 (w.heap.size + 1) ⟨tg, nm, ui, aA, aN, aC, sA, sN, sC, ho, fl, si, da, bo, A9, iN, c9, A8, kN, c8⟩).heap[w.heap.size]? = some (Obj.cells #[.string tg, .string nm, .bool ui, .slice aA aN aC, .slice sA sN sC, .int .i64 ho, .int .i64 fl, .bool si, .int .i64 da, .string bo, .slice iA iN iC, .slice kA kN kC] 33)) := Lib.hid (((put12_grown w2 (w.heap.size + 1) ⟨tg, nm, ui, aA, aN, aC, sA, sN, sC, ho, fl, si, da, bo, A9, iN, c9, A8, kN, c8⟩).block w.heap.size (Array.getElem?_eq_some_iff.1 HX2.out.1).1 (fun e => by have := Option.some.inj e; omega)).trans HX2.out.1)
   clear hB2 hR8 hK8
   refine hK9.out _ _ ⟨obj_cell HX2.out.1 0 _ rfl, obj_cell HX2.out.1 1 _ rfl, obj_cell HX2.out.1 2 _ rfl, obj_cell HX2.out.1 3 _ rfl, obj_cell HX2.out.1 4 _ rfl, obj_cell HX2.out.1 5 _ rfl, obj_cell HX2.out.1 6 _ rfl, obj_cell HX2.out.1 7 _ rfl, obj_cell HX2.out.1 8 _ rfl, obj_cell HX2.out.1 9 _ rfl, obj_cell HX2.out.1 10 _ rfl, obj_cell HX2.out.1 11 _ rfl⟩ (fun hHeld => ?_)
   clear hK9 K9
   try simp only [Act.put, t0, t1, t2, t3, t4, t5]
   refine wpAnyH_take (i := 26) rfl (by kernel_rfl) (by kernel_rfl) (by kernel_rfl) (fun _ _ _ h => h) (.inl ⟨by rfl, by intro _ h; (try dsimp only at h); go_simp; try with_reducible rfl⟩) hHeld ?_
   try simp only [Act.put, t0, t1, t2, t3, t4, t5]
   refine wpAnyH_ready (rs := [27]) (by kernel_rfl) (by simp) ?_
   refine AllReadyH.cons rfl (fun K9 hK9 => ?_) ?_
   ·
    go_simp
    refine hK9.out _ _ ⟨obj_cell HX3.out 0 _ rfl, obj_cell HX3.out 1 _ rfl, obj_cell HX3.out 2 _ rfl, obj_cell HX3.out 3 _ rfl, obj_cell HX3.out 4 _ rfl, obj_cell HX3.out 5 _ rfl, obj_cell HX3.out 6 _ rfl, obj_cell HX3.out 7 _ rfl, obj_cell HX3.out 8 _ rfl, obj_cell HX3.out 9 _ rfl, obj_cell HX3.out 10 _ rfl, obj_cell HX3.out 11 _ rfl⟩ (fun hHeld => ?_)
    clear hK9 K9
    try simp only [Act.put, t0, t1, t2, t3, t4, t5]
    refine wpAnyH_done (by kernel_rfl) ?_ _
    generalize hw3 : ((((((((((((w2.setCell ⟨w.heap.size + 1, 0, none⟩ (.string tg)).setCell ⟨w.heap.size + 1, 1, none⟩ (.string nm)).setCell ⟨w.heap.size + 1, 2, none⟩ (.bool ui)).setCell ⟨w.heap.size + 1, 3, none⟩ (.slice aA aN aC)).setCell ⟨w.heap.size + 1, 4, none⟩ (.slice sA sN sC)).setCell ⟨w.heap.size + 1, 5, none⟩ (.int .i64 ho)).setCell ⟨w.heap.size + 1, 6, none⟩ (.int .i64 fl)).setCell ⟨w.heap.size + 1, 7, none⟩ (.bool si)).setCell ⟨w.heap.size + 1, 8, none⟩ (.int .i64 da)).setCell ⟨w.heap.size + 1, 9, none⟩ (.string bo)).setCell ⟨w.heap.size + 1, 10, none⟩ (.slice A9 iN c9)).setCell ⟨w.heap.size + 1, 11, none⟩ (.slice A8 kN c8)) = w3
    have HG3 : Hid (w2.grownBy w3 (some (w.heap.size + 1))) := Lib.hid (by rw [← hw3]; exact put12_grown w2 (w.heap.size + 1) ⟨tg, nm, ui, aA, aN, aC, sA, sN, sC, ho, fl, si, da, bo, A9, iN, c9, A8, kN, c8⟩)
    have HR3 : Hid (w3.heap[w.heap.size + 1]? = some (Obj.cells (CmdV.cells ⟨tg, nm, ui, aA, aN, aC, sA, sN, sC, ho, fl, si, da, bo, A9, iN, c9, A8, kN, c8⟩) 43)) := Lib.hid (by rw [← hw3]; exact put12_any HX2.out.2 ⟨tg, nm, ui, aA, aN, aC, sA, sN, sC, ho, fl, si, da, bo, A9, iN, c9, A8, kN, c8⟩)
    have p0 := obj_cell HR3.out 0 _ rfl
    have p1 := obj_cell HR3.out 1 _ rfl
    have p2 := obj_cell HR3.out 2 _ rfl
    have p3 := obj_cell HR3.out 3 _ rfl
    have p4 := obj_cell HR3.out 4 _ rfl
    have p5 := obj_cell HR3.out 5 _ rfl
    have p6 := obj_cell HR3.out 6 _ rfl
    have p7 := obj_cell HR3.out 7 _ rfl
    have p8 := obj_cell HR3.out 8 _ rfl
    have p9 := obj_cell HR3.out 9 _ rfl
    have p10 := obj_cell HR3.out 10 _ rfl
    have p11 := obj_cell HR3.out 11 _ rfl
    clear hw3
    go_wp2
    refine bodyPost_ret (v := .agg (CmdV.cells ⟨tg, nm, ui, aA, aN, aC, sA, sN, sC, ho, fl, si, da, bo, A9, iN, c9, A8, kN, c8⟩)) ?_ rfl ?_
    ·
     rw [results_cell_one rfl]
     simp [go_sem, p0, p1, p2, p3, p4, p5, p6, p7, p8, p9, p10, p11]
    ·
     exact cv_fin HAt.out HT.out HZ1.out HB1.out HB1s.out HB2.out HB2s.out HG3.out HR9.out HR8.out HK8.out hits.out
   exact AllReadyH.nil
  exact AllReadyH.nil
 exact AllReadyH.nil
open Go.RowKit
open Pl (Bs)
theorem rsSame_walk (x y : CmdP) (hx : CmdFit x) (c d : CmdV) (T T' : Nat → Prop) (w : World) (hT : ∀ i, T i → i < w.heap.size) (hT' : ∀ i, T' i → i < w.heap.size) (h1 : CmdAt w T c x) (h2 : CmdAt w T' d y) :
  Calls Tryz.prog 14 #[.agg c.cells, .agg d.cells] w fun e w' => e = .returned (.bool (sameC x y)) ∧ Below w.heap.size w w' := by
 obtain ⟨e0, e1, e2, ⟨en3, r3⟩, ⟨en4, r4⟩, e5, e6, e7, e8, e9, ⟨en10, cs, r10, k10⟩, ⟨en11, cs', r11, k11⟩⟩ := h1
 obtain ⟨f0, f1, f2, ⟨fn3, s3⟩, ⟨fn4, s4⟩, f5, f6, f7, f8, f9, ⟨fn10, ds, s10, m10⟩, ⟨fn11, ds', s11, m11⟩⟩ := h2
 obtain ⟨ctag, cname, cuid, caA, caN, caC, csA, csN, csC, chow, cflags, csilent, cdate, cbody, ciA, ciN, ciC, ckA, ckN, ckC⟩ := c
 obtain ⟨dtag, dname, duid, daA, daN, daC, dsA, dsN, dsC, dhow, dflags, dsilent, ddate, dbody, diA, diN, diC, dkA, dkN, dkC⟩ := d
 dsimp only at *
 subst e0 e1 e2 en3 en4 e5 e6 e7 e8 e9 en10 en11 f0 f1 f2 fn3 fn4 f5 f6 f7 f8 f9 fn10 fn11
 have hM : ∀ {W : World}, Below w.heap.size w W → ∀ i, T i → i < W.heap.size := fun hB i hi => Nat.lt_of_lt_of_le (hT i hi) hB.size
 have hM' : ∀ {W : World}, Below w.heap.size w W → ∀ i, T' i → i < W.heap.size := fun hB i hi => Nat.lt_of_lt_of_le (hT' i hi) hB.size
 have K3 : Hid (∀ W, Below w.heap.size w W → Calls Tryz.prog 38 #[.slice caA x.args.length caC, .slice daA y.args.length daC] W fun e w' => e = .returned (.bool (decide (x.args = y.args))) ∧ Below W.heap.size W w') := Lib.hid (fun W hB => (rsS_walk caA daA caC daC x.args y.args T T' W (r3.below hT hB) (s3.below hT' hB) (by have := hx.args; omega)).mono fun e w' ⟨h1, h2⟩ => ⟨h1, below_q h2⟩)
 have K4 : Hid (∀ W, Below w.heap.size w W → Calls Tryz.prog 39 #[.slice csA x.set.length csC, .slice dsA y.set.length dsC] W fun e w' => e = .returned (.bool (decide (x.set = y.set))) ∧ Below W.heap.size W w') := Lib.hid (fun W hB => (rsR_walk csA dsA csC dsC x.set y.set T T' W (r4.below hT hB) (s4.below hT' hB) (by have := hx.set; omega)).mono fun e w' ⟨h1, h2⟩ => ⟨h1, below_q h2⟩)
 have K11 : Hid (∀ W, Below w.heap.size w W → Calls Tryz.prog 41 #[.slice ckA x.keys.length ckC, .slice dkA y.keys.length dkC] W fun e w' => e = .returned (.bool (sameKeysP x.keys y.keys)) ∧ Below W.heap.size W w') := Lib.hid (fun W hB => rsKeys_walk x.keys y.keys ckA dkA ckC dkC cs' ds' T T' W hx.keys hx.deep (hM hB) (hM' hB) (r11.below hT hB) (k11.kept (fun i hi => hB.block i (hT i hi))) (s11.below hT' hB) (m11.kept (fun i hi => hB.block i (hT' i hi))))
 have CX := Lib.hid (fun k (hk : k < x.items.length) (wr : World) (hB : Below w.heap.size w wr) => show ∃ b1 z vp vn, ciA = some ⟨b1, 0, none⟩ ∧ b1 < w.heap.size ∧ x.items[k]? = some z ∧ SpecFit z.spec ∧ SpecAt wr T vp vn z.spec ∧ ∀ j v, j < 8 → (itemC vp vn z)[j]? = some v → wr.cell? ⟨b1, k * 8 + j, none⟩ = some v by
  obtain ⟨b1, hA, t1, h1⟩ := r10.parts (by omega)
  obtain ⟨vp, vn, g1, g2⟩ := k10.at k x.items[k] (List.getElem?_eq_getElem hk)
  exact ⟨b1, x.items[k], vp, vn, hA, hT b1 t1, List.getElem?_eq_getElem hk, hx.each _ (List.getElem_mem hk), g1.kept (fun i hi => hB.block i (hT i hi)), fun j v hj hv => (World.cell?_of_block (hB.block b1 (hT b1 t1))).trans (h1 _ v (by rw [g2 j hj]; exact hv))⟩)
 have CY := Lib.hid (fun k (hk : k < y.items.length) (wr : World) (hB : Below w.heap.size w wr) => show ∃ b1 z vp vn, diA = some ⟨b1, 0, none⟩ ∧ b1 < w.heap.size ∧ y.items[k]? = some z ∧ SpecAt wr T' vp vn z.spec ∧ ∀ j v, j < 8 → (itemC vp vn z)[j]? = some v → wr.cell? ⟨b1, k * 8 + j, none⟩ = some v by
  obtain ⟨b1, hA, t1, h1⟩ := s10.parts (by omega)
  obtain ⟨vp, vn, g1, g2⟩ := m10.at k y.items[k] (List.getElem?_eq_getElem hk)
  exact ⟨b1, y.items[k], vp, vn, hA, hT' b1 t1, List.getElem?_eq_getElem hk, g1.kept (fun i hi => hB.block i (hT' i hi)), fun j v hj hv => (World.cell?_of_block (hB.block b1 (hT' b1 t1))).trans (h1 _ v (by rw [g2 j hj]; exact hv))⟩)
 have HT := Lib.hid hT
 have HT' := Lib.hid hT'
 have hnl := hx.items
 have HQ := Lib.hid (show sameItemsP x.items y.items = sameL sameItemP x.items y.items from rfl)
 have HV := Lib.hid (show sameC x y = (decide (x.tag = y.tag) && (decide (x.name = y.name) && (decide (x.uid = y.uid) && (decide (x.args = y.args) && (decide (x.set = y.set) && (decide (x.how = y.how) && (decide (x.flags = y.flags) && (decide (x.silent = y.silent) && (decide (x.date = y.date) && (decide (x.body = y.body) && (sameItemsP x.items y.items && (sameKeysP x.keys y.keys)))))))))))) from rfl)
 have e0 := str_beq x.tag y.tag
 have e1 := str_beq x.name y.name
 have e2 := bool_beq x.uid y.uid
 have e2n : (x.uid != y.uid) = !decide (x.uid = y.uid) := by rw [bne, bool_beq]
 have e5 : (x.how != y.how) = !decide (x.how = y.how) := by rw [bne, int_beq]
 have e6 : (x.flags != y.flags) = !decide (x.flags = y.flags) := by rw [bne, int_beq]
 have e7 := bool_beq x.silent y.silent
 have e7n : (x.silent != y.silent) = !decide (x.silent = y.silent) := by rw [bne, bool_beq]
 have e8 : (x.date != y.date) = !decide (x.date = y.date) := by rw [bne, int_beq]
 have e9 := str_beq x.body y.body
 clear hT hT' hx hM hM' r3 s3 r4 s4 r10 s10 k10 m10 r11 s11 k11 m11
 generalize sameC x y = R at *
 generalize decide (x.tag = y.tag) = b0 at *
 generalize decide (x.name = y.name) = b1 at *
 generalize decide (x.uid = y.uid) = b2 at *
 generalize decide (x.args = y.args) = b3 at *
 generalize decide (x.set = y.set) = b4 at *
 generalize decide (x.how = y.how) = b5 at *
 generalize decide (x.flags = y.flags) = b6 at *
 generalize decide (x.silent = y.silent) = b7 at *
 generalize decide (x.date = y.date) = b8 at *
 generalize decide (x.body = y.body) = b9 at *
 generalize sameItemsP x.items y.items = b10 at *
 generalize sameKeysP x.keys y.keys = b11 at *
 generalize str x.tag = t0x at *
 generalize str x.name = n1x at *
 generalize x.uid = u2x at *
 generalize x.args.length = a3x at *
 generalize x.set.length = s4x at *
 generalize x.how = h5x at *
 generalize x.flags = f6x at *
 generalize x.silent = s7x at *
 generalize x.date = d8x at *
 generalize str x.body = b9x at *
 generalize x.items = l at *
 generalize x.keys.length = k11x at *
 generalize str y.tag = t0y at *
 generalize str y.name = n1y at *
 generalize y.uid = u2y at *
 generalize y.args.length = a3y at *
 generalize y.set.length = s4y at *
 generalize y.how = h5y at *
 generalize y.flags = f6y at *
 generalize y.silent = s7y at *
 generalize y.date = d8y at *
 generalize str y.body = b9y at *
 generalize y.items = m at *
 generalize y.keys.length = k11y at *
 have HX0 := Lib.hid (box2 w (Obj.cells #[.string t0x, .string n1x, .bool u2x, .slice caA a3x caC, .slice csA s4x csC, .int .i64 h5x, .int .i64 f6x, .bool s7x, .int .i64 d8x, .string b9x, .slice ciA l.length ciC, .slice ckA k11x ckC] 43) (Obj.cells #[.string t0y, .string n1y, .bool u2y, .slice daA a3y daC, .slice dsA s4y dsC, .int .i64 h5y, .int .i64 f6y, .bool s7y, .int .i64 d8y, .string b9y, .slice diA m.length diC, .slice dkA k11y dkC] 43)).1
 have HB0 := Lib.hid (box2 w (Obj.cells #[.string t0x, .string n1x, .bool u2x, .slice caA a3x caC, .slice csA s4x csC, .int .i64 h5x, .int .i64 f6x, .bool s7x, .int .i64 d8x, .string b9x, .slice ciA l.length ciC, .slice ckA k11x ckC] 43) (Obj.cells #[.string t0y, .string n1y, .bool u2y, .slice daA a3y daC, .slice dsA s4y dsC, .int .i64 h5y, .int .i64 f6y, .bool s7y, .int .i64 d8y, .string b9y, .slice diA m.length diC, .slice dkA k11y dkC] 43)).2
 simp only [CmdV.cells]
 cases b0 with
 | false =>
  go_enter Tryz.func14, Tryz.ntmps14
  go_wp2
  go_ret
  exact ⟨by rw [HV.out]; rfl, HB0.out⟩
 | true =>
  cases b1 with
  | false =>
   go_enter Tryz.func14, Tryz.ntmps14
   go_wp2
   go_ret
   exact ⟨by rw [HV.out]; rfl, HB0.out⟩
  | true =>
   cases b2 with
   | false =>
    go_enter Tryz.func14, Tryz.ntmps14
    go_wp2
    go_ret
    exact ⟨by rw [HV.out]; rfl, HB0.out⟩
   | true =>
    cases b3 with
    | false =>
     go_enter Tryz.func14, Tryz.ntmps14
     go_wp2_with fail
     refine (K3.out _ HB0.out).mono ?_
     rintro e w4 ⟨rfl, hB4⟩
     have HB4 := Lib.hid (below_then HB0.out hB4)
     have HX4 := Lib.hid (box2_kept HX0.out hB4)
     clear hB4
     go_wp2
     go_ret
     exact ⟨by rw [HV.out]; rfl, HB4.out⟩
    | true =>
     cases b4 with
     | false =>
      go_enter Tryz.func14, Tryz.ntmps14
      go_wp2_with fail
      refine (K3.out _ HB0.out).mono ?_
      rintro e w4 ⟨rfl, hB4⟩
      have HB4 := Lib.hid (below_then HB0.out hB4)
      have HX4 := Lib.hid (box2_kept HX0.out hB4)
      clear hB4
      have x4 := obj_cell HX4.out.1 4 _ rfl
      have y4 := obj_cell HX4.out.2 4 _ rfl
      go_wp2_with fail
      refine (K4.out _ HB4.out).mono ?_
      rintro e w5 ⟨rfl, hB5⟩
      have HB5 := Lib.hid (below_then HB4.out hB5)
      have HX5 := Lib.hid (box2_kept HX4.out hB5)
      clear x4 y4
      clear hB5
      go_wp2
      go_ret
      exact ⟨by rw [HV.out]; rfl, HB5.out⟩
     | true =>
      cases b5 with
      | false =>
       go_enter Tryz.func14, Tryz.ntmps14
       go_wp2_with fail
       refine (K3.out _ HB0.out).mono ?_
       rintro e w4 ⟨rfl, hB4⟩
       have HB4 := Lib.hid (below_then HB0.out hB4)
       have HX4 := Lib.hid (box2_kept HX0.out hB4)
       clear hB4
       have x4 := obj_cell HX4.out.1 4 _ rfl
       have y4 := obj_cell HX4.out.2 4 _ rfl
       have x5 := obj_cell HX4.out.1 5 _ rfl
       have y5 := obj_cell HX4.out.2 5 _ rfl
       go_wp2_with fail
       refine (K4.out _ HB4.out).mono ?_
       rintro e w5 ⟨rfl, hB5⟩
       have HB5 := Lib.hid (below_then HB4.out hB5)
       have HX5 := Lib.hid (box2_kept HX4.out hB5)
       clear x4 y4 x5 y5
       clear hB5
       have x5 := obj_cell HX5.out.1 5 _ rfl
       have y5 := obj_cell HX5.out.2 5 _ rfl
       go_wp2
       go_ret
       exact ⟨by rw [HV.out]; rfl, HB5.out⟩
      | true =>
       cases b6 with
       | false =>
        go_enter Tryz.func14, Tryz.ntmps14
        go_wp2_with fail
        refine (K3.out _ HB0.out).mono ?_
        rintro e w4 ⟨rfl, hB4⟩
        have HB4 := Lib.hid (below_then HB0.out hB4)
        have HX4 := Lib.hid (box2_kept HX0.out hB4)
        clear hB4
        have x4 := obj_cell HX4.out.1 4 _ rfl
        have y4 := obj_cell HX4.out.2 4 _ rfl
        have x5 := obj_cell HX4.out.1 5 _ rfl
        have y5 := obj_cell HX4.out.2 5 _ rfl
        have x6 := obj_cell HX4.out.1 6 _ rfl
        have y6 := obj_cell HX4.out.2 6 _ rfl
        go_wp2_with fail
        refine (K4.out _ HB4.out).mono ?_
        rintro e w5 ⟨rfl, hB5⟩
        have HB5 := Lib.hid (below_then HB4.out hB5)
        have HX5 := Lib.hid (box2_kept HX4.out hB5)
        clear x4 y4 x5 y5 x6 y6
        clear hB5
        have x5 := obj_cell HX5.out.1 5 _ rfl
        have y5 := obj_cell HX5.out.2 5 _ rfl
        have x6 := obj_cell HX5.out.1 6 _ rfl
        have y6 := obj_cell HX5.out.2 6 _ rfl
        go_wp2
        go_ret
        exact ⟨by rw [HV.out]; rfl, HB5.out⟩
       | true =>
        cases b7 with
        | false =>
         go_enter Tryz.func14, Tryz.ntmps14
         go_wp2_with fail
         refine (K3.out _ HB0.out).mono ?_
         rintro e w4 ⟨rfl, hB4⟩
         have HB4 := Lib.hid (below_then HB0.out hB4)
         have HX4 := Lib.hid (box2_kept HX0.out hB4)
         clear hB4
         have x4 := obj_cell HX4.out.1 4 _ rfl
         have y4 := obj_cell HX4.out.2 4 _ rfl
         have x5 := obj_cell HX4.out.1 5 _ rfl
         have y5 := obj_cell HX4.out.2 5 _ rfl
         have x6 := obj_cell HX4.out.1 6 _ rfl
         have y6 := obj_cell HX4.out.2 6 _ rfl
         have x7 := obj_cell HX4.out.1 7 _ rfl
         have y7 := obj_cell HX4.out.2 7 _ rfl
         go_wp2_with fail
         refine (K4.out _ HB4.out).mono ?_
         rintro e w5 ⟨rfl, hB5⟩
         have HB5 := Lib.hid (below_then HB4.out hB5)
         have HX5 := Lib.hid (box2_kept HX4.out hB5)
         clear x4 y4 x5 y5 x6 y6 x7 y7
         clear hB5
         have x5 := obj_cell HX5.out.1 5 _ rfl
         have y5 := obj_cell HX5.out.2 5 _ rfl
         have x6 := obj_cell HX5.out.1 6 _ rfl
         have y6 := obj_cell HX5.out.2 6 _ rfl
         have x7 := obj_cell HX5.out.1 7 _ rfl
         have y7 := obj_cell HX5.out.2 7 _ rfl
         go_wp2
         go_ret
         exact ⟨by rw [HV.out]; rfl, HB5.out⟩
        | true =>
         cases b8 with
         | false =>
          go_enter Tryz.func14, Tryz.ntmps14
          go_wp2_with fail
          refine (K3.out _ HB0.out).mono ?_
          rintro e w4 ⟨rfl, hB4⟩
          have HB4 := Lib.hid (below_then HB0.out hB4)
          have HX4 := Lib.hid (box2_kept HX0.out hB4)
          clear hB4
          have x4 := obj_cell HX4.out.1 4 _ rfl
          have y4 := obj_cell HX4.out.2 4 _ rfl
          have x5 := obj_cell HX4.out.1 5 _ rfl
          have y5 := obj_cell HX4.out.2 5 _ rfl
          have x6 := obj_cell HX4.out.1 6 _ rfl
          have y6 := obj_cell HX4.out.2 6 _ rfl
          have x7 := obj_cell HX4.out.1 7 _ rfl
          have y7 := obj_cell HX4.out.2 7 _ rfl
          have x8 := obj_cell HX4.out.1 8 _ rfl
          have y8 := obj_cell HX4.out.2 8 _ rfl
          go_wp2_with fail
          refine (K4.out _ HB4.out).mono ?_
          rintro e w5 ⟨rfl, hB5⟩
          have HB5 := Lib.hid (below_then HB4.out hB5)
          have HX5 := Lib.hid (box2_kept HX4.out hB5)
          clear x4 y4 x5 y5 x6 y6 x7 y7 x8 y8
          clear hB5
          have x5 := obj_cell HX5.out.1 5 _ rfl
          have y5 := obj_cell HX5.out.2 5 _ rfl
          have x6 := obj_cell HX5.out.1 6 _ rfl
          have y6 := obj_cell HX5.out.2 6 _ rfl
          have x7 := obj_cell HX5.out.1 7 _ rfl
          have y7 := obj_cell HX5.out.2 7 _ rfl
          have x8 := obj_cell HX5.out.1 8 _ rfl
          have y8 := obj_cell HX5.out.2 8 _ rfl
          go_wp2
          go_ret
          exact ⟨by rw [HV.out]; rfl, HB5.out⟩
         | true =>
          cases b9 with
          | false =>
           go_enter Tryz.func14, Tryz.ntmps14
           go_wp2_with fail
           refine (K3.out _ HB0.out).mono ?_
           rintro e w4 ⟨rfl, hB4⟩
           have HB4 := Lib.hid (below_then HB0.out hB4)
           have HX4 := Lib.hid (box2_kept HX0.out hB4)
           clear hB4
           have x4 := obj_cell HX4.out.1 4 _ rfl
           have y4 := obj_cell HX4.out.2 4 _ rfl
           have x5 := obj_cell HX4.out.1 5 _ rfl
           have y5 := obj_cell HX4.out.2 5 _ rfl
           have x6 := obj_cell HX4.out.1 6 _ rfl
           have y6 := obj_cell HX4.out.2 6 _ rfl
           have x7 := obj_cell HX4.out.1 7 _ rfl
           have y7 := obj_cell HX4.out.2 7 _ rfl
           have x8 := obj_cell HX4.out.1 8 _ rfl
           have y8 := obj_cell HX4.out.2 8 _ rfl
           have x9 := obj_cell HX4.out.1 9 _ rfl
           have y9 := obj_cell HX4.out.2 9 _ rfl
           go_wp2_with fail
           refine (K4.out _ HB4.out).mono ?_
           rintro e w5 ⟨rfl, hB5⟩
           have HB5 := Lib.hid (below_then HB4.out hB5)
           have HX5 := Lib.hid (box2_kept HX4.out hB5)
           clear x4 y4 x5 y5 x6 y6 x7 y7 x8 y8 x9 y9
           clear hB5
           have x5 := obj_cell HX5.out.1 5 _ rfl
           have y5 := obj_cell HX5.out.2 5 _ rfl
           have x6 := obj_cell HX5.out.1 6 _ rfl
           have y6 := obj_cell HX5.out.2 6 _ rfl
           have x7 := obj_cell HX5.out.1 7 _ rfl
           have y7 := obj_cell HX5.out.2 7 _ rfl
           have x8 := obj_cell HX5.out.1 8 _ rfl
           have y8 := obj_cell HX5.out.2 8 _ rfl
           have x9 := obj_cell HX5.out.1 9 _ rfl
           have y9 := obj_cell HX5.out.2 9 _ rfl
           go_wp2
           go_ret
           exact ⟨by rw [HV.out]; rfl, HB5.out⟩
          | true =>
           by_cases hlm : l.length = m.length
           ·
            obtain ⟨n, hn⟩ : ∃ n, l.length = n := ⟨_, rfl⟩
            have HL := Lib.hid (show l.length = n ∧ m.length = n from ⟨hn, by omega⟩)
            have hh : ((n : Int) != (n : Int)) = false := by simp
            rw [hn] at hnl
            rw [hn, show m.length = n by omega] at HX0 HB0 ⊢
            clear hlm hn
            go_enter Tryz.func14, Tryz.ntmps14
            go_wp2_with fail
            refine (K3.out _ HB0.out).mono ?_
            rintro e w4 ⟨rfl, hB4⟩
            have HB4 := Lib.hid (below_then HB0.out hB4)
            have HX4 := Lib.hid (box2_kept HX0.out hB4)
            clear hB4
            have x4 := obj_cell HX4.out.1 4 _ rfl
            have y4 := obj_cell HX4.out.2 4 _ rfl
            have x5 := obj_cell HX4.out.1 5 _ rfl
            have y5 := obj_cell HX4.out.2 5 _ rfl
            have x6 := obj_cell HX4.out.1 6 _ rfl
            have y6 := obj_cell HX4.out.2 6 _ rfl
            have x7 := obj_cell HX4.out.1 7 _ rfl
            have y7 := obj_cell HX4.out.2 7 _ rfl
            have x8 := obj_cell HX4.out.1 8 _ rfl
            have y8 := obj_cell HX4.out.2 8 _ rfl
            have x9 := obj_cell HX4.out.1 9 _ rfl
            have y9 := obj_cell HX4.out.2 9 _ rfl
            have x10 := obj_cell HX4.out.1 10 _ rfl
            have y10 := obj_cell HX4.out.2 10 _ rfl
            go_wp2_with fail
            refine (K4.out _ HB4.out).mono ?_
            rintro e w5 ⟨rfl, hB5⟩
            have HB5 := Lib.hid (below_then HB4.out hB5)
            have HX5 := Lib.hid (box2_kept HX4.out hB5)
            clear x4 y4 x5 y5 x6 y6 x7 y7 x8 y8 x9 y9 x10 y10
            clear hB5
            have x5 := obj_cell HX5.out.1 5 _ rfl
            have y5 := obj_cell HX5.out.2 5 _ rfl
            have x6 := obj_cell HX5.out.1 6 _ rfl
            have y6 := obj_cell HX5.out.2 6 _ rfl
            have x7 := obj_cell HX5.out.1 7 _ rfl
            have y7 := obj_cell HX5.out.2 7 _ rfl
            have x8 := obj_cell HX5.out.1 8 _ rfl
            have y8 := obj_cell HX5.out.2 8 _ rfl
            have x9 := obj_cell HX5.out.1 9 _ rfl
            have y9 := obj_cell HX5.out.2 9 _ rfl
            have x10 := obj_cell HX5.out.1 10 _ rfl
            have y10 := obj_cell HX5.out.2 10 _ rfl
            have HX6 := HX5
            have HB6 := HB5
            go_wp2
            clear x5 y5 x6 y6 x7 y7 x8 y8 x9 y9 x10 y10
            go_loopw [88] (fun i wr => ∃ k : Nat, k ≤ n ∧ i = .int .i64 k ∧ Hid (∀ j z v, j < k → l[j]? = some z → m[j]? = some v → sameItemP z v = true) ∧ Hid (Below w.heap.size w wr) ∧ Hid (wr.heap[w.heap.size]? = some (Obj.cells #[.string t0x, .string n1x, .bool u2x, .slice caA a3x caC, .slice csA s4x csC, .int .i64 h5x, .int .i64 f6x, .bool s7x, .int .i64 d8x, .string b9x, .slice ciA n ciC, .slice ckA k11x ckC] 43) ∧ wr.heap[w.heap.size + 1]? = some (Obj.cells #[.string t0y, .string n1y, .bool u2y, .slice daA a3y daC, .slice dsA s4y dsC, .int .i64 h5y, .int .i64 f6y, .bool s7y, .int .i64 d8y, .string b9y, .slice diA n diC, .slice dkA k11y dkC] 43))) (fun i _ => n - (intOf i).toNat)
            case atStart => exact ⟨0, Nat.zero_le _, rfl, Lib.hid (fun j z v hj => absurd hj (Nat.not_lt_zero _)), HB6, HX6⟩
            case round =>
             obtain ⟨k, hk, rfl, HA, HB, HX⟩ := hrel
             have xa := obj_cell HX.out.1 10 _ rfl
             have ya := obj_cell HX.out.2 10 _ rfl
             by_cases hkn : k < n
             ·
              obtain ⟨b1, z, vp, vn, hA1, lt1, hz1, fz, sz, cz⟩ := CX.out k (by have := HL.out.1; omega) wr HB.out
              obtain ⟨b2, v, vp', vn', hA2, lt2, hz2, sv, cv⟩ := CY.out k (by have := HL.out.2; omega) wr HB.out
              have hzs := HB.out.size
              subst hA1 hA2
              have x0 := cz 0 _ (by decide) rfl
              have x1 := cz 1 _ (by decide) rfl
              have x2 := cz 2 _ (by decide) rfl
              have x3 := cz 3 _ (by decide) rfl
              have x4 := cz 4 _ (by decide) rfl
              have x5 := cz 5 _ (by decide) rfl
              have x6 := cz 6 _ (by decide) rfl
              have x7 := cz 7 _ (by decide) rfl
              have y0 := cv 0 _ (by decide) rfl
              have y1 := cv 1 _ (by decide) rfl
              have y2 := cv 2 _ (by decide) rfl
              have y3 := cv 3 _ (by decide) rfl
              have y4 := cv 4 _ (by decide) rfl
              have y5 := cv 5 _ (by decide) rfl
              have y6 := cv 6 _ (by decide) rfl
              have y7 := cv 7 _ (by decide) rfl
              rw [Nat.add_zero] at x0 y0
              have K := Lib.hid (rsItem_walk z v fz T T' vp vn vp' vn' wr.drew (fun i hi => Nat.lt_of_lt_of_le (HT.out i hi) hzs) (fun i hi => Nat.lt_of_lt_of_le (HT'.out i hi) hzs) (sz.kept (fun i hi => rfl)) (sv.kept (fun i hi => rfl)))
              have HZ := Lib.hid (show l[k]? = some z ∧ m[k]? = some v from ⟨hz1, hz2⟩)
              obtain ⟨A1, c1, A2, c2, rfl, rfl, _, _⟩ := sz.open
              obtain ⟨A3, c3, A4, c4, rfl, rfl, _, _⟩ := sv.open
              clear hz1 hz2 fz sz sv cz cv
              have hk1 : (0 : Int) ≤ (k : Int) := by omega
              have hk2 : (k : Int) < (n : Int) := by omega
              cases hs : sameItemP z v with
              | true =>
               rw [hs] at K
               have HN := Lib.hid (show ∀ j z v, j < k + 1 → l[j]? = some z → m[j]? = some v → sameItemP z v = true from fun j x' y' hj h1 h2 => by
                by_cases hjk : j = k
                ·
                 subst hjk
                 obtain rfl := Option.some.inj (HZ.out.1.symm.trans h1)
                 obtain rfl := Option.some.inj (HZ.out.2.symm.trans h2)
                 exact hs
                ·
                 exact HA.out j x' y' (by omega) h1 h2)
               clear hs
               go_wp2_with fail
               go_still_tail 10, (by kernel_rfl)
               change wpList _ _ _ _ _ wr.drew
               generalize hwd : wr.drew = wd at *
               go_wp2_with fail
               refine K.out.mono ?_
               rintro e w2 ⟨rfl, hB3⟩
               rw [← hwd] at hB3
               have hB3 : Below wr.heap.size wr w2 := below_then (below_draws (Below.refl wr.heap.size wr) 1) hB3
               have HB3 := Lib.hid (below_then HB.out (show Below wr.heap.size wr w2 from hB3))
               have HX3 := Lib.hid (box2_kept HX.out (show Below wr.heap.size wr w2 from hB3))
               clear hB3
               go_wp2
               go_roundw
               case rel => exact ⟨k + 1, by omega, by go_num, HN, HB3, HX3⟩
               case measure => simp [intOf]; omega
              | false =>
               rw [hs] at K
               have HVf := Lib.hid (show b10 = false from HQ.out.trans (sameL_not HZ.out.1 HZ.out.2 hs))
               clear hs
               go_wp2_with fail
               go_still_tail 10, (by kernel_rfl)
               change wpList _ _ _ _ _ wr.drew
               generalize hwd : wr.drew = wd at *
               go_wp2_with fail
               refine K.out.mono ?_
               rintro e w2 ⟨rfl, hB3⟩
               rw [← hwd] at hB3
               have hB3 : Below wr.heap.size wr w2 := below_then (below_draws (Below.refl wr.heap.size wr) 1) hB3
               have HB3 := Lib.hid (below_then HB.out (show Below wr.heap.size wr w2 from hB3))
               clear hB3
               go_wp2
               go_ret
               exact ⟨by rw [HV.out, HVf.out]; rfl, HB3.out⟩
             ·
              obtain rfl : k = n := by omega
              have HVt := Lib.hid (show b10 = true from HQ.out.trans (sameL_all (by rw [HL.out.1, HL.out.2]) (fun j z v h1 h2 => HA.out j z v (by have := (List.getElem?_eq_some_iff.1 h1).1; have := HL.out.1; omega) h1 h2)))
              have xb := obj_cell HX.out.1 11 _ rfl
              have yb := obj_cell HX.out.2 11 _ rfl
              go_wp2_with fail
              refine (K11.out _ HB.out).mono ?_
              rintro e w3 ⟨rfl, hB3⟩
              have HB3 := Lib.hid (below_then HB.out hB3)
              clear hB3
              go_wp2
              go_ret
              exact ⟨by rw [HV.out, HVt.out]; rfl, HB3.out⟩
           ·
            have HVf := Lib.hid (show b10 = false from HQ.out.trans (sameL_len hlm))
            have hh : ((l.length : Int) != (m.length : Int)) = true := by rw [bne_iff_ne]; omega
            go_enter Tryz.func14, Tryz.ntmps14
            go_wp2_with fail
            refine (K3.out _ HB0.out).mono ?_
            rintro e w4 ⟨rfl, hB4⟩
            have HB4 := Lib.hid (below_then HB0.out hB4)
            have HX4 := Lib.hid (box2_kept HX0.out hB4)
            clear hB4
            have x4 := obj_cell HX4.out.1 4 _ rfl
            have y4 := obj_cell HX4.out.2 4 _ rfl
            have x5 := obj_cell HX4.out.1 5 _ rfl
            have y5 := obj_cell HX4.out.2 5 _ rfl
            have x6 := obj_cell HX4.out.1 6 _ rfl
            have y6 := obj_cell HX4.out.2 6 _ rfl
            have x7 := obj_cell HX4.out.1 7 _ rfl
            have y7 := obj_cell HX4.out.2 7 _ rfl
            have x8 := obj_cell HX4.out.1 8 _ rfl
            have y8 := obj_cell HX4.out.2 8 _ rfl
            have x9 := obj_cell HX4.out.1 9 _ rfl
            have y9 := obj_cell HX4.out.2 9 _ rfl
            have x10 := obj_cell HX4.out.1 10 _ rfl
            have y10 := obj_cell HX4.out.2 10 _ rfl
            go_wp2_with fail
            refine (K4.out _ HB4.out).mono ?_
            rintro e w5 ⟨rfl, hB5⟩
            have HB5 := Lib.hid (below_then HB4.out hB5)
            have HX5 := Lib.hid (box2_kept HX4.out hB5)
            clear x4 y4 x5 y5 x6 y6 x7 y7 x8 y8 x9 y9 x10 y10
            clear hB5
            have x5 := obj_cell HX5.out.1 5 _ rfl
            have y5 := obj_cell HX5.out.2 5 _ rfl
            have x6 := obj_cell HX5.out.1 6 _ rfl
            have y6 := obj_cell HX5.out.2 6 _ rfl
            have x7 := obj_cell HX5.out.1 7 _ rfl
            have y7 := obj_cell HX5.out.2 7 _ rfl
            have x8 := obj_cell HX5.out.1 8 _ rfl
            have y8 := obj_cell HX5.out.2 8 _ rfl
            have x9 := obj_cell HX5.out.1 9 _ rfl
            have y9 := obj_cell HX5.out.2 9 _ rfl
            have x10 := obj_cell HX5.out.1 10 _ rfl
            have y10 := obj_cell HX5.out.2 10 _ rfl
            go_wp2
            go_ret
            exact ⟨by rw [HV.out, HVf.out]; rfl, HB5.out⟩
open Go.RowKit
open Pl (Bs idxB numOk numN setOk setL)
attribute [local go_sem ↓] Go.wp_at_zero Go.wp_at_succ
theorem rest_idle (G : Glob) (B C k : Nat) (s N : Bs) (cs : Array Value) (h1 : cs[1]? = some (.string (str N))) (hN : N = [67, 65, 80, 65, 66, 73, 76, 73, 84, 89] ∨ N = [78, 79, 79, 80] ∨ N = [76, 79, 71, 79, 85, 84] ∨ N = [67, 72, 69, 67, 75] ∨ N = [67, 76, 79, 83, 69] ∨ N = [69, 88, 80, 85, 78, 71, 69]) (hne : B ≠ C) (hC20 : 20 ≤ C) (w : World) (hC : w.heap[C]? = some (Obj.cells cs 33)) (hE : EnvI G w B) (h : Scn w B s k) :
  Calls Tryz.prog 31 #[scP B, cmP C] w (RestPostS cs.size w B C (fun _ (_ : Unit) cs' => cs' = cs) (some ((), s, k))) := by
 have HNN := Lib.hid hN
 clear hN
 have HST := Lib.hid (RsSt.start h hC hne)
 have HSD := Lib.hid HST.out.draw
 have HS0 := Lib.hid HSD.out.keep
 have HE := Lib.hid hE
 obtain ⟨c1, _⟩ := HST.out.cell h1
 obtain ⟨hl1, hl2, hl3⟩ := HST.out.lt
 clear hE h h1
 rcases HNN.out with hN | hN | hN | hN | hN | hN
 ·
  have n0 := strEq hN
  clear hN
  go_enter Tryz.func31, Tryz.ntmps31
  go_wp2
  go_end0
  exact HST.out.finS rfl rfl
 ·
  obtain ⟨n0, _⟩ := notAll (N := N) (Ls := rNs.take 1) (by rw [hN]; decide)
  have n1 := strEq hN
  clear hN
  go_enter Tryz.func31, Tryz.ntmps31
  go_wp2
  go_end0
  exact HST.out.finS rfl rfl
 ·
  obtain ⟨n0, n1, _⟩ := notAll (N := N) (Ls := rNs.take 2) (by rw [hN]; decide)
  have n2 := strEq hN
  clear hN
  go_enter Tryz.func31, Tryz.ntmps31
  go_wp2
  go_end0
  exact HST.out.finS rfl rfl
 ·
  obtain ⟨n0, n1, n2, _⟩ := notAll (N := N) (Ls := rNs.take 3) (by rw [hN]; decide)
  have n3 := strEq hN
  clear hN
  go_enter Tryz.func31, Tryz.ntmps31
  go_wp2
  go_end0
  exact HST.out.finS rfl rfl
 ·
  obtain ⟨n0, n1, n2, n3, _⟩ := notAll (N := N) (Ls := rNs.take 4) (by rw [hN]; decide)
  have n4 := strEq hN
  clear hN
  go_enter Tryz.func31, Tryz.ntmps31
  go_wp2
  go_end0
  exact HST.out.finS rfl rfl
 ·
  obtain ⟨n0, n1, n2, n3, n4, _⟩ := notAll (N := N) (Ls := rNs.take 5) (by rw [hN]; decide)
  have n5 := strEq hN
  clear hN
  go_enter Tryz.func31, Tryz.ntmps31
  go_wp2
  go_end0
  exact HST.out.finS rfl rfl
open Go.RowKit
open Pl (Bs idxB numOk numN setOk setL)
attribute [local go_sem ↓] Go.wp_at_zero Go.wp_at_succ
theorem rest_two (G : Glob) (B C k : Nat) (s N : Bs) (cs : Array Value) (h1 : cs[1]? = some (.string (str N))) (v3 : Value) (h3 : cs[3]? = some v3) (hN : N = [76, 79, 71, 73, 78] ∨ N = [82, 69, 78, 65, 77, 69]) (hne : B ≠ C) (hC20 : 20 ≤ C) (w : World) (hC : w.heap[C]? = some (Obj.cells cs 33)) (hE : EnvI G w B) (h : Scn w B s k) :
  Calls Tryz.prog 31 #[scP B, cmP C] w (RestPostS cs.size w B C (ArgsQ w cs) ((textsB 2 s).map fun p => (p.1, p.2, k))) := by
 have HNN := Lib.hid hN
 clear hN
 have HST := Lib.hid (RsSt.start h hC hne)
 have HSD := Lib.hid HST.out.draw
 have HS0 := Lib.hid HSD.out.keep
 have HE := Lib.hid hE
 obtain ⟨c1, _⟩ := HST.out.cell h1
 obtain ⟨hl1, hl2, hl3⟩ := HST.out.lt
 have KT : Hid (∀ W, EnvI G W B → Scn W B s k → Calls Tryz.prog 70 #[scP B, .int .i64 2] W _) := Lib.hid (fun W hE hS => texts_walk G B k 2 (by decide) s W hE hS)
 have H3 := Lib.hid h3
 generalize hoo : (textsB 2 s).map (fun p => (p.1, p.2, k)) = oo
 have hHO := Lib.hid hoo
 clear hoo h1 h3 hE h
 rcases HNN.out with hN | hN
 ·
  obtain ⟨n0, n1, n2, n3, n4, n5, _⟩ := notAll (N := N) (Ls := rNs.take 6) (by rw [hN]; decide)
  have n6 := strEq hN
  clear hN
  cases ht : textsB 2 s with
  | none =>
   have HO := Lib.hid (show oo = none by rw [← hHO.out, ht]; rfl)
   rw [ht] at KT
   clear hHO ht
   go_enter Tryz.func31, Tryz.ntmps31
   go_wp2_with fail
   generalize ((w.alloc (Obj.cells #[scP B] 62)).alloc (Obj.cells #[cmP C] 68)) = w2 at *
   obtain ⟨d0, d1⟩ := HSD.out.keep
   refine wp_region_any (by kernel_rfl) ?_
   change wpAny _ _ _ _ _ _ _ (World.drew _)
   refine wpAny_ready (rs := [0, 1]) (by kernel_rfl) (by simp) ?_
   refine AllReady.cons rfl (fun K9 hK9 => ?_) ?_
   ·
    go_simp
    refine hK9 _ _ ?_
    clear hK9 K9
    refine wpAny_ready (rs := [1]) (by kernel_rfl) (by simp) ?_
    refine AllReady.cons rfl (fun K9 hK9 => ?_) ?_
    ·
     go_simp
     refine hK9 _ _ ?_
     clear hK9 K9
     refine wpAny_ready (rs := [2]) (by kernel_rfl) (by simp) ?_
     refine AllReady.cons rfl (fun K9 hK9 => ?_) ?_
     ·
      go_simp
      refine (KT.out _ (HE.out.kept2 HSD.out.gr hC20) HSD.out.sc).mono ?_
      rintro e w' ⟨hG, rfl⟩
      exact ⟨rfl, HSD.out.badS hG (by simp) HO.out⟩
     exact AllReady.nil
    exact AllReady.nil
   refine AllReady.cons rfl (fun K9 hK9 => ?_) ?_
   ·
    go_simp
    refine hK9 _ _ ?_
    clear hK9 K9
    refine wpAny_ready (rs := [0, 2]) (by kernel_rfl) (by simp) ?_
    refine AllReady.cons rfl (fun K9 hK9 => ?_) ?_
    ·
     go_simp
     refine hK9 _ _ ?_
     clear hK9 K9
     refine wpAny_ready (rs := [2]) (by kernel_rfl) (by simp) ?_
     refine AllReady.cons rfl (fun K9 hK9 => ?_) ?_
     ·
      go_simp
      refine (KT.out _ (HE.out.kept2 HSD.out.gr hC20) HSD.out.sc).mono ?_
      rintro e w' ⟨hG, rfl⟩
      exact ⟨rfl, HSD.out.badS hG (by simp) HO.out⟩
     exact AllReady.nil
    refine AllReady.cons rfl (fun K9 hK9 => ?_) ?_
    ·
     go_simp
     refine (KT.out _ (HE.out.kept2 HSD.out.gr hC20) HSD.out.sc).mono ?_
     rintro e w' ⟨hG, rfl⟩
     exact ⟨rfl, HSD.out.badS hG (by simp) HO.out⟩
    exact AllReady.nil
   exact AllReady.nil
  | some p =>
   obtain ⟨l, r⟩ := p
   have HO := Lib.hid (show oo = some (l, r, k) by rw [← hHO.out, ht]; rfl)
   rw [ht] at KT
   clear hHO ht
   go_enter Tryz.func31, Tryz.ntmps31
   go_wp2_with fail
   generalize ((w.alloc (Obj.cells #[scP B] 62)).alloc (Obj.cells #[cmP C] 68)) = w2 at *
   go_region_held3 (fun W => W.cell? ⟨w.heap.size, 0, none⟩ = some (scP B) ∧ W.cell? ⟨w.heap.size + 1, 0, none⟩ = some (cmP C))
    (first | exact HS0.out | exact HS1.out.keep | exact (HS1.out.setC 3 _).keep)
    (first
     | (go_at_call 70; refine (KT.out _ (HE.out.kept2 HSD.out.gr hC20) HSD.out.sc).mono ?_; rintro e w1 ⟨hG1, u, rfl, hO1, hS1⟩; obtain ⟨A, c, hu, hrow⟩ := rowC_own hO1; subst hu; have HS1 := Lib.hid (HSD.out.step hG1 hS1); obtain ⟨c3, f3⟩ := HS1.out.cell H3.out; have HR1 := Lib.hid (rowC_own hO1); clear hG1 hO1 hS1 hrow))
   go_wp2
   go_end0
   have hz := HSD.out.gr.size
   exact (HS1.out.setC 3 (.slice A l.length c)).finS HO.out ⟨A, c, rfl, (HR1.out.kept (fun i hi => Below.heap_setCell _ _ _ _ (by have := hi.1; dsimp only; omega))).more (fun i hi => ⟨by have := hi.1; omega, by have := hi.2; simpa using this⟩)⟩
 ·
  obtain ⟨n0, n1, n2, n3, n4, n5, n6, _⟩ := notAll (N := N) (Ls := rNs.take 7) (by rw [hN]; decide)
  have n7 := strEq hN
  clear hN
  cases ht : textsB 2 s with
  | none =>
   have HO := Lib.hid (show oo = none by rw [← hHO.out, ht]; rfl)
   rw [ht] at KT
   clear hHO ht
   go_enter Tryz.func31, Tryz.ntmps31
   go_wp2_with fail
   generalize ((w.alloc (Obj.cells #[scP B] 62)).alloc (Obj.cells #[cmP C] 68)) = w2 at *
   obtain ⟨d0, d1⟩ := HSD.out.keep
   refine wp_region_any (by kernel_rfl) ?_
   change wpAny _ _ _ _ _ _ _ (World.drew _)
   refine wpAny_ready (rs := [0, 1]) (by kernel_rfl) (by simp) ?_
   refine AllReady.cons rfl (fun K9 hK9 => ?_) ?_
   ·
    go_simp
    refine hK9 _ _ ?_
    clear hK9 K9
    refine wpAny_ready (rs := [1]) (by kernel_rfl) (by simp) ?_
    refine AllReady.cons rfl (fun K9 hK9 => ?_) ?_
    ·
     go_simp
     refine hK9 _ _ ?_
     clear hK9 K9
     refine wpAny_ready (rs := [2]) (by kernel_rfl) (by simp) ?_
     refine AllReady.cons rfl (fun K9 hK9 => ?_) ?_
     ·
      go_simp
      refine (KT.out _ (HE.out.kept2 HSD.out.gr hC20) HSD.out.sc).mono ?_
      rintro e w' ⟨hG, rfl⟩
      exact ⟨rfl, HSD.out.badS hG (by simp) HO.out⟩
     exact AllReady.nil
    exact AllReady.nil
   refine AllReady.cons rfl (fun K9 hK9 => ?_) ?_
   ·
    go_simp
    refine hK9 _ _ ?_
    clear hK9 K9
    refine wpAny_ready (rs := [0, 2]) (by kernel_rfl) (by simp) ?_
    refine AllReady.cons rfl (fun K9 hK9 => ?_) ?_
    ·
     go_simp
     refine hK9 _ _ ?_
     clear hK9 K9
     refine wpAny_ready (rs := [2]) (by kernel_rfl) (by simp) ?_
     refine AllReady.cons rfl (fun K9 hK9 => ?_) ?_
     ·
      go_simp
      refine (KT.out _ (HE.out.kept2 HSD.out.gr hC20) HSD.out.sc).mono ?_
      rintro e w' ⟨hG, rfl⟩
      exact ⟨rfl, HSD.out.badS hG (by simp) HO.out⟩
     exact AllReady.nil
    refine AllReady.cons rfl (fun K9 hK9 => ?_) ?_
    ·
     go_simp
     refine (KT.out _ (HE.out.kept2 HSD.out.gr hC20) HSD.out.sc).mono ?_
     rintro e w' ⟨hG, rfl⟩
     exact ⟨rfl, HSD.out.badS hG (by simp) HO.out⟩
    exact AllReady.nil
   exact AllReady.nil
  | some p =>
   obtain ⟨l, r⟩ := p
   have HO := Lib.hid (show oo = some (l, r, k) by rw [← hHO.out, ht]; rfl)
   rw [ht] at KT
   clear hHO ht
   go_enter Tryz.func31, Tryz.ntmps31
   go_wp2_with fail
   generalize ((w.alloc (Obj.cells #[scP B] 62)).alloc (Obj.cells #[cmP C] 68)) = w2 at *
   go_region_held3 (fun W => W.cell? ⟨w.heap.size, 0, none⟩ = some (scP B) ∧ W.cell? ⟨w.heap.size + 1, 0, none⟩ = some (cmP C))
    (first | exact HS0.out | exact HS1.out.keep | exact (HS1.out.setC 3 _).keep)
    (first
     | (go_at_call 70; refine (KT.out _ (HE.out.kept2 HSD.out.gr hC20) HSD.out.sc).mono ?_; rintro e w1 ⟨hG1, u, rfl, hO1, hS1⟩; obtain ⟨A, c, hu, hrow⟩ := rowC_own hO1; subst hu; have HS1 := Lib.hid (HSD.out.step hG1 hS1); obtain ⟨c3, f3⟩ := HS1.out.cell H3.out; have HR1 := Lib.hid (rowC_own hO1); clear hG1 hO1 hS1 hrow))
   go_wp2
   go_end0
   have hz := HSD.out.gr.size
   exact (HS1.out.setC 3 (.slice A l.length c)).finS HO.out ⟨A, c, rfl, (HR1.out.kept (fun i hi => Below.heap_setCell _ _ _ _ (by have := hi.1; dsimp only; omega))).more (fun i hi => ⟨by have := hi.1; omega, by have := hi.2; simpa using this⟩)⟩
end Go.Proofs.YtgmfhldfdnnafaaGreatDoor
