/- The walks of postbagnum.Num: the number of an error: 0 of nil, and each sentinel's place in the document's table. -/
import Derived.Test.YtcalbpdcjklffaaGreatDoorErrIs
import Derived.Laws.Rows
namespace Go.Proofs.YtcalbpdcjklffaaGreatDoor
open Go.RowKit

/-- the thirteen sentinels lie, at thirteen places -/
structure ErrsAt (w : World) (a0 a1 a2 a3 a4 a5 a6 a7 a8 a9 a10 a11 a12 : Addr) : Prop where
  h0 : SentAt w 0 128 a0
  h1 : SentAt w 2 128 a1
  h2 : SentAt w 3 128 a2
  h3 : SentAt w 1 128 a3
  h4 : SentAt w 4 128 a4
  h5 : SentAt w 5 128 a5
  h6 : SentAt w 6 128 a6
  h7 : SentAt w 7 128 a7
  h8 : SentAt w 8 128 a8
  h9 : SentAt w 9 128 a9
  h10 : SentAt w 10 128 a10
  h11 : SentAt w 11 128 a11
  h12 : SentAt w 12 128 a12
  n10 : a1 ≠ a0
  n30 : a3 ≠ a0
  n31 : a3 ≠ a1
  n32 : a3 ≠ a2

theorem SentAt.below {w w1 : World} {g t : Nat} {a : Addr} (h : SentAt w g t a) (hb : Below w.heap.size w w1) : SentAt w1 g t a := by
  obtain ⟨hc, c, t', ht⟩ := h
  exact ⟨(hb.cell (p := ⟨g, 0, none⟩) (World.block_lt_of_cell? w _ hc)).trans hc, c, t', (hb.block _ (Array.getElem?_eq_some_iff.1 ht).1).trans ht⟩
theorem ErrsAt.below {w w1 : World} {a0 a1 a2 a3 a4 a5 a6 a7 a8 a9 a10 a11 a12 : Addr} (h : ErrsAt w a0 a1 a2 a3 a4 a5 a6 a7 a8 a9 a10 a11 a12) (hb : Below w.heap.size w w1) : ErrsAt w1 a0 a1 a2 a3 a4 a5 a6 a7 a8 a9 a10 a11 a12 :=
  ⟨h.h0.below hb, h.h1.below hb, h.h2.below hb, h.h3.below hb, h.h4.below hb, h.h5.below hb, h.h6.below hb, h.h7.below hb, h.h8.below hb, h.h9.below hb, h.h10.below hb, h.h11.below hb, h.h12.below hb, h.n10, h.n30, h.n31, h.n32⟩

set_option maxHeartbeats 400000 in
theorem num_nil (w : World) : Calls Tryz.prog 8 #[.nilIface] w fun e w' => e = .returned (.int .i64 0) ∧ w = w' := by
  go_enter Tryz.func8, Tryz.ntmps8
  go_wp2
  go_ret
  exact ⟨rfl, rfl⟩

set_option maxRecDepth 100000 in
set_option maxHeartbeats 1000000 in
theorem num_range {w : World} {a0 a1 a2 a3 a4 a5 a6 a7 a8 a9 a10 a11 a12 : Addr} (h : ErrsAt w a0 a1 a2 a3 a4 a5 a6 a7 a8 a9 a10 a11 a12) :
    Calls Tryz.prog 8 #[.iface 128 (.pointer (some a0))] w fun e w' => e = .returned (.int .i64 1) ∧ Below w.heap.size w w' := by
  obtain ⟨⟨c0, _⟩, ⟨c1, _⟩, ⟨c2, _⟩, ⟨c3, _⟩, ⟨c4, _⟩, ⟨c5, _⟩, ⟨c6, _⟩, ⟨c7, _⟩, ⟨c8, _⟩, ⟨c9, _⟩, ⟨c10, _⟩, ⟨c11, _⟩, ⟨c12, _⟩, _, _, _, _⟩ := h
  go_enter Tryz.func8, Tryz.ntmps8
  go_wp2
  clear c0 c1 c2 c3 c4 c5 c6 c7 c8 c9 c10 c11 c12
  refine wp_loop_rounds 1 ?_
  rw [rounds_succ]
  go_wp2_with fail
  refine (is_same _ _).mono ?_
  rintro e w' ⟨rfl, rfl⟩
  go_wp2
  go_ret
  exact ⟨rfl, (Below.refl _ _).alloc (Nat.le_refl _) _⟩

theorem block_alloc {w : World} {b : Nat} {c : Array Value} {t : TypeId} (o : Obj) (h : w.heap[b]? = some (.cells c t (0, 0))) : (w.alloc o).heap[b]? = some (.cells c t (0, 0)) :=
  (heap_alloc_old w o (Array.getElem?_eq_some_iff.1 h).1).trans h

set_option maxRecDepth 100000 in
set_option maxHeartbeats 1000000 in
theorem num_form {w : World} {a0 a1 a2 a3 a4 a5 a6 a7 a8 a9 a10 a11 a12 : Addr} (h : ErrsAt w a0 a1 a2 a3 a4 a5 a6 a7 a8 a9 a10 a11 a12) :
    Calls Tryz.prog 8 #[.iface 128 (.pointer (some a1))] w fun e w' => e = .returned (.int .i64 2) ∧ Below w.heap.size w w' := by
  obtain ⟨⟨c0, d0, t0, b0⟩, ⟨c1, d1, t1, b1⟩, ⟨c2, _⟩, ⟨c3, _⟩, ⟨c4, _⟩, ⟨c5, _⟩, ⟨c6, _⟩, ⟨c7, _⟩, ⟨c8, _⟩, ⟨c9, _⟩, ⟨c10, _⟩, ⟨c11, _⟩, ⟨c12, _⟩, n10, _, _, _⟩ := h
  have B0 := Lib.hid b0
  have B1 := Lib.hid b1
  have N10 := Lib.hid n10
  clear b0 b1 n10
  go_enter Tryz.func8, Tryz.ntmps8
  go_wp2
  clear c0 c1 c2 c3 c4 c5 c6 c7 c8 c9 c10 c11 c12
  refine wp_loop_rounds 2 ?_
  rw [rounds_succ]
  go_wp2_with fail
  refine (is_other _ _ _ _ _ _ _ N10.out (block_alloc _ B1.out) (block_alloc _ B0.out)).mono ?_
  rintro e w' ⟨rfl, rfl⟩
  go_wp2
  rw [rounds_succ]
  go_wp2_with fail
  refine (is_same _ _).mono ?_
  rintro e w' ⟨rfl, rfl⟩
  go_wp2
  go_ret
  exact ⟨rfl, (Below.refl _ _).alloc (Nat.le_refl _) _⟩

set_option maxRecDepth 100000 in
set_option maxHeartbeats 1000000 in
theorem num_name {w : World} {a0 a1 a2 a3 a4 a5 a6 a7 a8 a9 a10 a11 a12 : Addr} (h : ErrsAt w a0 a1 a2 a3 a4 a5 a6 a7 a8 a9 a10 a11 a12) :
    Calls Tryz.prog 8 #[.iface 128 (.pointer (some a3))] w fun e w' => e = .returned (.int .i64 4) ∧ Below w.heap.size w w' := by
  obtain ⟨⟨c0, d0, t0, b0⟩, ⟨c1, d1, t1, b1⟩, ⟨c2, d2, t2, b2⟩, ⟨c3, d3, t3, b3⟩, ⟨c4, _⟩, ⟨c5, _⟩, ⟨c6, _⟩, ⟨c7, _⟩, ⟨c8, _⟩, ⟨c9, _⟩, ⟨c10, _⟩, ⟨c11, _⟩, ⟨c12, _⟩, _, n30, n31, n32⟩ := h
  have B0 := Lib.hid b0
  have B1 := Lib.hid b1
  have B2 := Lib.hid b2
  have B3 := Lib.hid b3
  have N30 := Lib.hid n30
  have N31 := Lib.hid n31
  have N32 := Lib.hid n32
  clear b0 b1 b2 b3 n30 n31 n32
  go_enter Tryz.func8, Tryz.ntmps8
  go_wp2
  clear c0 c1 c2 c3 c4 c5 c6 c7 c8 c9 c10 c11 c12
  refine wp_loop_rounds 4 ?_
  rw [rounds_succ]
  go_wp2_with fail
  refine (is_other _ _ _ _ _ _ _ N30.out (block_alloc _ B3.out) (block_alloc _ B0.out)).mono ?_
  rintro e w' ⟨rfl, rfl⟩
  go_wp2
  rw [rounds_succ]
  go_wp2_with fail
  refine (is_other _ _ _ _ _ _ _ N31.out (block_alloc _ B3.out) (block_alloc _ B1.out)).mono ?_
  rintro e w' ⟨rfl, rfl⟩
  go_wp2
  rw [rounds_succ]
  go_wp2_with fail
  refine (is_other _ _ _ _ _ _ _ N32.out (block_alloc _ B3.out) (block_alloc _ B2.out)).mono ?_
  rintro e w' ⟨rfl, rfl⟩
  go_wp2
  rw [rounds_succ]
  go_wp2_with fail
  refine (is_same _ _).mono ?_
  rintro e w' ⟨rfl, rfl⟩
  go_wp2
  go_ret
  exact ⟨rfl, (Below.refl _ _).alloc (Nat.le_refl _) _⟩
end Go.Proofs.YtcalbpdcjklffaaGreatDoor
