/- The walk of path.Take. -/
import Derived.Test.YtcalbpdcjklffaaGreatDoorRefTake
import Derived.Test.YtcalbpdcjklffaaGreatDoorDotWalk
import Derived.Test.YtcalbpdcjklffaaGreatDoorOwn
namespace Go.Proofs.YtcalbpdcjklffaaGreatDoor
open Go.RowKit
open Pl (Bs idxB goLocal goDomain)
def tIn (s : ByteArray) : ByteArray := preR 60 (cutL 62 s)
def tLo (s : ByteArray) : ByteArray := cutL 64 (tIn s)
def tD (s : ByteArray) : ByteArray := cutR 64 (tIn s)
def tRest (s : ByteArray) : ByteArray := cutR 62 s
def tOk (s : ByteArray) : Bool := preF 60 (cutL 62 s) && cutF 62 s && ((tIn s).toList.isEmpty || (cutF 64 (tIn s) && goLocal (bs (tLo s)) && goDomain (bs (tD s))))
def tV (s : ByteArray) (v : Value) : Value := if tOk s = true then .tuple #[.agg #[.string (tLo s), .string (tD s)], .string (tRest s), .nilIface] else .tuple #[.agg #[.string ⟨#[]⟩, .string ⟨#[]⟩], .string ⟨#[]⟩, v]
theorem results_cell_tmp2 {fn : Func} {p u u2 : Tmp} {ty : TypeId} (h : fn.results = #[.cell p ty, .tmp u, .tmp u2]) (tmps : Array Value) (P : Program) (w : World) :
    (results fn tmps).run P w =
      ((asAddr (tmps.getD p undef)).run P w).andThen fun a w₁ => ((loadVar ty a).run P w₁).andThen fun v w₂ => .ok (.tuple #[v, tmps.getD u undef, tmps.getD u2 undef]) w₂ := by
  simp only [results, h]
  simp [Sem.run_bind, Result.andThen]
/-- where Take stands: its result's cells, the path's, and the sentinel's -/
structure TakeAt (w w2 : World) (lo d : ByteArray) (v : Value) : Prop where
  below : Below w.heap.size w w2
  size : w.heap.size + 2 ≤ w2.heap.size
  res : w2.heap[w.heap.size]? = some (Obj.cells #[.string ⟨#[]⟩, .string ⟨#[]⟩] 45)
  own : w2.heap[w.heap.size + 1]? = some (Obj.cells #[.string lo, .string d] 45)
  sent : w2.cell? ⟨2, 0, none⟩ = some v
theorem two_cells {w : World} {b : Nat} {t : TypeId} {x y : Value} (h : w.heap[b]? = some (Obj.cells #[x, y] t)) :
    w.cell? ⟨b, 0, none⟩ = some x ∧ w.cell? ⟨b, 1, none⟩ = some y ∧ w.frozen? ⟨b, 0, none⟩ = false ∧ w.frozen? ⟨b, 1, none⟩ = false := by
  refine ⟨?_, ?_, ?_, ?_⟩
  · simp [World.cell?, h]
  · simp [World.cell?, h]
  · simp [World.frozen?, h]
  · simp [World.frozen?, h]
theorem TakeAt.then {w w2 w3 : World} {lo d : ByteArray} {v : Value} (h : TakeAt w w2 lo d v) (hb : Below w2.heap.size w2 w3) : TakeAt w w3 lo d v :=
  ⟨below_then h.below hb, Nat.le_trans h.size hb.size, (hb.block _ (by have := h.size; omega)).trans h.res, (hb.block _ (by have := h.size; omega)).trans h.own, (hb.cell (p := ⟨2, 0, none⟩) (World.block_lt_of_cell? w2 _ h.sent)).trans h.sent⟩
theorem TakeAt.make {w w1 : World} {lo d : ByteArray} {v : Value} (hb : Below w.heap.size w w1) (n1 : w1.heap.size = w.heap.size + 1) (o1 : w1.heap[w.heap.size]? = some (Obj.cells #[.string ⟨#[]⟩, .string ⟨#[]⟩] 45)) (hc : w.cell? ⟨2, 0, none⟩ = some v) :
    TakeAt w (w1.alloc (Obj.cells #[.string lo, .string d] 45)) lo d v := by
  have hB := hb.alloc (by omega) (Obj.cells #[.string lo, .string d] 45)
  refine ⟨hB, by simp; omega, (Below.heap_alloc _ _ _ (by omega)).trans o1, ?_, (hB.cell (p := ⟨2, 0, none⟩) (World.block_lt_of_cell? w _ hc)).trans hc⟩
  rw [← n1]; exact World.alloc_heap_new w1 _
theorem size_cutL (x : UInt8) (s : ByteArray) : (cutL x s).size ≤ s.size := by rw [← bs_size, bs_cutL, List.length_take, ← bs_size]; omega
theorem size_cutR (x : UInt8) (s : ByteArray) : (cutR x s).size ≤ s.size := by rw [← bs_size, bs_cutR, List.length_drop, ← bs_size]; omega
theorem size_preR (x : UInt8) (s : ByteArray) : (preR x s).size ≤ s.size := by rw [← bs_size, bs_preR, ← bs_size]; split <;> simp
set_option maxHeartbeats 4000000 in
set_option maxRecDepth 100000 in
theorem take_walk (s : ByteArray) (v : Value) (w : World) (hs : s.size ≤ 140737488351232) (hc : w.cell? ⟨2, 0, none⟩ = some v) (hv : ∃ t x, v = .iface t x) :
    Calls Tryz.prog 51 #[.string s] w fun e w' => e = .returned (tV s v) ∧ Below w.heap.size w w' := by
  have z1 := size_cutL 62 s
  have z2 := size_preR 60 (cutL 62 s)
  have z3 := size_cutL 64 (tIn s)
  have z4 := size_cutR 64 (tIn s)
  rw [← tIn] at z2
  rw [← tLo] at z3
  rw [← tD] at z4
  have c1 : ∀ W, Calls Tryz.prog 61 #[.string s, .string ⟨#[62]⟩] W (fun e w' => e = .returned (.tuple #[.string (cutL 62 s), .string (tRest s), .bool (cutF 62 s)]) ∧ ∃ q, w' = W.drewN q) := fun W => cut_walk s 62 W (by omega)
  have c2 : ∀ W, Calls Tryz.prog 62 #[.string (cutL 62 s), .string ⟨#[60]⟩] W (fun e w' => e = .returned (.tuple #[.string (tIn s), .bool (preF 60 (cutL 62 s))]) ∧ W = w') := fun W => cutPre_walk (cutL 62 s) 60 W (by omega)
  have c3 : ∀ W, Calls Tryz.prog 61 #[.string (tIn s), .string ⟨#[64]⟩] W (fun e w' => e = .returned (.tuple #[.string (tLo s), .string (tD s), .bool (cutF 64 (tIn s))]) ∧ ∃ q, w' = W.drewN q) := fun W => cut_walk (tIn s) 64 W (by omega)
  have C1 := Lib.hid c1
  have C2 := Lib.hid c2
  have C3 := Lib.hid c3
  clear c1 c2 c3
  have HC := Lib.hid hc
  have zg : 2 < w.heap.size := World.block_lt_of_cell? w _ hc
  clear hc
  obtain ⟨ty, x, rfl⟩ := hv
  go_enter Tryz.func51, Tryz.ntmps51
  go_wp2_with fail
  refine (C1.out _).mono ?_
  rintro e w' ⟨rfl, q1, rfl⟩
  go_wp2_with fail
  refine (C2.out _).mono ?_
  rintro e w' ⟨rfl, rfl⟩
  go_wp2_with fail
  refine (C3.out _).mono ?_
  rintro e w' ⟨rfl, q3, rfl⟩
  generalize hW : World.drewN (World.drewN (w.alloc (Obj.cells #[.string ⟨#[]⟩, .string ⟨#[]⟩] 45)) q1) q3 = w1
  have B1 : Below w.heap.size w w1 := by rw [← hW]; exact below_draws (below_draws ((Below.refl _ _).alloc (Nat.le_refl _) _) q1) q3
  have n1 : w1.heap.size = w.heap.size + 1 := by rw [← hW]; simp
  have o1 : w1.heap[w.heap.size]? = some (Obj.cells #[.string ⟨#[]⟩, .string ⟨#[]⟩] 45) := by rw [← hW]; exact World.alloc_heap_new w _
  have HB1 := Lib.hid B1
  have HO1 := Lib.hid o1
  clear hW B1 o1
  have hA := TakeAt.make (lo := tLo s) (d := tD s) HB1.out n1 HO1.out HC.out
  generalize hW2 : w1.alloc (Obj.cells #[.string (tLo s), .string (tD s)] 45) = w2 at hA
  have HA := Lib.hid hA
  have HW2 := Lib.hid hW2
  clear hA hW2
  cases hb : preF 60 (cutL 62 s) with
  | false =>
    have ht : tOk s = false := by rw [tOk, hb]; rfl
    have hV : tV s (.iface ty x) = .tuple #[.agg #[.string ⟨#[]⟩, .string ⟨#[]⟩], .string ⟨#[]⟩, .iface ty x] := by rw [tV, ht]; rfl
    have HV := Lib.hid hV
    clear ht hV
    go_wp2
    rw [HW2.out]
    obtain ⟨r2, r3, r4, r5⟩ := two_cells HA.out.res
    have s2 := HA.out.sent
    go_region
    all_goals
      go_wp2
      refine bodyPost_ret (v := tV s (.iface ty x)) ?_ rfl ⟨rfl, below_drew ((HA.out.below.setCell (Nat.le_refl _) _).setCell (Nat.le_refl _) _)⟩
      rw [HV.out, results_cell_tmp2 rfl]
      simp [go_sem, r2, r3]
  | true =>
    cases he : cutF 62 s with
    | false =>
      have ht : tOk s = false := by rw [tOk, hb, he]; rfl
      have hV : tV s (.iface ty x) = .tuple #[.agg #[.string ⟨#[]⟩, .string ⟨#[]⟩], .string ⟨#[]⟩, .iface ty x] := by rw [tV, ht]; rfl
      have HV := Lib.hid hV
      clear ht hV
      go_wp2
      rw [HW2.out]
      obtain ⟨r2, r3, r4, r5⟩ := two_cells HA.out.res
      have s2 := HA.out.sent
      go_region
      all_goals
        go_wp2
        refine bodyPost_ret (v := tV s (.iface ty x)) ?_ rfl ⟨rfl, below_drew ((HA.out.below.setCell (Nat.le_refl _) _).setCell (Nat.le_refl _) _)⟩
        rw [HV.out, results_cell_tmp2 rfl]
        simp [go_sem, r2, r3]
    | true =>
      cases hi : (tIn s).toList.isEmpty with
      | true =>
        have ht : tOk s = true := by rw [tOk, hb, he, hi]; rfl
        have hV : tV s (.iface ty x) = .tuple #[.agg #[.string (tLo s), .string (tD s)], .string (tRest s), .nilIface] := by rw [tV, ht]; rfl
        have HV := Lib.hid hV
        clear ht hV
        have hw2 := HW2.out
        obtain ⟨r2, r3, r4, r5⟩ := two_cells HA.out.res
        obtain ⟨p2, p3, p4, p5⟩ := two_cells HA.out.own
        go_wp2
        refine bodyPost_ret (v := tV s (.iface ty x)) ?_ rfl ⟨rfl, (HA.out.below.setCell (Nat.le_refl _) _).setCell (Nat.le_refl _) _⟩
        rw [HV.out, results_cell_tmp2 rfl]
        simp [go_sem, r2, r3]
      | false =>
        cases ha : cutF 64 (tIn s) with
        | false =>
          have ht : tOk s = false := by rw [tOk, hb, he, hi, ha]; rfl
          have hV : tV s (.iface ty x) = .tuple #[.agg #[.string ⟨#[]⟩, .string ⟨#[]⟩], .string ⟨#[]⟩, .iface ty x] := by rw [tV, ht]; rfl
          have HV := Lib.hid hV
          clear ht hV
          go_wp2
          rw [HW2.out]
          obtain ⟨r2, r3, r4, r5⟩ := two_cells HA.out.res
          have s2 := HA.out.sent
          go_region
          all_goals
            go_wp2
            refine bodyPost_ret (v := tV s (.iface ty x)) ?_ rfl ⟨rfl, below_drew ((HA.out.below.setCell (Nat.le_refl _) _).setCell (Nat.le_refl _) _)⟩
            rw [HV.out, results_cell_tmp2 rfl]
            simp [go_sem, r2, r3]
        | true =>
          cases hL : goLocal (bs (tLo s)) with
          | false =>
            have ht : tOk s = false := by rw [tOk, hb, he, hi, ha, hL]; rfl
            have hV : tV s (.iface ty x) = .tuple #[.agg #[.string ⟨#[]⟩, .string ⟨#[]⟩], .string ⟨#[]⟩, .iface ty x] := by rw [tV, ht]; rfl
            have HV := Lib.hid hV
            clear ht hV
            go_wp2_with fail
            rw [HW2.out]
            refine (local_walk _ _ (by omega)).mono ?_
            rintro e w3 ⟨rfl, hB0⟩
            rw [dot_local, hL]
            have HA1 := Lib.hid (HA.out.then hB0)
            clear hB0
            go_wp2
            obtain ⟨r2, r3, r4, r5⟩ := two_cells HA1.out.res
            have s2 := HA1.out.sent
            go_region
            all_goals
              go_wp2
              refine bodyPost_ret (v := tV s (.iface ty x)) ?_ rfl ⟨rfl, below_drew ((HA1.out.below.setCell (Nat.le_refl _) _).setCell (Nat.le_refl _) _)⟩
              rw [HV.out, results_cell_tmp2 rfl]
              simp [go_sem, r2, r3]
          | true =>
            cases hD : goDomain (bs (tD s)) with
            | false =>
              have ht : tOk s = false := by rw [tOk, hb, he, hi, ha, hL, hD]; rfl
              have hV : tV s (.iface ty x) = .tuple #[.agg #[.string ⟨#[]⟩, .string ⟨#[]⟩], .string ⟨#[]⟩, .iface ty x] := by rw [tV, ht]; rfl
              have HV := Lib.hid hV
              clear ht hV
              go_wp2_with fail
              rw [HW2.out]
              refine (local_walk _ _ (by omega)).mono ?_
              rintro e w3 ⟨rfl, hB0⟩
              rw [dot_local, hL]
              have HA1 := Lib.hid (HA.out.then hB0)
              clear hB0
              go_wp2_with fail
              refine (domain_walk _ _ (by omega)).mono ?_
              rintro e w4 ⟨rfl, hB1⟩
              rw [dot_domain, hD]
              have HA2 := Lib.hid (HA1.out.then hB1)
              clear hB1
              go_wp2
              obtain ⟨r2, r3, r4, r5⟩ := two_cells HA2.out.res
              have s2 := HA2.out.sent
              go_region
              all_goals
                go_wp2
                refine bodyPost_ret (v := tV s (.iface ty x)) ?_ rfl ⟨rfl, below_drew ((HA2.out.below.setCell (Nat.le_refl _) _).setCell (Nat.le_refl _) _)⟩
                rw [HV.out, results_cell_tmp2 rfl]
                simp [go_sem, r2, r3]
            | true =>
              have ht : tOk s = true := by rw [tOk, hb, he, hi, ha, hL, hD]; rfl
              have hV : tV s (.iface ty x) = .tuple #[.agg #[.string (tLo s), .string (tD s)], .string (tRest s), .nilIface] := by rw [tV, ht]; rfl
              have HV := Lib.hid hV
              clear ht hV
              go_wp2_with fail
              rw [HW2.out]
              refine (local_walk _ _ (by omega)).mono ?_
              rintro e w3 ⟨rfl, hB0⟩
              rw [dot_local, hL]
              have HA1 := Lib.hid (HA.out.then hB0)
              clear hB0
              go_wp2_with fail
              refine (domain_walk _ _ (by omega)).mono ?_
              rintro e w4 ⟨rfl, hB1⟩
              rw [dot_domain, hD]
              have HA2 := Lib.hid (HA1.out.then hB1)
              clear hB1
              obtain ⟨r2, r3, r4, r5⟩ := two_cells HA2.out.res
              obtain ⟨p2, p3, p4, p5⟩ := two_cells HA2.out.own
              go_wp2
              refine bodyPost_ret (v := tV s (.iface ty x)) ?_ rfl ⟨rfl, (HA2.out.below.setCell (Nat.le_refl _) _).setCell (Nat.le_refl _) _⟩
              rw [HV.out, results_cell_tmp2 rfl]
              simp [go_sem, r2, r3]
end Go.Proofs.YtcalbpdcjklffaaGreatDoor
