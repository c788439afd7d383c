/- The walk of path.Parse. -/
import Derived.Test.YtcalbpdcjklffaaGreatDoorTake
namespace Go.Proofs.YtcalbpdcjklffaaGreatDoor
open Go.RowKit
open Pl (Bs idxB goLocal goDomain)
set_option linter.unusedSimpArgs false
set_option linter.unusedVariables false
def pOk (s : ByteArray) : Bool := tOk s && (tRest s).toList.isEmpty
def pLo (s : ByteArray) : ByteArray := if pOk s = true then tLo s else ⟨#[]⟩
def pD (s : ByteArray) : ByteArray := if pOk s = true then tD s else ⟨#[]⟩
def pV (s : ByteArray) (v : Value) : Value := .tuple #[.agg #[.string (pLo s), .string (pD s)], if pOk s = true then .nilIface else v]
/-- a world with a path's two cells at a block -/
structure PathAt (w : World) (b : Nat) (lo d : ByteArray) : Prop where
  heap : w.heap[b]? = some (Obj.cells #[.string lo, .string d] 45)
theorem PathAt.then {w w1 : World} {b : Nat} {lo d : ByteArray} (h : PathAt w b lo d) (hb : Below w.heap.size w w1) : PathAt w1 b lo d := ⟨(hb.block _ (Array.getElem?_eq_some_iff.1 h.heap).1).trans h.heap⟩
theorem PathAt.fresh (w : World) (lo d : ByteArray) : PathAt (w.alloc (Obj.cells #[.string lo, .string d] 45)) w.heap.size lo d := ⟨World.alloc_heap_new w _⟩
theorem PathAt.lt {w : World} {b : Nat} {lo d : ByteArray} (h : PathAt w b lo d) : b < w.heap.size := (Array.getElem?_eq_some_iff.1 h.heap).1
theorem PathAt.put {w : World} {b c : Nat} {lo d : ByteArray} (h : PathAt w b lo d) (hc : c ≠ b) (i : Nat) (x : Value) : PathAt (w.setCell ⟨c, i, none⟩ x) b lo d := ⟨(Below.heap_setCell w _ x b (fun e => hc e.symm)).trans h.heap⟩
/-- a path's new cells, and what is stored in them -/
theorem path_laid (w : World) (lo d : ByteArray) {w3 w4 : World} (h3 : w.alloc (Obj.cells #[.string ⟨#[]⟩, .string ⟨#[]⟩] 45) = w3)
    (h4 : (w3.setCell ⟨w.heap.size, 0, none⟩ (.string lo)).setCell ⟨w.heap.size, 1, none⟩ (.string d) = w4) : Below w.heap.size w w4 ∧ PathAt w4 w.heap.size lo d ∧ PathAt w3 w.heap.size ⟨#[]⟩ ⟨#[]⟩ := by
  subst h4
  subst h3
  have hP := PathAt.fresh w ⟨#[]⟩ ⟨#[]⟩
  refine ⟨(((Below.refl _ _).alloc (Nat.le_refl _) _).setCell (Nat.le_refl _) _).setCell (Nat.le_refl _) _, ⟨?_⟩, hP⟩
  have h0 := hP.heap
  obtain ⟨hl, hx⟩ := Array.getElem?_eq_some_iff.1 h0
  simp [World.setCell, Array.getElem_modify]
  rw [hx]
  rfl
theorem alloc_below (w : World) (o : Obj) : Below w.heap.size w (w.alloc o) := (Below.refl _ _).alloc (Nat.le_refl _) _
theorem sent_then {w w1 : World} {g : Nat} {v : Value} (h : w.cell? ⟨g, 0, none⟩ = some v) (hb : Below w.heap.size w w1) : w1.cell? ⟨g, 0, none⟩ = some v := (hb.cell (p := ⟨g, 0, none⟩) (World.block_lt_of_cell? w _ h)).trans h
set_option maxHeartbeats 4000000 in
set_option maxRecDepth 100000 in
theorem parse_walk (s : ByteArray) (v : Value) (w : World) (hs : s.size ≤ 140737488351232) (hc : w.cell? ⟨2, 0, none⟩ = some v) (hv : ∃ t x, v = .iface t x) :
    Calls Tryz.prog 33 #[.string s] w fun e w' => e = .returned (pV s v) ∧ Below w.heap.size w w' := by
  have HC := Lib.hid hc
  have zg : 2 < w.heap.size := World.block_lt_of_cell? w _ hc
  clear hc
  have hT : ∀ W : World, W.cell? ⟨2, 0, none⟩ = some v → Calls Tryz.prog 51 #[.string s] W fun e w' => e = .returned (tV s v) ∧ Below W.heap.size W w' := fun W h => take_walk s v W hs h hv
  obtain ⟨ty, x, rfl⟩ := hv
  have HT := Lib.hid hT
  clear hT
  go_enter Tryz.func33, Tryz.ntmps33
  go_wp2_with fail
  have hA := PathAt.fresh w ⟨#[]⟩ ⟨#[]⟩
  have hS := sent_then HC.out (alloc_below w (Obj.cells #[.string ⟨#[]⟩, .string ⟨#[]⟩] 45))
  have hB := alloc_below w (Obj.cells #[.string ⟨#[]⟩, .string ⟨#[]⟩] 45)
  generalize w.alloc (Obj.cells #[.string ⟨#[]⟩, .string ⟨#[]⟩] 45) = w1 at *
  have HA := Lib.hid hA
  have HS := Lib.hid hS
  have HB := Lib.hid hB
  clear hA hS hB
  refine (HT.out _ HS.out).mono ?_
  rintro e w2 ⟨rfl, hB2⟩
  have HB2 := Lib.hid hB2
  have HS2 := Lib.hid (sent_then HS.out hB2)
  have HA2 := Lib.hid (HA.out.then hB2)
  clear hB2
  cases ht : tOk s with
  | false =>
    have hV : pV s (.iface ty x) = .tuple #[.agg #[.string ⟨#[]⟩, .string ⟨#[]⟩], .iface ty x] := by rw [pV, pLo, pD, pOk, ht]; rfl
    have hT : tV s (.iface ty x) = .tuple #[.agg #[.string ⟨#[]⟩, .string ⟨#[]⟩], .string ⟨#[]⟩, .iface ty x] := by rw [tV, ht]; rfl
    rw [hT]
    have HV := Lib.hid hV
    clear hV hT ht
    generalize h3 : w2.alloc (Obj.cells #[.string ⟨#[]⟩, .string ⟨#[]⟩] 45) = w3
    generalize h4 : (w3.setCell ⟨w2.heap.size, 0, none⟩ (.string ⟨#[]⟩)).setCell ⟨w2.heap.size, 1, none⟩ (.string ⟨#[]⟩) = w4
    obtain ⟨hB4, hP4, hP3⟩ := path_laid w2 ⟨#[]⟩ ⟨#[]⟩ h3 h4
    have HB4 := Lib.hid (below_then (below_then HB.out HB2.out) hB4)
    have HS4 := Lib.hid (sent_then HS2.out hB4)
    obtain ⟨p2, p3, p4, p5⟩ := two_cells hP3.heap
    obtain ⟨q2, q3, q4, q5⟩ := two_cells hP4.heap
    obtain ⟨r2, r3, r4, r5⟩ := two_cells (HA2.out.then hB4).heap
    clear hB4 hP3 hP4
    go_wp2
    have s4 := HS4.out
    go_region
    all_goals
      go_wp2
      refine bodyPost_ret (v := pV s (.iface ty x)) ?_ rfl ⟨rfl, below_drew ((HB4.out.setCell (Nat.le_refl _) _).setCell (Nat.le_refl _) _)⟩
      rw [HV.out, results_cell_tmp rfl]
      simp [go_sem, r2, r3]
  | true =>
    cases hr : (tRest s).toList.isEmpty with
    | true =>
      have hV : pV s (.iface ty x) = .tuple #[.agg #[.string (tLo s), .string (tD s)], .nilIface] := by rw [pV, pLo, pD, pOk, ht, hr]; rfl
      have hT : tV s (.iface ty x) = .tuple #[.agg #[.string (tLo s), .string (tD s)], .string (tRest s), .nilIface] := by rw [tV, ht]; rfl
      rw [hT]
      have HV := Lib.hid hV
      clear hV hT ht
      generalize h3 : w2.alloc (Obj.cells #[.string ⟨#[]⟩, .string ⟨#[]⟩] 45) = w3
      generalize h4 : (w3.setCell ⟨w2.heap.size, 0, none⟩ (.string (tLo s))).setCell ⟨w2.heap.size, 1, none⟩ (.string (tD s)) = w4
      obtain ⟨hB4, hP4, hP3⟩ := path_laid w2 (tLo s) (tD s) h3 h4
      have HB4 := Lib.hid (below_then (below_then HB.out HB2.out) hB4)
      have HS4 := Lib.hid (sent_then HS2.out hB4)
      obtain ⟨p2, p3, p4, p5⟩ := two_cells hP3.heap
      obtain ⟨q2, q3, q4, q5⟩ := two_cells hP4.heap
      obtain ⟨r2, r3, r4, r5⟩ := two_cells (HA2.out.then hB4).heap
      clear hB4 hP3 hP4
      go_wp2
      refine bodyPost_ret (v := pV s (.iface ty x)) ?_ rfl ⟨rfl, (HB4.out.setCell (Nat.le_refl _) _).setCell (Nat.le_refl _) _⟩
      rw [HV.out, results_cell_tmp rfl]
      simp [go_sem, r2, r3]
    | false =>
      have hV : pV s (.iface ty x) = .tuple #[.agg #[.string ⟨#[]⟩, .string ⟨#[]⟩], .iface ty x] := by rw [pV, pLo, pD, pOk, ht, hr]; rfl
      have hT : tV s (.iface ty x) = .tuple #[.agg #[.string (tLo s), .string (tD s)], .string (tRest s), .nilIface] := by rw [tV, ht]; rfl
      rw [hT]
      have HV := Lib.hid hV
      clear hV hT ht
      generalize h3 : w2.alloc (Obj.cells #[.string ⟨#[]⟩, .string ⟨#[]⟩] 45) = w3
      generalize h4 : (w3.setCell ⟨w2.heap.size, 0, none⟩ (.string (tLo s))).setCell ⟨w2.heap.size, 1, none⟩ (.string (tD s)) = w4
      obtain ⟨hB4, hP4, hP3⟩ := path_laid w2 (tLo s) (tD s) h3 h4
      have HB4 := Lib.hid (below_then (below_then HB.out HB2.out) hB4)
      have HS4 := Lib.hid (sent_then HS2.out hB4)
      obtain ⟨p2, p3, p4, p5⟩ := two_cells hP3.heap
      obtain ⟨q2, q3, q4, q5⟩ := two_cells hP4.heap
      obtain ⟨r2, r3, r4, r5⟩ := two_cells (HA2.out.then hB4).heap
      clear hB4 hP3 hP4
      go_wp2
      have s4 := HS4.out
      go_region
      all_goals
        go_wp2
        refine bodyPost_ret (v := pV s (.iface ty x)) ?_ rfl ⟨rfl, below_drew ((HB4.out.setCell (Nat.le_refl _) _).setCell (Nat.le_refl _) _)⟩
        rw [HV.out, results_cell_tmp rfl]
        simp [go_sem, r2, r3]
end Go.Proofs.YtcalbpdcjklffaaGreatDoor
