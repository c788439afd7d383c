/- The walk of dates.clock. -/
import Derived.Test.YtcalbpdcjklffaaGreatDoorDatesB
import Derived.Deep.RegionHeld3
namespace Go.Proofs.YtcalbpdcjklffaaGreatDoor
open Go.RowKit
set_option linter.unusedSimpArgs false
set_option linter.unusedVariables false
def clockS (h mi s : Int) : ByteArray := twoS h ⟨#[48]⟩ ++ ⟨#[58]⟩ ++ twoS mi ⟨#[48]⟩ ++ ⟨#[58]⟩ ++ twoS s ⟨#[48]⟩
/-- what a walk over a date's box carries from world to world -/
def boxS (w0 : World) (B : Nat) (h mi s : Int) (W : World) : Prop := W.cell? ⟨B, 3, none⟩ = some (.int .i64 h) ∧ W.cell? ⟨B, 4, none⟩ = some (.int .i64 mi) ∧ W.cell? ⟨B, 5, none⟩ = some (.int .i64 s) ∧ Hid (B < W.heap.size) ∧ Hid (TabW W) ∧ Hid (Below w0.heap.size w0 W)
theorem boxS.then {w0 : World} {B : Nat} {h mi s : Int} {W W1 : World} (k : boxS w0 B h mi s W) (hb : Below W.heap.size W W1) : boxS w0 B h mi s W1 := by
  obtain ⟨k1, k2, k3, k4, k5, k6⟩ := k
  exact ⟨(hb.cell (p := ⟨B, 3, none⟩) k4.out).trans k1, (hb.cell (p := ⟨B, 4, none⟩) k4.out).trans k2, (hb.cell (p := ⟨B, 5, none⟩) k4.out).trans k3, Lib.hid (Nat.lt_of_lt_of_le k4.out hb.size), Lib.hid (k5.out.then hb), Lib.hid (below_then k6.out hb)⟩
theorem boxS.tab {w0 : World} {B : Nat} {h mi s : Int} {W : World} (k : boxS w0 B h mi s W) : TabW W := k.2.2.2.2.1.out
theorem below_drew0 {B : Nat} {w W : World} (h : Below B w W) : Below B w W.drew := ⟨h.os, h.tape, h.output, h.size, h.block⟩
set_option maxHeartbeats 4000000 in
set_option maxRecDepth 100000 in
theorem clock_walk (y m d h mi s wk : Int) (a0 : 0 ≤ h) (a1 : h ≤ 99) (b0 : 0 ≤ mi) (b1 : mi ≤ 99) (c0 : 0 ≤ s) (c1 : s ≤ 99) (w : World) (ht : TabW w) :
    Calls Tryz.prog 30 #[civ y m d h mi s wk] w fun e w' => e = .returned (.string (clockS h mi s)) ∧ Below w.heap.size w w' := by
  have hC := civ_boxed w y m d h mi s wk
  have hB := alloc_b w (Obj.cells #[.int .i64 y, .int .i64 m, .int .i64 d, .int .i64 h, .int .i64 mi, .int .i64 s, .int .i64 wk] 51)
  have hT := ht.then hB
  generalize hw : w.alloc (Obj.cells #[.int .i64 y, .int .i64 m, .int .i64 d, .int .i64 h, .int .i64 mi, .int .i64 s, .int .i64 wk] 51) = w1 at hC hB hT
  obtain ⟨e0, e1, e2, e3, e4, e5, e6⟩ := hC.cells
  have HB := Lib.hid hB
  have HT := Lib.hid hT
  have HL := Lib.hid hC.lt
  have z0 : (⟨#[48]⟩ : ByteArray).size ≤ 1 := by decide
  have zh := twoS_size h a1 ⟨#[48]⟩ z0
  have zm := twoS_size mi b1 ⟨#[48]⟩ z0
  have zs := twoS_size s c1 ⟨#[48]⟩ z0
  have q1 : ¬ 9223372036854775807 < (twoS h ⟨#[48]⟩).size + 1 := by omega
  have q2 : ¬ 9223372036854775807 < (twoS h ⟨#[48]⟩).size + 1 + (twoS mi ⟨#[48]⟩).size := by omega
  have q3 : ¬ 9223372036854775807 < (twoS h ⟨#[48]⟩).size + 1 + (twoS mi ⟨#[48]⟩).size + 1 := by omega
  have q4 : ¬ 9223372036854775807 < (twoS h ⟨#[48]⟩).size + 1 + (twoS mi ⟨#[48]⟩).size + 1 + (twoS s ⟨#[48]⟩).size := by omega
  have HV := Lib.hid (show clockS h mi s = twoS h ⟨#[48]⟩ ++ ⟨#[58]⟩ ++ twoS mi ⟨#[48]⟩ ++ ⟨#[58]⟩ ++ twoS s ⟨#[48]⟩ from rfl)
  have K := Lib.hid (fun n (g0 : 0 ≤ n) (g1 : n ≤ 99) W => two_walk n g0 g1 ⟨#[48]⟩ z0 W)
  clear hC hB hT ht e0 e1 e2 e6 z0
  go_enter Tryz.func30, Tryz.ntmps30
  go_wp2
  clear hw
  have S0 := Lib.hid (show boxS w w.heap.size h mi s w1.drew from ⟨e3, e4, e5, HL, Lib.hid (show TabW w1 from HT.out), Lib.hid (below_drew0 HB.out)⟩)
  go_region_held3 (fun W => W.cell? ⟨w.heap.size, 3, none⟩ = some (.int .i64 h) ∧ W.cell? ⟨w.heap.size, 4, none⟩ = some (.int .i64 mi) ∧ W.cell? ⟨w.heap.size, 5, none⟩ = some (.int .i64 s) ∧ Hid (w.heap.size < W.heap.size) ∧ Hid (TabW W) ∧ Hid (Below w.heap.size w W))
    (first | exact S0.out | (refine boxS.then (w0 := w) (B := w.heap.size) (h := h) (mi := mi) (s := s) ?_ hBx; assumption))
    (first
      | (go_at_call 28; refine (K.out _ (by assumption) (by assumption) _ ?_).mono ?_; (refine boxS.tab (w0 := w) (B := w.heap.size) (h := h) (mi := mi) (s := s) ?_; assumption); rintro e w' ⟨rfl, hBx⟩))
  rename_i hH
  have HBe := hH.2.2.2.2.2
  clear hH
  go_wp2
  go_ret
  exact ⟨by rw [HV.out]; rfl, HBe.out⟩
end Go.Proofs.YtcalbpdcjklffaaGreatDoor
