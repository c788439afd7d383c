/- The walks of dates.Mail's own function, text and Mail at moments in range. -/
import Derived.Test.YtcalbpdcjklffaaGreatDoorClock
namespace Go.Proofs.YtcalbpdcjklffaaGreatDoor
open Go.RowKit
open Pl (civN)
set_option linter.unusedSimpArgs false
set_option linter.unusedVariables false
def mailS (y m d h mi s wk : Int) : ByteArray := weekS wk ++ ⟨#[44, 32]⟩ ++ twoS d ⟨#[48]⟩ ++ ⟨#[32]⟩ ++ monthS m ++ ⟨#[32]⟩ ++ decS y.toNat ++ ⟨#[32]⟩ ++ clockS h mi s ++ ⟨#[32, 43, 48, 48, 48, 48]⟩
def boxC (w0 : World) (B : Nat) (y m d h mi s wk : Int) (W : World) : Prop := W.cell? ⟨B, 0, none⟩ = some (.int .i64 y) ∧ W.cell? ⟨B, 1, none⟩ = some (.int .i64 m) ∧ W.cell? ⟨B, 2, none⟩ = some (.int .i64 d) ∧ W.cell? ⟨B, 3, none⟩ = some (.int .i64 h) ∧ W.cell? ⟨B, 4, none⟩ = some (.int .i64 mi) ∧ W.cell? ⟨B, 5, none⟩ = some (.int .i64 s) ∧ W.cell? ⟨B, 6, none⟩ = some (.int .i64 wk) ∧ Hid (B < W.heap.size) ∧ Hid (TabW W) ∧ Hid (Below w0.heap.size w0 W)
theorem boxC.then {w0 : World} {B : Nat} {y m d h mi s wk : Int} {W W1 : World} (k : boxC w0 B y m d h mi s wk W) (hb : Below W.heap.size W W1) : boxC w0 B y m d h mi s wk W1 := by
  obtain ⟨k0, k1, k2, k3, k4, k5, k6, k7, k8, k9⟩ := k
  have hl := k7.out
  exact ⟨(hb.cell (p := ⟨B, 0, none⟩) hl).trans k0, (hb.cell (p := ⟨B, 1, none⟩) hl).trans k1, (hb.cell (p := ⟨B, 2, none⟩) hl).trans k2, (hb.cell (p := ⟨B, 3, none⟩) hl).trans k3, (hb.cell (p := ⟨B, 4, none⟩) hl).trans k4, (hb.cell (p := ⟨B, 5, none⟩) hl).trans k5, (hb.cell (p := ⟨B, 6, none⟩) hl).trans k6, Lib.hid (Nat.lt_of_lt_of_le hl hb.size), Lib.hid (k8.out.then hb), Lib.hid (below_then k9.out hb)⟩
theorem boxC.tab {w0 : World} {B : Nat} {y m d h mi s wk : Int} {W : World} (k : boxC w0 B y m d h mi s wk W) : TabW W := k.2.2.2.2.2.2.2.2.1.out
theorem boxC.of {w0 W : World} {B : Nat} {y m d h mi s wk : Int} (hC : CivAt W B y m d h mi s wk) (ht : TabW W) (hB : Below w0.heap.size w0 W) : boxC w0 B y m d h mi s wk W := by
  obtain ⟨c0, c1, c2, c3, c4, c5, c6⟩ := hC.cells
  exact ⟨c0, c1, c2, c3, c4, c5, c6, Lib.hid hC.lt, Lib.hid ht, Lib.hid hB⟩
theorem weekS_size (k : Int) : (weekS k).size ≤ 21 := by
  rw [weekS, ByteArray.size_extract]; have : dayNames.size = 21 := rfl; omega
theorem monthS_size (k : Int) : (monthS k).size ≤ 36 := by
  rw [monthS, ByteArray.size_extract]; have : monthNames.size = 36 := rfl; omega
theorem clockS_size (h mi s : Int) (a1 : h ≤ 99) (b1 : mi ≤ 99) (c1 : s ≤ 99) : (clockS h mi s).size ≤ 65 := by
  have z0 : (⟨#[48]⟩ : ByteArray).size ≤ 1 := by decide
  have zh := twoS_size h a1 ⟨#[48]⟩ z0
  have zm := twoS_size mi b1 ⟨#[48]⟩ z0
  have zs := twoS_size s c1 ⟨#[48]⟩ z0
  have e : (⟨#[58]⟩ : ByteArray).size = 1 := rfl
  simp only [clockS, ByteArray.size_append]
  omega
/-- a date as dates has it -/
structure Good (y m d h mi s wk : Int) : Prop where
  y0 : 1970 ≤ y
  y1 : y ≤ 2099
  m0 : 1 ≤ m
  m1 : m ≤ 12
  d0 : 0 ≤ d
  d1 : d ≤ 99
  h0 : 0 ≤ h
  h1 : h ≤ 99
  i0 : 0 ≤ mi
  i1 : mi ≤ 99
  s0 : 0 ≤ s
  s1 : s ≤ 99
  w0 : 0 ≤ wk
  w1 : wk ≤ 6
set_option maxHeartbeats 8000000 in
set_option maxRecDepth 100000 in
theorem mail1_walk (y m d h mi s wk : Int) (g : Good y m d h mi s wk) (w : World) (ht : TabW w) :
    Calls Tryz.prog 26 #[civ y m d h mi s wk] w fun e w' => e = .returned (.string (mailS y m d h mi s wk)) ∧ Below w.heap.size w w' := by
  have hC := civ_boxed w y m d h mi s wk
  have hB := alloc_b w (Obj.cells #[.int .i64 y, .int .i64 m, .int .i64 d, .int .i64 h, .int .i64 mi, .int .i64 s, .int .i64 wk] 51)
  generalize hw : w.alloc (Obj.cells #[.int .i64 y, .int .i64 m, .int .i64 d, .int .i64 h, .int .i64 mi, .int .i64 s, .int .i64 wk] 51) = w1 at hC hB
  have S0 := Lib.hid (show boxC w w.heap.size y m d h mi s wk w1.drew from boxC.of ⟨hC.heap⟩ (show TabW w1 from ht.then hB) (below_drew0 hB))
  have z0 : (⟨#[48]⟩ : ByteArray).size ≤ 1 := by decide
  obtain ⟨y0, y1, m0, m1, d0, d1, h0, h1, i0, i1, s0, s1, k0, k1⟩ := g
  have zw := weekS_size wk
  have zm := monthS_size m
  have zd := twoS_size d d1 ⟨#[48]⟩ z0
  have zy := decS_few y.toNat (by omega)
  have zc := clockS_size h mi s h1 i1 s1
  have HV := Lib.hid (show mailS y m d h mi s wk = weekS wk ++ ⟨#[44, 32]⟩ ++ twoS d ⟨#[48]⟩ ++ ⟨#[32]⟩ ++ monthS m ++ ⟨#[32]⟩ ++ decS y.toNat ++ ⟨#[32]⟩ ++ clockS h mi s ++ ⟨#[32, 43, 48, 48, 48, 48]⟩ from rfl)
  have KW := Lib.hid (fun W => week_walk y m d h mi s wk k0 k1 W)
  have KM := Lib.hid (fun W => month_walk y m d h mi s wk m0 m1 W)
  have KD := Lib.hid (fun W => two_walk d d0 d1 ⟨#[48]⟩ z0 W)
  have KC := Lib.hid (fun W => clock_walk y m d h mi s wk h0 h1 i0 i1 s0 s1 W)
  have hI := fun W => itoa_walk y.toNat (by omega) W
  rw [show ((y.toNat : Nat) : Int) = y by omega] at hI
  have KI := Lib.hid hI
  clear hC hB ht hI z0
  generalize weekS wk = SW at *
  generalize monthS m = SM at *
  generalize twoS d ⟨#[48]⟩ = SD at *
  generalize decS y.toNat = SY at *
  generalize clockS h mi s = SC at *
  have q1 : ¬ 9223372036854775807 < SW.size + 2 := by omega
  have q2 : ¬ 9223372036854775807 < SW.size + 2 + SD.size := by omega
  have q3 : ¬ 9223372036854775807 < SW.size + 2 + SD.size + 1 := by omega
  have q4 : ¬ 9223372036854775807 < SW.size + 2 + SD.size + 1 + SM.size := by omega
  have q5 : ¬ 9223372036854775807 < SW.size + 2 + SD.size + 1 + SM.size + 1 := by omega
  have q6 : ¬ 9223372036854775807 < SW.size + 2 + SD.size + 1 + SM.size + 1 + SY.size := by omega
  have q7 : ¬ 9223372036854775807 < SW.size + 2 + SD.size + 1 + SM.size + 1 + SY.size + 1 := by omega
  have q8 : ¬ 9223372036854775807 < SW.size + 2 + SD.size + 1 + SM.size + 1 + SY.size + 1 + SC.size := by omega
  have q9 : ¬ 9223372036854775807 < SW.size + 2 + SD.size + 1 + SM.size + 1 + SY.size + 1 + SC.size + 6 := by omega
  go_enter Tryz.func26, Tryz.ntmps26
  go_wp2
  clear hw
  go_region_held3 (fun W => W.cell? ⟨w.heap.size, 0, none⟩ = some (.int .i64 y) ∧ W.cell? ⟨w.heap.size, 1, none⟩ = some (.int .i64 m) ∧ W.cell? ⟨w.heap.size, 2, none⟩ = some (.int .i64 d) ∧ W.cell? ⟨w.heap.size, 3, none⟩ = some (.int .i64 h) ∧ W.cell? ⟨w.heap.size, 4, none⟩ = some (.int .i64 mi) ∧ W.cell? ⟨w.heap.size, 5, none⟩ = some (.int .i64 s) ∧ W.cell? ⟨w.heap.size, 6, none⟩ = some (.int .i64 wk) ∧ Hid (w.heap.size < W.heap.size) ∧ Hid (TabW W) ∧ Hid (Below w.heap.size w W))
    (first | exact S0.out | (refine boxC.then (w0 := w) (B := w.heap.size) (y := y) (m := m) (d := d) (h := h) (mi := mi) (s := s) (wk := wk) ?_ hBx; assumption))
    (first
      | (go_at_call 27; refine (KW.out _).mono ?_; rintro e w' ⟨rfl, hBx⟩)
      | (go_at_call 29; refine (KM.out _).mono ?_; rintro e w' ⟨rfl, hBx⟩)
      | (go_at_call 28; refine (KD.out _ ?_).mono ?_; (refine boxC.tab (w0 := w) (B := w.heap.size) (y := y) (m := m) (d := d) (h := h) (mi := mi) (s := s) (wk := wk) ?_; assumption); rintro e w' ⟨rfl, hBx⟩)
      | (go_at_call 17; refine (KI.out _ ?_).mono ?_; (refine boxC.tab (w0 := w) (B := w.heap.size) (y := y) (m := m) (d := d) (h := h) (mi := mi) (s := s) (wk := wk) ?_; assumption); rintro e w' ⟨rfl, hBx⟩)
      | (go_at_call 30; refine (KC.out _ ?_).mono ?_; (refine boxC.tab (w0 := w) (B := w.heap.size) (y := y) (m := m) (d := d) (h := h) (mi := mi) (s := s) (wk := wk) ?_; assumption); rintro e w' ⟨rfl, hBx⟩))
  rename_i hH
  have HBe := hH.2.2.2.2.2.2.2.2.2
  clear hH
  go_wp2
  go_ret
  exact ⟨by rw [HV.out]; rfl, HBe.out⟩
end Go.Proofs.YtcalbpdcjklffaaGreatDoor
