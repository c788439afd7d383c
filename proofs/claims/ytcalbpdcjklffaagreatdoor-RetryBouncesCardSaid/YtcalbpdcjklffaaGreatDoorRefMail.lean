/- The walks of the document's clock and Mail, and of its Digits. -/
import Derived.Test.YtcalbpdcjklffaaGreatDoorRefDates
namespace Go.Proofs.YtcalbpdcjklffaaGreatDoor
open Go.RowKit
open Go.Lib (decDigits)
set_option linter.unusedSimpArgs false
set_option linter.unusedVariables false
theorem pad_two_all : ∀ n : Nat, n < 100 → (List.replicate (2 - (decDigits n).length) (48 : UInt8) ++ decDigits n) = if n < 10 then 48 :: decDigits n else decDigits n := by decide +kernel
theorem pad_two (n : Int) (h0 : 0 ≤ n) (h1 : n ≤ 99) : (⟨(List.replicate (2 - (decDigits n.toNat).length) (48 : UInt8) ++ decDigits n.toNat).toArray⟩ : ByteArray) = twoS n ⟨#[48]⟩ := by
  rw [pad_two_all n.toNat (by omega), twoS]
  by_cases h : n < 10
  · rw [if_pos h, if_pos (by omega)]
    apply ByteArray.ext; simp [decS, ByteArray.data_append]
  · rw [if_neg h, if_neg (by omega)]; rfl
theorem pad_four_all : ∀ n : Nat, n < 130 → 4 - (decDigits (1970 + n)).length = 0 := by decide +kernel
theorem pad_four (n : Int) (h0 : 1970 ≤ n) (h1 : n ≤ 2099) : (⟨(List.replicate (4 - (decDigits n.toNat).length) (48 : UInt8) ++ decDigits n.toNat).toArray⟩ : ByteArray) = decS n.toNat := by
  have := pad_four_all (n.toNat - 1970) (by omega)
  rw [show 1970 + (n.toNat - 1970) = n.toNat by omega] at this
  rw [this]; rfl
theorem refTwo_walk (n : Int) (h0 : 0 ≤ n) (h1 : n ≤ 99) (w : World) :
    Calls Tryz.prog 43 #[.int .i64 n, .int .i64 2, .int .u8 48] w fun e w' => e = .returned (.string (twoS n ⟨#[48]⟩)) ∧ Below w.heap.size w w' := by
  have h := refDigits_walk n.toNat 2 48 (by omega) (by omega) w
  rw [pad_two n h0 h1, show ((n.toNat : Nat) : Int) = n by omega] at h
  exact h
theorem refFour_walk (n : Int) (h0 : 1970 ≤ n) (h1 : n ≤ 2099) (w : World) :
    Calls Tryz.prog 43 #[.int .i64 n, .int .i64 4, .int .u8 48] w fun e w' => e = .returned (.string (decS n.toNat)) ∧ Below w.heap.size w w' := by
  have h := refDigits_walk n.toNat 4 48 (by omega) (by omega) w
  rw [pad_four n h0 h1, show ((n.toNat : Nat) : Int) = n by omega] at h
  exact h
theorem below_of_eq {w w' : World} (h : w = w') : Below w.heap.size w w' := by subst h; exact Below.refl _ _
def boxR (w0 : World) (B : Nat) (y m d h mi s wk : Int) (W : World) : Prop := W.cell? ⟨B, 0, none⟩ = some (.int .i64 y) ∧ W.cell? ⟨B, 1, none⟩ = some (.int .i64 m) ∧ W.cell? ⟨B, 2, none⟩ = some (.int .i64 d) ∧ W.cell? ⟨B, 3, none⟩ = some (.int .i64 h) ∧ W.cell? ⟨B, 4, none⟩ = some (.int .i64 mi) ∧ W.cell? ⟨B, 5, none⟩ = some (.int .i64 s) ∧ W.cell? ⟨B, 6, none⟩ = some (.int .i64 wk) ∧ Hid (B < W.heap.size) ∧ Hid (Below w0.heap.size w0 W)
theorem boxR.then {w0 : World} {B : Nat} {y m d h mi s wk : Int} {W W1 : World} (k : boxR w0 B y m d h mi s wk W) (hb : Below W.heap.size W W1) : boxR w0 B y m d h mi s wk W1 := by
  obtain ⟨k0, k1, k2, k3, k4, k5, k6, k7, k9⟩ := k
  have hl := k7.out
  exact ⟨(hb.cell (p := ⟨B, 0, none⟩) hl).trans k0, (hb.cell (p := ⟨B, 1, none⟩) hl).trans k1, (hb.cell (p := ⟨B, 2, none⟩) hl).trans k2, (hb.cell (p := ⟨B, 3, none⟩) hl).trans k3, (hb.cell (p := ⟨B, 4, none⟩) hl).trans k4, (hb.cell (p := ⟨B, 5, none⟩) hl).trans k5, (hb.cell (p := ⟨B, 6, none⟩) hl).trans k6, Lib.hid (Nat.lt_of_lt_of_le hl hb.size), Lib.hid (below_then k9.out hb)⟩
theorem boxR.of {w0 W : World} {B : Nat} {y m d h mi s wk : Int} (hC : CivAt W B y m d h mi s wk) (hB : Below w0.heap.size w0 W) : boxR w0 B y m d h mi s wk W := by
  obtain ⟨c0, c1, c2, c3, c4, c5, c6⟩ := hC.cells
  exact ⟨c0, c1, c2, c3, c4, c5, c6, Lib.hid hC.lt, Lib.hid hB⟩
set_option maxHeartbeats 4000000 in
set_option maxRecDepth 100000 in
theorem refClock_walk (y m d h mi s wk : Int) (a0 : 0 ≤ h) (a1 : h ≤ 99) (b0 : 0 ≤ mi) (b1 : mi ≤ 99) (c0 : 0 ≤ s) (c1 : s ≤ 99) (w : World) :
    Calls Tryz.prog 45 #[civ y m d h mi s wk] w fun e w' => e = .returned (.string (clockS h mi s)) ∧ Below w.heap.size w w' := by
  have hC := civ_boxed w y m d h mi s wk
  have hB := alloc_b w (Obj.cells #[.int .i64 y, .int .i64 m, .int .i64 d, .int .i64 h, .int .i64 mi, .int .i64 s, .int .i64 wk] 51)
  generalize hw : w.alloc (Obj.cells #[.int .i64 y, .int .i64 m, .int .i64 d, .int .i64 h, .int .i64 mi, .int .i64 s, .int .i64 wk] 51) = w1 at hC hB
  have S0 := Lib.hid (show boxR w w.heap.size y m d h mi s wk w1.drew from boxR.of ⟨hC.heap⟩ (below_drew0 hB))
  have z0 : (⟨#[48]⟩ : ByteArray).size ≤ 1 := by decide
  have zh := twoS_size h a1 ⟨#[48]⟩ z0
  have zm := twoS_size mi b1 ⟨#[48]⟩ z0
  have zs := twoS_size s c1 ⟨#[48]⟩ z0
  have q1 : ¬ 9223372036854775807 < (twoS h ⟨#[48]⟩).size + 1 := by omega
  have q2 : ¬ 9223372036854775807 < (twoS h ⟨#[48]⟩).size + 1 + (twoS mi ⟨#[48]⟩).size := by omega
  have q3 : ¬ 9223372036854775807 < (twoS h ⟨#[48]⟩).size + 1 + (twoS mi ⟨#[48]⟩).size + 1 := by omega
  have q4 : ¬ 9223372036854775807 < (twoS h ⟨#[48]⟩).size + 1 + (twoS mi ⟨#[48]⟩).size + 1 + (twoS s ⟨#[48]⟩).size := by omega
  have HV := Lib.hid (show clockS h mi s = twoS h ⟨#[48]⟩ ++ ⟨#[58]⟩ ++ twoS mi ⟨#[48]⟩ ++ ⟨#[58]⟩ ++ twoS s ⟨#[48]⟩ from rfl)
  have K := Lib.hid (fun n (g0 : 0 ≤ n) (g1 : n ≤ 99) W => refTwo_walk n g0 g1 W)
  clear hC hB z0
  go_enter Tryz.func45, Tryz.ntmps45
  go_wp2
  clear hw
  go_region_held3 (fun W => W.cell? ⟨w.heap.size, 0, none⟩ = some (.int .i64 y) ∧ W.cell? ⟨w.heap.size, 1, none⟩ = some (.int .i64 m) ∧ W.cell? ⟨w.heap.size, 2, none⟩ = some (.int .i64 d) ∧ W.cell? ⟨w.heap.size, 3, none⟩ = some (.int .i64 h) ∧ W.cell? ⟨w.heap.size, 4, none⟩ = some (.int .i64 mi) ∧ W.cell? ⟨w.heap.size, 5, none⟩ = some (.int .i64 s) ∧ W.cell? ⟨w.heap.size, 6, none⟩ = some (.int .i64 wk) ∧ Hid (w.heap.size < W.heap.size) ∧ Hid (Below w.heap.size w W))
    (first | exact S0.out | (refine boxR.then (w0 := w) (B := w.heap.size) (y := y) (m := m) (d := d) (h := h) (mi := mi) (s := s) (wk := wk) ?_ hBx; assumption))
    (first
      | (go_at_call 43; refine (K.out _ (by assumption) (by assumption) _).mono ?_; rintro e w' ⟨rfl, hBx⟩))
  rename_i hH
  have HBe := hH.2.2.2.2.2.2.2.2
  clear hH
  go_wp2
  go_ret
  exact ⟨by rw [HV.out]; rfl, HBe.out⟩
set_option maxHeartbeats 8000000 in
set_option maxRecDepth 100000 in
theorem refMail_walk (t : Nat) (ht : t ≤ 4102444799) (w : World) :
    Calls Tryz.prog 23 #[.int .i64 t] w fun e w' => e = .returned (.string (mailT t)) ∧ Below w.heap.size w w' := by
  have KC := Lib.hid (fun W => refCivil_walk t ht W)
  have g := good_at t ht
  have HV := Lib.hid (show mailT t = mailS (cY t) (cM t) (cD t) (cH t) (cI t) (cS t) (cW t) from rfl)
  rw [civV_def] at KC
  generalize cY t = y at *
  generalize cM t = m at *
  generalize cD t = d at *
  generalize cH t = h at *
  generalize cI t = mi at *
  generalize cS t = s at *
  generalize cW t = wk at *
  have z0 : (⟨#[48]⟩ : ByteArray).size ≤ 1 := by decide
  obtain ⟨y0, y1, m0, m1, d0, d1, h0, h1, i0, i1, s0, s1, k0, k1⟩ := g
  have zw := weekS_size wk
  have zm := monthS_size m
  have zd := twoS_size d d1 ⟨#[48]⟩ z0
  have zy := decS_few y.toNat (by omega)
  have zc := clockS_size h mi s h1 i1 s1
  have HV2 := Lib.hid (show mailS y m d h mi s wk = weekS wk ++ ⟨#[44, 32]⟩ ++ twoS d ⟨#[48]⟩ ++ ⟨#[32]⟩ ++ monthS m ++ ⟨#[32]⟩ ++ decS y.toNat ++ ⟨#[32]⟩ ++ clockS h mi s ++ ⟨#[32, 43, 48, 48, 48, 48]⟩ from rfl)
  have KW := Lib.hid (fun W => refWeek_walk y m d h mi s wk k0 k1 W)
  have KM := Lib.hid (fun W => refMonth_walk m m0 m1 W)
  have KD := Lib.hid (fun W => refTwo_walk d d0 d1 W)
  have KY := Lib.hid (fun W => refFour_walk y y0 y1 W)
  have KK := Lib.hid (fun W => refClock_walk y m d h mi s wk h0 h1 i0 i1 s0 s1 W)
  clear z0
  generalize weekS wk = SW at *
  generalize monthS m = SM at *
  generalize twoS d ⟨#[48]⟩ = SD at *
  generalize decS y.toNat = SY at *
  generalize clockS h mi s = SC at *
  have q1 : ¬ 9223372036854775807 < SW.size + 2 := by omega
  have q2 : ¬ 9223372036854775807 < SW.size + 2 + SD.size := by omega
  have q3 : ¬ 9223372036854775807 < SW.size + 2 + SD.size + 1 := by omega
  have q4 : ¬ 9223372036854775807 < SW.size + 2 + SD.size + 1 + SM.size := by omega
  have q5 : ¬ 9223372036854775807 < SW.size + 2 + SD.size + 1 + SM.size + 1 := by omega
  have q6 : ¬ 9223372036854775807 < SW.size + 2 + SD.size + 1 + SM.size + 1 + SY.size := by omega
  have q7 : ¬ 9223372036854775807 < SW.size + 2 + SD.size + 1 + SM.size + 1 + SY.size + 1 := by omega
  have q8 : ¬ 9223372036854775807 < SW.size + 2 + SD.size + 1 + SM.size + 1 + SY.size + 1 + SC.size := by omega
  have q9 : ¬ 9223372036854775807 < SW.size + 2 + SD.size + 1 + SM.size + 1 + SY.size + 1 + SC.size + 6 := by omega
  go_enter Tryz.func23, Tryz.ntmps23
  go_wp2_with fail
  refine (KC.out _).mono ?_
  rintro e w1 ⟨rfl, hB1⟩
  have hC := CivAt.fresh w1
  have hB2 := alloc_b w1 (Obj.cells #[.int .i64 0, .int .i64 0, .int .i64 0, .int .i64 0, .int .i64 0, .int .i64 0, .int .i64 0] 51)
  generalize h2 : w1.alloc (Obj.cells #[.int .i64 0, .int .i64 0, .int .i64 0, .int .i64 0, .int .i64 0, .int .i64 0, .int .i64 0] 51) = w2 at hC hB2
  obtain ⟨f0, f1, f2, f3, f4, f5, f6⟩ := hC.free
  obtain ⟨c0, c1, c2, c3, c4, c5, c6⟩ := hC.cells
  have hz := hB1.size
  have hB3 := (((((((below_then hB1 hB2).setCell (p := ⟨w1.heap.size, 0, none⟩) hz (.int .i64 y)).setCell (p := ⟨w1.heap.size, 1, none⟩) hz (.int .i64 m)).setCell (p := ⟨w1.heap.size, 2, none⟩) hz (.int .i64 d)).setCell (p := ⟨w1.heap.size, 3, none⟩) hz (.int .i64 h)).setCell (p := ⟨w1.heap.size, 4, none⟩) hz (.int .i64 mi)).setCell (p := ⟨w1.heap.size, 5, none⟩) hz (.int .i64 s)).setCell (p := ⟨w1.heap.size, 6, none⟩) hz (.int .i64 wk)
  have hC3 := hC.all y m d h mi s wk
  have HB3 := Lib.hid hB3
  have HC3 := Lib.hid hC3
  clear hB3 hC3 hC hB2
  go_wp2
  clear f0 f1 f2 f3 f4 f5 f6 c0 c1 c2 c3 c4 c5 c6 h2
  generalize (((((((w2.setCell ⟨w1.heap.size, 0, none⟩ (.int .i64 y)).setCell ⟨w1.heap.size, 1, none⟩ (.int .i64 m)).setCell ⟨w1.heap.size, 2, none⟩ (.int .i64 d)).setCell ⟨w1.heap.size, 3, none⟩ (.int .i64 h)).setCell ⟨w1.heap.size, 4, none⟩ (.int .i64 mi)).setCell ⟨w1.heap.size, 5, none⟩ (.int .i64 s)).setCell ⟨w1.heap.size, 6, none⟩ (.int .i64 wk)) = w3 at *
  have S0 := Lib.hid (show boxR w w1.heap.size y m d h mi s wk w3.drew from boxR.of ⟨HC3.out.heap⟩ (below_drew0 HB3.out))
  clear HB3 HC3 hz hB1
  generalize w1.heap.size = B at *
  go_region_held3 (fun W => W.cell? ⟨B, 0, none⟩ = some (.int .i64 y) ∧ W.cell? ⟨B, 1, none⟩ = some (.int .i64 m) ∧ W.cell? ⟨B, 2, none⟩ = some (.int .i64 d) ∧ W.cell? ⟨B, 3, none⟩ = some (.int .i64 h) ∧ W.cell? ⟨B, 4, none⟩ = some (.int .i64 mi) ∧ W.cell? ⟨B, 5, none⟩ = some (.int .i64 s) ∧ W.cell? ⟨B, 6, none⟩ = some (.int .i64 wk) ∧ Hid (B < W.heap.size) ∧ Hid (Below w.heap.size w W))
    (first | exact S0.out | (refine boxR.then (w0 := w) (B := B) (y := y) (m := m) (d := d) (h := h) (mi := mi) (s := s) (wk := wk) ?_ hBx; assumption) | assumption)
    (first
      | (go_at_call 42; refine (KW.out _).mono ?_; rintro e w' ⟨rfl, hBx⟩)
      | (go_at_call 44; refine (KM.out _).mono ?_; rintro e w' ⟨rfl, hEq⟩; have hBx := below_of_eq hEq)
      | (go_at_call_of 43 d; refine (KD.out _).mono ?_; rintro e w' ⟨rfl, hBx⟩)
      | (go_at_call_of 43 y; refine (KY.out _).mono ?_; rintro e w' ⟨rfl, hBx⟩)
      | (go_at_call 45; refine (KK.out _).mono ?_; rintro e w' ⟨rfl, hBx⟩))
  rename_i hH
  have HBe := hH.2.2.2.2.2.2.2.2
  clear hH
  go_wp2
  go_ret
  exact ⟨by rw [HV.out, HV2.out]; rfl, HBe.out⟩
end Go.Proofs.YtcalbpdcjklffaaGreatDoor
