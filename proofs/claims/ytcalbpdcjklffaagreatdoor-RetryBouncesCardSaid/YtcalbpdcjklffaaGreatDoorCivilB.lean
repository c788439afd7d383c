/- The walk of the document's Civil at moments in range. -/
import Derived.Test.YtcalbpdcjklffaaGreatDoorCivilA
namespace Go.Proofs.YtcalbpdcjklffaaGreatDoor
open Go.RowKit
open Pl (daysM dM cum civN)
set_option linter.unusedSimpArgs false
set_option linter.unusedVariables false
def cellNat (W : World) (a : Addr) : Nat := match W.cell? a with | some (.int _ n) => n.toNat | _ => 0
theorem cellNat_at {W : World} {a : Addr} {k : IntKind} {n : Int} (h : W.cell? a = some (.int k n)) : cellNat W a = n.toNat := by rw [cellNat, h]
theorem ahead_mono {a b : Nat} (h : a ≤ b) : Pl.ahead a ≤ Pl.ahead b := by
  rw [← Pl.cum_year, ← Pl.cum_year]; exact Pl.cum_mono (by omega)
theorem ahead_130 : Pl.ahead 130 = 47482 := by decide +kernel
theorem years_few {k d : Nat} (h : Pl.ahead k ≤ d) (hd : d ≤ 47481) : k < 130 := by
  by_cases hk : k < 130
  · exact hk
  · have := ahead_mono (show 130 ≤ k by omega); rw [ahead_130] at this; omega
set_option maxHeartbeats 8000000 in
set_option maxRecDepth 100000 in
theorem refCivil_walk (t : Nat) (ht : t ≤ 4102444799) (w : World) :
    Calls Tryz.prog 41 #[.int .i64 t] w fun e w' => e = .returned (.tuple #[civV t, .bool true]) ∧ Below w.heap.size w w' := by
  have hR := CivAt.fresh w
  have hB1 : Below w.heap.size w (w.alloc (Obj.cells #[.int .i64 0, .int .i64 0, .int .i64 0, .int .i64 0, .int .i64 0, .int .i64 0, .int .i64 0] 51)) := (Below.refl _ _).alloc (Nat.le_refl _) _
  generalize h1 : w.alloc (Obj.cells #[.int .i64 0, .int .i64 0, .int .i64 0, .int .i64 0, .int .i64 0, .int .i64 0, .int .i64 0] 51) = w1 at hR hB1
  have hC := CivAt.fresh w1
  have hB2 : Below w1.heap.size w1 (w1.alloc (Obj.cells #[.int .i64 0, .int .i64 0, .int .i64 0, .int .i64 0, .int .i64 0, .int .i64 0, .int .i64 0] 51)) := (Below.refl _ _).alloc (Nat.le_refl _) _
  generalize h2 : w1.alloc (Obj.cells #[.int .i64 0, .int .i64 0, .int .i64 0, .int .i64 0, .int .i64 0, .int .i64 0, .int .i64 0] 51) = w2 at hC hB2
  obtain ⟨f0, f1, f2, f3, f4, f5, f6⟩ := hC.free
  obtain ⟨c0, c1, c2, c3, c4, c5, c6⟩ := hC.cells
  have zR := hR.lt
  have HR2 := hR.then hB2
  have HBl2 := below_then hB1 hB2
  have HC := Lib.hid hC
  have HR := Lib.hid HR2
  have HB2 := Lib.hid HBl2
  have hQ : ∃ d : Nat, d = t / 86400 := ⟨_, rfl⟩
  obtain ⟨d, hd⟩ := hQ
  have hdi : (t : Int) / 86400 = (d : Int) := by omega
  have hd1 : d ≤ 47481 := by omega
  have HV := Lib.hid (show civV t = .agg #[.int .i64 ((1970 + (civN d).1 / 12 : Nat) : Int), .int .i64 (((civN d).1 % 12 + 1 : Nat) : Int), .int .i64 (((civN d).2 + 1 : Nat) : Int), .int .i64 ((t : Int) % 86400 / 3600), .int .i64 ((t : Int) % 86400 / 60 % 60), .int .i64 ((t : Int) % 60), .int .i64 (((t : Int) / 86400 + 4) % 7)] by rw [hd]; rfl)
  have HDI := Lib.hid hdi
  have hmi : (t : Int) % 86400 / 60 % 60 = (t : Int) % 3600 / 60 := by omega
  have HMI := Lib.hid hmi
  clear HR2 HBl2 hC hR hB1 hB2 hdi hd hmi
  go_enter Tryz.func41, Tryz.ntmps41
  go_wp2
  have hC3 := HC.out.all 1970 1 0 0 0 0 (((t : Int) / 86400 + 4) % 7)
  have hR3 := ((((((HR.out.other (b := w1.heap.size) (i := 0) (.int .i64 1970) (by omega)).other (b := w1.heap.size) (i := 1) (.int .i64 1) (by omega)).other (b := w1.heap.size) (i := 2) (.int .i64 0) (by omega)).other (b := w1.heap.size) (i := 3) (.int .i64 0) (by omega)).other (b := w1.heap.size) (i := 4) (.int .i64 0) (by omega)).other (b := w1.heap.size) (i := 5) (.int .i64 0) (by omega)).other (b := w1.heap.size) (i := 6) (.int .i64 (((t : Int) / 86400 + 4) % 7)) (by omega)
  have hB3 := ((((((HB2.out.setCell (p := ⟨w1.heap.size, 0, none⟩) (by dsimp only; omega) (.int .i64 1970)).setCell (p := ⟨w1.heap.size, 1, none⟩) (by dsimp only; omega) (.int .i64 1)).setCell (p := ⟨w1.heap.size, 2, none⟩) (by dsimp only; omega) (.int .i64 0)).setCell (p := ⟨w1.heap.size, 3, none⟩) (by dsimp only; omega) (.int .i64 0)).setCell (p := ⟨w1.heap.size, 4, none⟩) (by dsimp only; omega) (.int .i64 0)).setCell (p := ⟨w1.heap.size, 5, none⟩) (by dsimp only; omega) (.int .i64 0)).setCell (p := ⟨w1.heap.size, 6, none⟩) (by dsimp only; omega) (.int .i64 (((t : Int) / 86400 + 4) % 7))
  generalize ((((((w2.setCell ⟨w1.heap.size, 0, none⟩ (.int .i64 1970)).setCell ⟨w1.heap.size, 1, none⟩ (.int .i64 1)).setCell ⟨w1.heap.size, 2, none⟩ (.int .i64 0)).setCell ⟨w1.heap.size, 3, none⟩ (.int .i64 0)).setCell ⟨w1.heap.size, 4, none⟩ (.int .i64 0)).setCell ⟨w1.heap.size, 5, none⟩ (.int .i64 0)).setCell ⟨w1.heap.size, 6, none⟩ (.int .i64 (((t : Int) / 86400 + 4) % 7)) = w3 at hC3 hR3 hB3
  have HR3 := Lib.hid hR3
  have HB3 := Lib.hid hB3
  have HC3 := Lib.hid hC3
  clear hC3 hR3 hB3 f0 f1 f2 f3 f4 f5 f6 c0 c1 c2 c3 c4 c5 c6 h1 h2 HC HR HB2
  rw [HDI.out]
  rw [HDI.out] at HC3 HV
  have zC : w.heap.size < w1.heap.size := zR
  generalize w1.heap.size = C at *
  generalize ((d : Int) + 4) % 7 = wk at *
  go_loopw [] (fun wr => ∃ k : Nat, Pl.ahead k ≤ d ∧ Hid (CivAt wr C ((1970 + k : Nat) : Int) 1 0 0 0 0 wk) ∧ Hid (CivAt wr w.heap.size 0 0 0 0 0 0 0) ∧ Hid (Below w.heap.size w wr))
    (fun wr => 2200 - cellNat wr ⟨C, 0, none⟩)
  case atStart => exact ⟨0, Nat.zero_le _, HC3, HR3, HB3⟩
  case round =>
    obtain ⟨k, hk, HC, HR, HB⟩ := hrel
    have hfew := years_few hk hd1
    obtain ⟨c0, c1, c2, c3, c4, c5, c6⟩ := HC.out.cells
    obtain ⟨f0, f1, f2, f3, f4, f5, f6⟩ := HC.out.free
    have HBf := Lib.hid (before_walk (k + 1) (by omega))
    have HBg := Lib.hid (before_walk k (by omega))
    by_cases hn : Pl.ahead (k + 1) ≤ d
    · have HCn := Lib.hid (HC.out.year (((1970 + k : Nat) : Int) + 1))
      have HRn := Lib.hid (HR.out.other (b := C) (i := 0) (.int .i64 (((1970 + k : Nat) : Int) + 1)) (by omega))
      have HBn := Lib.hid (HB.out.setCell (p := ⟨C, 0, none⟩) (by dsimp only; omega) (.int .i64 (((1970 + k : Nat) : Int) + 1)))
      have HM := Lib.hid (show cellNat wr ⟨C, 0, none⟩ = 1970 + k by rw [cellNat_at c0]; omega)
      have HM2 := Lib.hid (show cellNat (wr.setCell ⟨C, 0, none⟩ (.int .i64 (((1970 + k : Nat) : Int) + 1))) ⟨C, 0, none⟩ = 1970 + k + 1 by rw [cellNat_at HCn.out.cells.1]; omega)
      have HE := Lib.hid (show ((1970 + (k + 1) : Nat) : Int) = ((1970 + k : Nat) : Int) + 1 from rfl)
      rw [HE.out] at HBf
      generalize hA : Pl.ahead (k + 1) = A at *
      generalize hY : ((1970 + k : Nat) : Int) = Y at *
      go_wp2_with fail
      refine (HBf.out _).mono ?_
      rintro e w' ⟨rfl, rfl⟩
      go_wp2
      go_roundw
      case rel => exact ⟨k + 1, by rw [hA]; exact hn, by rw [HE.out]; exact HCn, HRn, HBn⟩
      case measure => rw [HM.out, HM2.out]; omega
    · have hlt : ¬ (((Pl.ahead (k + 1) : Nat) : Int) ≤ (d : Int)) := by omega
      have HE := Lib.hid (show ((1970 + (k + 1) : Nat) : Int) = ((1970 + k : Nat) : Int) + 1 from rfl)
      rw [HE.out] at HBf
      have hcy : cum (12 * k) = Pl.ahead k := Pl.cum_year k
      have hcz : cum (12 * (k + 1)) = Pl.ahead (k + 1) := Pl.cum_year (k + 1)
      have HCY := Lib.hid hcy
      have HCZ := Lib.hid hcz
      have HSub := Lib.hid (show ((d : Int) - ((Pl.ahead k : Nat) : Int)) = ((d - Pl.ahead k : Nat) : Int) by omega)
      have HNN := Lib.hid hn
      clear hcy hcz hn
      generalize hY : ((1970 + k : Nat) : Int) = Y at *
      go_wp2_with fail
      refine (HBf.out _).mono ?_
      rintro e w' ⟨rfl, rfl⟩
      go_wp2_with fail
      refine (HBg.out _).mono ?_
      rintro e w' ⟨rfl, rfl⟩
      go_wp2
      rw [HSub.out]
      have HN1 := Lib.hid (show d < cum (12 * k + 12) by have h1 := HCZ.out; have h2 := HNN.out; rw [show 12 * (k + 1) = 12 * k + 12 by omega] at h1; omega)
      go_loopw [4] (fun dv W => ∃ m : Nat, m ≤ 11 ∧ cum (12 * k + m) ≤ d ∧ dv = .int .i64 ((d - cum (12 * k + m) : Nat) : Int) ∧ Hid (CivAt W C Y ((m + 1 : Nat) : Int) 0 0 0 0 wk) ∧ Hid (CivAt W w.heap.size 0 0 0 0 0 0 0) ∧ Hid (Below w.heap.size w W)) (fun dv _ => (intOf dv).toNat)
      case atStart => exact ⟨0, Nat.zero_le _, by rw [Nat.add_zero, HCY.out]; exact hk, by rw [Nat.add_zero, HCY.out], HC, HR, HB⟩
      case round =>
        clear c0 c1 c2 c3 c4 c5 c6 f0 f1 f2 f3 f4 f5 f6
        obtain ⟨m, hm, hn, rfl, HC, HR, HB⟩ := hrel
        obtain ⟨c0, c1, c2, c3, c4, c5, c6⟩ := HC.out.cells
        obtain ⟨f0, f1, f2, f3, f4, f5, f6⟩ := HC.out.free
        have hd28 := Pl.dM_pos (12 * k + m)
        have hcs := Pl.cum_succ (12 * k + m)
        have E1 := Lib.hid (show 1970 + (12 * k + m) / 12 = 1970 + k by omega)
        have E2 := Lib.hid (show (12 * k + m) % 12 + 1 = m + 1 by omega)
        have hds : daysM (1970 + k) (m + 1) = dM (12 * k + m) := by rw [dM, E1.out, E2.out]
        have hD := fun W => refDays_walk (1970 + k) (m + 1) (by omega) (by omega) (by omega) W
        rw [hds, hY] at hD
        have HD := Lib.hid hD
        clear hD hds
        by_cases hk2 : dM (12 * k + m) ≤ d - cum (12 * k + m)
        · have hn1 : cum (12 * k + m + 1) ≤ d := by omega
          have hm1 : m + 1 ≤ 11 := by
            by_cases h : m = 11
            · subst h; have h2 := HN1.out; rw [show 12 * k + 11 + 1 = 12 * k + 12 from rfl] at hn1; omega
            · omega
          have HSub := Lib.hid (show ((d - cum (12 * k + m) : Nat) : Int) - ((dM (12 * k + m) : Nat) : Int) = ((d - cum (12 * k + (m + 1)) : Nat) : Int) by rw [show 12 * k + (m + 1) = 12 * k + m + 1 by omega]; omega)
          have HE := Lib.hid (show ((m + 1 + 1 : Nat) : Int) = ((m + 1 : Nat) : Int) + 1 from rfl)
          have HN2 := Lib.hid (show cum (12 * k + (m + 1)) ≤ d from hn1)
          clear hcs hn1
          generalize hN : dM (12 * k + m) = N at *
          generalize hDD : d - cum (12 * k + m) = D at *
          generalize hM : ((m + 1 : Nat) : Int) = M at *
          go_wp2_with fail
          refine (HD.out _).mono ?_
          rintro e W2 ⟨rfl, hB2⟩
          obtain ⟨x0, x1, x2, x3, x4, x5, x6⟩ := (HC.out.then hB2).cells
          obtain ⟨y0, y1, y2, y3, y4, y5, y6⟩ := (HC.out.then hB2).free
          have HC2 := Lib.hid (HC.out.then hB2)
          have HR2 := Lib.hid (HR.out.then hB2)
          have HB2 := Lib.hid (below_then HB.out hB2)
          clear hB2 c0 c1 c2 c3 c4 c5 c6 f0 f1 f2 f3 f4 f5 f6
          go_wp2_with fail
          refine (HD.out _).mono ?_
          rintro e W3 ⟨rfl, hB3⟩
          have HC3 := Lib.hid (HC2.out.then hB3)
          have HR3 := Lib.hid (HR2.out.then hB3)
          have HB3 := Lib.hid (below_then HB2.out hB3)
          clear hB3 x0 x1 x2 x3 x4 x5 x6 y0 y1 y2 y3 y4 y5 y6
          obtain ⟨c0, c1, c2, c3, c4, c5, c6⟩ := HC3.out.cells
          obtain ⟨f0, f1, f2, f3, f4, f5, f6⟩ := HC3.out.free
          have HCn := Lib.hid (HC3.out.month (M + 1))
          have HRn := Lib.hid (HR3.out.other (b := C) (i := 1) (.int .i64 (M + 1)) (by omega))
          have HBn := Lib.hid (HB3.out.setCell (p := ⟨C, 1, none⟩) (by dsimp only; omega) (.int .i64 (M + 1)))
          have hMb : M ≤ 12 := by omega
          have hMa : 0 ≤ M := by omega
          go_wp2
          go_roundw
          case rel => exact ⟨m + 1, hm1, HN2.out, by rw [← HSub.out], by rw [HE.out]; exact HCn, HRn, HBn⟩
          case measure => simp [intOf]; omega
        · obtain ⟨k1, k2⟩ := Pl.civ_one (d := d) (n := 12 * k + m) (k := d - cum (12 * k + m)) (by omega) (by omega)
          have HV2 := HV.out
          rw [← k1, ← k2, E1.out, E2.out, show ((d - cum (12 * k + m) + 1 : Nat) : Int) = ((d - cum (12 * k + m) : Nat) : Int) + 1 from rfl, HMI.out, hY] at HV2
          have HV3 := Lib.hid HV2
          have hlt : ((d - cum (12 * k + m) : Nat) : Int) < ((dM (12 * k + m) : Nat) : Int) := by omega
          clear hcs k1 k2 HV2
          generalize hN : dM (12 * k + m) = N at *
          generalize hDD : d - cum (12 * k + m) = D at *
          generalize hM : ((m + 1 : Nat) : Int) = M at *
          go_wp2_with fail
          refine (HD.out _).mono ?_
          rintro e W2 ⟨rfl, hB2⟩
          have HC2 := Lib.hid (HC.out.then hB2)
          have HR2 := Lib.hid (HR.out.then hB2)
          have HB2 := Lib.hid (below_then HB.out hB2)
          clear hB2 c0 c1 c2 c3 c4 c5 c6 f0 f1 f2 f3 f4 f5 f6
          obtain ⟨x0, x1, x2, x3, x4, x5, x6⟩ := HC2.out.cells
          obtain ⟨y0, y1, y2, y3, y4, y5, y6⟩ := HC2.out.free
          have hdd := (HC2.out.day ((D : Int) + 1)).clock ((t : Int) % 86400 / 3600) ((t : Int) % 3600 / 60) ((t : Int) % 60)
          have hrd := (((HR2.out.other (b := C) (i := 2) (.int .i64 ((D : Int) + 1)) (by omega)).other (b := C) (i := 3) (.int .i64 ((t : Int) % 86400 / 3600)) (by omega)).other (b := C) (i := 4) (.int .i64 ((t : Int) % 3600 / 60)) (by omega)).other (b := C) (i := 5) (.int .i64 ((t : Int) % 60)) (by omega)
          have hbd := (((HB2.out.setCell (p := ⟨C, 2, none⟩) (by dsimp only; omega) (.int .i64 ((D : Int) + 1))).setCell (p := ⟨C, 3, none⟩) (by dsimp only; omega) (.int .i64 ((t : Int) % 86400 / 3600))).setCell (p := ⟨C, 4, none⟩) (by dsimp only; omega) (.int .i64 ((t : Int) % 3600 / 60))).setCell (p := ⟨C, 5, none⟩) (by dsimp only; omega) (.int .i64 ((t : Int) % 60))
          obtain ⟨r0, r1, r2, r3, r4, r5, r6⟩ := hrd.cells
          obtain ⟨s0, s1, s2, s3, s4, s5, s6⟩ := hrd.free
          obtain ⟨d0, d1, d2, d3, d4, d5, d6⟩ := hdd.cells
          have hra := Lib.hid (hrd.all Y M ((D : Int) + 1) ((t : Int) % 86400 / 3600) ((t : Int) % 3600 / 60) ((t : Int) % 60) wk)
          have hba := Lib.hid (((((((hbd.setCell (p := ⟨w.heap.size, 0, none⟩) (Nat.le_refl _) (.int .i64 Y)).setCell (p := ⟨w.heap.size, 1, none⟩) (Nat.le_refl _) (.int .i64 M)).setCell (p := ⟨w.heap.size, 2, none⟩) (Nat.le_refl _) (.int .i64 ((D : Int) + 1))).setCell (p := ⟨w.heap.size, 3, none⟩) (Nat.le_refl _) (.int .i64 ((t : Int) % 86400 / 3600))).setCell (p := ⟨w.heap.size, 4, none⟩) (Nat.le_refl _) (.int .i64 ((t : Int) % 3600 / 60))).setCell (p := ⟨w.heap.size, 5, none⟩) (Nat.le_refl _) (.int .i64 ((t : Int) % 60))).setCell (p := ⟨w.heap.size, 6, none⟩) (Nat.le_refl _) (.int .i64 wk))
          clear hdd hrd hbd hk2
          generalize hw5 : (((W2.setCell ⟨C, 2, none⟩ (.int .i64 ((D : Int) + 1))).setCell ⟨C, 3, none⟩ (.int .i64 ((t : Int) % 86400 / 3600))).setCell ⟨C, 4, none⟩ (.int .i64 ((t : Int) % 3600 / 60))).setCell ⟨C, 5, none⟩ (.int .i64 ((t : Int) % 60)) = w5 at *
          go_wp2
          have q := hra.out.cells
          obtain ⟨q0, q1, q2, q3, q4, q5, q6⟩ := q
          refine bodyPost_ret (v := .tuple #[civV t, .bool true]) ?_ rfl ⟨rfl, hba.out⟩
          rw [HV3.out, results_cell_tmp rfl]
          simp [go_sem, q0, q1, q2, q3, q4, q5, q6]
end Go.Proofs.YtcalbpdcjklffaaGreatDoor
