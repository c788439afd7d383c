/- The walk of dates.Civil at moments in range. -/
import Derived.Test.YtcalbpdcjklffaaGreatDoorDatesA
import Derived.Laws.ResultCell
namespace Go.Proofs.YtcalbpdcjklffaaGreatDoor
open Go.RowKit
open Pl (daysM dM cum civN)
set_option linter.unusedSimpArgs false
set_option linter.unusedVariables false
theorem cells_set {W : World} {b : Nat} {cs : Array Value} {t : TypeId} (h : W.heap[b]? = some (Obj.cells cs t)) (i : Nat) (v : Value) :
    (W.setCell ⟨b, i, none⟩ v).heap[b]? = some (Obj.cells (cs.setIfInBounds i v) t) := by
  simp [World.setCell, Array.getElem?_modify, h]
/-- a date's cells -/
structure CivAt (W : World) (B : Nat) (y m d h mi s wk : Int) : Prop where
  heap : W.heap[B]? = some (Obj.cells #[.int .i64 y, .int .i64 m, .int .i64 d, .int .i64 h, .int .i64 mi, .int .i64 s, .int .i64 wk] 51)
theorem CivAt.then {W W1 : World} {B : Nat} {y m d h mi s wk : Int} (H : CivAt W B y m d h mi s wk) (hb : Below W.heap.size W W1) : CivAt W1 B y m d h mi s wk :=
  ⟨(hb.block _ (Array.getElem?_eq_some_iff.1 H.heap).1).trans H.heap⟩
theorem CivAt.lt {W : World} {B : Nat} {y m d h mi s wk : Int} (H : CivAt W B y m d h mi s wk) : B < W.heap.size := (Array.getElem?_eq_some_iff.1 H.heap).1
theorem CivAt.cells {W : World} {B : Nat} {y m d h mi s wk : Int} (H : CivAt W B y m d h mi s wk) :
    W.cell? ⟨B, 0, none⟩ = some (.int .i64 y) ∧ W.cell? ⟨B, 1, none⟩ = some (.int .i64 m) ∧ W.cell? ⟨B, 2, none⟩ = some (.int .i64 d) ∧ W.cell? ⟨B, 3, none⟩ = some (.int .i64 h) ∧ W.cell? ⟨B, 4, none⟩ = some (.int .i64 mi) ∧ W.cell? ⟨B, 5, none⟩ = some (.int .i64 s) ∧ W.cell? ⟨B, 6, none⟩ = some (.int .i64 wk) := by
  refine ⟨?_, ?_, ?_, ?_, ?_, ?_, ?_⟩ <;> simp [World.cell?, H.heap]
theorem CivAt.free {W : World} {B : Nat} {y m d h mi s wk : Int} (H : CivAt W B y m d h mi s wk) :
    W.frozen? ⟨B, 0, none⟩ = false ∧ W.frozen? ⟨B, 1, none⟩ = false ∧ W.frozen? ⟨B, 2, none⟩ = false ∧ W.frozen? ⟨B, 3, none⟩ = false ∧ W.frozen? ⟨B, 4, none⟩ = false ∧ W.frozen? ⟨B, 5, none⟩ = false ∧ W.frozen? ⟨B, 6, none⟩ = false := by
  refine ⟨?_, ?_, ?_, ?_, ?_, ?_, ?_⟩ <;> simp [World.frozen?, H.heap]
theorem CivAt.fresh (w : World) : CivAt (w.alloc (Obj.cells #[.int .i64 0, .int .i64 0, .int .i64 0, .int .i64 0, .int .i64 0, .int .i64 0, .int .i64 0] 51)) w.heap.size 0 0 0 0 0 0 0 := ⟨World.alloc_heap_new w _⟩
theorem CivAt.all {W : World} {B : Nat} {y m d h mi s wk : Int} (H : CivAt W B y m d h mi s wk) (y' m' d' h' mi' s' wk' : Int) :
    CivAt (((((((W.setCell ⟨B, 0, none⟩ (.int .i64 y')).setCell ⟨B, 1, none⟩ (.int .i64 m')).setCell ⟨B, 2, none⟩ (.int .i64 d')).setCell ⟨B, 3, none⟩ (.int .i64 h')).setCell ⟨B, 4, none⟩ (.int .i64 mi')).setCell ⟨B, 5, none⟩ (.int .i64 s')).setCell ⟨B, 6, none⟩ (.int .i64 wk')) B y' m' d' h' mi' s' wk' :=
  by
  have h0 := cells_set H.heap 0 (.int .i64 y')
  have h1 := cells_set h0 1 (.int .i64 m')
  have h2 := cells_set h1 2 (.int .i64 d')
  have h3 := cells_set h2 3 (.int .i64 h')
  have h4 := cells_set h3 4 (.int .i64 mi')
  have h5 := cells_set h4 5 (.int .i64 s')
  have h6 := cells_set h5 6 (.int .i64 wk')
  exact ⟨by rw [h6]; simp⟩
theorem CivAt.other {W : World} {B b i : Nat} {y m d h mi s wk : Int} (H : CivAt W B y m d h mi s wk) (v : Value) (hb : b ≠ B) : CivAt (W.setCell ⟨b, i, none⟩ v) B y m d h mi s wk := ⟨(Below.heap_setCell W _ v B (by dsimp only; omega)).trans H.heap⟩
theorem CivAt.month {W : World} {B : Nat} {y m d h mi s wk : Int} (H : CivAt W B y m d h mi s wk) (v : Int) : CivAt (W.setCell ⟨B, 1, none⟩ (.int .i64 v)) B y v d h mi s wk := ⟨cells_set H.heap 1 _⟩
theorem CivAt.year {W : World} {B : Nat} {y m d h mi s wk : Int} (H : CivAt W B y m d h mi s wk) (v : Int) : CivAt (W.setCell ⟨B, 0, none⟩ (.int .i64 v)) B v m d h mi s wk := ⟨cells_set H.heap 0 _⟩
theorem CivAt.day {W : World} {B : Nat} {y m d h mi s wk : Int} (H : CivAt W B y m d h mi s wk) (v : Int) : CivAt (W.setCell ⟨B, 2, none⟩ (.int .i64 v)) B y m v h mi s wk := ⟨cells_set H.heap 2 _⟩
theorem CivAt.clock {W : World} {B : Nat} {y m d h mi s wk : Int} (H : CivAt W B y m d h mi s wk) (u v x : Int) : CivAt (((W.setCell ⟨B, 3, none⟩ (.int .i64 u)).setCell ⟨B, 4, none⟩ (.int .i64 v)).setCell ⟨B, 5, none⟩ (.int .i64 x)) B y m d u v x wk := ⟨cells_set (cells_set (cells_set H.heap 3 _) 4 _) 5 _⟩
theorem inRange_walk (t : Nat) (ht : t ≤ 4102444799) (w : World) : Calls Tryz.prog 58 #[.int .i64 t] w fun e w' => e = .returned (.bool true) ∧ w = w' := by
  go_enter Tryz.func58, Tryz.ntmps58
  go_wp2
  go_ret
  exact ⟨retBool (by simp; omega), rfl⟩
theorem cum_days (n : Nat) : daysM (1970 + n / 12) (n % 12 + 1) = dM n := rfl
theorem cum_bound : cum 1560 = 47482 := by decide +kernel
theorem months_few {n d : Nat} (h : cum n ≤ d) (hd : d ≤ 47481) : n < 1560 := by
  by_cases hn : n < 1560
  · exact hn
  · have := Pl.cum_mono (show 1560 ≤ n by omega); rw [cum_bound] at this; omega
/-- a moment's date -/
def civV (t : Nat) : Value := .agg #[.int .i64 ((1970 + (civN (t / 86400)).1 / 12 : Nat) : Int), .int .i64 (((civN (t / 86400)).1 % 12 + 1 : Nat) : Int), .int .i64 (((civN (t / 86400)).2 + 1 : Nat) : Int), .int .i64 ((t : Int) % 86400 / 3600), .int .i64 ((t : Int) % 86400 / 60 % 60), .int .i64 ((t : Int) % 60), .int .i64 (((t : Int) / 86400 + 4) % 7)]
set_option maxHeartbeats 8000000 in
set_option maxRecDepth 100000 in
theorem civil_walk (t : Nat) (ht : t ≤ 4102444799) (w : World) :
    Calls Tryz.prog 46 #[.int .i64 t] w fun e w' => e = .returned (.tuple #[civV t, .nilIface]) ∧ Below w.heap.size w w' := by
  have hR := CivAt.fresh w
  have hB1 : Below w.heap.size w (w.alloc (Obj.cells #[.int .i64 0, .int .i64 0, .int .i64 0, .int .i64 0, .int .i64 0, .int .i64 0, .int .i64 0] 51)) := (Below.refl _ _).alloc (Nat.le_refl _) _
  generalize h1 : w.alloc (Obj.cells #[.int .i64 0, .int .i64 0, .int .i64 0, .int .i64 0, .int .i64 0, .int .i64 0, .int .i64 0] 51) = w1 at hR hB1
  have hC := CivAt.fresh w1
  have hB2 : Below w1.heap.size w1 (w1.alloc (Obj.cells #[.int .i64 0, .int .i64 0, .int .i64 0, .int .i64 0, .int .i64 0, .int .i64 0, .int .i64 0] 51)) := (Below.refl _ _).alloc (Nat.le_refl _) _
  generalize h2 : w1.alloc (Obj.cells #[.int .i64 0, .int .i64 0, .int .i64 0, .int .i64 0, .int .i64 0, .int .i64 0, .int .i64 0] 51) = w2 at hC hB2
  obtain ⟨f0, f1, f2, f3, f4, f5, f6⟩ := hC.free
  obtain ⟨c0, c1, c2, c3, c4, c5, c6⟩ := hC.cells
  have zR := hR.lt
  have HR2 := hR.then hB2
  have HBl2 := below_then hB1 hB2
  have HC := Lib.hid hC
  have HR := Lib.hid HR2
  have HB2 := Lib.hid HBl2
  have hQ : ∃ d : Nat, d = t / 86400 := ⟨_, rfl⟩
  obtain ⟨d, hd⟩ := hQ
  have hdi : (t : Int) / 86400 = (d : Int) := by omega
  have hd1 : d ≤ 47481 := by omega
  have HV := Lib.hid (show civV t = .agg #[.int .i64 ((1970 + (civN d).1 / 12 : Nat) : Int), .int .i64 (((civN d).1 % 12 + 1 : Nat) : Int), .int .i64 (((civN d).2 + 1 : Nat) : Int), .int .i64 ((t : Int) % 86400 / 3600), .int .i64 ((t : Int) % 86400 / 60 % 60), .int .i64 ((t : Int) % 60), .int .i64 (((t : Int) / 86400 + 4) % 7)] by rw [hd]; rfl)
  have HDI := Lib.hid hdi
  clear HR2 HBl2 hC hR hB1 hB2 hdi hd
  go_enter Tryz.func46, Tryz.ntmps46
  go_wp2_with fail
  refine (inRange_walk t ht _).mono ?_
  rintro e w' ⟨rfl, rfl⟩
  go_wp2_with fail
  have hC3 := HC.out.all 1970 1 0 ((t : Int) % 86400 / 3600) ((t : Int) % 86400 / 60 % 60) ((t : Int) % 60) (((t : Int) / 86400 + 4) % 7)
  have hR3 := ((((((HR.out.other (b := w1.heap.size) (i := 0) (.int .i64 1970) (by omega)).other (b := w1.heap.size) (i := 1) (.int .i64 1) (by omega)).other (b := w1.heap.size) (i := 2) (.int .i64 0) (by omega)).other (b := w1.heap.size) (i := 3) (.int .i64 ((t : Int) % 86400 / 3600)) (by omega)).other (b := w1.heap.size) (i := 4) (.int .i64 ((t : Int) % 86400 / 60 % 60)) (by omega)).other (b := w1.heap.size) (i := 5) (.int .i64 ((t : Int) % 60)) (by omega)).other (b := w1.heap.size) (i := 6) (.int .i64 (((t : Int) / 86400 + 4) % 7)) (by omega)
  have hB3 := ((((((HB2.out.setCell (p := ⟨w1.heap.size, 0, none⟩) (by dsimp only; omega) (.int .i64 1970)).setCell (p := ⟨w1.heap.size, 1, none⟩) (by dsimp only; omega) (.int .i64 1)).setCell (p := ⟨w1.heap.size, 2, none⟩) (by dsimp only; omega) (.int .i64 0)).setCell (p := ⟨w1.heap.size, 3, none⟩) (by dsimp only; omega) (.int .i64 ((t : Int) % 86400 / 3600))).setCell (p := ⟨w1.heap.size, 4, none⟩) (by dsimp only; omega) (.int .i64 ((t : Int) % 86400 / 60 % 60))).setCell (p := ⟨w1.heap.size, 5, none⟩) (by dsimp only; omega) (.int .i64 ((t : Int) % 60))).setCell (p := ⟨w1.heap.size, 6, none⟩) (by dsimp only; omega) (.int .i64 (((t : Int) / 86400 + 4) % 7))
  generalize ((((((w2.setCell ⟨w1.heap.size, 0, none⟩ (.int .i64 1970)).setCell ⟨w1.heap.size, 1, none⟩ (.int .i64 1)).setCell ⟨w1.heap.size, 2, none⟩ (.int .i64 0)).setCell ⟨w1.heap.size, 3, none⟩ (.int .i64 ((t : Int) % 86400 / 3600))).setCell ⟨w1.heap.size, 4, none⟩ (.int .i64 ((t : Int) % 86400 / 60 % 60))).setCell ⟨w1.heap.size, 5, none⟩ (.int .i64 ((t : Int) % 60))).setCell ⟨w1.heap.size, 6, none⟩ (.int .i64 (((t : Int) / 86400 + 4) % 7)) = w3 at hC3 hR3 hB3
  have HR3 := Lib.hid hR3
  have HB3 := Lib.hid hB3
  have HC3 := Lib.hid hC3
  clear hC3 hR3 hB3 f0 f1 f2 f3 f4 f5 f6 c0 c1 c2 c3 c4 c5 c6 h1 h2 HC HR HB2
  rw [HDI.out]
  rw [HDI.out] at HC3 HV
  have zC : w.heap.size < w1.heap.size := zR
  generalize w1.heap.size = C at *
  generalize (t : Int) % 86400 / 3600 = hh at *
  generalize (t : Int) % 86400 / 60 % 60 = mi at *
  generalize (t : Int) % 60 = ss at *
  generalize ((d : Int) + 4) % 7 = wk at *
  refine (days_walk 1970 1 (by decide) (by decide) (by decide) w3).mono ?_
  rintro e w' ⟨rfl, rfl⟩
  go_wp2
  go_loopw [4, 7] (fun dv nv wr => ∃ n : Nat, cum n ≤ d ∧ dv = .int .i64 ((d - cum n : Nat) : Int) ∧ nv = .int .i64 ((dM n : Nat) : Int) ∧ Hid (CivAt wr C ((1970 + n / 12 : Nat) : Int) ((n % 12 + 1 : Nat) : Int) 0 hh mi ss wk) ∧ Hid (CivAt wr w.heap.size 0 0 0 0 0 0 0) ∧ Hid (Below w.heap.size w wr))
    (fun dv _ _ => (intOf dv).toNat)
  case atStart => exact ⟨0, Nat.zero_le _, rfl, rfl, HC3, HR3, HB3⟩
  case round =>
    obtain ⟨n, hn, rfl, rfl, HC, HR, HB⟩ := hrel
    have hd28 := Pl.dM_pos n
    have hfew := months_few hn hd1
    have hcs := Pl.cum_succ n
    have hdm : daysM (1970 + n / 12) (n % 12 + 1) = dM n := rfl
    have hds : daysM (1970 + (n + 1) / 12) ((n + 1) % 12 + 1) = dM (n + 1) := rfl
    obtain ⟨c0, c1, c2, c3, c4, c5, c6⟩ := HC.out.cells
    obtain ⟨f0, f1, f2, f3, f4, f5, f6⟩ := HC.out.free
    by_cases hk : dM n ≤ d - cum n
    · have hsub : ((d - cum n : Nat) : Int) - ((dM n : Nat) : Int) = ((d - cum (n + 1) : Nat) : Int) := by omega
      have HSub := Lib.hid hsub
      have hn1 : cum (n + 1) ≤ d := by omega
      by_cases hm : n % 12 = 11
      · have E1 := Lib.hid (show 1970 + (n + 1) / 12 = 1970 + n / 12 + 1 by omega)
        have E2 := Lib.hid (show (n + 1) % 12 + 1 = 1 by omega)
        have HCn := Lib.hid (((HC.out.month ((n % 12 + 1 : Nat) + 1)).year (((1970 + n / 12 : Nat) : Int) + 1)).month 1)
        have HRn := Lib.hid (((HR.out.other (b := C) (i := 1) (.int .i64 (((n % 12 + 1 : Nat) : Int) + 1)) (by omega)).other (b := C) (i := 0) (.int .i64 (((1970 + n / 12 : Nat) : Int) + 1)) (by omega)).other (b := C) (i := 1) (.int .i64 1) (by omega))
        have HBn := Lib.hid (((HB.out.setCell (p := ⟨C, 1, none⟩) (by dsimp only; omega) (.int .i64 (((n % 12 + 1 : Nat) : Int) + 1))).setCell (p := ⟨C, 0, none⟩) (by dsimp only; omega) (.int .i64 (((1970 + n / 12 : Nat) : Int) + 1))).setCell (p := ⟨C, 1, none⟩) (by dsimp only; omega) (.int .i64 1))
        have HD := Lib.hid (days_walk (1970 + n / 12 + 1) 1 (by omega) (by omega) (by omega))
        rw [E1.out, E2.out] at hds
        have HDS := Lib.hid hds
        have hmm : 12 < ((n % 12 + 1 : Nat) : Int) + 1 := by omega
        clear hds hsub hdm hcs
        generalize hM : n % 12 + 1 = M at *
        generalize hY : 1970 + n / 12 = Y at *
        generalize hN : dM n = N at *
        generalize hD : d - cum n = D at *
        go_wp2_with fail
        refine (HD.out _).mono ?_
        rintro e w' ⟨rfl, rfl⟩
        rw [HDS.out]
        go_wp2
        go_roundw
        case rel => exact ⟨n + 1, hn1, by rw [← HSub.out], rfl, by rw [E1.out, E2.out]; exact HCn, HRn, HBn⟩
        case measure => simp [intOf]; omega
      · have E1 := Lib.hid (show 1970 + (n + 1) / 12 = 1970 + n / 12 by omega)
        have E2 := Lib.hid (show (n + 1) % 12 + 1 = n % 12 + 1 + 1 by omega)
        have HCn := Lib.hid (HC.out.month ((n % 12 + 1 : Nat) + 1))
        have HRn := Lib.hid (HR.out.other (b := C) (i := 1) (.int .i64 (((n % 12 + 1 : Nat) : Int) + 1)) (by omega))
        have HBn := Lib.hid (HB.out.setCell (p := ⟨C, 1, none⟩) (by dsimp only; omega) (.int .i64 (((n % 12 + 1 : Nat) : Int) + 1)))
        have HD := Lib.hid (days_walk (1970 + n / 12) (n % 12 + 1 + 1) (by omega) (by omega) (by omega))
        rw [E1.out, E2.out] at hds
        have HDS := Lib.hid hds
        have hmm : ((n % 12 + 1 : Nat) : Int) + 1 ≤ 12 := by omega
        clear hds hsub hdm hcs
        generalize hM : n % 12 + 1 = M at *
        generalize hY : 1970 + n / 12 = Y at *
        generalize hN : dM n = N at *
        generalize hD : d - cum n = D at *
        go_wp2_with fail
        refine (HD.out _).mono ?_
        rintro e w' ⟨rfl, rfl⟩
        rw [HDS.out]
        go_wp2
        go_roundw
        case rel => exact ⟨n + 1, hn1, by rw [← HSub.out], rfl, by rw [E1.out, E2.out]; exact HCn, HRn, HBn⟩
        case measure => simp [intOf]; omega
    · obtain ⟨k1, k2⟩ := Pl.civ_one (d := d) (n := n) (k := d - cum n) (by omega) (by omega)
      have HV2 := HV.out
      rw [← k1, ← k2, show ((d - cum n + 1 : Nat) : Int) = ((d - cum n : Nat) : Int) + 1 from rfl] at HV2
      have HV3 := Lib.hid HV2
      have hlt : ((d - cum n : Nat) : Int) < ((dM n : Nat) : Int) := by omega
      have hdd := HC.out.day (((d - cum n : Nat) : Int) + 1)
      have hrd := HR.out.other (b := C) (i := 2) (.int .i64 (((d - cum n : Nat) : Int) + 1)) (by omega)
      have hbd := HB.out.setCell (p := ⟨C, 2, none⟩) (by dsimp only; omega) (.int .i64 (((d - cum n : Nat) : Int) + 1))
      obtain ⟨r0, r1, r2, r3, r4, r5, r6⟩ := hrd.cells
      obtain ⟨s0, s1, s2, s3, s4, s5, s6⟩ := hrd.free
      obtain ⟨d0, d1, d2, d3, d4, d5, d6⟩ := hdd.cells
      have hra := Lib.hid (hrd.all ((1970 + n / 12 : Nat) : Int) ((n % 12 + 1 : Nat) : Int) (((d - cum n : Nat) : Int) + 1) hh mi ss wk)
      have hba := Lib.hid (((((((hbd.setCell (p := ⟨w.heap.size, 0, none⟩) (Nat.le_refl _) (.int .i64 ((1970 + n / 12 : Nat) : Int))).setCell (p := ⟨w.heap.size, 1, none⟩) (Nat.le_refl _) (.int .i64 ((n % 12 + 1 : Nat) : Int))).setCell (p := ⟨w.heap.size, 2, none⟩) (Nat.le_refl _) (.int .i64 (((d - cum n : Nat) : Int) + 1))).setCell (p := ⟨w.heap.size, 3, none⟩) (Nat.le_refl _) (.int .i64 hh)).setCell (p := ⟨w.heap.size, 4, none⟩) (Nat.le_refl _) (.int .i64 mi)).setCell (p := ⟨w.heap.size, 5, none⟩) (Nat.le_refl _) (.int .i64 ss)).setCell (p := ⟨w.heap.size, 6, none⟩) (Nat.le_refl _) (.int .i64 wk))
      clear hdd hrd hbd hk k1 k2 HV2 hcs hdm hds
      generalize hw5 : wr.setCell ⟨C, 2, none⟩ (.int .i64 (((d - cum n : Nat) : Int) + 1)) = w5 at *
      generalize hM : n % 12 + 1 = M at *
      generalize hY : 1970 + n / 12 = Y at *
      generalize hN : dM n = N at *
      generalize hD : d - cum n = D at *
      go_wp2
      have q := hra.out.cells
      have HBa := hba
      obtain ⟨q0, q1, q2, q3, q4, q5, q6⟩ := q
      refine bodyPost_ret (v := .tuple #[civV t, .nilIface]) ?_ rfl ⟨rfl, hba.out⟩
      rw [HV3.out, results_cell_tmp rfl]
      simp [go_sem, q0, q1, q2, q3, q4, q5, q6]
end Go.Proofs.YtcalbpdcjklffaaGreatDoor
