/- The walks of dates.text and dates.Mail at moments in range, and at others. -/
import Derived.Test.YtcalbpdcjklffaaGreatDoorMail
import Derived.RegionTactic
import Derived.BigRegion
namespace Go.Proofs.YtcalbpdcjklffaaGreatDoor
open Go.RowKit
open Pl (civN cum dM)
set_option linter.unusedSimpArgs false
set_option linter.unusedVariables false
def cY (t : Nat) : Int := ((1970 + (civN (t / 86400)).1 / 12 : Nat) : Int)
def cM (t : Nat) : Int := (((civN (t / 86400)).1 % 12 + 1 : Nat) : Int)
def cD (t : Nat) : Int := (((civN (t / 86400)).2 + 1 : Nat) : Int)
def cH (t : Nat) : Int := (t : Int) % 86400 / 3600
def cI (t : Nat) : Int := (t : Int) % 86400 / 60 % 60
def cS (t : Nat) : Int := (t : Int) % 60
def cW (t : Nat) : Int := ((t : Int) / 86400 + 4) % 7
theorem civV_def (t : Nat) : civV t = civ (cY t) (cM t) (cD t) (cH t) (cI t) (cS t) (cW t) := rfl
theorem dM_most (n : Nat) : dM n ≤ 31 := by
  unfold dM Pl.daysM
  split
  · split <;> omega
  · split
    · omega
    · split <;> omega
theorem good_at (t : Nat) (ht : t ≤ 4102444799) : Good (cY t) (cM t) (cD t) (cH t) (cI t) (cS t) (cW t) := by
  have hd : t / 86400 ≤ 47481 := by omega
  obtain ⟨h1, h2⟩ := Pl.civ_is (t / 86400)
  have hn := months_few (n := (civN (t / 86400)).1) (d := t / 86400) (by omega) hd
  have hm := dM_most (civN (t / 86400)).1
  constructor <;> (first | unfold cY | unfold cM | unfold cD | unfold cH | unfold cI | unfold cS | unfold cW) <;> omega
def mailT (t : Nat) : ByteArray := mailS (cY t) (cM t) (cD t) (cH t) (cI t) (cS t) (cW t)
theorem mailS_size {y m d h mi s wk : Int} (g : Good y m d h mi s wk) : (mailS y m d h mi s wk).size ≤ 300 := by
  have z0 : (⟨#[48]⟩ : ByteArray).size ≤ 1 := by decide
  have zw := weekS_size wk
  have zm := monthS_size m
  have zd := twoS_size d g.d1 ⟨#[48]⟩ z0
  have zy := decS_few y.toNat (by have := g.y1; omega)
  have zc := clockS_size h mi s g.h1 g.i1 g.s1
  have e1 : (⟨#[44, 32]⟩ : ByteArray).size = 2 := rfl
  have e2 : (⟨#[32]⟩ : ByteArray).size = 1 := rfl
  have e3 : (⟨#[32, 43, 48, 48, 48, 48]⟩ : ByteArray).size = 6 := rfl
  simp only [mailS, ByteArray.size_append]
  omega
theorem mailT_size (t : Nat) (ht : t ≤ 4102444799) : (mailT t).size ≤ 300 := mailS_size (good_at t ht)
set_option maxHeartbeats 4000000 in
set_option maxRecDepth 100000 in
theorem mail_walk (t : Nat) (ht : t ≤ 4102444799) (w : World) (hT : TabW w) :
    Calls Tryz.prog 14 #[.int .i64 t] w fun e w' => e = .returned (.tuple #[.string (mailT t), .nilIface]) ∧ Below w.heap.size w w' := by
  have HT := Lib.hid hT
  have KC := Lib.hid (fun W => civil_walk t ht W)
  have KM := Lib.hid (fun W => mail1_walk _ _ _ _ _ _ _ (good_at t ht) W)
  have HV := Lib.hid (show mailT t = mailS (cY t) (cM t) (cD t) (cH t) (cI t) (cS t) (cW t) from rfl)
  rw [civV_def] at KC
  generalize hY : cY t = Y at *
  generalize hM : cM t = M at *
  generalize hD : cD t = D at *
  generalize hH : cH t = H at *
  generalize hI : cI t = I at *
  generalize hS : cS t = S at *
  generalize hW : cW t = K at *
  clear hT hY hM hD hH hI hS hW
  go_enter Tryz.func14, Tryz.ntmps14
  go_wp2_with (first | (go_at_call 25; go_in) | fail)
  refine (KC.out _).mono ?_
  rintro e w1 ⟨rfl, hB1⟩
  have hC := CivAt.fresh w1
  have hB2 := alloc_b w1 (Obj.cells #[.int .i64 0, .int .i64 0, .int .i64 0, .int .i64 0, .int .i64 0, .int .i64 0, .int .i64 0] 51)
  generalize h2 : w1.alloc (Obj.cells #[.int .i64 0, .int .i64 0, .int .i64 0, .int .i64 0, .int .i64 0, .int .i64 0, .int .i64 0] 51) = w2 at hC hB2
  obtain ⟨f0, f1, f2, f3, f4, f5, f6⟩ := hC.free
  obtain ⟨c0, c1, c2, c3, c4, c5, c6⟩ := hC.cells
  go_wp2_with fail
  have hz := hB1.size
  have hB3 := (((((((below_then hB1 hB2).setCell (p := ⟨w1.heap.size, 0, none⟩) hz (.int .i64 Y)).setCell (p := ⟨w1.heap.size, 1, none⟩) hz (.int .i64 M)).setCell (p := ⟨w1.heap.size, 2, none⟩) hz (.int .i64 D)).setCell (p := ⟨w1.heap.size, 3, none⟩) hz (.int .i64 H)).setCell (p := ⟨w1.heap.size, 4, none⟩) hz (.int .i64 I)).setCell (p := ⟨w1.heap.size, 5, none⟩) hz (.int .i64 S)).setCell (p := ⟨w1.heap.size, 6, none⟩) hz (.int .i64 K)
  generalize (((((((w2.setCell ⟨w1.heap.size, 0, none⟩ (.int .i64 Y)).setCell ⟨w1.heap.size, 1, none⟩ (.int .i64 M)).setCell ⟨w1.heap.size, 2, none⟩ (.int .i64 D)).setCell ⟨w1.heap.size, 3, none⟩ (.int .i64 H)).setCell ⟨w1.heap.size, 4, none⟩ (.int .i64 I)).setCell ⟨w1.heap.size, 5, none⟩ (.int .i64 S)).setCell ⟨w1.heap.size, 6, none⟩ (.int .i64 K)) = w3 at hB3
  have HB3 := Lib.hid hB3
  clear hB3 hC hB2 c0 c1 c2 c3 c4 c5 c6 f0 f1 f2 f3 f4 f5 f6 h2
  refine (KM.out _ (HT.out.then HB3.out)).mono ?_
  rintro e w4 ⟨rfl, hB4⟩
  have HB4 := Lib.hid (below_then HB3.out hB4)
  clear hB4
  go_wp2
  go_ret2
  exact ⟨by rw [HV.out]; rfl, HB4.out⟩
theorem inRange_bad (t : Int) (ht : t < 0 ∨ 4102444799 < t) (w : World) : Calls Tryz.prog 58 #[.int .i64 t] w fun e w' => e = .returned (.bool false) ∧ w = w' := by
  go_enter Tryz.func58, Tryz.ntmps58
  go_wp2
  all_goals go_ret
  all_goals exact ⟨retBool (by first | (simp; done) | (simp; omega)), rfl⟩
set_option maxHeartbeats 4000000 in
set_option maxRecDepth 100000 in
theorem civil_bad (t : Int) (ht : t < 0 ∨ 4102444799 < t) (ty : TypeId) (x : Value) (w : World) (hc : w.cell? ⟨0, 0, none⟩ = some (.iface ty x)) :
    Calls Tryz.prog 46 #[.int .i64 t] w fun e w' => e = .returned (.tuple #[civ 0 0 0 0 0 0 0, .iface ty x]) ∧ Below w.heap.size w w' := by
  have hR := CivAt.fresh w
  have hB1 := alloc_b w (Obj.cells #[.int .i64 0, .int .i64 0, .int .i64 0, .int .i64 0, .int .i64 0, .int .i64 0, .int .i64 0] 51)
  have zg : 0 < w.heap.size := World.block_lt_of_cell? w _ hc
  have hc1 := (hB1.cell (p := ⟨0, 0, none⟩) zg).trans hc
  generalize h1 : w.alloc (Obj.cells #[.int .i64 0, .int .i64 0, .int .i64 0, .int .i64 0, .int .i64 0, .int .i64 0, .int .i64 0] 51) = w1 at hR hB1 hc1
  obtain ⟨c0, c1, c2, c3, c4, c5, c6⟩ := hR.cells
  obtain ⟨f0, f1, f2, f3, f4, f5, f6⟩ := hR.free
  have HB1 := Lib.hid hB1
  have HR := Lib.hid hR
  clear hR hB1 hc
  go_enter Tryz.func46, Tryz.ntmps46
  go_wp2_with fail
  refine (inRange_bad t ht _).mono ?_
  rintro e w' ⟨rfl, rfl⟩
  go_wp2
  go_region
  all_goals go_wp2
  all_goals
    have hra := HR.out.all 0 0 0 0 0 0 0
    have hba := Lib.hid (((((((HB1.out.setCell (p := ⟨w.heap.size, 0, none⟩) (Nat.le_refl _) (.int .i64 0)).setCell (p := ⟨w.heap.size, 1, none⟩) (Nat.le_refl _) (.int .i64 0)).setCell (p := ⟨w.heap.size, 2, none⟩) (Nat.le_refl _) (.int .i64 0)).setCell (p := ⟨w.heap.size, 3, none⟩) (Nat.le_refl _) (.int .i64 0)).setCell (p := ⟨w.heap.size, 4, none⟩) (Nat.le_refl _) (.int .i64 0)).setCell (p := ⟨w.heap.size, 5, none⟩) (Nat.le_refl _) (.int .i64 0)).setCell (p := ⟨w.heap.size, 6, none⟩) (Nat.le_refl _) (.int .i64 0))
    generalize (((((((w1.setCell ⟨w.heap.size, 0, none⟩ (.int .i64 0)).setCell ⟨w.heap.size, 1, none⟩ (.int .i64 0)).setCell ⟨w.heap.size, 2, none⟩ (.int .i64 0)).setCell ⟨w.heap.size, 3, none⟩ (.int .i64 0)).setCell ⟨w.heap.size, 4, none⟩ (.int .i64 0)).setCell ⟨w.heap.size, 5, none⟩ (.int .i64 0)).setCell ⟨w.heap.size, 6, none⟩ (.int .i64 0)) = w5 at *
    have hrd : CivAt w5.drew w.heap.size 0 0 0 0 0 0 0 := ⟨hra.heap⟩
    obtain ⟨q0, q1, q2, q3, q4, q5, q6⟩ := hrd.cells
    refine bodyPost_ret (v := .tuple #[civ 0 0 0 0 0 0 0, .iface ty x]) ?_ rfl ⟨rfl, below_drew0 hba.out⟩
    rw [results_cell_tmp rfl]
    simp [go_sem, q0, q1, q2, q3, q4, q5, q6]
set_option maxHeartbeats 4000000 in
set_option maxRecDepth 100000 in
theorem mail_bad (t : Int) (ht : t < 0 ∨ 4102444799 < t) (ty : TypeId) (x : Value) (w : World) (hc : w.cell? ⟨0, 0, none⟩ = some (.iface ty x)) :
    Calls Tryz.prog 14 #[.int .i64 t] w fun e w' => e = .returned (.tuple #[.string ⟨#[]⟩, .iface ty x]) ∧ Below w.heap.size w w' := by
  have KC := Lib.hid (civil_bad t ht ty x w hc)
  clear hc
  go_enter Tryz.func14, Tryz.ntmps14
  go_wp2_with (first | (go_at_call 25; go_in) | fail)
  refine KC.out.mono ?_
  rintro e w1 ⟨rfl, hB1⟩
  have hC := CivAt.fresh w1
  have hB2 := alloc_b w1 (Obj.cells #[.int .i64 0, .int .i64 0, .int .i64 0, .int .i64 0, .int .i64 0, .int .i64 0, .int .i64 0] 51)
  generalize h2 : w1.alloc (Obj.cells #[.int .i64 0, .int .i64 0, .int .i64 0, .int .i64 0, .int .i64 0, .int .i64 0, .int .i64 0] 51) = w2 at hC hB2
  obtain ⟨f0, f1, f2, f3, f4, f5, f6⟩ := hC.free
  obtain ⟨c0, c1, c2, c3, c4, c5, c6⟩ := hC.cells
  have hz := hB1.size
  have HB3 := Lib.hid ((((((((below_then hB1 hB2).setCell (p := ⟨w1.heap.size, 0, none⟩) hz (.int .i64 0)).setCell (p := ⟨w1.heap.size, 1, none⟩) hz (.int .i64 0)).setCell (p := ⟨w1.heap.size, 2, none⟩) hz (.int .i64 0)).setCell (p := ⟨w1.heap.size, 3, none⟩) hz (.int .i64 0)).setCell (p := ⟨w1.heap.size, 4, none⟩) hz (.int .i64 0)).setCell (p := ⟨w1.heap.size, 5, none⟩) hz (.int .i64 0)).setCell (p := ⟨w1.heap.size, 6, none⟩) hz (.int .i64 0))
  clear hC hB2 hz hB1
  go_wp2
  go_ret2
  exact ⟨rfl, HB3.out⟩
end Go.Proofs.YtcalbpdcjklffaaGreatDoor
