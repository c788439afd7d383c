/- The walk of postbaglaw08.alive. -/
import Derived.Test.YtcalbpdcjklffaaDoorTakeLaw
import Derived.Test.YtcalbpdcjklffaaDoorNum
namespace Go.Proofs.YtcalbpdcjklffaaDoor
open Go.RowKit
open Pl (Bs goTake)
set_option linter.unusedSimpArgs false
set_option linter.unusedVariables false
def sA : ByteArray := ⟨#[60, 97, 46, 98, 64, 99, 45, 100, 46, 101, 62]⟩
def sA1 : ByteArray := ⟨#[97, 46, 98]⟩
def sA2 : ByteArray := ⟨#[99, 45, 100, 46, 101]⟩
def sB : ByteArray := ⟨#[60, 62, 32, 83, 73, 90, 69, 61, 49]⟩
def sB1 : ByteArray := ⟨#[32, 83, 73, 90, 69, 61, 49]⟩
theorem reads_A : pOk sA = true ∧ pLo sA = sA1 ∧ pD sA = sA2 := take_reads (by decide +kernel)
theorem reads_B : tOk sB = true ∧ tLo sB = ⟨#[]⟩ ∧ tD sB = ⟨#[]⟩ ∧ tRest sB = sB1 := by
  have h : goTake (bs sB) = some (bs ⟨#[]⟩, bs ⟨#[]⟩, bs sB1) := by decide +kernel
  rw [goTake_t] at h
  cases ht : tOk sB with
  | false => rw [ht] at h; simp at h
  | true =>
    rw [ht, if_pos rfl] at h
    simp only [Option.some.injEq, Prod.mk.injEq] at h
    exact ⟨rfl, bs_inj h.1, bs_inj h.2.1, bs_inj h.2.2⟩
theorem pV_A (v : Value) : pV sA v = .tuple #[.agg #[.string sA1, .string sA2], .nilIface] := by
  obtain ⟨h1, h2, h3⟩ := reads_A
  rw [pV, h1, h2, h3]; rfl
theorem tV_B (v : Value) : tV sB v = .tuple #[.agg #[.string ⟨#[]⟩, .string ⟨#[]⟩], .string sB1, .nilIface] := by
  obtain ⟨h1, h2, h3, h4⟩ := reads_B
  rw [tV, h1, h2, h3, h4]; rfl
set_option maxHeartbeats 2000000 in
set_option maxRecDepth 100000 in
theorem alive08 (v : Value) (w : World) (hc : w.cell? ⟨2, 0, none⟩ = some v) (hv : ∃ t x, v = .iface t x) :
    Calls Tryd.prog 20 #[] w fun e w' => e = .returned (.bool true) ∧ Below w.heap.size w w' := by
  have HC := Lib.hid hc
  clear hc
  have HV := Lib.hid hv
  clear hv
  go_enter Tryd.func20, Tryd.ntmps20
  go_wp2_with fail
  refine (parse_walk sA v w (by decide) HC.out HV.out).mono ?_
  rintro e w2 ⟨rfl, hB2⟩
  rw [pV_A]
  have HB2 := Lib.hid hB2
  have HS2 := Lib.hid (sent_then HC.out hB2)
  clear hB2
  generalize h3 : w2.alloc (Obj.cells #[.string ⟨#[]⟩, .string ⟨#[]⟩] 47) = w3
  generalize h4 : (w3.setCell ⟨w2.heap.size, 0, none⟩ (.string sA1)).setCell ⟨w2.heap.size, 1, none⟩ (.string sA2) = w4
  obtain ⟨hB4, hP4, hP3⟩ := path_laid w2 sA1 sA2 h3 h4
  have HB4 := Lib.hid (below_then HB2.out hB4)
  have HS4 := Lib.hid (sent_then HS2.out hB4)
  have HP4 := Lib.hid hP4
  obtain ⟨p2, p3, p4, p5⟩ := two_cells hP3.heap
  clear hB4 hP3 hP4
  go_wp2_with fail
  refine (take_walk sB v w4 (by decide) HS4.out HV.out).mono ?_
  rintro e w5 ⟨rfl, hB5⟩
  rw [tV_B]
  have HB5 := Lib.hid (below_then HB4.out hB5)
  have HP5 := Lib.hid (HP4.out.then hB5)
  clear hB5
  generalize h6 : w5.alloc (Obj.cells #[.string ⟨#[]⟩, .string ⟨#[]⟩] 47) = w6
  generalize h7 : (w6.setCell ⟨w5.heap.size, 0, none⟩ (.string ⟨#[]⟩)).setCell ⟨w5.heap.size, 1, none⟩ (.string ⟨#[]⟩) = w7
  obtain ⟨hB7, hP7, hP6⟩ := path_laid w5 ⟨#[]⟩ ⟨#[]⟩ h6 h7
  have HB7 := Lib.hid (below_then HB5.out hB7)
  obtain ⟨q2, q3, q4, q5⟩ := two_cells hP6.heap
  obtain ⟨r2, r3, r4, r5⟩ := two_cells hP7.heap
  obtain ⟨k2, k3, k4, k5⟩ := two_cells (HP5.out.then hB7).heap
  clear hB7 hP7 hP6
  have c1 : (sA1.toList == [97, 46, 98]) = true := by rw [Lib.toList_data]; rfl
  have c2 : (sA2.toList == [99, 45, 100, 46, 101]) = true := by rw [Lib.toList_data]; rfl
  have c3 : (sB1.toList == [32, 83, 73, 90, 69, 61, 49]) = true := by rw [Lib.toList_data]; rfl
  go_wp2
  go_ret
  exact ⟨rfl, HB7.out⟩
end Go.Proofs.YtcalbpdcjklffaaDoor
