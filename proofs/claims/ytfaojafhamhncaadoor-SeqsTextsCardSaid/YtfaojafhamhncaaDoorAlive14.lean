/- The walk of postbaglaw14.alive. -/
import Derived.Test.YtfaojafhamhncaaDoorSet
import Derived.Test.YtfaojafhamhncaaDoorOf
import Derived.Test.YtfaojafhamhncaaDoorFlagsText
namespace Go.Proofs.YtfaojafhamhncaaDoor
open Go.RowKit
open Pl (Bs setOk setL)
set_option linter.unusedSimpArgs false
set_option linter.unusedVariables false
def sSet : ByteArray := ⟨#[50, 58, 52, 44, 42]⟩
def sSeen : ByteArray := ⟨#[40, 92, 115, 101, 101, 110, 41]⟩
theorem set_A : setOk (bs sSet) = true ∧ setL (bs sSet) = [(2, 4), (0, 0)] := by decide +kernel
theorem seen_A : flagsOk sSeen = true ∧ flagsI sSeen = 1 := by decide +kernel
theorem text_A : flagsTextS 9 = ⟨#[40, 92, 83, 101, 101, 110, 32, 92, 68, 101, 108, 101, 116, 101, 100, 41]⟩ := by decide +kernel
theorem of_A : ofK [(2, 4), (0, 0)] [1, 3, 9] 9 3 = [3, 9] := by decide +kernel
/-- '[]int{..}' of three -/
theorem three_cells {W w1 : World} {a b c : Value} {t : TypeId} (h : W.alloc (Obj.cells #[a, b, c] t) = w1) :
    w1.cell? ⟨W.heap.size, 0, none⟩ = some a ∧ w1.cell? ⟨W.heap.size, 1, none⟩ = some b ∧ w1.cell? ⟨W.heap.size, 2, none⟩ = some c := by
  have hP : w1.heap[W.heap.size]? = some (Obj.cells #[a, b, c] t) := by rw [← h]; exact World.alloc_heap_new W _
  refine ⟨?_, ?_, ?_⟩ <;> simp [World.cell?, hP]
set_option maxHeartbeats 4000000 in
set_option maxRecDepth 100000 in
theorem alive14 (v : Value) (w : World) (hc : w.cell? ⟨0, 0, none⟩ = some v) (hv : ∃ t x, v = .iface t x) :
    Calls Tryd.prog 11 #[] w fun e w' => e = .returned (.bool true) ∧ Below w.heap.size w w' := by
  have HC := Lib.hid hc
  clear hc
  have HV := Lib.hid hv
  clear hv
  go_enter Tryd.func11, Tryd.ntmps11
  go_wp2_with fail
  refine (set_walk sSet v w (by decide) HC.out HV.out).mono ?_
  rintro e w2 ⟨r, rfl, ho, hB2⟩
  have hE : setE (bs sSet) v = .nilIface := by rw [setE, set_A.1]; rfl
  rw [hE]
  rw [set_A.2] at ho
  obtain ⟨A, c, rfl, hR⟩ := ranges_own (xs := [(2, 4), (0, 0)]) (n := 2) rfl (by decide) ho
  have HR := Lib.hid hR
  have HB2 := Lib.hid hB2
  clear hE ho hR hB2
  go_wp2_with fail
  refine (flags_walk sSeen v w2 (by decide) (sent_then HC.out HB2.out) HV.out).mono ?_
  rintro e w3 ⟨rfl, hB3⟩
  have hE : flagsE sSeen v = .nilIface := by rw [flagsE, seen_A.1]; rfl
  rw [hE, seen_A.2]
  have HB3 := Lib.hid (below_then HB2.out hB3)
  have HR3 := Lib.hid (HR.out.then hB3)
  clear hE hB3 HR
  go_wp2_with fail
  generalize h4 : w3.alloc (Obj.cells #[.int .i64 1, .int .i64 3, .int .i64 9] 3) = w4
  have hB4 : Below w3.heap.size w3 w4 := by rw [← h4]; exact (Below.refl _ _).alloc (Nat.le_refl _) _
  obtain ⟨c0, c1, c2⟩ := three_cells h4
  have z4 : w4.heap.size = w3.heap.size + 1 := by rw [← h4]; simp
  have HO := Lib.hid (of_walk A 2 c w3.heap.size 0 3 3 [(2, 4), (0, 0)] [1, 3, 9] w4 (HR3.out.then hB4) rfl (by decide) (by decide) (by omega) (fun j hj => by
    have : j = 0 ∨ j = 1 ∨ j = 2 := by omega
    rcases this with rfl | rfl | rfl
    · exact c0
    · exact c1
    · exact c2))
  have HB4 := Lib.hid (below_then HB3.out hB4)
  clear hB4 c0 c1 c2
  refine HO.out.mono ?_
  rintro e w5 ⟨u, rfl, ho, hB5⟩
  rw [show ([1, 3, 9] : List Int).getD (3 - 1) 0 = 9 from rfl, of_A] at ho
  have HB5 := Lib.hid (below_then HB4.out hB5)
  obtain ⟨A5, c5, rfl, _⟩ := IntsAt.of_own (n := 2) (xs := [3, 9]) ho (by decide)
  have HI := Lib.hid ho
  clear ho hB5 HO
  go_wp2_with fail
  generalize h6 : w5.alloc (Obj.cells #[.int .i64 3, .int .i64 9] 3) = w6
  have hB6 : Below w5.heap.size w5 w6 := by rw [← h6]; exact (Below.refl _ _).alloc (Nat.le_refl _) _
  have hP6 : w6.heap[w5.heap.size]? = some (Obj.cells #[.int .i64 3, .int .i64 9] 3) := by rw [← h6]; exact World.alloc_heap_new w5 _
  obtain ⟨d0, d1, d2, d3⟩ := two_cells hP6
  have hJ : IntsAt w6 (some ⟨w5.heap.size, 0, none⟩) 2 [3, 9] := ⟨rfl, by decide, fun _ => ⟨w5.heap.size, 0, rfl, fun j hj => by
    have : j = 0 ∨ j = 1 := by omega
    rcases this with rfl | rfl
    · first | exact d0 | exact d1 | exact d2 | exact d3
    · first | exact d0 | exact d1 | exact d2 | exact d3⟩⟩
  obtain ⟨A6, c6, e6, hI⟩ := IntsAt.of_own (n := 2) (xs := [3, 9]) (own_below HI.out hB6) (by decide)
  obtain ⟨rfl, _, rfl⟩ : A5 = A6 ∧ True ∧ c5 = c6 := by cases e6; exact ⟨rfl, trivial, rfl⟩
  refine (same_eq A5 (some ⟨w5.heap.size, 0, none⟩) 2 c5 2 [3, 9] [3, 9] w6 hI hJ).mono ?_
  rintro e w7 ⟨rfl, q, rfl⟩
  rw [show sameB [3, 9] [3, 9] = true by decide]
  have HB6 := Lib.hid (below_then HB5.out hB6)
  clear hJ d0 d1 d2 d3 hP6 hB6
  go_wp2_with fail
  refine (flagsText_walk 9 _).mono ?_
  rintro e w8 ⟨rfl, hB8⟩
  rw [text_A]
  have HB8 := Lib.hid (below_then (below_draws HB6.out _) hB8)
  clear hB8
  go_wp2
  go_ret
  exact ⟨rfl, HB8.out⟩
end Go.Proofs.YtfaojafhamhncaaDoor
