/- The walks of slices.Collect at header.small's closure, of header.small and header.Same. -/
import Derived.Test.YtfaojafhamhncaaDoorCollect
namespace Go.Proofs.YtfaojafhamhncaaDoor
open Go.RowKit Go.Shelf
open Pl (Bs)
set_option linter.unusedSimpArgs false
set_option linter.unusedVariables false
def smallS (s : ByteArray) : ByteArray := ⟨((bs s).map smallB).toArray⟩
theorem bs_small (s : ByteArray) : bs (smallS s) = (bs s).map smallB := by simp [bs, smallS]
theorem own_string {w : World} {base n : Nat} {v : Value} {l : Bs} (hl : l.length = n) (h : w.ownsRow base 5 1 v n (l.map encB)) : (convert 72 9 v).run Tryd.prog w = .ok (.string ⟨l.toArray⟩) w := by
  subst hl
  rcases h.2 with ⟨rfl, h0⟩ | ⟨g, cap, cur, rfl, hb, hh, h1, h2, h3, h4⟩
  · obtain rfl : l = [] := List.eq_nil_of_length_eq_zero h0
    rw [run_convert_bytes_string w _ _ 5 none 0 0 Tryd.underlying72 Tryd.underlying5 Tryd.underlying9]
    first
    | rfl
    | (simp [Conv.bytesToString]; done)
    | (simp [Conv.bytesToString]; rfl)
  · refine run_convert_bytes_back w _ _ 5 _ cap l Tryd.underlying72 Tryd.underlying5 Tryd.underlying9 (fun j hj => ?_)
    exact h.cells (g := g) rfl j (encB l[j]) (by rw [List.getElem?_map, List.getElem?_eq_getElem hj]; rfl)
set_option maxHeartbeats 1000000 in
theorem collect_walk (Bn : Nat) (s : ByteArray) (hs : s.size ≤ 1000000) (w : World) (hBn : Bn < w.heap.size) (hc : w.cell? ⟨Bn, 0, none⟩ = some (.string s)) :
    Calls Tryd.prog 59 #[.func (.func 60) #[] #[.pointer (some ⟨Bn, 0, none⟩)]] w fun e w' => ∃ v, e = .returned v ∧ w'.ownsRow w.heap.size 5 1 v s.size (((bs s).map smallB).map encB) ∧ Below w.heap.size w w' := by
  have HA := Lib.hid (appendSeq_walk Bn s hs w hBn hc)
  clear hc
  go_enter Tryd.func59, Tryd.ntmps59
  go_wp2_with fail
  refine HA.out.mono ?_
  rintro e w' ⟨v, rfl, ho, hB⟩
  have HO := Lib.hid ho
  have HB := Lib.hid hB
  clear ho hB
  go_wp2
  go_ret
  exact ⟨v, rfl, HO.out, HB.out⟩
set_option maxHeartbeats 1000000 in
theorem small_walk (s : ByteArray) (hs : s.size ≤ 1000000) (w : World) :
    Calls Tryd.prog 46 #[.string s] w fun e w' => e = .returned (.string (smallS s)) ∧ Below w.heap.size w w' := by
  generalize h1 : w.alloc (Obj.cells #[.string s] 9) = w1
  have hB1 : Below w.heap.size w w1 := by rw [← h1]; exact (Below.refl _ _).alloc (Nat.le_refl _) _
  have hb : w1.heap[w.heap.size]? = some (.cells #[.string s] 9 (0, 0)) := by rw [← h1]; exact World.alloc_heap_new w _
  have HC := Lib.hid (collect_walk w.heap.size s hs w1 (Array.getElem?_eq_some_iff.1 hb).1 (cell_of_one hb))
  have HB1 := Lib.hid hB1
  clear hB1 hb
  go_enter Tryd.func46, Tryd.ntmps46
  go_wp2_with fail
  try rw [h1]
  refine HC.out.mono ?_
  rintro e w' ⟨v, rfl, ho, hB⟩
  have hcv := own_string (l := (bs s).map smallB) (by rw [List.length_map, bs_size]) ho
  obtain ⟨A, c, rfl⟩ := own_shape ho
  have HB := Lib.hid (below_then HB1.out hB)
  clear ho hB
  have hcv' : (convert 72 9 (.slice A s.size c)).run Tryd.prog w' = .ok (.string (smallS s)) w' := hcv
  clear hcv
  go_wp2
  go_ret
  exact ⟨rfl, HB.out⟩
def sameS (a b : ByteArray) : Bool := decide ((bs a).map smallB = (bs b).map smallB)
set_option maxHeartbeats 1000000 in
theorem sameT_walk (a b : ByteArray) (ha : a.size ≤ 1000000) (hb : b.size ≤ 1000000) (w : World) :
    Calls Tryd.prog 33 #[.string a, .string b] w fun e w' => e = .returned (.bool (sameS a b)) ∧ Below w.heap.size w w' := by
  have hv : ((smallS a).toList == (smallS b).toList) = sameS a b := by
    rw [Lib.toList_data, Lib.toList_data, show (smallS a).data.toList = (bs a).map smallB from bs_small a, show (smallS b).data.toList = (bs b).map smallB from bs_small b]
    rw [Bool.eq_iff_iff, beq_iff_eq, sameS, decide_eq_true_iff]
  have HV := Lib.hid hv
  clear hv
  go_enter Tryd.func33, Tryd.ntmps33
  go_wp2_with fail
  refine (small_walk a ha _).mono ?_
  rintro e w1 ⟨rfl, hB1⟩
  have HB1 := Lib.hid hB1
  clear hB1
  go_wp2_with fail
  refine (small_walk b hb _).mono ?_
  rintro e w2 ⟨rfl, hB2⟩
  have HB2 := Lib.hid (below_then HB1.out hB2)
  clear hB2
  go_wp2
  go_ret
  exact ⟨by rw [← HV.out]; rfl, HB2.out⟩
end Go.Proofs.YtfaojafhamhncaaDoor
