/- The walks of the document's Small and name. -/
import Derived.Test.YtfaojafhamhncaaDoorRefCut
import Derived.Test.YtfaojafhamhncaaDoorSame
namespace Go.Proofs.YtfaojafhamhncaaDoor
open Go.RowKit
set_option linter.unusedSimpArgs false
set_option linter.unusedVariables false
/-- the bytes' row behind k rounds -/
structure SmallSt (W : World) (g : Nat) (s : ByteArray) (k : Nat) : Prop where
  row : ∃ (cs : Array Value) (fr : Nat × Nat), W.heap[g]? = some (.cells cs 5 fr) ∧ s.size ≤ fr.1 ∧ s.size ≤ cs.size ∧ ∀ (j : Nat) (hj : j < s.size), cs[j]? = some (.int .u8 (((if j < k then smallB s[j] else s[j]).toNat : Nat) : Int))
theorem SmallSt.cell {W : World} {g k j : Nat} {s : ByteArray} (h : SmallSt W g s k) (hj : j < s.size) : W.cell? ⟨g, j, none⟩ = some (.int .u8 (((if j < k then smallB s[j] else s[j]).toNat : Nat) : Int)) ∧ W.frozen? ⟨g, j, none⟩ = false := by
  obtain ⟨cs, fr, h1, h2, h3, h4⟩ := h.row
  refine ⟨by simp [World.cell?, h1, h4 j hj], ?_⟩
  simp only [World.frozen?, h1]
  simp
  omega
theorem SmallSt.keep {W : World} {g k : Nat} {s : ByteArray} (hk : k < s.size) (h : SmallSt W g s k) (hs : smallB s[k] = s[k]) : SmallSt W g s (k + 1) := by
  obtain ⟨cs, fr, h1, h2, h3, h4⟩ := h.row
  refine ⟨cs, fr, h1, h2, h3, fun j hj => ?_⟩
  rw [h4 j hj]
  by_cases e : j = k
  · subst e; rw [if_neg (by omega), if_pos (by omega), hs]
  · by_cases e2 : j < k
    · rw [if_pos e2, if_pos (by omega)]
    · rw [if_neg e2, if_neg (by omega)]
theorem SmallSt.put {W : World} {g k : Nat} {s : ByteArray} (hk : k < s.size) (h : SmallSt W g s k) : SmallSt (W.setCell ⟨g, k, none⟩ (.int .u8 (((smallB s[k]).toNat : Nat) : Int))) g s (k + 1) := by
  obtain ⟨cs, fr, h1, h2, h3, h4⟩ := h.row
  refine ⟨cs.setIfInBounds k (.int .u8 (((smallB s[k]).toNat : Nat) : Int)), fr, by simp [World.setCell, Array.getElem?_modify, h1], h2, by simpa using h3, fun j hj => ?_⟩
  rw [Array.getElem?_setIfInBounds]
  by_cases e : k = j
  · subst e; rw [if_pos rfl, if_pos (by omega), if_pos (by omega)]
  · rw [if_neg e, h4 j hj]
    by_cases e2 : j < k
    · rw [if_pos e2, if_pos (by omega)]
    · rw [if_neg e2, if_neg (by omega)]
theorem small_up (c : UInt8) (h1 : 65 ≤ c.toNat) (h2 : c.toNat ≤ 90) : ((smallB c).toNat : Int) = (c.toNat : Int) + 32 := by
  rw [smallB, if_pos ⟨h1, h2⟩, UInt8.toNat_add]
  have : (32 : UInt8).toNat = 32 := rfl
  omega
theorem small_not (c : UInt8) (h : ¬ (65 ≤ c.toNat ∧ c.toNat ≤ 90)) : smallB c = c := by rw [smallB, if_neg h]
set_option maxHeartbeats 4000000 in
set_option maxRecDepth 100000 in
theorem refSmall_walk (s : ByteArray) (hs : s.size ≤ 1000000) (w : World) :
    Calls Tryd.prog 39 #[.string s] w fun e w' => e = .returned (.string (smallS s)) ∧ Below w.heap.size w w' := by
  obtain ⟨w1, cap, cs, fr, hcv, hB, hh, _, ⟨W, hw, rfl⟩, hcell⟩ := bytes_mark w s
  have hrun := run_bytes_of_string (P := Tryd.prog) w 9 72 5 s Tryd.underlying9 Tryd.underlying72 Tryd.underlying5
  rw [hcv] at hrun
  have hrun' := (Result.ok.inj hrun)
  have HS : SmallSt w1 w.heap.size s 0 := by
    refine ⟨_, _, by rw [hrun'.2]; exact World.alloc_heap_new w.drew _, ?_, ?_, fun j hj => ?_⟩
    · simp [bytesRow]
    · simp [bytesRow]
    · rw [if_neg (by omega)]; exact bytesRow_at s _ j hj
  have HB := Lib.hid hB
  have HS0 := Lib.hid HS
  clear hB HS hrun hrun' hh hw hcell
  go_enter Tryd.func39, Tryd.ntmps39
  go_wp2
  clear hcv
  go_loopw [9] (fun i wr => ∃ k : Nat, k ≤ s.size ∧ i = .int .i64 k ∧ Hid (SmallSt wr w.heap.size s k) ∧ Hid (Below w.heap.size w wr)) (fun i _ => s.size - (intOf i).toNat)
  case atStart => exact ⟨0, Nat.zero_le _, rfl, HS0, HB⟩
  case round =>
    obtain ⟨k, hk, rfl, HS, HB⟩ := hrel
    have zs := HB.out.size
    by_cases hkn : k < s.size
    · obtain ⟨c1, f1⟩ := HS.out.cell hkn
      rw [if_neg (Nat.lt_irrefl k)] at c1
      by_cases hu : 65 ≤ (s[k]'hkn).toNat ∧ (s[k]'hkn).toNat ≤ 90
      · obtain ⟨u1, u2⟩ := hu
        have HN := Lib.hid (HS.out.put hkn)
        have HU := Lib.hid (small_up _ u1 u2)
        have HBn := Lib.hid (HB.out.setCell (p := ⟨w.heap.size, k, none⟩) (Nat.le_refl _) (.int .u8 (((smallB (s[k]'hkn)).toNat : Nat) : Int)))
        rw [HU.out] at HN HBn
        generalize (s[k]'hkn) = c at *
        have i1 : (65 : Int) ≤ (c.toNat : Int) := by omega
        have i2 : (c.toNat : Int) ≤ 90 := by omega
        go_wp2
        go_roundw
        case rel => exact ⟨k + 1, by omega, by go_num, HN, HBn⟩
        case measure => simp [intOf]; omega
      · have HN := Lib.hid (HS.out.keep hkn (small_not _ hu))
        generalize (s[k]'hkn) = c at *
        by_cases i1 : (65 : Int) ≤ (c.toNat : Int)
        · have i2 : ¬ (c.toNat : Int) ≤ 90 := by omega
          go_wp2
          go_roundw
          case rel => exact ⟨k + 1, by omega, by go_num, HN, HB⟩
          case measure => simp [intOf]; omega
        · go_wp2
          go_roundw
          case rel => exact ⟨k + 1, by omega, by go_num, HN, HB⟩
          case measure => simp [intOf]; omega
    · obtain rfl : k = s.size := by omega
      have hcv2 : (convert 72 9 (.slice (some ⟨w.heap.size, 0, none⟩) s.size cap)).run Tryd.prog wr = .ok (.string (smallS s)) wr := by
        have hl : ((bs s).map smallB).length = s.size := by rw [List.length_map, bs_size]
        have h := run_convert_bytes_back wr 72 9 5 ⟨w.heap.size, 0, none⟩ cap ((bs s).map smallB) Tryd.underlying72 Tryd.underlying5 Tryd.underlying9 (fun j hj => by
          have hj' : j < s.size := by omega
          rw [add_at]
          rw [(HS.out.cell hj').1, if_pos hj']
          simp [bs_at s j hj'])
        rw [hl] at h
        exact h
      go_wp2
      go_ret
      exact ⟨rfl, HB.out⟩
end Go.Proofs.YtfaojafhamhncaaDoor
