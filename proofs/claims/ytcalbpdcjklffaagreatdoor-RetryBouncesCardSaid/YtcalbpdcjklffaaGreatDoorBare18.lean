/- The walks of retry.bare and of the document's Bare; that both say the same. -/
import Derived.Test.YtcalbpdcjklffaaGreatDoorTakeLaw
import Derived.Test.YtcalbpdcjklffaaGreatDoorDatesA
namespace Go.Proofs.YtcalbpdcjklffaaGreatDoor
open Go.RowKit
open Pl (goTake)
set_option linter.unusedSimpArgs false
set_option linter.unusedVariables false
def brk (s : ByteArray) : ByteArray := ⟨#[60]⟩ ++ s ++ ⟨#[62]⟩
theorem brk_size (s : ByteArray) : (brk s).size = s.size + 2 := by rw [brk, ByteArray.size_append, ByteArray.size_append, show (⟨#[60]⟩ : ByteArray).size = 1 from rfl, show (⟨#[62]⟩ : ByteArray).size = 1 from rfl]; omega
/-- is a text a path's, and not nobody's? -/
def bareB (s : ByteArray) : Bool := pOk (brk s) && !((pLo (brk s)).toList.isEmpty && (pD (brk s)).toList.isEmpty)
set_option maxHeartbeats 4000000 in
set_option maxRecDepth 100000 in
theorem bare18_walk (s : ByteArray) (v : Value) (w : World) (hs : s.size ≤ 1000000) (hc : w.cell? ⟨2, 0, none⟩ = some v) (hv : ∃ t x, v = .iface t x) :
    Calls Tryz.prog 16 #[.string s] w fun e w' => e = .returned (.bool (bareB s)) ∧ Below w.heap.size w w' := by
  have hz := brk_size s
  have HT := Lib.hid (parse_walk (brk s) v w (by omega) hc hv)
  have HQ := Lib.hid (show brk s = ⟨#[60]⟩ ++ s ++ ⟨#[62]⟩ from rfl)
  obtain ⟨ty, x, rfl⟩ := hv
  clear hc
  cases hp : pOk (brk s) with
  | false =>
    have HB := Lib.hid (show bareB s = false by rw [bareB, hp]; rfl)
    have hV : pV (brk s) (.iface ty x) = .tuple #[.agg #[.string ⟨#[]⟩, .string ⟨#[]⟩], .iface ty x] := by rw [pV, pLo, pD, hp]; rfl
    rw [hV] at HT
    clear hV hp
    go_enter Tryz.func16, Tryz.ntmps16
    go_wp2_with fail
    rw [← HQ.out]
    refine HT.out.mono ?_
    rintro e w2 ⟨rfl, hB2⟩
    have HB2 := Lib.hid hB2
    clear hB2
    generalize h3 : w2.alloc (Obj.cells #[.string ⟨#[]⟩, .string ⟨#[]⟩] 45) = w3
    generalize h4 : (w3.setCell ⟨w2.heap.size, 0, none⟩ (.string ⟨#[]⟩)).setCell ⟨w2.heap.size, 1, none⟩ (.string ⟨#[]⟩) = w4
    obtain ⟨hB4, hP4, hP3⟩ := path_laid w2 ⟨#[]⟩ ⟨#[]⟩ h3 h4
    have HB4 := Lib.hid (below_then HB2.out hB4)
    obtain ⟨p2, p3, p4, p5⟩ := two_cells hP3.heap
    obtain ⟨q2, q3, q4, q5⟩ := two_cells hP4.heap
    clear hB4 hP3 hP4
    go_wp2
    go_ret
    exact ⟨by rw [HB.out]; rfl, HB4.out⟩
  | true =>
    generalize hlo : pLo (brk s) = lo
    generalize hd : pD (brk s) = d
    have HB := Lib.hid (show bareB s = !(lo.toList.isEmpty && d.toList.isEmpty) by rw [bareB, hp, hlo, hd]; rfl)
    have hV : pV (brk s) (.iface ty x) = .tuple #[.agg #[.string lo, .string d], .nilIface] := by rw [pV, hlo, hd, hp]; rfl
    rw [hV] at HT
    clear hV hp hlo hd
    go_enter Tryz.func16, Tryz.ntmps16
    go_wp2_with fail
    rw [← HQ.out]
    refine HT.out.mono ?_
    rintro e w2 ⟨rfl, hB2⟩
    have HB2 := Lib.hid hB2
    clear hB2
    generalize h3 : w2.alloc (Obj.cells #[.string ⟨#[]⟩, .string ⟨#[]⟩] 45) = w3
    generalize h4 : (w3.setCell ⟨w2.heap.size, 0, none⟩ (.string lo)).setCell ⟨w2.heap.size, 1, none⟩ (.string d) = w4
    obtain ⟨hB4, hP4, hP3⟩ := path_laid w2 lo d h3 h4
    have HB4 := Lib.hid (below_then HB2.out hB4)
    obtain ⟨p2, p3, p4, p5⟩ := two_cells hP3.heap
    obtain ⟨q2, q3, q4, q5⟩ := two_cells hP4.heap
    clear hB4 hP3 hP4
    cases hl : lo.toList.isEmpty <;> cases hdd : d.toList.isEmpty <;>
    · rw [hl, hdd] at HB
      go_wp2
      go_ret
      exact ⟨by rw [HB.out]; rfl, HB4.out⟩
/-- the document's -/
def refBare18B (s : ByteArray) : Bool := ((takeR (brk s)).2.2 == s.size + 2) && decide (2 < (takeR (brk s)).2.2) && !(takeR (brk s)).1.toList.isEmpty
set_option maxHeartbeats 4000000 in
set_option maxRecDepth 100000 in
theorem refBare18_walk (s : ByteArray) (w : World) (hs : s.size ≤ 1000000) :
    Calls Tryz.prog 10 #[.string s] w fun e w' => e = .returned (.bool (refBare18B s)) ∧ Below w.heap.size w w' := by
  have hz := brk_size s
  have HT := Lib.hid (takeRef_walk (brk s) w (by omega))
  have HQ := Lib.hid (show brk s = ⟨#[60]⟩ ++ s ++ ⟨#[62]⟩ from rfl)
  have hle := takeR_le (brk s)
  have HB0 := Lib.hid (show refBare18B s = (((takeR (brk s)).2.2 == s.size + 2) && decide (2 < (takeR (brk s)).2.2) && !(takeR (brk s)).1.toList.isEmpty) from rfl)
  rw [takeV] at HT
  generalize takeR (brk s) = r at *
  obtain ⟨lo, d, m⟩ := r
  simp only at HT HB0 hle
  rw [hz] at hle
  cases hl : lo.toList.isEmpty with
  | true =>
    have HB := Lib.hid (show refBare18B s = false by rw [HB0.out, hl]; simp)
    clear HB0
    go_enter Tryz.func10, Tryz.ntmps10
    go_wp2_with fail
    rw [← HQ.out]
    refine HT.out.mono ?_
    rintro e w2 ⟨rfl, hB2⟩
    have HB2 := Lib.hid hB2
    clear hB2
    generalize h3 : w2.alloc (Obj.cells #[.string ⟨#[]⟩, .string ⟨#[]⟩] 45) = w3
    generalize h4 : (w3.setCell ⟨w2.heap.size, 0, none⟩ (.string lo)).setCell ⟨w2.heap.size, 1, none⟩ (.string d) = w4
    obtain ⟨hB4, hP4, hP3⟩ := path_laid w2 lo d h3 h4
    have HB4 := Lib.hid (below_then HB2.out hB4)
    obtain ⟨p2, p3, p4, p5⟩ := two_cells hP3.heap
    obtain ⟨q2, q3, q4, q5⟩ := two_cells hP4.heap
    clear hB4 hP3 hP4
    by_cases e1 : m = s.size + 2 <;> by_cases e2 : 2 < m <;>
    · go_wp2
      go_ret
      exact ⟨by rw [HB.out]; rfl, HB4.out⟩
  | false =>
    have HB := Lib.hid (show refBare18B s = ((m == s.size + 2) && decide (2 < m)) by rw [HB0.out, hl]; simp)
    clear HB0
    go_enter Tryz.func10, Tryz.ntmps10
    go_wp2_with fail
    rw [← HQ.out]
    refine HT.out.mono ?_
    rintro e w2 ⟨rfl, hB2⟩
    have HB2 := Lib.hid hB2
    clear hB2
    generalize h3 : w2.alloc (Obj.cells #[.string ⟨#[]⟩, .string ⟨#[]⟩] 45) = w3
    generalize h4 : (w3.setCell ⟨w2.heap.size, 0, none⟩ (.string lo)).setCell ⟨w2.heap.size, 1, none⟩ (.string d) = w4
    obtain ⟨hB4, hP4, hP3⟩ := path_laid w2 lo d h3 h4
    have HB4 := Lib.hid (below_then HB2.out hB4)
    obtain ⟨p2, p3, p4, p5⟩ := two_cells hP3.heap
    obtain ⟨q2, q3, q4, q5⟩ := two_cells hP4.heap
    clear hB4 hP3 hP4
    by_cases e1 : m = s.size + 2 <;> by_cases e2 : 2 < m <;>
    · go_wp2
      go_ret
      exact ⟨retBool (by rw [HB.out]; simp; try omega), HB4.out⟩
theorem takeR_kind (q : ByteArray) : (takeR q).2.2 = 0 ∨ takeR q = (⟨#[]⟩, ⟨#[]⟩, 2) ∨ ((takeR q).1.toList.isEmpty = false ∧ 2 < (takeR q).2.2) := by
  by_cases c1 : Pl.idxB 62 (bs q) = q.size ∨ Pl.at_ (bs q) 0 ≠ 60
  · exact .inl (by rw [takeR, if_pos c1])
  · by_cases c2 : Pl.idxB 62 (bs q) = 1
    · exact .inr (.inl (by rw [takeR, if_neg c1, if_pos c2]))
    · by_cases c3 : ¬ Pl.idxB 64 (bs q) < Pl.idxB 62 (bs q) ∨ Pl.refLocal (bs (takeLo q)) = false ∨ Pl.refDomain (bs (takeD q)) = false
      · exact .inl (by rw [takeR, if_neg c1, if_neg c2, if_pos c3])
      · refine .inr (.inr ?_)
        rw [takeR, if_neg c1, if_neg c2, if_neg c3]
        have hl : Pl.refLocal (bs (takeLo q)) = true := by
          cases h : Pl.refLocal (bs (takeLo q)) with
          | true => rfl
          | false => exact absurd (.inr (.inl h)) c3
        rw [Pl.ref_goLocal] at hl
        refine ⟨?_, ?_⟩
        · rw [isEmpty_bs]
          have := Pl.goLocal_ne _ hl
          cases h : bs (takeLo q) with
          | nil => exact absurd h this
          | cons a b => rfl
        · have h0 : Pl.idxB 62 (bs q) ≠ 0 := fun e => by
            have hle := Pl.idxB_le 62 (bs q)
            rw [bs_size] at hle
            have hq : 0 < q.size := by
              rcases Nat.eq_zero_or_pos q.size with h | h
              · exact absurd (.inl (by omega)) c1
              · exact h
            have h62 := idx_byte hq e
            have h60 := at_get q 0 hq
            rw [h62] at h60
            exact c1 (.inr (by rw [h60]; decide))
          show 2 < Pl.idxB 62 (bs q) + 1
          omega
theorem bare_same (s : ByteArray) : bareB s = refBare18B s := by
  have hz := brk_size s
  by_cases h0 : (takeR (brk s)).2.2 = 0
  · have h1 := take_no (brk s) h0
    rw [bareB, pOk, h1, refBare18B, h0]
    simp
  · obtain ⟨h1, h2, h3, h4⟩ := take_yes (brk s) h0
    have hle := takeR_le (brk s)
    have hr : (tRest (brk s)).toList.isEmpty = ((takeR (brk s)).2.2 == s.size + 2) := by
      rw [h4, isEmpty_bs, Bool.eq_iff_iff, List.isEmpty_iff, beq_iff_eq, ← List.length_eq_zero_iff, bs_size, ByteArray.size_extract]
      omega
    have hp : pOk (brk s) = ((takeR (brk s)).2.2 == s.size + 2) := by rw [pOk, h1, hr, Bool.true_and]
    rw [bareB, refBare18B, pLo, pD, hp]
    cases he : ((takeR (brk s)).2.2 == s.size + 2) with
    | false => rfl
    | true =>
      rw [if_pos rfl, if_pos rfl, h2, h3, Bool.true_and, Bool.true_and]
      rcases takeR_kind (brk s) with h | h | ⟨h, h5⟩
      · exact absurd h h0
      · rw [h]; simp only [isEmpty_bs]; rfl
      · rw [h, decide_eq_true h5]; rfl
end Go.Proofs.YtcalbpdcjklffaaGreatDoor
