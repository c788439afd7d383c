/- The walk of the document's Text (printed by wip/bin/genreftext.py). -/
import Derived.Test.YtfaojafhamhncaaDoorTextW
namespace Go.Proofs.YtfaojafhamhncaaDoor
open Go.RowKit
open Pl (okN okR textOk itemT)
set_option linter.unusedSimpArgs false
set_option linter.unusedVariables false
theorem app_none (a : ByteArray) : (⟨#[]⟩ : ByteArray) ++ a = a := by apply ByteArray.ext; simp [ByteArray.data_append]
theorem app_four (p a b c : ByteArray) : p ++ a ++ b ++ c = p ++ (a ++ (b ++ c)) := by apply ByteArray.ext; simp [ByteArray.data_append]
theorem app_three (p a b : ByteArray) : p ++ a ++ b = p ++ (a ++ b) := by apply ByteArray.ext; simp [ByteArray.data_append]
theorem digits_end (n : Int) (h0 : 0 ≤ n) (h1 : n ≤ 2147483648) (h : n ≠ 0) (w : World) : Calls Tryd.prog 42 #[.int .i64 n] w fun e w' => e = .returned (.string (endS n)) ∧ Below w.heap.size w w' := by
  have hI := digits10_walk n.toNat (by omega) w
  rw [show ((n.toNat : Nat) : Int) = n by omega, ← endS_more h] at hI
  exact hI
set_option maxHeartbeats 8000000 in
set_option maxRecDepth 100000 in
theorem refText_walk (A : Option Addr) (n c : Nat) (xs : List (Int × Int)) (w : World) (hA : RangesAt w A n xs) (hn : n ≤ 200) :
    Calls Tryd.prog 25 #[.slice A n c] w fun e w' => e = .returned (.tuple #[.string (textS xs), .bool (textOk xs)]) ∧ Below w.heap.size w w' := by
  have HA := Lib.hid hA
  have hl := hA.1
  have HBadV := Lib.hid (fun (h : textOk xs = false) => show textS xs = ⟨#[]⟩ ∧ textOk xs = false from ⟨textS_no h, h⟩)
  clear hA
  go_enter Tryd.func25, Tryd.ntmps25
  go_wp2
  go_loopw [4, 11] (fun u x wr => ∃ k : Nat, k ≤ n ∧ x = .int .i64 k ∧ u = .string (joinK xs k) ∧ Hid ((xs.take k).all okR = true) ∧ Hid (Below w.heap.size w wr)) (fun _ x _ => n - (intOf x).toNat)
  case atStart => exact ⟨0, Nat.zero_le _, rfl, rfl, Lib.hid rfl, Lib.hid (Below.refl _ _)⟩
  case round =>
    obtain ⟨k, hk, rfl, rfl, HK, HB⟩ := hrel
    have zs := HB.out.size
    have zj := joinK_size (xs := xs) k (by omega) HK.out
    by_cases hkn : k < n
    · obtain ⟨g, oo, rfl, hg, hcx⟩ := HA.out.2.2 (by omega)
      have hkl : k < xs.length := by omega
      obtain ⟨x1, x2⟩ := hcx k hkn
      rw [getD_at hkl] at x1 x2
      have c1 := (HB.out.cell (p := ⟨g, oo + k * 2, none⟩) hg).trans x1
      have c2 := (HB.out.cell (p := ⟨g, oo + k * 2 + 1, none⟩) hg).trans x2
      have HBad := Lib.hid (text_bad hkl)
      have HAll := Lib.hid (all_next hkl HK.out)
      have HJ := Lib.hid (joinK_next hkl)
      clear x1 x2 hcx
      generalize hr : xs[k] = r at *
      obtain ⟨f, t⟩ := r
      simp only at c1 c2
      generalize h3 : wr.alloc (Obj.cells #[.int .i64 0, .int .i64 0] 28) = w3
      generalize h4 : (w3.setCell ⟨wr.heap.size, 0, none⟩ (.int .i64 f)).setCell ⟨wr.heap.size, 1, none⟩ (.int .i64 t) = w4
      obtain ⟨hb4, hP4, hP3⟩ := range_laid wr f t h3 h4
      obtain ⟨p0, p1, p2, p3⟩ := two_cells hP3
      obtain ⟨q0, q1, q2, q3⟩ := two_cells hP4
      have HP4 := Lib.hid hP4
      have HB4 := Lib.hid (below_then HB.out hb4)
      clear hb4 hP4 hP3
      by_cases hf : f < 0
      · have hbad := HBad.out (by simp only [okR, okN, Bool.and_eq_false_iff, decide_eq_false_iff_not]; omega)
        obtain ⟨b1, b2⟩ := HBadV.out hbad
        have HV1 := Lib.hid b1
        have HV2 := Lib.hid b2
        clear hbad b1 b2
        go_wp2
        go_ret2
        exact ⟨by rw [HV1.out, HV2.out]; rfl, HB4.out⟩
      · skip
        by_cases ht : t < 0
        · have hbad := HBad.out (by simp only [okR, okN, Bool.and_eq_false_iff, decide_eq_false_iff_not]; omega)
          obtain ⟨b1, b2⟩ := HBadV.out hbad
          have HV1 := Lib.hid b1
          have HV2 := Lib.hid b2
          clear hbad b1 b2
          go_wp2
          go_ret2
          exact ⟨by rw [HV1.out, HV2.out]; rfl, HB4.out⟩
        · skip
          by_cases hf2 : 2147483648 < f
          · have hbad := HBad.out (by simp only [okR, okN, Bool.and_eq_false_iff, decide_eq_false_iff_not]; omega)
            obtain ⟨b1, b2⟩ := HBadV.out hbad
            have HV1 := Lib.hid b1
            have HV2 := Lib.hid b2
            clear hbad b1 b2
            go_wp2
            go_ret2
            exact ⟨by rw [HV1.out, HV2.out]; rfl, HB4.out⟩
          · skip
            by_cases ht2 : 2147483648 < t
            · have hbad := HBad.out (by simp only [okR, okN, Bool.and_eq_false_iff, decide_eq_false_iff_not]; omega)
              obtain ⟨b1, b2⟩ := HBadV.out hbad
              have HV1 := Lib.hid b1
              have HV2 := Lib.hid b2
              clear hbad b1 b2
              go_wp2
              go_ret2
              exact ⟨by rw [HV1.out, HV2.out]; rfl, HB4.out⟩
            · skip
              have hfo : okN f = true := okN_of (by omega) (by omega)
              have hto : okN t = true := okN_of (by omega) (by omega)
              have HOk := Lib.hid (show okR (f, t) = true by rw [okR, hfo, hto]; rfl)
              have zf := endS_size hfo
              have zt := endS_size hto
              have KF := Lib.hid (fun h W => digits_end f (by omega) (by omega) h W)
              have KT := Lib.hid (fun h W => digits_end t (by omega) (by omega) h W)
              clear hfo hto
              have hb5 := (Below.refl w4.heap.size w4).alloc (Nat.le_refl _) (Obj.cells #[.int .i64 f, .int .i64 t] 3)
              have hP5 := (hb5.block _ (Array.getElem?_eq_some_iff.1 HP4.out).1).trans HP4.out
              have hR5 : (w4.alloc (Obj.cells #[.int .i64 f, .int .i64 t] 3)).heap[w4.heap.size]? = some (Obj.cells #[.int .i64 f, .int .i64 t] 3) := World.alloc_heap_new w4 _
              generalize h5 : w4.alloc (Obj.cells #[.int .i64 f, .int .i64 t] 3) = w5 at hb5 hP5 hR5
              obtain ⟨d0, d1, d2, d3⟩ := two_cells hR5
              obtain ⟨r0, r1, r2, r3⟩ := two_cells hP5
              have HP5 := Lib.hid hP5
              have HR5 := Lib.hid hR5
              have HB5 := Lib.hid (below_then HB4.out hb5)
              clear hb5 hP5 hR5
              by_cases hk0 : k = 0
              · subst hk0
                rw [Nat.zero_mul, Nat.add_zero] at c1 c2
                have HJJ := Lib.hid (show joinK xs (0 + 1) = joinK xs 0 ++ itemS (f, t) by rw [HJ.out, if_pos rfl]; exact (app_none _).symm)
                generalize joinK xs 0 = PS at *
                have zp : PS.size ≤ 9000 := by omega
                go_wp2
                clear h3 h4 h5 p0 p1 p2 p3 q0 q1 q2 q3 c1 c2
                by_cases hf0 : f = 0
                · subst hf0
                  refine wp_loop_rounds 3 ?_
                  rw [rounds_succ]
                  go_wp2
                  by_cases hft : t = 0
                  · have HI := Lib.hid (item_same hft)
                    subst hft
                    rw [rounds_succ]
                    go_wp2
                    go_roundw
                    case rel => exact ⟨0 + 1, by omega, by go_num, by rw [HJJ.out, HI.out, endS_zero], Lib.hid (HAll.out HOk.out), HB5⟩
                    case measure => simp [intOf]; omega
                  · have HI := Lib.hid (item_both hft)
                    have hne : ((0 : Int) == t) = false := by rw [beq_eq_false_iff_ne]; exact fun e => hft e.symm
                    have ht0 : t ≠ 0 := hft
                    have ht1 : (t == 0) = false := by rw [beq_eq_false_iff_ne]; exact ht0
                    generalize endS t = ET at *
                    rw [rounds_succ]
                    go_wp2_with fail
                    refine (KT.out ht0 _).mono ?_
                    rintro e w7 ⟨rfl, hbx⟩
                    have HB7 := Lib.hid (below_then HB5.out hbx)
                    have HP7 := Lib.hid ((hbx.block _ (Array.getElem?_eq_some_iff.1 HP5.out).1).trans HP5.out)
                    have HR7 := Lib.hid ((hbx.block _ (Array.getElem?_eq_some_iff.1 HR5.out).1).trans HR5.out)
                    clear hbx d0 d1 d2 d3 r0 r1 r2 r3
                    obtain ⟨d0, d1, d2, d3⟩ := two_cells HR7.out
                    obtain ⟨r0, r1, r2, r3⟩ := two_cells HP7.out
                    go_wp2
                    rw [rounds_succ]
                    go_wp2
                    go_roundw
                    case rel => exact ⟨0 + 1, by omega, by go_num, by rw [HJJ.out, HI.out, endS_zero, app_four], Lib.hid (HAll.out HOk.out), HB7⟩
                    case measure => simp [intOf]; omega
                · have hf1 : (f == 0) = false := by rw [beq_eq_false_iff_ne]; exact hf0
                  refine wp_loop_rounds 3 ?_
                  rw [rounds_succ]
                  go_wp2_with fail
                  refine (KF.out hf0 _).mono ?_
                  rintro e w6 ⟨rfl, hbx⟩
                  have HB6 := Lib.hid (below_then HB5.out hbx)
                  have HP6 := Lib.hid ((hbx.block _ (Array.getElem?_eq_some_iff.1 HP5.out).1).trans HP5.out)
                  have HR6 := Lib.hid ((hbx.block _ (Array.getElem?_eq_some_iff.1 HR5.out).1).trans HR5.out)
                  clear hbx d0 d1 d2 d3 r0 r1 r2 r3
                  obtain ⟨d0, d1, d2, d3⟩ := two_cells HR6.out
                  obtain ⟨r0, r1, r2, r3⟩ := two_cells HP6.out
                  go_wp2
                  by_cases hft : t = f
                  · have HI := Lib.hid (item_same hft)
                    subst hft
                    generalize endS t = ET at *
                    rw [rounds_succ]
                    go_wp2
                    go_roundw
                    case rel => exact ⟨0 + 1, by omega, by go_num, by rw [HJJ.out, HI.out], Lib.hid (HAll.out HOk.out), HB6⟩
                    case measure => simp [intOf]; omega
                  · have HI := Lib.hid (item_both hft)
                    have hne : ((f : Int) == t) = false := by rw [beq_eq_false_iff_ne]; exact fun e => hft e.symm
                    by_cases ht0 : t = 0
                    · subst ht0
                      generalize endS f = EF at *
                      rw [rounds_succ]
                      go_wp2
                      rw [rounds_succ]
                      go_wp2
                      go_roundw
                      case rel => exact ⟨0 + 1, by omega, by go_num, by rw [HJJ.out, HI.out, endS_zero, app_four], Lib.hid (HAll.out HOk.out), HB6⟩
                      case measure => simp [intOf]; omega
                    · have ht1 : (t == 0) = false := by rw [beq_eq_false_iff_ne]; exact ht0
                      generalize endS f = EF at *
                      generalize endS t = ET at *
                      rw [rounds_succ]
                      go_wp2_with fail
                      refine (KT.out ht0 _).mono ?_
                      rintro e w7 ⟨rfl, hbx⟩
                      have HB7 := Lib.hid (below_then HB6.out hbx)
                      have HP7 := Lib.hid ((hbx.block _ (Array.getElem?_eq_some_iff.1 HP6.out).1).trans HP6.out)
                      have HR7 := Lib.hid ((hbx.block _ (Array.getElem?_eq_some_iff.1 HR6.out).1).trans HR6.out)
                      clear hbx d0 d1 d2 d3 r0 r1 r2 r3
                      obtain ⟨d0, d1, d2, d3⟩ := two_cells HR7.out
                      obtain ⟨r0, r1, r2, r3⟩ := two_cells HP7.out
                      go_wp2
                      rw [rounds_succ]
                      go_wp2
                      go_roundw
                      case rel => exact ⟨0 + 1, by omega, by go_num, by rw [HJJ.out, HI.out, app_four], Lib.hid (HAll.out HOk.out), HB7⟩
                      case measure => simp [intOf]; omega
              · have HJJ := Lib.hid (show joinK xs (k + 1) = joinK xs k ++ ⟨#[44]⟩ ++ itemS (f, t) by rw [HJ.out, if_neg hk0])
                generalize joinK xs k = S0 at *
                have hkp : 0 < k := by omega
                go_wp2
                clear h3 h4 h5 p0 p1 p2 p3 q0 q1 q2 q3 c1 c2
                have zp : (S0 ++ ⟨#[44]⟩ : ByteArray).size ≤ 9000 := by rw [ByteArray.size_append]; have : (⟨#[44]⟩ : ByteArray).size = 1 := rfl; omega
                generalize S0 ++ ⟨#[44]⟩ = PS at *
                by_cases hf0 : f = 0
                · subst hf0
                  refine wp_loop_rounds 3 ?_
                  rw [rounds_succ]
                  go_wp2
                  by_cases hft : t = 0
                  · have HI := Lib.hid (item_same hft)
                    subst hft
                    rw [rounds_succ]
                    go_wp2
                    go_roundw
                    case rel => exact ⟨k + 1, by omega, by go_num, by rw [HJJ.out, HI.out, endS_zero], Lib.hid (HAll.out HOk.out), HB5⟩
                    case measure => simp [intOf]; omega
                  · have HI := Lib.hid (item_both hft)
                    have hne : ((0 : Int) == t) = false := by rw [beq_eq_false_iff_ne]; exact fun e => hft e.symm
                    have ht0 : t ≠ 0 := hft
                    have ht1 : (t == 0) = false := by rw [beq_eq_false_iff_ne]; exact ht0
                    generalize endS t = ET at *
                    rw [rounds_succ]
                    go_wp2_with fail
                    refine (KT.out ht0 _).mono ?_
                    rintro e w7 ⟨rfl, hbx⟩
                    have HB7 := Lib.hid (below_then HB5.out hbx)
                    have HP7 := Lib.hid ((hbx.block _ (Array.getElem?_eq_some_iff.1 HP5.out).1).trans HP5.out)
                    have HR7 := Lib.hid ((hbx.block _ (Array.getElem?_eq_some_iff.1 HR5.out).1).trans HR5.out)
                    clear hbx d0 d1 d2 d3 r0 r1 r2 r3
                    obtain ⟨d0, d1, d2, d3⟩ := two_cells HR7.out
                    obtain ⟨r0, r1, r2, r3⟩ := two_cells HP7.out
                    go_wp2
                    rw [rounds_succ]
                    go_wp2
                    go_roundw
                    case rel => exact ⟨k + 1, by omega, by go_num, by rw [HJJ.out, HI.out, endS_zero, app_four], Lib.hid (HAll.out HOk.out), HB7⟩
                    case measure => simp [intOf]; omega
                · have hf1 : (f == 0) = false := by rw [beq_eq_false_iff_ne]; exact hf0
                  refine wp_loop_rounds 3 ?_
                  rw [rounds_succ]
                  go_wp2_with fail
                  refine (KF.out hf0 _).mono ?_
                  rintro e w6 ⟨rfl, hbx⟩
                  have HB6 := Lib.hid (below_then HB5.out hbx)
                  have HP6 := Lib.hid ((hbx.block _ (Array.getElem?_eq_some_iff.1 HP5.out).1).trans HP5.out)
                  have HR6 := Lib.hid ((hbx.block _ (Array.getElem?_eq_some_iff.1 HR5.out).1).trans HR5.out)
                  clear hbx d0 d1 d2 d3 r0 r1 r2 r3
                  obtain ⟨d0, d1, d2, d3⟩ := two_cells HR6.out
                  obtain ⟨r0, r1, r2, r3⟩ := two_cells HP6.out
                  go_wp2
                  by_cases hft : t = f
                  · have HI := Lib.hid (item_same hft)
                    subst hft
                    generalize endS t = ET at *
                    rw [rounds_succ]
                    go_wp2
                    go_roundw
                    case rel => exact ⟨k + 1, by omega, by go_num, by rw [HJJ.out, HI.out], Lib.hid (HAll.out HOk.out), HB6⟩
                    case measure => simp [intOf]; omega
                  · have HI := Lib.hid (item_both hft)
                    have hne : ((f : Int) == t) = false := by rw [beq_eq_false_iff_ne]; exact fun e => hft e.symm
                    by_cases ht0 : t = 0
                    · subst ht0
                      generalize endS f = EF at *
                      rw [rounds_succ]
                      go_wp2
                      rw [rounds_succ]
                      go_wp2
                      go_roundw
                      case rel => exact ⟨k + 1, by omega, by go_num, by rw [HJJ.out, HI.out, endS_zero, app_four], Lib.hid (HAll.out HOk.out), HB6⟩
                      case measure => simp [intOf]; omega
                    · have ht1 : (t == 0) = false := by rw [beq_eq_false_iff_ne]; exact ht0
                      generalize endS f = EF at *
                      generalize endS t = ET at *
                      rw [rounds_succ]
                      go_wp2_with fail
                      refine (KT.out ht0 _).mono ?_
                      rintro e w7 ⟨rfl, hbx⟩
                      have HB7 := Lib.hid (below_then HB6.out hbx)
                      have HP7 := Lib.hid ((hbx.block _ (Array.getElem?_eq_some_iff.1 HP6.out).1).trans HP6.out)
                      have HR7 := Lib.hid ((hbx.block _ (Array.getElem?_eq_some_iff.1 HR6.out).1).trans HR6.out)
                      clear hbx d0 d1 d2 d3 r0 r1 r2 r3
                      obtain ⟨d0, d1, d2, d3⟩ := two_cells HR7.out
                      obtain ⟨r0, r1, r2, r3⟩ := two_cells HP7.out
                      go_wp2
                      rw [rounds_succ]
                      go_wp2
                      go_roundw
                      case rel => exact ⟨k + 1, by omega, by go_num, by rw [HJJ.out, HI.out, app_four], Lib.hid (HAll.out HOk.out), HB7⟩
                      case measure => simp [intOf]; omega
    · obtain rfl : k = n := by omega
      have htk : xs.take k = xs := List.take_of_length_le (by omega)
      have HK2 := HK.out
      rw [htk] at HK2
      by_cases hlen : k < 1 ∨ 50 < k
      · obtain ⟨b1, b2⟩ := HBadV.out (text_len (by omega))
        have HV1 := Lib.hid b1
        have HV2 := Lib.hid b2
        clear b1 b2 HK2 htk
        by_cases h1 : k < 1
        · clear hlen
          go_wp2
          go_ret2
          exact ⟨by rw [HV1.out, HV2.out]; rfl, HB.out⟩
        · have h50 : 50 < k := by omega
          clear hlen
          go_wp2
          go_ret2
          exact ⟨by rw [HV1.out, HV2.out]; rfl, HB.out⟩
      · have hgood := text_good HK2 (by omega) (by omega)
        have HV1 := Lib.hid (show textS xs = joinK xs k by rw [textS_yes hgood, hl])
        have HV2 := Lib.hid hgood
        have hk1 : 1 ≤ k := by omega
        have hk50 : k ≤ 50 := by omega
        clear hgood HK2 htk hlen
        generalize joinK xs k = JS at *
        go_wp2
        go_ret2
        exact ⟨by rw [HV1.out, HV2.out]; rfl, HB.out⟩
    end Go.Proofs.YtfaojafhamhncaaDoor
