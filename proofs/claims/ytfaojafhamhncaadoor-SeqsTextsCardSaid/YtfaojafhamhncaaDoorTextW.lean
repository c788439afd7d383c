/- The walk of seqs.Text (printed by wip/bin/gentextw.py). -/
import Derived.Test.YtfaojafhamhncaaDoorTextSpec
import Derived.Test.YtfaojafhamhncaaDoorFlagsText
import Derived.Deep.QuietTactic
import Derived.BigQuiet
namespace Go.Proofs.YtfaojafhamhncaaDoor
open Go.RowKit
open Pl (okN okR textOk itemT)
set_option linter.unusedSimpArgs false
set_option linter.unusedVariables false
def textE (xs : List (Int × Int)) (v : Value) : Value := if textOk xs = true then .nilIface else v
theorem join_items (xs : List (Int × Int)) : joinS (xs.map itemS) ⟨#[44]⟩ = joinK xs xs.length := by
  rw [joinS, joinK, List.take_length, List.map_map]
  congr 3
theorem items_next {xs : List (Int × Int)} {k : Nat} (hk : k < xs.length) : (xs.take (k + 1)).map itemS = (xs.take k).map itemS ++ [itemS xs[k]] := by
  rw [List.take_succ_eq_append_getElem hk, List.map_append]; rfl
theorem all_next {xs : List (Int × Int)} {k : Nat} (hk : k < xs.length) (h : (xs.take k).all okR = true) (h1 : okR xs[k] = true) : (xs.take (k + 1)).all okR = true := by
  rw [List.take_succ_eq_append_getElem hk, List.all_append, h]; simpa using h1
theorem getD_at {xs : List (Int × Int)} {k : Nat} (hk : k < xs.length) : xs.getD k (0, 0) = xs[k] := by rw [List.getD_eq_getElem?_getD, List.getElem?_eq_getElem hk]; rfl
set_option maxHeartbeats 8000000 in
set_option maxRecDepth 100000 in
theorem seqText_walk (A : Option Addr) (n c : Nat) (xs : List (Int × Int)) (v : Value) (w : World) (hA : RangesAt w A n xs) (hn : n ≤ 200) (hT : TabW w) (hc : w.cell? ⟨0, 0, none⟩ = some v) (hv : ∃ t x, v = .iface t x) :
    Calls Tryd.prog 24 #[.slice A n c] w fun e w' => e = .returned (.tuple #[.string (textS xs), textE xs v]) ∧ Below w.heap.size w w' := by
  obtain ⟨i0, hi, hz0, hz1, hz2⟩ := info_parts infoStr
  have zg : 0 < w.heap.size := World.block_lt_of_cell? w _ hc
  obtain ⟨ty, xv, rfl⟩ := hv
  have HA := Lib.hid hA
  have HT := Lib.hid hT
  have HC := Lib.hid hc
  have hl := hA.1
  have HBadV := Lib.hid (fun (h : textOk xs = false) => show textS xs = ⟨#[]⟩ ∧ textE xs (.iface ty xv) = .iface ty xv from ⟨textS_no h, by rw [textE, h]; rfl⟩)
  clear hA hT hc
  go_enter Tryd.func24, Tryd.ntmps24
  go_wp2
  go_loopw [4, 10] (fun u x wr => ∃ k : Nat, k ≤ n ∧ x = .int .i64 k ∧ Hid ((xs.take k).all okR = true) ∧ Hid (wr.ownsRow w.heap.size 9 1 u k (((xs.take k).map itemS).map Value.string)) ∧ Hid (Below w.heap.size w wr)) (fun _ x _ => n - (intOf x).toNat)
  case atStart => exact ⟨0, Nat.zero_le _, rfl, Lib.hid rfl, Lib.hid (World.ownsRow_nil _ _ _ _), Lib.hid (Below.refl _ _)⟩
  case round =>
    obtain ⟨k, hk, rfl, HK, HO, HB⟩ := hrel
    have zs := HB.out.size
    by_cases hkn : k < n
    · obtain ⟨g, oo, rfl, hg, hcx⟩ := HA.out.2.2 (by omega)
      have hkl : k < xs.length := by omega
      obtain ⟨x1, x2⟩ := hcx k hkn
      rw [getD_at hkl] at x1 x2
      have c1 := (HB.out.cell (p := ⟨g, oo + k * 2, none⟩) hg).trans x1
      have c2 := (HB.out.cell (p := ⟨g, oo + k * 2 + 1, none⟩) hg).trans x2
      have HBad := Lib.hid (text_bad hkl)
      have HAll := Lib.hid (all_next hkl HK.out)
      have HIt := Lib.hid (items_next hkl)
      clear x1 x2 hcx
      generalize hr : xs[k] = r at *
      generalize hIL : (xs.take k).map itemS = IL at *
      obtain ⟨f, t⟩ := r
      simp only at c1 c2
      generalize h3 : wr.alloc (Obj.cells #[.int .i64 0, .int .i64 0] 28) = w3
      generalize h4 : (w3.setCell ⟨wr.heap.size, 0, none⟩ (.int .i64 f)).setCell ⟨wr.heap.size, 1, none⟩ (.int .i64 t) = w4
      obtain ⟨hb4, hP4, hP3⟩ := range_laid wr f t h3 h4
      obtain ⟨p0, p1, p2, p3⟩ := two_cells hP3
      obtain ⟨q0, q1, q2, q3⟩ := two_cells hP4
      have HP4 := Lib.hid hP4
      have HB4 := Lib.hid (below_then HB.out hb4)
      have HO4 := Lib.hid (own_below HO.out hb4)
      have c9 := (HB4.out.cell (p := ⟨0, 0, none⟩) zg).trans HC.out
      clear hb4 hP4 hP3
      by_cases hf : f < 0
      · have hbad := HBad.out (by simp only [okR, okN, Bool.and_eq_false_iff, decide_eq_false_iff_not]; omega)
        obtain ⟨b1, b2⟩ := HBadV.out hbad
        have HV1 := Lib.hid b1
        have HV2 := Lib.hid b2
        clear hbad b1 b2
        go_wp2
        go_quiet (fail)
        go_wp2
        go_ret2
        exact ⟨by rw [HV1.out, HV2.out]; rfl, below_draws HB4.out _⟩
      · skip
        by_cases ht : t < 0
        · have hbad := HBad.out (by simp only [okR, okN, Bool.and_eq_false_iff, decide_eq_false_iff_not]; omega)
          obtain ⟨b1, b2⟩ := HBadV.out hbad
          have HV1 := Lib.hid b1
          have HV2 := Lib.hid b2
          clear hbad b1 b2
          go_wp2
          go_quiet (fail)
          go_wp2
          go_ret2
          exact ⟨by rw [HV1.out, HV2.out]; rfl, below_draws HB4.out _⟩
        · skip
          by_cases hf2 : 2147483648 < f
          · have hbad := HBad.out (by simp only [okR, okN, Bool.and_eq_false_iff, decide_eq_false_iff_not]; omega)
            obtain ⟨b1, b2⟩ := HBadV.out hbad
            have HV1 := Lib.hid b1
            have HV2 := Lib.hid b2
            clear hbad b1 b2
            go_wp2
            go_quiet (fail)
            go_wp2
            go_ret2
            exact ⟨by rw [HV1.out, HV2.out]; rfl, below_draws HB4.out _⟩
          · skip
            by_cases ht2 : 2147483648 < t
            · have hbad := HBad.out (by simp only [okR, okN, Bool.and_eq_false_iff, decide_eq_false_iff_not]; omega)
              obtain ⟨b1, b2⟩ := HBadV.out hbad
              have HV1 := Lib.hid b1
              have HV2 := Lib.hid b2
              clear hbad b1 b2
              go_wp2
              go_quiet (fail)
              go_wp2
              go_ret2
              exact ⟨by rw [HV1.out, HV2.out]; rfl, below_draws HB4.out _⟩
            · skip
              have hfo : okN f = true := okN_of (by omega) (by omega)
              have hto : okN t = true := okN_of (by omega) (by omega)
              have HOk := Lib.hid (show okR (f, t) = true by rw [okR, hfo, hto]; rfl)
              have zf := endS_size hfo
              have zt := endS_size hto
              have KF := Lib.hid (fun W => textN_walk f (by omega) (by omega) W)
              have KT := Lib.hid (fun W => textN_walk t (by omega) (by omega) W)
              clear hfo hto
              by_cases hft : t = f
              · have HI := Lib.hid (item_same hft)
                subst hft
                generalize endS t = ET at *
                go_wp2_with fail
                refine (KF.out _ (HT.out.then HB4.out)).mono ?_
                rintro e w5 ⟨rfl, hb5⟩
                have HB5 := Lib.hid (below_then HB4.out hb5)
                have HO5 := Lib.hid (own_below HO4.out hb5)
                have z5 := HB5.out.size
                have hP5 := (hb5.block _ (Array.getElem?_eq_some_iff.1 HP4.out).1).trans HP4.out
                obtain ⟨r0, r1, r2, r3⟩ := two_cells hP5
                clear hb5 hP5 q0 q1 q2 q3 p0 p1 p2 p3 h3 h4
                go_wp2_with (at_builtin; refine wpList_append_own _ rfl _ _ 64 rfl w.heap.size 9 i0 (.string ⟨#[]⟩) 1 16 Tryd.underlying64 hi hz0 hz1 hz2 rfl (by decide) _ k _ rfl (HO5.out.alloc _) ⟨w5.heap.size, 0, none⟩ 1 1 [.string (ET)] rfl rfl ?aa ?ab ?ac ?ad ?ae ?_)
                case aa => exact cell_one_new w5 (.string (ET)) 9
                case ab => simp [Value.oneCell']
                case ac => unfold maxLen; omega
                case ad => omega
                case ae => simp; omega
                intro v' w9 hown hgr _
                have HB9 := Lib.hid (below_append (HB5.out.alloc z5 _) hgr HO5.out (Nat.le_refl _) (by simp; omega))
                have HO9 := Lib.hid hown
                clear hown hgr
                go_wp2
                go_roundw
                case rel => exact ⟨k + 1, by omega, by go_num, Lib.hid (HAll.out HOk.out), Lib.hid (by rw [HIt.out, HI.out, List.map_append]; exact HO9.out), HB9⟩
                case measure => simp [intOf]; omega
              · have HI := Lib.hid (item_both hft)
                generalize endS t = ET at *
                generalize endS f = EF at *
                have hne : (t != f) = true := by rw [bne_iff_ne]; exact hft
                go_wp2_with fail
                refine (KF.out _ (HT.out.then HB4.out)).mono ?_
                rintro e w5 ⟨rfl, hb5⟩
                have HB5 := Lib.hid (below_then HB4.out hb5)
                have HO5 := Lib.hid (own_below HO4.out hb5)
                have hP5 := (hb5.block _ (Array.getElem?_eq_some_iff.1 HP4.out).1).trans HP4.out
                obtain ⟨r0, r1, r2, r3⟩ := two_cells hP5
                clear hb5 hP5 q0 q1 q2 q3 p0 p1 p2 p3 h3 h4
                go_wp2_with fail
                refine (KT.out _ (HT.out.then HB5.out)).mono ?_
                rintro e w6 ⟨rfl, hb6⟩
                have HB6 := Lib.hid (below_then HB5.out hb6)
                have HO6 := Lib.hid (own_below HO5.out hb6)
                have z6 := HB6.out.size
                clear hb6 r0 r1 r2 r3
                go_wp2_with (at_builtin; refine wpList_append_own _ rfl _ _ 64 rfl w.heap.size 9 i0 (.string ⟨#[]⟩) 1 16 Tryd.underlying64 hi hz0 hz1 hz2 rfl (by decide) _ k _ rfl (HO6.out.alloc _) ⟨w6.heap.size, 0, none⟩ 1 1 [.string (EF ++ (⟨#[58]⟩ ++ ET))] rfl rfl ?ba ?bb ?bc ?bd ?be ?_)
                case ba => exact cell_one_new w6 (.string (EF ++ (⟨#[58]⟩ ++ ET))) 9
                case bb => simp [Value.oneCell']
                case bc => unfold maxLen; omega
                case bd => omega
                case be => simp; omega
                intro v' w9 hown hgr _
                have HB9 := Lib.hid (below_append (HB6.out.alloc z6 _) hgr HO6.out (Nat.le_refl _) (by simp; omega))
                have HO9 := Lib.hid hown
                clear hown hgr
                go_wp2
                go_roundw
                case rel => exact ⟨k + 1, by omega, by go_num, Lib.hid (HAll.out HOk.out), Lib.hid (by rw [HIt.out, HI.out, List.map_append]; exact HO9.out), HB9⟩
                case measure => simp [intOf]; omega
    · obtain rfl : k = n := by omega
      have htk : xs.take k = xs := List.take_of_length_le (by omega)
      have HK2 := HK.out
      have HO2 := HO.out
      rw [htk] at HK2 HO2
      obtain ⟨_, C, f, rfl, _, _⟩ := own_strings HO2
      by_cases hlen : k < 1 ∨ 50 < k
      · obtain ⟨b1, b2⟩ := HBadV.out (text_len (by omega))
        have HV1 := Lib.hid b1
        have HV2 := Lib.hid b2
        have c9 := (HB.out.cell (p := ⟨0, 0, none⟩) zg).trans HC.out
        clear b1 b2 HK2 HO2 htk
        by_cases h1 : k < 1
        · clear hlen
          go_wp2
          go_quiet (fail)
          go_wp2
          go_ret2
          exact ⟨by rw [HV1.out, HV2.out]; rfl, below_draws HB.out _⟩
        · have h50 : 50 < k := by omega
          clear hlen
          go_wp2
          go_quiet (fail)
          go_wp2
          go_ret2
          exact ⟨by rw [HV1.out, HV2.out]; rfl, below_draws HB.out _⟩
      · have hgood := text_good HK2 (by omega) (by omega)
        have HV1 := Lib.hid (show textS xs = joinK xs xs.length from textS_yes hgood)
        have HV2 := Lib.hid (show textE xs (.iface ty xv) = .nilIface by rw [textE, hgood]; rfl)
        have hjz := joinK_size (xs := xs) xs.length (Nat.le_refl _) (by rw [List.take_length]; exact HK2)
        have hJ := join_walk (.slice C k f) (xs.map itemS) ⟨#[44]⟩ wr (by rw [List.length_map, hl]; exact HO2) (by rw [List.length_map]; omega) (by
          have e := congrArg ByteArray.size (join_items xs)
          rw [joinS, ByteArray.size] at e
          simp only [List.size_toArray] at e
          show (Lib.join ((xs.map itemS).map (·.data.toList)) [44]).length ≤ _
          omega)
        rw [join_items] at hJ
        have HJ := Lib.hid hJ
        have hk1 : 1 ≤ k := by omega
        have hk50 : k ≤ 50 := by omega
        clear hgood hJ HK2 HO2 htk hlen hjz
        generalize joinK xs xs.length = JS at *
        go_wp2_with fail
        refine HJ.out.mono ?_
        rintro e w2 ⟨rfl, hb2⟩
        have HB2 := Lib.hid (below_then HB.out hb2)
        clear hb2
        go_wp2
        go_ret2
        exact ⟨by rw [HV1.out, HV2.out]; rfl, HB2.out⟩
    end Go.Proofs.YtfaojafhamhncaaDoor
