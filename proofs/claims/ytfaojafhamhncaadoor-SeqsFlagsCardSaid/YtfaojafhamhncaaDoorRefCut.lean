/- The walk of the document's Cut: a text cut at a byte. -/
import Derived.Test.YtfaojafhamhncaaDoorPlCut
import Derived.Test.YtfaojafhamhncaaDoorJoin
import Derived.Test.YtfaojafhamhncaaDoorFlagsText
namespace Go.Proofs.YtfaojafhamhncaaDoor
open Go.RowKit
open Pl (Bs splitB CutSt cut_start cut_hit cut_miss cut_end cut_done cut_le)
set_option linter.unusedSimpArgs false
set_option linter.unusedVariables false
theorem bs_cutout (s : ByteArray) (a b : Nat) : bs (s.extract a b) = ((bs s).take b).drop a := by simp only [bs]; rw [Lib.extract_data, List.drop_take]
theorem bs_at (s : ByteArray) (k : Nat) (h : k < s.size) : (bs s)[k]'(by rw [bs_size]; exact h) = s[k] := by simp only [bs, Array.getElem_toList]; rfl
set_option maxHeartbeats 4000000 in
set_option maxRecDepth 100000 in
theorem refCut_walk (s : ByteArray) (x : UInt8) (w : World) (hs : s.size ≤ 1000000) :
    Calls Tryd.prog 37 #[.string s, .int .u8 x.toNat] w fun e w' =>
      ∃ (v : Value) (ys : List ByteArray), e = .returned v ∧ ys.map bs = splitB x (bs s) ∧ w'.ownsRow w.heap.size 9 1 v ys.length (ys.map Value.string) ∧ Below w.heap.size w w' := by
  obtain ⟨i0, hi, hz0, hz1, hz2⟩ := info_parts infoStr
  have zl : (bs s).length = s.size := bs_size s
  have HO0 := Lib.hid (own_empty w 9 1)
  have HB0 := Lib.hid ((Below.refl w.heap.size w).alloc (Nat.le_refl _) (Obj.cells #[] 9))
  generalize hw : w.alloc (Obj.cells #[] 9) = w0 at *
  go_enter Tryd.func37, Tryd.ntmps37
  go_wp2
  clear hw
  go_loopw [5, 6, 7] (fun v f i wr => ∃ (k fr : Nat) (ys : List ByteArray), i = .int .i64 k ∧ f = .int .i64 fr ∧ ys.length ≤ k ∧ Hid (CutSt (bs s) x (ys.map bs) fr k) ∧ Hid (wr.ownsRow w.heap.size 9 1 v ys.length (ys.map Value.string)) ∧ Hid (Below w.heap.size w wr)) (fun _ _ i _ => s.size + 1 - (intOf i).toNat)
  case atStart => exact ⟨0, 0, [], rfl, rfl, Nat.le_refl _, Lib.hid (cut_start _ _), HO0, HB0⟩
  case round =>
    obtain ⟨k, fr, ys, rfl, rfl, hl, HS, HO, HB⟩ := hrel
    obtain ⟨hle, hfr⟩ := cut_le HS.out
    have zs := HB.out.size
    by_cases hk : k ≤ s.size
    · have hfk : fr ≤ k := hfr (by omega)
      by_cases he : k = s.size
      · have HN := Lib.hid (show CutSt (bs s) x ((ys ++ [s.extract fr s.size]).map bs) (s.size + 1) (s.size + 1) by
          have h := HS.out; rw [he, ← zl] at h; have := cut_end h; rw [List.map_append, List.map_singleton, bs_cutout, ← zl]; exact this)
        clear hle hfr
        subst he
        go_wp2_with (at_builtin; refine wpList_append_own _ rfl _ _ 64 rfl w.heap.size 9 i0 (.string ⟨#[]⟩) 1 16 Tryd.underlying64 hi hz0 hz1 hz2 rfl (by decide) _ _ _ rfl (HO.out.alloc _) ⟨wr.heap.size, 0, none⟩ 1 1 [.string (s.extract fr s.size)] rfl rfl ?a1 ?a2 ?a3 ?a4 ?a5 ?_)
        case a1 => exact cell_one_new wr (.string (s.extract fr s.size)) 9
        case a2 => simp [Value.oneCell']
        case a3 => unfold maxLen; omega
        case a4 => omega
        case a5 => simp; omega
        intro v' w1 hown' hgrow _
        have HB1 := Lib.hid (below_append (HB.out.alloc zs _) hgrow HO.out (Nat.le_refl _) (by simp; omega))
        have HO1 := Lib.hid hown'
        clear hown' hgrow
        go_wp2
        go_roundw
        case rel => exact ⟨s.size + 1, s.size + 1, ys ++ [s.extract fr s.size], by go_num, by go_num, by simp; omega, HN, Lib.hid (by simpa using HO1.out), HB1⟩
        case measure => simp [intOf]
      · have hks : k < s.size := by omega
        by_cases hx : s[k]'hks = x
        · have HN := Lib.hid (show CutSt (bs s) x ((ys ++ [s.extract fr k]).map bs) (k + 1) (k + 1) by
            have := cut_hit (by omega) ((bs_at s k hks).trans hx) HS.out; rw [List.map_append, List.map_singleton, bs_cutout]; exact this)
          have ex : (((s[k]'hks).toNat : Int) == (x.toNat : Int)) = true := by rw [hx]; simp
          clear hle hfr hx
          go_wp2_with (at_builtin; refine wpList_append_own _ rfl _ _ 64 rfl w.heap.size 9 i0 (.string ⟨#[]⟩) 1 16 Tryd.underlying64 hi hz0 hz1 hz2 rfl (by decide) _ _ _ rfl (HO.out.alloc _) ⟨wr.heap.size, 0, none⟩ 1 1 [.string (s.extract fr k)] rfl rfl ?b1 ?b2 ?b3 ?b4 ?b5 ?_)
          case b1 => exact cell_one_new wr (.string (s.extract fr k)) 9
          case b2 => simp [Value.oneCell']
          case b3 => unfold maxLen; omega
          case b4 => omega
          case b5 => simp; omega
          intro v' w1 hown' hgrow _
          have HB1 := Lib.hid (below_append (HB.out.alloc zs _) hgrow HO.out (Nat.le_refl _) (by simp; omega))
          have HO1 := Lib.hid hown'
          clear hown' hgrow
          go_wp2
          go_roundw
          case rel => exact ⟨k + 1, k + 1, ys ++ [s.extract fr k], by go_num, by go_num, by simp; omega, HN, Lib.hid (by simpa using HO1.out), HB1⟩
          case measure => simp [intOf]; omega
        · have HN := Lib.hid (cut_miss (by omega) (fun e => hx ((bs_at s k hks).symm.trans e)) HS.out)
          have ex : (((s[k]'hks).toNat : Int) == (x.toNat : Int)) = false := by
            rw [beq_eq_false_iff_ne]; intro e; exact hx (UInt8.toNat_inj.1 (by omega))
          clear hle hfr hx
          go_wp2
          go_roundw
          case rel => exact ⟨k + 1, fr, ys, by go_num, rfl, by omega, HN, HO, HB⟩
          case measure => simp [intOf]; omega
    · have HD := Lib.hid (cut_done (by omega) HS.out)
      clear hle hfr
      go_wp2
      go_ret
      exact ⟨_, ys, rfl, HD.out.symm, HO.out, HB.out⟩
end Go.Proofs.YtfaojafhamhncaaDoor
