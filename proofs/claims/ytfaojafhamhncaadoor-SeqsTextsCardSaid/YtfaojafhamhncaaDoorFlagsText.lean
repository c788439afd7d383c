/- The walk of seqs.FlagsText. -/
import Derived.Test.YtfaojafhamhncaaDoorFlagsSpec2
import Derived.Test.YtfaojafhamhncaaDoorFlags
import Derived.Laws.AppendOwn
import Derived.Maps.AppendAt
namespace Go.Proofs.YtfaojafhamhncaaDoor
open Go.RowKit
set_option linter.unusedSimpArgs false
set_option linter.unusedVariables false
theorem infoStr : (Tryd.prog.info? 9).map (fun i => (i.zero, i.size, i.bytes)) = some (some (.string ⟨#[]⟩), 1, 16) := by kernel_rfl
set_option maxHeartbeats 4000000 in
set_option maxRecDepth 100000 in
theorem flagsText_walk (f : Int) (w : World) :
    Calls Tryd.prog 15 #[.int .i64 f] w fun e w' => e = .returned (.string (flagsTextS f)) ∧ Below w.heap.size w w' := by
  obtain ⟨i0, hi, hz0, hz1, hz2⟩ := info_parts infoStr
  go_enter Tryd.func15, Tryd.ntmps15
  go_wp2_with fail
  refine (names_walk _).mono ?_
  rintro e Wa ⟨rfl, hBa⟩
  have HWa := Lib.hid hBa
  clear hBa
  rw [namesV]
  go_wp2_with fail
  go_loopw [3, 7] (fun v i wr => ∃ k : Nat, k ≤ 5 ∧ i = .int .i64 k ∧ Hid (wr.ownsRow w.heap.size 9 1 v (namesF f k).length ((namesF f k).map Value.string)) ∧ Hid (Below w.heap.size w wr)) (fun _ i _ => 5 - (intOf i).toNat)
  case atStart => exact ⟨0, by omega, rfl, Lib.hid (World.ownsRow_nil _ _ _ _), HWa⟩
  case round =>
    obtain ⟨k, hk, rfl, HO, HB⟩ := hrel
    have zs := HB.out.size
    have hk' : k = 0 ∨ k = 1 ∨ k = 2 ∨ k = 3 ∨ k = 4 ∨ k = 5 := by omega
    rcases hk' with rfl | rfl | rfl | rfl | rfl | rfl
    · have zl := namesF_length f 0
      cases hx : hasF f 0 with
      | true =>
        have E := Lib.hid (namesF_yes hx)
        have hT : (bits .and .i64 f (wrap64 (2 ^ ((0 : Nat) : Int).toNat)) != 0) = true := by
          have h : (!(bits .and .i64 f 1 == 0)) = true := hx
          rw [show wrap64 (2 ^ ((0 : Nat) : Int).toNat) = 1 by decide +kernel]
          exact h
        have nx := name_index 0 (by decide)
        clear hx
        generalize namesF f 0 = xs at *
        generalize hki : ((0 : Nat) : Int) = ki at *
        go_wp2_with (at_builtin; refine wpList_append_own _ rfl _ _ 64 rfl w.heap.size 9 i0 (.string ⟨#[]⟩) 1 16 Tryd.underlying64 hi hz0 hz1 hz2 rfl (by decide) _ _ _ rfl (HO.out.alloc _) ⟨wr.heap.size, 0, none⟩ 1 1 [.string (nameS 0)] rfl rfl ?a0 ?b0 ?c0 ?d0 ?e0 ?_)
        case a0 => exact cell_one_new wr (.string (nameS 0)) 9
        case b0 => simp [Value.oneCell']
        case c0 => unfold maxLen; omega
        case d0 => omega
        case e0 => simp; omega
        intro v' w1 hown' hgrow _
        have HB1 := Lib.hid (below_append (HB.out.alloc zs _) hgrow HO.out (Nat.le_refl _) (by simp; omega))
        have HO1 := Lib.hid hown'
        clear hown' hgrow
        go_wp2
        go_roundw
        case rel => exact ⟨1, by omega, by go_num, Lib.hid (by rw [E.out]; simpa using HO1.out), HB1⟩
        case measure => subst hki; simp [intOf]
      | false =>
        have E := Lib.hid (namesF_no hx)
        have hT : (bits .and .i64 f (wrap64 (2 ^ ((0 : Nat) : Int).toNat)) != 0) = false := by
          have h : (!(bits .and .i64 f 1 == 0)) = false := hx
          rw [show wrap64 (2 ^ ((0 : Nat) : Int).toNat) = 1 by decide +kernel]
          exact h
        have nx := name_index 0 (by decide)
        clear hx
        generalize namesF f 0 = xs at *
        generalize hki : ((0 : Nat) : Int) = ki at *
        go_wp2
        go_roundw
        case rel => exact ⟨1, by omega, by go_num, Lib.hid (by rw [E.out]; exact HO.out), HB⟩
        case measure => subst hki; simp [intOf]
    · have zl := namesF_length f 1
      cases hx : hasF f 1 with
      | true =>
        have E := Lib.hid (namesF_yes hx)
        have hT : (bits .and .i64 f (wrap64 (2 ^ ((1 : Nat) : Int).toNat)) != 0) = true := by
          have h : (!(bits .and .i64 f 2 == 0)) = true := hx
          rw [show wrap64 (2 ^ ((1 : Nat) : Int).toNat) = 2 by decide +kernel]
          exact h
        have nx := name_index 1 (by decide)
        clear hx
        generalize namesF f 1 = xs at *
        generalize hki : ((1 : Nat) : Int) = ki at *
        go_wp2_with (at_builtin; refine wpList_append_own _ rfl _ _ 64 rfl w.heap.size 9 i0 (.string ⟨#[]⟩) 1 16 Tryd.underlying64 hi hz0 hz1 hz2 rfl (by decide) _ _ _ rfl (HO.out.alloc _) ⟨wr.heap.size, 0, none⟩ 1 1 [.string (nameS 1)] rfl rfl ?a1 ?b1 ?c1 ?d1 ?e1 ?_)
        case a1 => exact cell_one_new wr (.string (nameS 1)) 9
        case b1 => simp [Value.oneCell']
        case c1 => unfold maxLen; omega
        case d1 => omega
        case e1 => simp; omega
        intro v' w1 hown' hgrow _
        have HB1 := Lib.hid (below_append (HB.out.alloc zs _) hgrow HO.out (Nat.le_refl _) (by simp; omega))
        have HO1 := Lib.hid hown'
        clear hown' hgrow
        go_wp2
        go_roundw
        case rel => exact ⟨2, by omega, by go_num, Lib.hid (by rw [E.out]; simpa using HO1.out), HB1⟩
        case measure => subst hki; simp [intOf]
      | false =>
        have E := Lib.hid (namesF_no hx)
        have hT : (bits .and .i64 f (wrap64 (2 ^ ((1 : Nat) : Int).toNat)) != 0) = false := by
          have h : (!(bits .and .i64 f 2 == 0)) = false := hx
          rw [show wrap64 (2 ^ ((1 : Nat) : Int).toNat) = 2 by decide +kernel]
          exact h
        have nx := name_index 1 (by decide)
        clear hx
        generalize namesF f 1 = xs at *
        generalize hki : ((1 : Nat) : Int) = ki at *
        go_wp2
        go_roundw
        case rel => exact ⟨2, by omega, by go_num, Lib.hid (by rw [E.out]; exact HO.out), HB⟩
        case measure => subst hki; simp [intOf]
    · have zl := namesF_length f 2
      cases hx : hasF f 2 with
      | true =>
        have E := Lib.hid (namesF_yes hx)
        have hT : (bits .and .i64 f (wrap64 (2 ^ ((2 : Nat) : Int).toNat)) != 0) = true := by
          have h : (!(bits .and .i64 f 4 == 0)) = true := hx
          rw [show wrap64 (2 ^ ((2 : Nat) : Int).toNat) = 4 by decide +kernel]
          exact h
        have nx := name_index 2 (by decide)
        clear hx
        generalize namesF f 2 = xs at *
        generalize hki : ((2 : Nat) : Int) = ki at *
        go_wp2_with (at_builtin; refine wpList_append_own _ rfl _ _ 64 rfl w.heap.size 9 i0 (.string ⟨#[]⟩) 1 16 Tryd.underlying64 hi hz0 hz1 hz2 rfl (by decide) _ _ _ rfl (HO.out.alloc _) ⟨wr.heap.size, 0, none⟩ 1 1 [.string (nameS 2)] rfl rfl ?a2 ?b2 ?c2 ?d2 ?e2 ?_)
        case a2 => exact cell_one_new wr (.string (nameS 2)) 9
        case b2 => simp [Value.oneCell']
        case c2 => unfold maxLen; omega
        case d2 => omega
        case e2 => simp; omega
        intro v' w1 hown' hgrow _
        have HB1 := Lib.hid (below_append (HB.out.alloc zs _) hgrow HO.out (Nat.le_refl _) (by simp; omega))
        have HO1 := Lib.hid hown'
        clear hown' hgrow
        go_wp2
        go_roundw
        case rel => exact ⟨3, by omega, by go_num, Lib.hid (by rw [E.out]; simpa using HO1.out), HB1⟩
        case measure => subst hki; simp [intOf]
      | false =>
        have E := Lib.hid (namesF_no hx)
        have hT : (bits .and .i64 f (wrap64 (2 ^ ((2 : Nat) : Int).toNat)) != 0) = false := by
          have h : (!(bits .and .i64 f 4 == 0)) = false := hx
          rw [show wrap64 (2 ^ ((2 : Nat) : Int).toNat) = 4 by decide +kernel]
          exact h
        have nx := name_index 2 (by decide)
        clear hx
        generalize namesF f 2 = xs at *
        generalize hki : ((2 : Nat) : Int) = ki at *
        go_wp2
        go_roundw
        case rel => exact ⟨3, by omega, by go_num, Lib.hid (by rw [E.out]; exact HO.out), HB⟩
        case measure => subst hki; simp [intOf]
    · have zl := namesF_length f 3
      cases hx : hasF f 3 with
      | true =>
        have E := Lib.hid (namesF_yes hx)
        have hT : (bits .and .i64 f (wrap64 (2 ^ ((3 : Nat) : Int).toNat)) != 0) = true := by
          have h : (!(bits .and .i64 f 8 == 0)) = true := hx
          rw [show wrap64 (2 ^ ((3 : Nat) : Int).toNat) = 8 by decide +kernel]
          exact h
        have nx := name_index 3 (by decide)
        clear hx
        generalize namesF f 3 = xs at *
        generalize hki : ((3 : Nat) : Int) = ki at *
        go_wp2_with (at_builtin; refine wpList_append_own _ rfl _ _ 64 rfl w.heap.size 9 i0 (.string ⟨#[]⟩) 1 16 Tryd.underlying64 hi hz0 hz1 hz2 rfl (by decide) _ _ _ rfl (HO.out.alloc _) ⟨wr.heap.size, 0, none⟩ 1 1 [.string (nameS 3)] rfl rfl ?a3 ?b3 ?c3 ?d3 ?e3 ?_)
        case a3 => exact cell_one_new wr (.string (nameS 3)) 9
        case b3 => simp [Value.oneCell']
        case c3 => unfold maxLen; omega
        case d3 => omega
        case e3 => simp; omega
        intro v' w1 hown' hgrow _
        have HB1 := Lib.hid (below_append (HB.out.alloc zs _) hgrow HO.out (Nat.le_refl _) (by simp; omega))
        have HO1 := Lib.hid hown'
        clear hown' hgrow
        go_wp2
        go_roundw
        case rel => exact ⟨4, by omega, by go_num, Lib.hid (by rw [E.out]; simpa using HO1.out), HB1⟩
        case measure => subst hki; simp [intOf]
      | false =>
        have E := Lib.hid (namesF_no hx)
        have hT : (bits .and .i64 f (wrap64 (2 ^ ((3 : Nat) : Int).toNat)) != 0) = false := by
          have h : (!(bits .and .i64 f 8 == 0)) = false := hx
          rw [show wrap64 (2 ^ ((3 : Nat) : Int).toNat) = 8 by decide +kernel]
          exact h
        have nx := name_index 3 (by decide)
        clear hx
        generalize namesF f 3 = xs at *
        generalize hki : ((3 : Nat) : Int) = ki at *
        go_wp2
        go_roundw
        case rel => exact ⟨4, by omega, by go_num, Lib.hid (by rw [E.out]; exact HO.out), HB⟩
        case measure => subst hki; simp [intOf]
    · have zl := namesF_length f 4
      cases hx : hasF f 4 with
      | true =>
        have E := Lib.hid (namesF_yes hx)
        have hT : (bits .and .i64 f (wrap64 (2 ^ ((4 : Nat) : Int).toNat)) != 0) = true := by
          have h : (!(bits .and .i64 f 16 == 0)) = true := hx
          rw [show wrap64 (2 ^ ((4 : Nat) : Int).toNat) = 16 by decide +kernel]
          exact h
        have nx := name_index 4 (by decide)
        clear hx
        generalize namesF f 4 = xs at *
        generalize hki : ((4 : Nat) : Int) = ki at *
        go_wp2_with (at_builtin; refine wpList_append_own _ rfl _ _ 64 rfl w.heap.size 9 i0 (.string ⟨#[]⟩) 1 16 Tryd.underlying64 hi hz0 hz1 hz2 rfl (by decide) _ _ _ rfl (HO.out.alloc _) ⟨wr.heap.size, 0, none⟩ 1 1 [.string (nameS 4)] rfl rfl ?a4 ?b4 ?c4 ?d4 ?e4 ?_)
        case a4 => exact cell_one_new wr (.string (nameS 4)) 9
        case b4 => simp [Value.oneCell']
        case c4 => unfold maxLen; omega
        case d4 => omega
        case e4 => simp; omega
        intro v' w1 hown' hgrow _
        have HB1 := Lib.hid (below_append (HB.out.alloc zs _) hgrow HO.out (Nat.le_refl _) (by simp; omega))
        have HO1 := Lib.hid hown'
        clear hown' hgrow
        go_wp2
        go_roundw
        case rel => exact ⟨5, by omega, by go_num, Lib.hid (by rw [E.out]; simpa using HO1.out), HB1⟩
        case measure => subst hki; simp [intOf]
      | false =>
        have E := Lib.hid (namesF_no hx)
        have hT : (bits .and .i64 f (wrap64 (2 ^ ((4 : Nat) : Int).toNat)) != 0) = false := by
          have h : (!(bits .and .i64 f 16 == 0)) = false := hx
          rw [show wrap64 (2 ^ ((4 : Nat) : Int).toNat) = 16 by decide +kernel]
          exact h
        have nx := name_index 4 (by decide)
        clear hx
        generalize namesF f 4 = xs at *
        generalize hki : ((4 : Nat) : Int) = ki at *
        go_wp2
        go_roundw
        case rel => exact ⟨5, by omega, by go_num, Lib.hid (by rw [E.out]; exact HO.out), HB⟩
        case measure => subst hki; simp [intOf]
    · have hJ := namesF_join f
      have zl := namesF_length f 5
      have HF := Lib.hid (show flagsTextS f = ⟨#[40]⟩ ++ joinS (namesF f 5) ⟨#[32]⟩ ++ ⟨#[41]⟩ from rfl)
      obtain ⟨_, A, c, hv, hc, _⟩ := own_strings HO.out
      subst hv
      have HJ := Lib.hid (join_walk _ (namesF f 5) ⟨#[32]⟩ wr HO.out (by omega) hJ)
      have zj := joinS_size (xs := namesF f 5) (sep := ⟨#[32]⟩) hJ
      clear hJ
      generalize namesF f 5 = xs at *
      go_wp2_with fail
      refine HJ.out.mono ?_
      rintro e w2 ⟨rfl, hB2⟩
      have HB2 := Lib.hid (below_then HB.out hB2)
      clear hB2
      go_wp2
      go_ret
      exact ⟨by rw [HF.out]; rfl, HB2.out⟩
end Go.Proofs.YtfaojafhamhncaaDoor
