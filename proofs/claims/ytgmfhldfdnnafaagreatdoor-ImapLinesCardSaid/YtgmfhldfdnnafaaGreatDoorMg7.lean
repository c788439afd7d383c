/- A part of the proofs of the statements on chapter 21: walks of functions that they reach, and plain laws. What is proved is stated in the last text. Conditions: none of its own. -/
import Derived.Test.YtgmfhldfdnnafaaGreatDoorMg6
import Derived.Shelf.Vars
import Derived.SizedLaws
import Derived.Handed
namespace Go.Proofs.YtgmfhldfdnnafaaGreatDoor
open Go.RowKit
open Pl (Bs)
set_option linter.unusedSimpArgs false
set_option linter.unusedVariables false
def moreOf : Value → Value → Nat
  | .string s, .bool true => s.size + 1
  | _, _ => 0
set_option maxHeartbeats 4000000 in
set_option maxRecDepth 100000 in
theorem sec_walk (G : Glob) (s : Bs) (B : Nat) (w : World) (hs : s.length ≤ 1000000) (hE : EnvI G w B) : Calls Tryz.prog 151 #[.string (str s)] w (SecPost G w (secB s)) := by
  obtain ⟨ty, vx, hv⟩ := hE.formI
  have HSent : Hid (∀ W, Below w.heap.size w W → W.cell? ⟨0, 0, none⟩ = some (.iface ty vx)) := Lib.hid (fun W hW => by have := (hE.kept (grown_below hW (some B))).form; rw [hv] at this; exact this)
  have HGf := Lib.hid hv
  have zg : 0 < w.heap.size := World.block_lt_of_cell? w _ hE.form
  have zg2 : ¬ (0 = w.heap.size) := by omega
  have HMax : Hid (∀ W, Below w.heap.size w W → W.cell? ⟨13, 0, none⟩ = some (.int .i64 G.max)) := Lib.hid (fun W hW => (hE.kept (grown_below hW (some B))).max)
  obtain ⟨i0, hi, hz0, hz1, hz2⟩ := info_parts infoInt
  obtain ⟨w2, hw2⟩ : ∃ w2, w2 = (w.alloc zeroSpec).alloc zeroSpec := ⟨_, rfl⟩
  have hB2 : Below w.heap.size w w2 := by rw [hw2]; exact ((Below.refl _ _).alloc (Nat.le_refl _) _).alloc (by simp) _
  have hz2' : w2.heap.size = w.heap.size + 2 := by rw [hw2]; simp
  have hx1 : w2.heap[w.heap.size]? = some zeroSpec := by rw [hw2]; exact (Below.heap_alloc _ _ _ (by simp)).trans (World.alloc_heap_new w _)
  have hx2 : w2.heap[w.heap.size + 1]? = some zeroSpec := by
    rw [hw2]; have := World.alloc_heap_new (w.alloc zeroSpec) zeroSpec; rw [World.size_alloc] at this; exact this
  have HST0 : Hid (SecSt w [] (.slice none 0 0) ⟨#[]⟩ (.slice none 0 0) w2) := Lib.hid ⟨hx1, hx2, World.ownsRow_nil _ _ _ _, hB2, by omega⟩
  have HLp := Lib.hid (LoopSt.start s)
  have hne : ((str s).toList != []) = (!s.isEmpty) := by
    rw [Lib.toList_data]
    show (bs (str s) != []) = _
    rw [bs_str]
    cases s <;> rfl
  have hnb : (!(str s).toList.isEmpty) = (!s.isEmpty) := by
    rw [Lib.toList_data]
    show (!(bs (str s)).isEmpty) = _
    rw [bs_str]
  generalize (!s.isEmpty) = m0 at *
  clear hB2 hz2' hx1 hx2 hE hv
  subst hw2
  go_enter Tryz.func151, Tryz.ntmps151
  go_wp2
  go_loopw [5, 6] (fun r m wr => ∃ (acc : List Int) (rest : Bs) (more : Bool) (u : Value), r = .string (str rest) ∧ m = .bool more ∧ Hid (LoopSt s acc rest more) ∧ Hid (SecSt w acc u ⟨#[]⟩ (.slice none 0 0) wr)) (fun r m _ => moreOf r m)
  case atStart => exact ⟨[], s, m0, _, rfl, by first | rfl | rw [hnb] | rw [hne], HLp, HST0⟩
  case round =>
    obtain ⟨acc, rest, more, u, rfl, rfl, HL, HS⟩ := hrel
    have hrl := HL.out.le
    have hfew := HL.out.few
    obtain ⟨A, c, hu, _⟩ := rowC_own HS.out.own
    subst hu
    cases more with
    | false =>
      have HV := Lib.hid HL.out.fin
      have HXS := Lib.hid (HS.out.spec (x := ⟨acc, [], []⟩) rfl (rowC_nil _ _ _))
      have HL1 := Lib.hid (show acc.length ≤ 2000000 by omega)
      have HL2 := Lib.hid (show ([] : List Bs).length ≤ 2000000 by simp)
      have HL3 := Lib.hid (show ∀ y ∈ ([] : List Bs), y.length ≤ 1000000 from fun y hy => by simp at hy)
      obtain ⟨c0, c1, c2⟩ := three_cells HS.out.out
      obtain ⟨b0, b1, b2⟩ := three_cells HS.out.res
      obtain ⟨g0, g1, g2⟩ := three_free HS.out.res
      have KR := Lib.hid (right_walk ⟨acc, [], []⟩ _ _ _ _ HXS.out (fun i hi => hi.2) HL1.out HL2.out HL3.out)
      go_wp2_with fail
      refine KR.out.mono ?_
      rintro e w8 ⟨rfl, hB8⟩
      have ST8 := Lib.hid (HS.out.then hB8)
      have HX8 := Lib.hid (HXS.out.kept (fun i hi => hB8.block i hi.2))
      have HXM := Lib.hid (HX8.out.more (T' := fun i => w.heap.size + 2 ≤ i ∧ i < w8.heap.size) (fun i hi => ⟨hi.1, Nat.lt_of_lt_of_le hi.2 hB8.size⟩))
      have c8 := HSent.out _ ST8.out.below
      clear hB8 c0 c1 c2 b0 b1 b2 g0 g1 g2
      obtain ⟨c0, c1, c2⟩ := three_cells ST8.out.out
      obtain ⟨b0, b1, b2⟩ := three_cells ST8.out.res
      obtain ⟨g0, g1, g2⟩ := three_free ST8.out.res
      cases hr : secRight ⟨acc, [], []⟩ with
      | true =>
        have HO := Lib.hid (show secB s = some ⟨acc, [], []⟩ by rw [HV.out, secFin, if_pos hr])
        go_wp2
        refine bodyPost_ret (v := _) ?_ rfl (SecPost.fin ST8.out.below ST8.out.room (set3 _ _ _ _ _ _ _ _ _ ST8.out.res).2 HO.out HXM.out)
        rw [results_cell_tmp rfl]
        simp [go_sem, b0, b1, b2]
        try rfl
      | false =>
        have HO := Lib.hid (show secB s = none by rw [HV.out, secFin, if_neg (by rw [hr]; decide)])
        go_wp2
        go_region
        all_goals go_wp2
        all_goals
          refine bodyPost_ret (v := _) ?_ rfl (SecPost.bad ST8.out.below ((set3 _ _ _ _ _ _ _ _ _ ST8.out.res).2.trans (grown_drew _ _)) HO.out HGf.out)
          rw [results_cell_tmp rfl]
          simp [go_sem, b0, b1, b2]
    | true =>
      have hcl := cut_fst_len rest [46]
      have K1 : Hid (∀ W, Below w.heap.size w W → Calls Tryz.prog 22 #[.string (str rest), .string ⟨#[46]⟩] W _) := Lib.hid (fun W hW => cut_walk21 rest [46] G.max W (by omega) (HMax.out W hW))
      have K2 := Lib.hid (fun W => snumber_walk (str (Lib.cut rest [46]).1) W (by rw [str_size]; omega))
      rw [bs_str] at K2
      have hn9 := secNum_le (Lib.cut rest [46]).1
      by_cases h0 : secNum (Lib.cut rest [46]).1 = 0
      · have HBk := Lib.hid (HL.out.brk h0)
        rw [h0] at K2
        have hcl2 := cut_fst_len rest [32, 40]
        have hsl2 := cut_snd_len rest [32, 40]
        have K3 : Hid (∀ W, Below w.heap.size w W → Calls Tryz.prog 22 #[.string (str rest), .string ⟨#[32, 40]⟩] W _) := Lib.hid (fun W hW => cut_walk21 rest [32, 40] G.max W (by omega) (HMax.out W hW))
        have K4 : Hid (∀ W, Calls Tryz.prog 164 #[.string (str (Lib.cut rest [32, 40]).1)] W fun e w' => e = .returned (.string (str (largeL (Lib.cut rest [32, 40]).1))) ∧ Below W.heap.size W w') := Lib.hid (fun W => by
          have K := slarge_walk (str (Lib.cut rest [32, 40]).1) (by rw [str_size]; omega) W
          rw [largeS, bs_str] at K
          exact K)
        have hSE : secEnd acc rest = if (Lib.cut rest [32, 40]).1 = [] then none
          else if (Lib.cut rest [32, 40]).2.2 = true then
            if Lib.hasSuffix (Lib.cut rest [32, 40]).2.1 [41] = true then secFin ⟨acc, largeL (Lib.cut rest [32, 40]).1, splitL (Lib.trimSuffix (Lib.cut rest [32, 40]).2.1 [41])⟩ else none
          else secFin ⟨acc, largeL (Lib.cut rest [32, 40]).1, []⟩ := rfl
        have HSE := Lib.hid (HBk.out.trans hSE)
        have K5 := Lib.hid (fun W => cutSuf_yes (l := (Lib.cut rest [32, 40]).2.1) (by omega) W)
        have hcw : ((str (Lib.cut rest [32, 40]).1).toList == []) = decide ((Lib.cut rest [32, 40]).1 = []) := by
          rw [Lib.toList_data]
          show (bs (str _) == []) = _
          rw [bs_str, Bool.eq_iff_iff]; simp
        have hcw2 : (str (Lib.cut rest [32, 40]).1).toList.isEmpty = decide ((Lib.cut rest [32, 40]).1 = []) := by
          rw [Lib.toList_data]
          show (bs (str _)).isEmpty = _
          rw [bs_str, Bool.eq_iff_iff]; simp
        clear hSE
        generalize (Lib.cut rest [32, 40]).1 = X at *
        generalize (Lib.cut rest [32, 40]).2.1 = Y at *
        generalize (Lib.cut rest [32, 40]).2.2 = ok at *
        go_wp2_with fail
        refine (K1.out _ HS.out.below).mono ?_
        rintro e w3 ⟨rfl, q, hw3⟩
        have HS3 : Hid (SecSt w acc _ _ _ w3) := Lib.hid (by rw [hw3]; exact HS.out.then (below_draws (Below.refl _ _) q))
        clear hw3
        go_wp2_with fail
        refine (K2.out _).mono ?_
        rintro e w4 ⟨rfl, hB4⟩
        have HS4 := Lib.hid (HS3.out.then hB4)
        clear hB4
        go_wp2_with fail
        refine (K3.out _ HS4.out.below).mono ?_
        rintro e w5 ⟨rfl, q5, hw5⟩
        have HS5 : Hid (SecSt w acc _ _ _ w5) := Lib.hid (by rw [hw5]; exact HS4.out.then (below_draws (Below.refl _ _) q5))
        clear hw5
        go_wp2_with fail
        refine (K4.out _).mono ?_
        rintro e w6 ⟨rfl, hB6⟩
        have HS6 := Lib.hid (HS5.out.then hB6)
        have HS7 := Lib.hid (HS6.out.setO (i := 1) (v := .string (str (largeL X))) (wt1 := str (largeL X)) (nm1 := .slice none 0 0) rfl)
        clear hB6
        obtain ⟨c0, c1, c2⟩ := three_cells HS6.out.out
        obtain ⟨f0, f1, f2⟩ := three_free HS6.out.out
        obtain ⟨w7, hw7⟩ : ∃ w7, w7 = w6.setCell ⟨w.heap.size + 1, 1, none⟩ (.string (str (largeL X))) := ⟨_, rfl⟩
        have HS7b : Hid (SecSt w acc _ _ _ w7) := Lib.hid (by rw [hw7]; exact HS7.out)
        have hw7' := hw7.symm
        clear hw7 HS7
        cases ok with
        | false =>
          by_cases hX : X = []
          · have hXd : decide (X = []) = true := decide_eq_true hX
            rw [hXd] at hcw hcw2
            have HO := Lib.hid (show secB s = none by rw [HSE.out, if_pos hX])
            have c8 := HSent.out _ HS7b.out.below
            obtain ⟨b0, b1, b2⟩ := three_cells HS7b.out.res
            obtain ⟨g0, g1, g2⟩ := three_free HS7b.out.res
            clear hX hXd HSE
            go_wp2
            go_region
            all_goals go_wp2
            all_goals
              refine bodyPost_ret (v := _) ?_ rfl (SecPost.bad HS7b.out.below ((set3 _ _ _ _ _ _ _ _ _ HS7b.out.res).2.trans (grown_drew _ _)) HO.out HGf.out)
              rw [results_cell_tmp rfl]
              simp [go_sem, b0, b1, b2]
          · have hXd : decide (X = []) = false := decide_eq_false hX
            rw [hXd] at hcw hcw2
            have HV := Lib.hid (show secB s = secFin ⟨acc, largeL X, []⟩ by rw [HSE.out, if_neg hX]; rfl)
            have HXS := Lib.hid (HS7b.out.spec (x := ⟨acc, largeL X, []⟩) rfl (rowC_nil _ _ _))
            have HL1 := Lib.hid (show acc.length ≤ 2000000 by omega)
            have HL2 := Lib.hid (show ([] : List Bs).length ≤ 2000000 by simp)
            have HL3 := Lib.hid (show ∀ y ∈ ([] : List Bs), y.length ≤ 1000000 from fun y hy => by simp at hy)
            clear hX hXd HSE
            obtain ⟨c0, c1, c2⟩ := three_cells HS7b.out.out
            obtain ⟨b0, b1, b2⟩ := three_cells HS7b.out.res
            obtain ⟨g0, g1, g2⟩ := three_free HS7b.out.res
            have KR := Lib.hid (right_walk ⟨acc, largeL X, []⟩ _ _ _ _ HXS.out (fun i hi => hi.2) HL1.out HL2.out HL3.out)
            go_wp2_with fail
            refine KR.out.mono ?_
            rintro e w8 ⟨rfl, hB8⟩
            have ST8 := Lib.hid (HS7b.out.then hB8)
            have HX8 := Lib.hid (HXS.out.kept (fun i hi => hB8.block i hi.2))
            have HXM := Lib.hid (HX8.out.more (T' := fun i => w.heap.size + 2 ≤ i ∧ i < w8.heap.size) (fun i hi => ⟨hi.1, Nat.lt_of_lt_of_le hi.2 hB8.size⟩))
            have c8 := HSent.out _ ST8.out.below
            clear hB8 c0 c1 c2 b0 b1 b2 g0 g1 g2
            obtain ⟨c0, c1, c2⟩ := three_cells ST8.out.out
            obtain ⟨b0, b1, b2⟩ := three_cells ST8.out.res
            obtain ⟨g0, g1, g2⟩ := three_free ST8.out.res
            cases hr : secRight ⟨acc, largeL X, []⟩ with
            | true =>
              have HO := Lib.hid (show secB s = some ⟨acc, largeL X, []⟩ by rw [HV.out, secFin, if_pos hr])
              go_wp2
              refine bodyPost_ret (v := _) ?_ rfl (SecPost.fin ST8.out.below ST8.out.room (set3 _ _ _ _ _ _ _ _ _ ST8.out.res).2 HO.out HXM.out)
              rw [results_cell_tmp rfl]
              simp [go_sem, b0, b1, b2]
              try rfl
            | false =>
              have HO := Lib.hid (show secB s = none by rw [HV.out, secFin, if_neg (by rw [hr]; decide)])
              go_wp2
              go_region
              all_goals go_wp2
              all_goals
                refine bodyPost_ret (v := _) ?_ rfl (SecPost.bad ST8.out.below ((set3 _ _ _ _ _ _ _ _ _ ST8.out.res).2.trans (grown_drew _ _)) HO.out HGf.out)
                rw [results_cell_tmp rfl]
                simp [go_sem, b0, b1, b2]
        | true =>
          go_wp2_with fail
          refine (K5.out _).mono ?_
          rintro e w9 ⟨rfl, rfl⟩
          have htl := trim_len Y
          cases hsf : Lib.hasSuffix Y [41] with
          | false =>
            have HO := Lib.hid (show secB s = none by
              rw [HSE.out]
              by_cases hX : X = []
              · rw [if_pos hX]
              · simp [hX, hsf])
            have c8 := HSent.out _ HS7b.out.below
            obtain ⟨b0, b1, b2⟩ := three_cells HS7b.out.res
            obtain ⟨g0, g1, g2⟩ := three_free HS7b.out.res
            clear HSE hcw hcw2
            go_wp2
            go_region
            all_goals go_wp2
            all_goals
              refine bodyPost_ret (v := _) ?_ rfl (SecPost.bad HS7b.out.below ((set3 _ _ _ _ _ _ _ _ _ HS7b.out.res).2.trans (grown_drew _ _)) HO.out HGf.out)
              rw [results_cell_tmp rfl]
              simp [go_sem, b0, b1, b2]
          | true =>
            have HSp := Lib.hid (splitL_len (Lib.trimSuffix Y [41]))
            have K6 : Hid (∀ W, Below w.heap.size w W → Calls Tryz.prog 165 #[.string (str (Lib.trimSuffix Y [41])), .string ⟨#[32]⟩] W fun e w' => e = .returned (.slice (some ⟨W.heap.size, 0, none⟩) (splitL (Lib.trimSuffix Y [41])).length (splitL (Lib.trimSuffix Y [41])).length) ∧ w' = W.alloc (.cells ((splitL (Lib.trimSuffix Y [41])).map strV).toArray 9)) := Lib.hid (fun W hW => by
              have K := split_walk (str (Lib.trimSuffix Y [41])) ⟨#[32]⟩ G.max W (by rw [str_size]; omega) (HMax.out W hW) (by decide)
              rw [← (splitL_len (Lib.trimSuffix Y [41])).1] at K
              have e : (Lib.splitB ⟨#[32]⟩ 0 (Lib.countB (str (Lib.trimSuffix Y [41])) ⟨#[32]⟩) (str (Lib.trimSuffix Y [41]))).map Value.string = (splitL (Lib.trimSuffix Y [41])).map strV := by
                rw [splitL, List.map_map]
                refine List.map_congr_left (fun z _ => ?_)
                show Value.string z = .string (str (bs z))
                rw [str_bs]
              rw [e] at K
              exact K)
            have HSE2 := Lib.hid (show secB s = if X = [] then none else secFin ⟨acc, largeL X, splitL (Lib.trimSuffix Y [41])⟩ by
              rw [HSE.out]
              by_cases hX : X = []
              · rw [if_pos hX, if_pos hX]
              · simp [hX, hsf])
            have hz7 := HS7b.out.room
            clear HSE
            generalize splitL (Lib.trimSuffix Y [41]) = N at *
            generalize str (Lib.trimSuffix Y [41]) = TS at *
            go_wp2_with fail
            refine (K6.out _ HS7b.out.below).mono ?_
            rintro e w10 ⟨rfl, hw10⟩
            have hB10 : Below w9.heap.size w9 w10 := by rw [hw10]; exact (Below.refl _ _).alloc (Nat.le_refl _) _
            have hz10 : w10.heap.size = w9.heap.size + 1 := by rw [hw10]; simp
            have hx10 : w10.heap[w9.heap.size]? = some (.cells (N.map strV).toArray 9) := by rw [hw10]; exact World.alloc_heap_new _ _
            have HS10 := Lib.hid (HS7b.out.then hB10)
            have HNm : Hid (RowC w10 (fun i => w.heap.size + 2 ≤ i ∧ i < w10.heap.size) (.slice (some ⟨w9.heap.size, 0, none⟩) N.length N.length) N.length (N.map strV)) := Lib.hid ⟨_, _, rfl, fun _ => ⟨_, rfl, ⟨by omega, by omega⟩, fun j x hx => by
              rw [cell_of_row _ _ _ _ _ _ hx10]; simpa using hx⟩⟩
            have HS11 := Lib.hid (HS10.out.setO (i := 2) (v := .slice (some ⟨w9.heap.size, 0, none⟩) N.length N.length) (wt1 := str (largeL X)) (nm1 := .slice (some ⟨w9.heap.size, 0, none⟩) N.length N.length) rfl)
            have HNm11 : Hid (RowC (w10.setCell ⟨w.heap.size + 1, 2, none⟩ (.slice (some ⟨w9.heap.size, 0, none⟩) N.length N.length)) (fun i => w.heap.size + 2 ≤ i ∧ i < (w10.setCell ⟨w.heap.size + 1, 2, none⟩ (.slice (some ⟨w9.heap.size, 0, none⟩) N.length N.length)).heap.size) (.slice (some ⟨w9.heap.size, 0, none⟩) N.length N.length) N.length (N.map strV)) := Lib.hid ((HNm.out.kept (fun i hi => Below.heap_setCell _ _ _ _ (by dsimp only; omega))).more (fun i hi => ⟨hi.1, by simp; exact hi.2⟩))
            obtain ⟨c0, c1, c2⟩ := three_cells HS10.out.out
            obtain ⟨f0, f1, f2⟩ := three_free HS10.out.out
            clear hw10 hB10 hz10 hx10 HS10 HNm
            obtain ⟨w11, hw11⟩ : ∃ w11, w10.setCell ⟨w.heap.size + 1, 2, none⟩ (.slice (some ⟨w9.heap.size, 0, none⟩) N.length N.length) = w11 := ⟨_, rfl⟩
            rw [hw11] at HS11 HNm11
            by_cases hX : X = []
            · have hXd : decide (X = []) = true := decide_eq_true hX
              rw [hXd] at hcw hcw2
              have HO := Lib.hid (show secB s = none by rw [HSE2.out, if_pos hX])
              have c8 := HSent.out _ HS11.out.below
              clear hX hXd HSE2
              obtain ⟨b0, b1, b2⟩ := three_cells HS11.out.res
              obtain ⟨g0, g1, g2⟩ := three_free HS11.out.res
              go_wp2
              go_region
              all_goals go_wp2
              all_goals
                refine bodyPost_ret (v := _) ?_ rfl (SecPost.bad HS11.out.below ((set3 _ _ _ _ _ _ _ _ _ HS11.out.res).2.trans (grown_drew _ _)) HO.out HGf.out)
                rw [results_cell_tmp rfl]
                simp [go_sem, b0, b1, b2]
            · have hXd : decide (X = []) = false := decide_eq_false hX
              rw [hXd] at hcw hcw2
              have HV := Lib.hid (show secB s = secFin ⟨acc, largeL X, N⟩ by rw [HSE2.out, if_neg hX])
              have HXS := Lib.hid (HS11.out.spec (x := ⟨acc, largeL X, N⟩) rfl HNm11.out)
              have HL1 := Lib.hid (show acc.length ≤ 2000000 by omega)
              have HL2 := Lib.hid (show N.length ≤ 2000000 by have := HSp.out.2.1; omega)
              have HL3 := Lib.hid (show ∀ y ∈ N, y.length ≤ 1000000 from fun y hy => by have := HSp.out.2.2 y hy; omega)
              clear hX hXd HSE2
              obtain ⟨c0, c1, c2⟩ := three_cells HS11.out.out
              obtain ⟨b0, b1, b2⟩ := three_cells HS11.out.res
              obtain ⟨g0, g1, g2⟩ := three_free HS11.out.res
              have KR := Lib.hid (right_walk ⟨acc, largeL X, N⟩ _ _ _ _ HXS.out (fun i hi => hi.2) HL1.out HL2.out HL3.out)
              go_wp2_with fail
              refine KR.out.mono ?_
              rintro e w8 ⟨rfl, hB8⟩
              have ST8 := Lib.hid (HS11.out.then hB8)
              have HX8 := Lib.hid (HXS.out.kept (fun i hi => hB8.block i hi.2))
              have HXM := Lib.hid (HX8.out.more (T' := fun i => w.heap.size + 2 ≤ i ∧ i < w8.heap.size) (fun i hi => ⟨hi.1, Nat.lt_of_lt_of_le hi.2 hB8.size⟩))
              have c8 := HSent.out _ ST8.out.below
              clear hB8 c0 c1 c2 b0 b1 b2 g0 g1 g2
              obtain ⟨c0, c1, c2⟩ := three_cells ST8.out.out
              obtain ⟨b0, b1, b2⟩ := three_cells ST8.out.res
              obtain ⟨g0, g1, g2⟩ := three_free ST8.out.res
              cases hr : secRight ⟨acc, largeL X, N⟩ with
              | true =>
                have HO := Lib.hid (show secB s = some ⟨acc, largeL X, N⟩ by rw [HV.out, secFin, if_pos hr])
                go_wp2
                refine bodyPost_ret (v := _) ?_ rfl (SecPost.fin ST8.out.below ST8.out.room (set3 _ _ _ _ _ _ _ _ _ ST8.out.res).2 HO.out HXM.out)
                rw [results_cell_tmp rfl]
                simp [go_sem, b0, b1, b2]
                try rfl
              | false =>
                have HO := Lib.hid (show secB s = none by rw [HV.out, secFin, if_neg (by rw [hr]; decide)])
                go_wp2
                go_region
                all_goals go_wp2
                all_goals
                  refine bodyPost_ret (v := _) ?_ rfl (SecPost.bad ST8.out.below ((set3 _ _ _ _ _ _ _ _ _ ST8.out.res).2.trans (grown_drew _ _)) HO.out HGf.out)
                  rw [results_cell_tmp rfl]
                  simp [go_sem, b0, b1, b2]
      · have HN := Lib.hid (HL.out.next h0)
        have HMs := Lib.hid (show moreOf (.string (str (Lib.cut rest [46]).2.1)) (.bool (Lib.cut rest [46]).2.2) < moreOf (.string (str rest)) (.bool true) by
          cases hm : (Lib.cut rest [46]).2.2 with
          | true => have := cut_less rest hm; simp only [moreOf, str_size]; omega
          | false => simp only [moreOf]; omega)
        generalize hN1 : secNum (Lib.cut rest [46]).1 = N1 at *
        have hN0 : ¬ (N1 : Int) = 0 := by omega
        generalize (Lib.cut rest [46]).1 = X at *
        generalize (Lib.cut rest [46]).2.1 = Y at *
        generalize (Lib.cut rest [46]).2.2 = ok at *
        clear hN1
        go_wp2_with fail
        refine (K1.out _ HS.out.below).mono ?_
        rintro e w3 ⟨rfl, q, hw3⟩
        have HS3 : Hid (SecSt w acc _ _ _ w3) := Lib.hid (by rw [hw3]; exact HS.out.then (below_draws (Below.refl _ _) q))
        clear hw3
        go_wp2_with fail
        refine (K2.out _).mono ?_
        rintro e w4 ⟨rfl, hB4⟩
        have HS4 := Lib.hid (HS3.out.then hB4)
        clear hB4
        obtain ⟨c0, c1, c2⟩ := three_cells HS4.out.out
        obtain ⟨f0, f1, f2⟩ := three_free HS4.out.out
        have hr4 := HS4.out.room
        go_wp2_with (at_builtin; refine wpList_append_lies _ (by rfl) _ _ _ (by rfl) (w.heap.size + 2) 3 i0 (.int .i64 0) 1 8 Tryz.underlying74 hi hz0 hz1 hz2 (by rfl) (by decide) (.slice A acc.length c) acc.length (acc.map intV) (by rfl) (HS4.out.own.alloc _) ⟨w4.heap.size, 0, none⟩ 1 1 [.int .i64 N1] (by rfl) (by rfl) (World.news_of_block (World.alloc_heap_new w4 _)) (by simp [Value.oneCell']) (by decide) (by unfold maxLen; omega) (by omega) (by simp; omega) (w4.heap.size + 1) (by simp) ?_)
        intro g cap w9 hown hgr hat hlt
        obtain ⟨hx9, hst9⟩ := HS4.out.app hown hgr
        have HS9 := Lib.hid hst9
        clear c0 c1 c2 f0 f1 f2 hown hgr hat hlt hst9
        obtain ⟨c0, c1, c2⟩ := three_cells hx9
        obtain ⟨f0, f1, f2⟩ := three_free hx9
        clear hx9
        go_wp2
        go_roundw
        case rel => exact ⟨acc ++ [(N1 : Int)], Y, ok, .slice (some ⟨g, 0, none⟩) (acc.length + 1) cap, rfl, rfl, HN, HS9⟩
        case measure => exact HMs.out
end Go.Proofs.YtgmfhldfdnnafaaGreatDoor
namespace Go.Proofs.YtgmfhldfdnnafaaGreatDoor
open Go.RowKit
open Pl (Bs)
set_option linter.unusedSimpArgs false
set_option linter.unusedVariables false
def exA : Bs := [97, 32, 70, 69, 84, 67, 72, 32, 49, 58, 42, 32, 40, 70, 76, 65, 71, 83, 32, 66, 79, 68, 89, 91, 84, 69, 88, 84, 93, 60, 48, 46, 49, 48, 62, 41]
def exB : Bs := [98, 32, 85, 73, 68, 32, 83, 69, 65, 82, 67, 72, 32, 79, 82, 32, 83, 69, 69, 78, 32, 78, 79, 84, 32, 51]
def exC : Bs := [99, 32, 76, 79, 71, 73, 78, 32, 123, 51, 125, 13, 10, 97, 110, 110, 32, 34, 120, 32, 121, 34]
theorem exA1 : wordB [] exA = some ([97], [32, 70, 69, 84, 67, 72, 32, 49, 58, 42, 32, 40, 70, 76, 65, 71, 83, 32, 66, 79, 68, 89, 91, 84, 69, 88, 84, 93, 60, 48, 46, 49, 48, 62, 41]) := by kernel_rfl
theorem exA2 : isB [32] [32, 70, 69, 84, 67, 72, 32, 49, 58, 42, 32, 40, 70, 76, 65, 71, 83, 32, 66, 79, 68, 89, 91, 84, 69, 88, 84, 93, 60, 48, 46, 49, 48, 62, 41] = some [70, 69, 84, 67, 72, 32, 49, 58, 42, 32, 40, 70, 76, 65, 71, 83, 32, 66, 79, 68, 89, 91, 84, 69, 88, 84, 93, 60, 48, 46, 49, 48, 62, 41] := by kernel_rfl
theorem exA3 : wordB [] [70, 69, 84, 67, 72, 32, 49, 58, 42, 32, 40, 70, 76, 65, 71, 83, 32, 66, 79, 68, 89, 91, 84, 69, 88, 84, 93, 60, 48, 46, 49, 48, 62, 41] = some ([70, 69, 84, 67, 72], [32, 49, 58, 42, 32, 40, 70, 76, 65, 71, 83, 32, 66, 79, 68, 89, 91, 84, 69, 88, 84, 93, 60, 48, 46, 49, 48, 62, 41]) := by kernel_rfl
theorem exA4 : isB [32] [32, 49, 58, 42, 32, 40, 70, 76, 65, 71, 83, 32, 66, 79, 68, 89, 91, 84, 69, 88, 84, 93, 60, 48, 46, 49, 48, 62, 41] = some [49, 58, 42, 32, 40, 70, 76, 65, 71, 83, 32, 66, 79, 68, 89, 91, 84, 69, 88, 84, 93, 60, 48, 46, 49, 48, 62, 41] := by kernel_rfl
theorem exA5 : (setB [49, 58, 42, 32, 40, 70, 76, 65, 71, 83, 32, 66, 79, 68, 89, 91, 84, 69, 88, 84, 93, 60, 48, 46, 49, 48, 62, 41]).map (fun p => (p.1.length, p.2)) = some (1, [32, 40, 70, 76, 65, 71, 83, 32, 66, 79, 68, 89, 91, 84, 69, 88, 84, 93, 60, 48, 46, 49, 48, 62, 41]) := by kernel_rfl
theorem exA6 : isB [32] [32, 40, 70, 76, 65, 71, 83, 32, 66, 79, 68, 89, 91, 84, 69, 88, 84, 93, 60, 48, 46, 49, 48, 62, 41] = some [40, 70, 76, 65, 71, 83, 32, 66, 79, 68, 89, 91, 84, 69, 88, 84, 93, 60, 48, 46, 49, 48, 62, 41] := by kernel_rfl
theorem exA7 : (isB [40] [40, 70, 76, 65, 71, 83, 32, 66, 79, 68, 89, 91, 84, 69, 88, 84, 93, 60, 48, 46, 49, 48, 62, 41]).isSome = true := by kernel_rfl
theorem exA8 : (listR (itemR secB) [40, 70, 76, 65, 71, 83, 32, 66, 79, 68, 89, 91, 84, 69, 88, 84, 93, 60, 48, 46, 49, 48, 62, 41] 0).map (fun p => (p.1.length, p.2)) = some (2, [], 0) := by kernel_rfl
theorem exB1 : wordB [] exB = some ([98], [32, 85, 73, 68, 32, 83, 69, 65, 82, 67, 72, 32, 79, 82, 32, 83, 69, 69, 78, 32, 78, 79, 84, 32, 51]) := by kernel_rfl
theorem exB2 : isB [32] [32, 85, 73, 68, 32, 83, 69, 65, 82, 67, 72, 32, 79, 82, 32, 83, 69, 69, 78, 32, 78, 79, 84, 32, 51] = some [85, 73, 68, 32, 83, 69, 65, 82, 67, 72, 32, 79, 82, 32, 83, 69, 69, 78, 32, 78, 79, 84, 32, 51] := by kernel_rfl
theorem exB3 : wordB [] [85, 73, 68, 32, 83, 69, 65, 82, 67, 72, 32, 79, 82, 32, 83, 69, 69, 78, 32, 78, 79, 84, 32, 51] = some ([85, 73, 68], [32, 83, 69, 65, 82, 67, 72, 32, 79, 82, 32, 83, 69, 69, 78, 32, 78, 79, 84, 32, 51]) := by kernel_rfl
theorem exB4 : isB [32] [32, 83, 69, 65, 82, 67, 72, 32, 79, 82, 32, 83, 69, 69, 78, 32, 78, 79, 84, 32, 51] = some [83, 69, 65, 82, 67, 72, 32, 79, 82, 32, 83, 69, 69, 78, 32, 78, 79, 84, 32, 51] := by kernel_rfl
theorem exB5 : wordB [] [83, 69, 65, 82, 67, 72, 32, 79, 82, 32, 83, 69, 69, 78, 32, 78, 79, 84, 32, 51] = some ([83, 69, 65, 82, 67, 72], [32, 79, 82, 32, 83, 69, 69, 78, 32, 78, 79, 84, 32, 51]) := by kernel_rfl
theorem exB6 : (searchR (keyA 5) [32, 79, 82, 32, 83, 69, 69, 78, 32, 78, 79, 84, 32, 51] 0).map (fun p => (p.1.map fun x => x.kids.length, p.2)) = some ([2], [], 4) := by kernel_rfl
theorem exC1 : wordB [] exC = some ([99], [32, 76, 79, 71, 73, 78, 32, 123, 51, 125, 13, 10, 97, 110, 110, 32, 34, 120, 32, 121, 34]) := by kernel_rfl
theorem exC2 : isB [32] [32, 76, 79, 71, 73, 78, 32, 123, 51, 125, 13, 10, 97, 110, 110, 32, 34, 120, 32, 121, 34] = some [76, 79, 71, 73, 78, 32, 123, 51, 125, 13, 10, 97, 110, 110, 32, 34, 120, 32, 121, 34] := by kernel_rfl
theorem exC3 : wordB [] [76, 79, 71, 73, 78, 32, 123, 51, 125, 13, 10, 97, 110, 110, 32, 34, 120, 32, 121, 34] = some ([76, 79, 71, 73, 78], [32, 123, 51, 125, 13, 10, 97, 110, 110, 32, 34, 120, 32, 121, 34]) := by kernel_rfl
theorem exC4 : textsB 2 [32, 123, 51, 125, 13, 10, 97, 110, 110, 32, 34, 120, 32, 121, 34] = some ([[97, 110, 110], [120, 32, 121]], []) := by kernel_rfl
theorem exTags : tagB [97] = true ∧ tagB [98] = true ∧ tagB [99] = true := ⟨by kernel_rfl, by kernel_rfl, by kernel_rfl⟩
end Go.Proofs.YtgmfhldfdnnafaaGreatDoor
namespace Go.Proofs.YtgmfhldfdnnafaaGreatDoor
open Go.RowKit
open Pl (Bs)
set_option linter.unusedSimpArgs false
set_option linter.unusedVariables false
def PsEnv (G : Glob) (w : World) : Prop := 20 ≤ w.heap.size ∧ ∀ W, Below w.heap.size w W → w.heap.size + 1 + 1 < W.heap.size → EnvI G W (w.heap.size + 1 + 1)
theorem sec_con (G : Glob) : SecCon G secB := fun X B w hl hE => sec_walk G X B w hl hE
theorem keyA_len : ∀ (f : Nat) (s : Bs) (k : Nat) (p : KeyP × Bs × Nat), keyA f s k = some p → p.2.1.length ≤ s.length := by
  intro f
  induction f with
  | zero => intro s k p h; simp [keyA] at h
  | succ f ih =>
    have hk : ∀ (n : Nat) (s : Bs) (k : Nat) (p : List KeyP × Bs × Nat), kidsR (keyA f) n s k = some p → p.2.1.length ≤ s.length := by
      intro n
      induction n with
      | zero => intro s k p h; simp [kidsR] at h; subst h; exact Nat.le_refl _
      | succ n ihn =>
        intro s k p h
        unfold kidsR at h
        split at h
        · cases h
        · rename_i s1 h1
          have e1 := isB_len h1
          split at h
          · cases h
          · rename_i x s2 k2 h2
            have e2 := ih _ _ _ h2
            cases hq : kidsR (keyA f) n s2 k2 with
            | none => rw [hq] at h; cases h
            | some q =>
              rw [hq] at h
              simp only [Option.map_some, Option.some.injEq] at h
              subst h
              have e3 := ihn _ _ _ hq
              dsimp only at e2 e3 ⊢
              omega
    intro s k p h
    unfold keyA at h
    split at h
    · cases h
    · split at h
      · cases h
      · split at h
        · cases h
        · rename_i W0 r hw
          have e0 := wordB_len hw
          split at h
          · cases h; dsimp only; omega
          · split at h
            · cases hq : kidsR (keyA f) 1 r (k + 1) with
              | none => rw [hq] at h; cases h
              | some q => rw [hq] at h; simp only [Option.map_some, Option.some.injEq] at h; subst h; have := hk _ _ _ _ hq; dsimp only; omega
            · split at h
              · cases hq : kidsR (keyA f) 2 r (k + 1) with
                | none => rw [hq] at h; cases h
                | some q => rw [hq] at h; simp only [Option.map_some, Option.some.injEq] at h; subst h; have := hk _ _ _ _ hq; dsimp only; omega
              · split at h
                · cases h
                · split at h
                  · cases h; dsimp only; omega
                  · cases h
theorem parseA (G : Glob) (w : World) (hE : PsEnv G w) : Calls Tryz.prog 12 #[.string (str exA)] w fun e w' => Below w.heap.size w w' ∧ ∃ c : CmdV, e = .returned (.tuple #[.agg c.cells, .nilIface]) ∧ c.iN = 2 := by
  refine (parse_plain G exA [97] _ _ _ _ (by decide) exA1 exTags.1 exA2 exA3 (by decide) w hE.1 hE.2 (fun _ c _ => c.iN = 2) ?_).mono (fun e w' ⟨h1, c, W0, W, h2, h3, _⟩ => ⟨h1, c, h2, h3⟩)
  intro W hC hEW hS
  obtain ⟨⟨l, r⟩, hset, hf⟩ := Option.map_eq_some_iff.1 exA5
  simp only [Prod.mk.injEq] at hf
  obtain ⟨_, rfl⟩ := hf
  obtain ⟨⟨its, r2, kk⟩, hit, hf2⟩ := Option.map_eq_some_iff.1 exA8
  simp only [Prod.mk.injEq] at hf2
  obtain ⟨hi2, rfl, rfl⟩ := hf2
  obtain ⟨r0, hp⟩ := Option.isSome_iff_exists.1 exA7
  refine (rest_fetch G (w.heap.size + 1 + 1) w.heap.size 0 secB (sec_con G) _ _ _ _ r0 [] l its 0 exA4 hset exA6 hp hit _ (.slice none 0 0) (.slice none 0 0) (by kernel_rfl) rfl rfl (by omega) hE.1 W hC hEW hS).mono ?_
  rintro e W' ⟨hR, rfl, hS', cs', hcmd, A, c, A2, c2, ics, hcs, _⟩
  refine ⟨rfl, hR, { cmd0 [97] (largeL [70, 69, 84, 67, 72]) false with sA := A, sN := l.length, sC := c, iA := A2, iN := its.length, iC := c2 }, 0, hS', ?_, hi2⟩
  rw [hcmd, hcs]
  rfl
/-- the first key's kids, as the law reads them -/
def KidsQ (c : CmdV) (lo : Nat) (W : World) : Prop := c.uid = true ∧ c.kN = 1 ∧ ∃ g Ak ck, c.kA = some ⟨g, 0, none⟩ ∧ lo ≤ g ∧ W.cell? ⟨g, 5, none⟩ = some (.slice Ak 2 ck)
theorem parseB (G : Glob) (w : World) (hE : PsEnv G w) : Calls Tryz.prog 12 #[.string (str exB)] w fun e w' => Below w.heap.size w w' ∧ ∃ c : CmdV, e = .returned (.tuple #[.agg c.cells, .nilIface]) ∧ KidsQ c w.heap.size w' := by
  refine (parse_uid G exB [98] _ _ _ _ _ _ _ (by decide) exB1 exTags.2.1 exB2 exB3 (by kernel_rfl) exB4 exB5 (by kernel_rfl) w hE.1 hE.2 (fun W0 c W => KidsQ c (w.heap.size + 2) W) ?_).mono (fun e w' h => ?_)
  · intro W hC hEW hS
    obtain ⟨⟨l, r, kk⟩, hok, hf⟩ := Option.map_eq_some_iff.1 exB6
    simp only [Prod.mk.injEq] at hf
    obtain ⟨hl, rfl, rfl⟩ := hf
    refine (rest_search G (w.heap.size + 1 + 1) w.heap.size 0 (keyA 5) (keyA_con G _ 5) (keyA_len 5) _ l [] 4 hok _ (by kernel_rfl) rfl (by omega) hE.1 W hC hEW hS).mono ?_
    rintro e W' ⟨rfl, W1, hR1, hR2, hS2, A, c, cells, T, ds, hAk, hsz, hds⟩
    have h11 := hAk.at_
    obtain ⟨x, hx⟩ : ∃ x, l = [x] := by
      cases l with
      | nil => simp at hl
      | cons x l =>
        cases l with
        | nil => exact ⟨x, rfl⟩
        | cons y l => simp at hl
    subst hx
    have hkn : x.kids.length = 2 := by simpa using hl
    refine ⟨rfl, hR1.trans hR2, { cmd0 [98] (largeL [83, 69, 65, 82, 67, 72]) true with kA := A, kN := 1, kC := c }, 4, hS2, ?_, rfl, rfl, ?_⟩
    · rw [hAk.cmd]
      congr 2
      refine Array.ext_getElem? fun i => ?_
      by_cases hi : i = 11
      · subst hi; rw [h11]; rfl
      · rw [hds i hi]
        have : i < 11 ∨ 12 ≤ i := by omega
        rcases this with h | h
        · have : i = 0 ∨ i = 1 ∨ i = 2 ∨ i = 3 ∨ i = 4 ∨ i = 5 ∨ i = 6 ∨ i = 7 ∨ i = 8 ∨ i = 9 ∨ i = 10 := by omega
          rcases this with rfl | rfl | rfl | rfl | rfl | rfl | rfl | rfl | rfl | rfl | rfl <;> rfl
        · rw [Array.getElem?_eq_none (by exact h), Array.getElem?_eq_none (by exact h)]
    · obtain ⟨A', c', hu, hrow⟩ := rowC_own hAk.own
      simp only [List.length_singleton, Value.slice.injEq] at hu
      obtain ⟨rfl, _, rfl⟩ := hu
      obtain ⟨g, hA, hg, hcell⟩ := hrow (by simp)
      have hz := hR1.size
      have hW := (Array.getElem?_eq_some_iff.1 hS.heap).1
      have hits := hAk.its
      cases hits with
      | @cons _ vs vk kcs _ cs h1 h2 h3 h4 =>
        obtain ⟨Ak, ck, hvk, _⟩ := h2
        rw [hkn] at hvk
        subst hvk
        exact ⟨g, Ak, ck, hA, by omega, hcell 5 _ rfl⟩
  · obtain ⟨h1, c, W0, W, h2, ⟨q1, q2, g, Ak, ck, q3, q4, q5⟩, hR⟩ := h
    refine ⟨h1, c, h2, q1, q2, g, Ak, ck, q3, by omega, ?_⟩
    have hlt := World.block_lt_of_cell? W _ q5
    exact (World.cell?_of_block (a := ⟨g, 5, none⟩) (hR.block g hlt (by omega) (by omega))).trans q5
/-- the two arguments, as the law reads them -/
def ArgsEx (c : CmdV) (lo : Nat) (W : World) : Prop := c.aN = 2 ∧ ∃ g, c.aA = some ⟨g, 0, none⟩ ∧ lo ≤ g ∧ W.cell? ⟨g, 0, none⟩ = some (.string ⟨#[97, 110, 110]⟩) ∧ W.cell? ⟨g, 1, none⟩ = some (.string ⟨#[120, 32, 121]⟩)
theorem parseC (G : Glob) (w : World) (hE : PsEnv G w) : Calls Tryz.prog 12 #[.string (str exC)] w fun e w' => Below w.heap.size w w' ∧ ∃ c : CmdV, e = .returned (.tuple #[.agg c.cells, .nilIface]) ∧ ArgsEx c w.heap.size w' := by
  refine (parse_plain G exC [99] _ _ _ _ (by decide) exC1 exTags.2.2 exC2 exC3 (by decide) w hE.1 hE.2 (fun W0 c W => ArgsEx c (w.heap.size + 2) W) ?_).mono (fun e w' h => ?_)
  · intro W hC hEW hS
    have hr := rest_login G (w.heap.size + 1 + 1) w.heap.size 0 _ _ (.slice none 0 0) (by kernel_rfl) rfl (by omega) hE.1 W hC hEW hS
    rw [exC4] at hr
    refine hr.mono ?_
    rintro e W' ⟨hR, rfl, hS', cs', hcmd, A, c, hcs, hrow⟩
    refine ⟨rfl, hR, { cmd0 [99] (largeL [76, 79, 71, 73, 78]) false with aA := A, aN := 2, aC := c }, 0, hS', ?_, rfl, ?_⟩
    · rw [hcmd, hcs]
      rfl
    · obtain ⟨A', c', hu, hrow⟩ := hrow
      simp only [Value.slice.injEq] at hu
      obtain ⟨rfl, _, rfl⟩ := hu
      obtain ⟨g, hA, hg, hcell⟩ := hrow (by simp)
      have hW := (Array.getElem?_eq_some_iff.1 hS.heap).1
      exact ⟨g, hA, by have := hg.1; omega, hcell 0 _ rfl, hcell 1 _ rfl⟩
  · obtain ⟨h1, c, W0, W, h2, ⟨q1, g, q3, q4, q5, q6⟩, hR⟩ := h
    have hlt := World.block_lt_of_cell? W _ q5
    have hk := hR.block g hlt (by omega) (by omega)
    exact ⟨h1, c, h2, q1, g, q3, by omega, (World.cell?_of_block (a := ⟨g, 0, none⟩) hk).trans q5, (World.cell?_of_block (a := ⟨g, 1, none⟩) hk).trans q6⟩
end Go.Proofs.YtgmfhldfdnnafaaGreatDoor
namespace Go.Proofs.YtgmfhldfdnnafaaGreatDoor
open Go.RowKit
open Pl (Bs)
set_option linter.unusedSimpArgs false
set_option linter.unusedVariables false
theorem PsEnv.then {G : Glob} {w w1 : World} (h : PsEnv G w) (hB : Below w.heap.size w w1) (hE : ∀ W, Below w.heap.size w W → ∀ B, w.heap.size ≤ B → B < W.heap.size → EnvI G W B) : PsEnv G w1 := by
  have hz := hB.size
  exact ⟨Nat.le_trans h.1 hz, fun W hW hl => hE W (hB.trans (hW.mono hz)) _ (by omega) hl⟩
set_option maxHeartbeats 8000000 in
set_option maxRecDepth 100000 in
theorem alive21_walk (G : Glob) (w : World) (h20 : 20 ≤ w.heap.size) (hE : ∀ W, Below w.heap.size w W → ∀ B, w.heap.size ≤ B → B < W.heap.size → EnvI G W B) :
    Calls Tryz.prog 7 #[] w fun e w' => e = .returned (.bool true) ∧ Below w.heap.size w w' := by
  have HP0 : Hid (PsEnv G w) := Lib.hid ⟨h20, fun W hW hl => hE W hW _ (by omega) hl⟩
  have HE := Lib.hid hE
  have HN : Hid (∀ W, Below w.heap.size w W → PsEnv G W) := Lib.hid (fun W hW => HP0.out.then hW hE)
  have KA : Hid (∀ W, PsEnv G W → Calls Tryz.prog 12 #[.string ⟨#[97, 32, 70, 69, 84, 67, 72, 32, 49, 58, 42, 32, 40, 70, 76, 65, 71, 83, 32, 66, 79, 68, 89, 91, 84, 69, 88, 84, 93, 60, 48, 46, 49, 48, 62, 41]⟩] W _) := Lib.hid (fun W hW => parseA G W hW)
  have KB : Hid (∀ W, PsEnv G W → Calls Tryz.prog 12 #[.string ⟨#[98, 32, 85, 73, 68, 32, 83, 69, 65, 82, 67, 72, 32, 79, 82, 32, 83, 69, 69, 78, 32, 78, 79, 84, 32, 51]⟩] W _) := Lib.hid (fun W hW => parseB G W hW)
  have KC : Hid (∀ W, PsEnv G W → Calls Tryz.prog 12 #[.string ⟨#[99, 32, 76, 79, 71, 73, 78, 32, 123, 51, 125, 13, 10, 97, 110, 110, 32, 34, 120, 32, 121, 34]⟩] W _) := Lib.hid (fun W hW => parseC G W hW)
  clear hE
  go_enter Tryz.func7, Tryz.ntmps7
  go_wp2_with fail
  refine (KA.out _ HP0.out).mono ?_
  rintro e w1 ⟨hB1, c, he, hq⟩
  have HB1 := Lib.hid hB1
  obtain ⟨atag, aname, auid, aaA, aaN, aaC, asA, asN, asC, ahow, aflags, asilent, adate, abody, aiA, aiN, aiC, akA, akN, akC⟩ := c
  dsimp only at hq
  subst hq
  simp only [CmdV.cells] at he
  subst he
  have HBa := Lib.hid (hB1.alloc hB1.size (Obj.cells #[.string atag, .string aname, .bool auid, .slice aaA aaN aaC, .slice asA asN asC, .int .i64 ahow, .int .i64 aflags, .bool asilent, .int .i64 adate, .string abody, .slice aiA 2 aiC, .slice akA akN akC] 33))
  have HXa := Lib.hid (World.alloc_heap_new w1 (Obj.cells #[.string atag, .string aname, .bool auid, .slice aaA aaN aaC, .slice asA asN asC, .int .i64 ahow, .int .i64 aflags, .bool asilent, .int .i64 adate, .string abody, .slice aiA 2 aiC, .slice akA akN akC] 33))
  clear hB1
  go_wp2_with fail
  refine (KB.out _ (HN.out _ HBa.out)).mono ?_
  rintro e w2 ⟨hB2, c, he, hq⟩
  obtain ⟨btag, bname, buid, baA, baN, baC, bsA, bsN, bsC, bhow, bflags, bsilent, bdate, bbody, biA, biN, biC, bkA, bkN, bkC⟩ := c
  obtain ⟨q1, q2, g, Ak, ck, q3, q4, q5⟩ := hq
  dsimp only at q1 q2 q3
  subst q1
  subst q2
  subst q3
  simp only [CmdV.cells] at he
  subst he
  have HB2 := Lib.hid (HBa.out.trans (hB2.mono HBa.out.size))
  have HXa2 := Lib.hid ((hB2.block _ (by simp)).trans HXa.out)
  have hz2 := hB2.size
  simp at hz2
  have HBb := Lib.hid (HB2.out.alloc HB2.out.size (Obj.cells #[.string btag, .string bname, .bool true, .slice baA baN baC, .slice bsA bsN bsC, .int .i64 bhow, .int .i64 bflags, .bool bsilent, .int .i64 bdate, .string bbody, .slice biA biN biC, .slice (some ⟨g, 0, none⟩) 1 bkC] 33))
  have HXb := Lib.hid (World.alloc_heap_new w2 (Obj.cells #[.string btag, .string bname, .bool true, .slice baA baN baC, .slice bsA bsN bsC, .int .i64 bhow, .int .i64 bflags, .bool bsilent, .int .i64 bdate, .string bbody, .slice biA biN biC, .slice (some ⟨g, 0, none⟩) 1 bkC] 33))
  have hg2 := World.block_lt_of_cell? w2 _ q5
  have HQ5 := Lib.hid q5
  clear hB2 q5
  go_wp2_with fail
  refine (KC.out _ (HN.out _ HBb.out)).mono ?_
  rintro e w3 ⟨hB3, c, he, hq⟩
  obtain ⟨ctag, cname, cuid, caA, caN, caC, csA, csN, csC, chow, cflags, csilent, cdate, cbody, ciA, ciN, ciC, ckA, ckN, ckC⟩ := c
  obtain ⟨r1, h, r3, r4, r5, r6⟩ := hq
  dsimp only at r1 r3
  subst r1
  subst r3
  simp only [CmdV.cells] at he
  subst he
  have hz3 := hB3.size
  simp at hz3
  have HB3 := Lib.hid (HBb.out.trans (hB3.mono HBb.out.size))
  have HB4 := Lib.hid (HB3.out.alloc HB3.out.size (Obj.cells #[.string ctag, .string cname, .bool cuid, .slice (some ⟨h, 0, none⟩) 2 caC, .slice csA csN csC, .int .i64 chow, .int .i64 cflags, .bool csilent, .int .i64 cdate, .string cbody, .slice ciA ciN ciC, .slice ckA ckN ckC] 33))
  have hl1 : w1.heap.size < w3.heap.size := by omega
  have hl2 : w2.heap.size < w3.heap.size := by omega
  have x1 := (CmdV.cell (c := ⟨atag, aname, auid, aaA, aaN, aaC, asA, asN, asC, ahow, aflags, asilent, adate, abody, aiA, 2, aiC, akA, akN, akC⟩) (W := w3) ((hB3.block _ (by simp; omega)).trans ((Below.heap_alloc w2 _ _ (by omega)).trans HXa2.out))).1
  have x2 := (CmdV.cell (c := ⟨btag, bname, true, baA, baN, baC, bsA, bsN, bsC, bhow, bflags, bsilent, bdate, bbody, biA, biN, biC, (some ⟨g, 0, none⟩), 1, bkC⟩) (W := w3) ((hB3.block _ (by simp)).trans HXb.out)).1
  have x3 : w3.cell? ⟨g, 5, none⟩ = some (.slice Ak 2 ck) := (World.cell?_of_block (a := ⟨g, 5, none⟩) ((hB3.block g (by simp; omega)).trans (Below.heap_alloc w2 _ _ hg2))).trans HQ5.out
  have hg3 : g < w3.heap.size := by omega
  have hh3 := World.block_lt_of_cell? w3 _ r5
  clear hB3
  obtain ⟨_, _, _, _, _, _, _, _, _, _, y10, _⟩ := x1
  obtain ⟨_, _, z2, _, _, _, _, _, _, _, _, z11⟩ := x2
  go_wp2
  go_ret
  exact ⟨rfl, HB4.out⟩
end Go.Proofs.YtgmfhldfdnnafaaGreatDoor
namespace Go.Proofs.YtgmfhldfdnnafaaGreatDoor
open Go.RowKit
open Pl (Bs numOk numN)
set_option linter.unusedSimpArgs false
set_option linter.unusedVariables false
/-- a text's tag -/
def tagT (l : Bs) : Bs := if (Lib.cut l [32]).2.2 = true ∧ tagB (Lib.cut l [32]).1 = true then (Lib.cut l [32]).1 else [42]
theorem cut_one (l e : Bs) : (Lib.cut l e).1.length ≤ l.length := by
  unfold Lib.cut
  split
  · simp only [List.length_take]; omega
  · exact Nat.le_refl _
set_option maxHeartbeats 2000000 in
set_option maxRecDepth 100000 in
theorem Tag_walk (l : Bs) (m : Int) (hl : l.length ≤ 1000000) (w : World) (hm : w.cell? ⟨13, 0, none⟩ = some (.int .i64 m)) :
    Calls Tryz.prog 10 #[.string (str l)] w fun e w' => e = .returned (.string (str (tagT l))) ∧ Below w.heap.size w w' := by
  have K1 : Hid (Calls Tryz.prog 22 #[.string (str l), .string ⟨#[32]⟩] w _) := Lib.hid (cut_walk21 l [32] m w hl hm)
  have K2 := Lib.hid (fun W => tag_walk (Lib.cut l [32]).1 (by have := cut_one l [32]; omega) W)
  have HT := Lib.hid (show tagT l = if (Lib.cut l [32]).2.2 = true ∧ tagB (Lib.cut l [32]).1 = true then (Lib.cut l [32]).1 else [42] from rfl)
  generalize (Lib.cut l [32]).2.2 = ok at *
  generalize (Lib.cut l [32]).1 = X at *
  generalize (Lib.cut l [32]).2.1 = Y at *
  cases ok with
  | false =>
    have HV := Lib.hid (show str (tagT l) = ⟨#[42]⟩ by rw [HT.out, if_neg (by simp)]; rfl)
    clear hm
    go_enter Tryz.func10, Tryz.ntmps10
    go_wp2_with fail
    refine K1.out.mono ?_
    rintro e w1 ⟨rfl, q, rfl⟩
    go_wp2
    go_ret
    exact ⟨by rw [HV.out]; rfl, below_draws (Below.refl _ _) q⟩
  | true =>
    cases ht : tagB X with
    | false =>
      rw [ht] at K2
      have HV := Lib.hid (show str (tagT l) = ⟨#[42]⟩ by rw [HT.out, if_neg (by simp [ht])]; rfl)
      clear hm ht
      go_enter Tryz.func10, Tryz.ntmps10
      go_wp2_with fail
      refine K1.out.mono ?_
      rintro e w1 ⟨rfl, q, hw1⟩
      have HB1 : Hid (Below w.heap.size w w1) := Lib.hid (by rw [hw1]; exact below_draws (Below.refl _ _) q)
      clear hw1
      go_wp2_with fail
      refine (K2.out _).mono ?_
      rintro e w2 ⟨rfl, hB2⟩
      have HB2 := Lib.hid (below_then HB1.out hB2)
      clear hB2
      go_wp2
      go_ret
      exact ⟨by rw [HV.out]; rfl, HB2.out⟩
    | true =>
      rw [ht] at K2
      have HV := Lib.hid (show str (tagT l) = str X by rw [HT.out, if_pos ⟨rfl, ht⟩])
      clear hm ht
      go_enter Tryz.func10, Tryz.ntmps10
      go_wp2_with fail
      refine K1.out.mono ?_
      rintro e w1 ⟨rfl, q, hw1⟩
      have HB1 : Hid (Below w.heap.size w w1) := Lib.hid (by rw [hw1]; exact below_draws (Below.refl _ _) q)
      clear hw1
      go_wp2_with fail
      refine (K2.out _).mono ?_
      rintro e w2 ⟨rfl, hB2⟩
      have HB2 := Lib.hid (below_then HB1.out hB2)
      clear hB2
      go_wp2
      go_ret
      exact ⟨by rw [HV.out]; rfl, HB2.out⟩
end Go.Proofs.YtgmfhldfdnnafaaGreatDoor
namespace Go.Proofs.YtgmfhldfdnnafaaGreatDoor
open Go.RowKit
open Pl (Bs numOk numN)
set_option linter.unusedSimpArgs false
set_option linter.unusedVariables false
/-- the place of the last '{' ahead of a line's end -/
def litAt (l : Bs) : Int := Lib.lastIndexByte (str (Lib.trimSuffix l [125])) 123
/-- a line's literal -/
def litB (l : Bs) : Option Nat := if Lib.hasSuffix l [125] = true then (if litAt l < 0 then none else countB ((Lib.trimSuffix l [125]).drop ((litAt l).toNat + 1)) 100000) else none
theorem trim_le (l p : Bs) : (Lib.trimSuffix l p).length ≤ l.length := by
  unfold Lib.trimSuffix
  split
  · simp only [List.length_take]; omega
  · exact Nat.le_refl _
theorem litAt_bound (l : Bs) : litAt l < (Lib.trimSuffix l [125]).length := by
  unfold litAt
  rcases Lib.lastIndexByte_spec (str (Lib.trimSuffix l [125])) 123 with ⟨e, _⟩ | ⟨i, hi, e, _⟩
  · rw [e]; omega
  · rw [str_size] at hi; rw [e]; omega
set_option maxHeartbeats 2000000 in
set_option maxRecDepth 100000 in
theorem Literal_walk (G : Glob) (B : Nat) (l : Bs) (hl : l.length ≤ 1000000) (w : World) (hE : EnvI G w B) :
    Calls Tryz.prog 8 #[.string (str l)] w fun e w' => e = .returned (.tuple #[.int .i64 (((litB l).getD 0 : Nat) : Int), .bool (litB l).isSome]) ∧ Below w.heap.size w w' := by
  have K1 : Hid (Calls Tryz.prog 18 #[.string (str l), .string ⟨#[125]⟩] w fun e w' => e = .returned (.tuple #[.string (str (Lib.trimSuffix l [125])), .bool (Lib.hasSuffix l [125])]) ∧ w' = w) := Lib.hid (cutSuf_walk21 (str l) ⟨#[125]⟩ w (by rw [str_size]; omega))
  have K2 : Hid (Calls Tryz.prog 19 #[.string (str (Lib.trimSuffix l [125])), .int .u8 123] w fun e w' => e = .returned (.int .i64 (litAt l)) ∧ w' = w) := Lib.hid (lastByte_walk21 (str (Lib.trimSuffix l [125])) 123 (by rw [str_size]; have := trim_le l [125]; omega) w)
  have HT := Lib.hid (show litB l = if Lib.hasSuffix l [125] = true then (if litAt l < 0 then none else countB ((Lib.trimSuffix l [125]).drop ((litAt l).toNat + 1)) 100000) else none from rfl)
  have hb := litAt_bound l
  have hs := trim_le l [125]
  have K3 := Lib.hid (fun x => fun (hx : x ≤ l.length) => count_walk G B ((Lib.trimSuffix l [125]).drop x) 100000 w (by rw [List.length_drop]; omega) hE)
  generalize Lib.hasSuffix l [125] = ends at *
  generalize Lib.trimSuffix l [125] = S at *
  generalize litAt l = a at *
  generalize litB l = R at *
  clear hE
  cases ends with
  | false =>
    have HV := Lib.hid (show R = none by rw [HT.out, if_neg (by simp)])
    clear hb hs hl
    go_enter Tryz.func8, Tryz.ntmps8
    go_wp2_with fail
    refine K1.out.mono ?_
    rintro e w1 ⟨rfl, rfl⟩
    go_wp2_with fail
    refine K2.out.mono ?_
    rintro e w2 ⟨rfl, rfl⟩
    go_wp2
    go_ret2
    exact ⟨by rw [HV.out]; rfl, Below.refl _ _⟩
  | true =>
    by_cases ha : a < 0
    · have HV := Lib.hid (show R = none by rw [HT.out, if_pos rfl, if_pos ha])
      clear hb hs hl
      go_enter Tryz.func8, Tryz.ntmps8
      go_wp2_with fail
      refine K1.out.mono ?_
      rintro e w1 ⟨rfl, rfl⟩
      go_wp2_with fail
      refine K2.out.mono ?_
      rintro e w2 ⟨rfl, rfl⟩
      go_wp2
      go_ret2
      exact ⟨by rw [HV.out]; rfl, Below.refl _ _⟩
    · obtain ⟨n, rfl⟩ : ∃ n : Nat, a = n := ⟨a.toNat, by omega⟩
      have hn : n < S.length := by omega
      have hN : S.length ≤ 1000000 := by omega
      have hX := Lib.hid (show (str S).extract (n + 1) S.length = str (S.drop (n + 1)) from str_drop S (n + 1))
      have K4 := Lib.hid (K3.out (n + 1) (by omega))
      have hw : IntKind.i64.wrap ((n : Int) + 1) = (n : Int) + 1 := IntWalk.i64_in _ (by omega)
      have HR := Lib.hid (show R = countB (S.drop (n + 1)) 100000 by rw [HT.out, if_pos rfl, if_neg ha, Int.toNat_natCast])
      have hsz : (str S).size = S.length := str_size S
      clear hb hs hl HT K3
      cases hc : countB (S.drop (n + 1)) 100000 with
      | none =>
        rw [hc] at K4 HR
        have HV := Lib.hid HR.out
        clear hc
        go_enter Tryz.func8, Tryz.ntmps8
        go_wp2_with fail
        refine K1.out.mono ?_
        rintro e w1 ⟨rfl, rfl⟩
        go_wp2_with fail
        refine K2.out.mono ?_
        rintro e w2 ⟨rfl, rfl⟩
        go_wp2_with fail
        refine Calls.mono (by rw [hX.out]; exact K4.out) ?_
        rintro e w3 ⟨rfl, hB⟩
        have HB := Lib.hid hB
        clear hB
        go_wp2
        go_ret2
        exact ⟨by rw [HV.out]; rfl, HB.out⟩
      | some c =>
        have hcn := (cnt_n hc).1
        rw [hc, hcn] at K4
        rw [hc] at HR
        have HV := Lib.hid HR.out
        clear hc hcn
        go_enter Tryz.func8, Tryz.ntmps8
        go_wp2_with fail
        refine K1.out.mono ?_
        rintro e w1 ⟨rfl, rfl⟩
        go_wp2_with fail
        refine K2.out.mono ?_
        rintro e w2 ⟨rfl, rfl⟩
        go_wp2_with fail
        refine Calls.mono (by rw [hX.out]; exact K4.out) ?_
        rintro e w3 ⟨rfl, hB⟩
        have HB := Lib.hid hB
        clear hB
        go_wp2
        go_ret2
        exact ⟨by rw [HV.out]; rfl, HB.out⟩
end Go.Proofs.YtgmfhldfdnnafaaGreatDoor
namespace Go.Proofs.YtgmfhldfdnnafaaGreatDoor
open Go.RowKit
open Pl (Bs numOk numN)
set_option linter.unusedSimpArgs false
set_option linter.unusedVariables false
def plC (c : Int) : Bool := !((c == 40) || (c == 41) || (c == 123) || (c == 34) || (c == 92) || (c == 37) || (c == 42)) && (decide (32 < c) && decide (c < 127))
set_option maxRecDepth 100000 in
theorem plC_atom (c : UInt8) : plC (c.toNat : Int) = atomB [] c := by
  have h : ∀ n : Fin 256, plC ((n.val : Nat) : Int) = atomI (str []) ((n.val : Nat) : Int) := by decide +kernel
  exact h ⟨c.toNat, c.toNat_lt⟩
set_option maxHeartbeats 2000000 in
set_option maxRecDepth 100000 in
theorem refPlain_walk (c : Int) (w : World) :
    Calls Tryz.prog 67 #[.int .u8 c, .bool false] w fun e w' => e = .returned (.bool (plC c)) ∧ w = w' := by
  have HD := Lib.hid (show plC c = (!((c == 40) || (c == 41) || (c == 123) || (c == 34) || (c == 92) || (c == 37) || (c == 42)) && (decide (32 < c) && decide (c < 127))) from rfl)
  by_cases h0 : c = 40
  · subst h0
    have HV := Lib.hid (show plC 40 = false from rfl)
    clear HD
    go_enter Tryz.func67, Tryz.ntmps67
    go_wp2
    go_ret
    exact ⟨by rw [HV.out]; rfl, rfl⟩
  have a0 : (c == 40) = false := beq_eq_false_iff_ne.2 h0
  by_cases h1 : c = 41
  · subst h1
    have HV := Lib.hid (show plC 41 = false from rfl)
    clear HD
    go_enter Tryz.func67, Tryz.ntmps67
    go_wp2
    go_ret
    exact ⟨by rw [HV.out]; rfl, rfl⟩
  have a1 : (c == 41) = false := beq_eq_false_iff_ne.2 h1
  by_cases h2 : c = 123
  · subst h2
    have HV := Lib.hid (show plC 123 = false from rfl)
    clear HD
    go_enter Tryz.func67, Tryz.ntmps67
    go_wp2
    go_ret
    exact ⟨by rw [HV.out]; rfl, rfl⟩
  have a2 : (c == 123) = false := beq_eq_false_iff_ne.2 h2
  by_cases h3 : c = 34
  · subst h3
    have HV := Lib.hid (show plC 34 = false from rfl)
    clear HD
    go_enter Tryz.func67, Tryz.ntmps67
    go_wp2
    go_ret
    exact ⟨by rw [HV.out]; rfl, rfl⟩
  have a3 : (c == 34) = false := beq_eq_false_iff_ne.2 h3
  by_cases h4 : c = 92
  · subst h4
    have HV := Lib.hid (show plC 92 = false from rfl)
    clear HD
    go_enter Tryz.func67, Tryz.ntmps67
    go_wp2
    go_ret
    exact ⟨by rw [HV.out]; rfl, rfl⟩
  have a4 : (c == 92) = false := beq_eq_false_iff_ne.2 h4
  by_cases h5 : c = 37
  · subst h5
    have HV := Lib.hid (show plC 37 = false from rfl)
    clear HD
    go_enter Tryz.func67, Tryz.ntmps67
    go_wp2
    go_ret
    exact ⟨by rw [HV.out]; rfl, rfl⟩
  have a5 : (c == 37) = false := beq_eq_false_iff_ne.2 h5
  by_cases h6 : c = 42
  · subst h6
    have HV := Lib.hid (show plC 42 = false from rfl)
    clear HD
    go_enter Tryz.func67, Tryz.ntmps67
    go_wp2
    go_ret
    exact ⟨by rw [HV.out]; rfl, rfl⟩
  have a6 : (c == 42) = false := beq_eq_false_iff_ne.2 h6
  rw [a0, a1, a2, a3, a4, a5, a6] at HD
  clear h0 h1 h2 h3 h4 h5 h6
  by_cases h1 : 32 < c
  · have HV := Lib.hid (show plC c = decide (c < 127) by rw [HD.out, decide_eq_true h1]; rfl)
    go_enter Tryz.func67, Tryz.ntmps67
    go_wp2
    go_ret
    exact ⟨by rw [HV.out]; rfl, rfl⟩
  · have HV := Lib.hid (show plC c = false by rw [HD.out, decide_eq_false h1]; rfl)
    go_enter Tryz.func67, Tryz.ntmps67
    go_wp2
    go_ret
    exact ⟨by rw [HV.out]; rfl, rfl⟩
end Go.Proofs.YtgmfhldfdnnafaaGreatDoor
namespace Go.Proofs.YtgmfhldfdnnafaaGreatDoor
open Go.RowKit
open Pl (Bs numOk numN)
set_option linter.unusedSimpArgs false
set_option linter.unusedVariables false
set_option maxHeartbeats 4000000 in
set_option maxRecDepth 100000 in
theorem tagged_in (s : ByteArray) (w : World) (hs : s.size ≤ 1000000) :
    Calls Tryz.prog 24 #[.string s] w fun e w' => e = .returned (.bool (tagB (bs s))) ∧ w' = w := by
  have zl : (bs s).length = s.size := bs_size s
  go_enter Tryz.func24, Tryz.ntmps24
  go_wp2
  go_loop [3] (fun i => ∃ k : Nat, k ≤ s.size ∧ i = .int .i64 k ∧ Hid (∀ c ∈ (bs s).take k, tagC c = true)) (fun i => s.size - (intOf i).toNat)
  case atStart => exact ⟨0, Nat.zero_le _, rfl, Lib.hid (fun c h => by simp at h)⟩
  case round =>
    obtain ⟨k, hk, rfl, HA⟩ := hrel
    by_cases hlt : k < s.size
    · have hat := at_bs s k hlt
      have HBad := Lib.hid (fun (hb : tagC s[k] = false) => show tagB (bs s) = false by
        rw [tagB]
        have : (bs s).all tagC = false := Bool.eq_false_iff.2 fun e => by
          have := List.all_eq_true.1 e _ (List.getElem_mem (show k < (bs s).length by omega))
          rw [hat, hb] at this; cases this
        rw [this]; rfl)
      have HN := Lib.hid (fun (hb : tagC s[k] = true) => show ∀ c ∈ (bs s).take (k + 1), tagC c = true from fun c hc => by
        rw [List.take_succ_eq_append_getElem (by omega), List.mem_append] at hc
        rcases hc with hc | hc
        · exact HA.out c hc
        · rw [List.mem_singleton.1 hc, hat]; exact hb)
      have HD := Lib.hid (show tagC s[k] = (plC (s[k].toNat : Int) && !(s[k] == 43)) by rw [plC_atom]; rfl)
      have K := Lib.hid (fun W => refPlain_walk (s[k].toNat : Int) W)
      clear hat
      have c0 : (s[k]'hlt) = s[k] := rfl
      clear c0
      cases ha : plC (s[k].toNat : Int) with
      | false =>
        have HV := Lib.hid (HBad.out (by rw [HD.out, ha]; rfl))
        rw [ha] at K
        clear ha
        go_wp2_with fail
        refine (K.out _).mono ?_
        rintro e w' ⟨rfl, rfl⟩
        go_wp2
        go_ret
        exact ⟨by rw [HV.out]; rfl, rfl⟩
      | true =>
        rw [ha] at K
        have hce : (s[k] == 43) = ((s[k].toNat : Int) == 43) := by
          rw [Bool.eq_iff_iff, beq_iff_eq, beq_iff_eq]
          exact byte_eq s[k] 43 (by decide)
        by_cases h43 : (s[k].toNat : Int) = 43
        · have HV := Lib.hid (HBad.out (by rw [HD.out, ha, hce, beq_iff_eq.2 h43]; rfl))
          have g43 : ((s[k].toNat : Int) == 43) = true := beq_iff_eq.2 h43
          clear ha hce h43
          go_wp2_with fail
          refine (K.out _).mono ?_
          rintro e w' ⟨rfl, rfl⟩
          go_wp2
          go_ret
          exact ⟨by rw [HV.out]; rfl, rfl⟩
        · have HN2 := Lib.hid (HN.out (by rw [HD.out, ha, hce, beq_eq_false_iff_ne.2 h43]; rfl))
          have g43 : ((s[k].toNat : Int) == 43) = false := beq_eq_false_iff_ne.2 h43
          clear ha hce h43
          go_wp2_with fail
          refine (K.out _).mono ?_
          rintro e w' ⟨rfl, rfl⟩
          go_wp2
          go_round
          case rel => exact ⟨k + 1, by omega, by go_num, HN2⟩
          case measure => simp [intOf]; omega
    · obtain rfl : k = s.size := by omega
      have ht : (bs s).take s.size = bs s := List.take_of_length_le (by omega)
      have HV := Lib.hid (show tagB (bs s) = (decide (1 ≤ s.size) && decide (s.size ≤ 20)) by
        have := HA.out
        rw [ht] at this
        rw [tagB, List.all_eq_true.2 this, Bool.true_and, zl])
      by_cases h1 : 1 ≤ s.size
      · have HV2 := Lib.hid (show tagB (bs s) = decide ((s.size : Int) ≤ 20) by rw [HV.out, decide_eq_true h1, Bool.true_and, decide_eq_decide]; omega)
        have h1i : (1 : Int) ≤ (s.size : Int) := by omega
        go_wp2
        go_ret
        exact ⟨by rw [HV2.out]; rfl, rfl⟩
      · have HV2 := Lib.hid (show tagB (bs s) = false by rw [HV.out, decide_eq_false h1]; rfl)
        have h1i : ¬ (1 : Int) ≤ (s.size : Int) := by omega
        go_wp2
        go_ret
        exact ⟨by rw [HV2.out]; rfl, rfl⟩
end Go.Proofs.YtgmfhldfdnnafaaGreatDoor
namespace Go.Proofs.YtgmfhldfdnnafaaGreatDoor
open Go.RowKit
open Pl (Bs numOk numN)
set_option linter.unusedSimpArgs false
set_option linter.unusedVariables false
/-- a text's tag, off its first blank -/
def tagR (l : Bs) : Bs := if (32 : UInt8) ∈ l ∧ tagB (l.takeWhile (· != 32)) = true then l.takeWhile (· != 32) else [42]
theorem take_until (l : Bs) (k : Nat) (hk : k < l.length) (h1 : ∀ c ∈ l.take k, c ≠ 32) (h2 : l[k] = 32) : l.takeWhile (· != 32) = l.take k ∧ (32 : UInt8) ∈ l := by
  refine ⟨?_, h2 ▸ List.getElem_mem hk⟩
  induction l generalizing k with
  | nil => simp at hk
  | cons a l ih =>
    cases k with
    | zero => simp at h2; simp [h2]
    | succ k =>
      have ha : a ≠ 32 := h1 a (by simp)
      rw [List.takeWhile_cons, if_pos (by simpa using ha), List.take_succ_cons]
      rw [ih k (by simpa using hk) (fun c hc => h1 c (by simp [hc])) (by simpa using h2)]
theorem str_ex (s : ByteArray) (k : Nat) : s.extract 0 k = str ((bs s).take k) := by
  have h := str_take (bs s) k
  rw [show str (bs s) = s from rfl] at h
  exact h
set_option maxHeartbeats 4000000 in
set_option maxRecDepth 100000 in
theorem refTag_in (s : ByteArray) (w : World) (hs : s.size ≤ 1000000) :
    Calls Tryz.prog 11 #[.string s] w fun e w' => e = .returned (.string (str (tagR (bs s)))) ∧ w' = w := by
  have zl : (bs s).length = s.size := bs_size s
  go_enter Tryz.func11, Tryz.ntmps11
  go_wp2
  go_loop [3] (fun i => ∃ k : Nat, k ≤ s.size ∧ i = .int .i64 k ∧ Hid (∀ c ∈ (bs s).take k, c ≠ 32)) (fun i => s.size - (intOf i).toNat)
  case atStart => exact ⟨0, Nat.zero_le _, rfl, Lib.hid (fun c h => by simp at h)⟩
  case round =>
    obtain ⟨k, hk, rfl, HA⟩ := hrel
    by_cases hlt : k < s.size
    · have hat := at_bs s k hlt
      have hce : (s[k] = 32) ↔ ((s[k].toNat : Int) = 32) := byte_eq s[k] 32 (by decide)
      by_cases h32 : (s[k].toNat : Int) = 32
      · have HT := Lib.hid (take_until (bs s) k (by omega) HA.out (hat.trans (hce.2 h32)))
        have HX := Lib.hid (str_ex s k)
        have HR := Lib.hid (show tagR (bs s) = if tagB ((bs s).take k) = true then (bs s).take k else [42] by
          rw [tagR, HT.out.1]; simp [HT.out.2])
        have K := Lib.hid (fun W => tagged_in (s.extract 0 k) W (by rw [HX.out, str_size, List.length_take]; omega))
        have hbx : bs (s.extract 0 k) = (bs s).take k := by rw [HX.out, bs_str]
        rw [hbx] at K
        have g32 : ((s[k].toNat : Int) == 32) = true := beq_iff_eq.2 h32
        clear hat hce h32 hbx
        cases ht : tagB ((bs s).take k) with
        | false =>
          rw [ht] at K
          have HV := Lib.hid (show tagR (bs s) = [42] by rw [HR.out, ht]; rfl)
          clear ht
          go_wp2_with fail
          refine (K.out _).mono ?_
          rintro e w' ⟨rfl, rfl⟩
          go_wp2
          go_ret
          exact ⟨by rw [HV.out]; rfl, rfl⟩
        | true =>
          rw [ht] at K
          have HV := Lib.hid (show str (tagR (bs s)) = s.extract 0 k by rw [HR.out, ht, HX.out]; rfl)
          clear ht
          go_wp2_with fail
          refine (K.out _).mono ?_
          rintro e w' ⟨rfl, rfl⟩
          go_wp2
          go_ret
          exact ⟨by rw [HV.out]; rfl, rfl⟩
      · have HN := Lib.hid (show ∀ c ∈ (bs s).take (k + 1), c ≠ 32 from fun c hc => by
          rw [List.take_succ_eq_append_getElem (by omega), List.mem_append] at hc
          rcases hc with hc | hc
          · exact HA.out c hc
          · rw [List.mem_singleton.1 hc, hat]; exact fun e => h32 (hce.1 e))
        have g32 : ((s[k].toNat : Int) == 32) = false := beq_eq_false_iff_ne.2 h32
        clear hat hce h32
        go_wp2
        go_round
        case rel => exact ⟨k + 1, by omega, by go_num, HN⟩
        case measure => simp [intOf]; omega
    · obtain rfl : k = s.size := by omega
      have ht : (bs s).take s.size = bs s := List.take_of_length_le (by omega)
      have HV := Lib.hid (show tagR (bs s) = [42] by
        have := HA.out
        rw [ht] at this
        rw [tagR, if_neg (fun h => this 32 h.1 rfl)])
      go_wp2
      go_ret
      exact ⟨by rw [HV.out]; rfl, rfl⟩
end Go.Proofs.YtgmfhldfdnnafaaGreatDoor
namespace Go.Proofs.YtgmfhldfdnnafaaGreatDoor
open Go.RowKit
open Pl (Bs numOk numN)
set_option linter.unusedSimpArgs false
set_option linter.unusedVariables false
theorem index_one (l : Bs) : (Lib.index l [32] = -1 ∧ (32 : UInt8) ∉ l) ∨ (Lib.index l [32] = ((l.takeWhile (· != 32)).length : Nat) ∧ (32 : UInt8) ∈ l) := by
  induction l with
  | nil => exact .inl ⟨rfl, by simp⟩
  | cons a l ih =>
    by_cases ha : a = 32
    · subst ha
      exact .inr ⟨by simp [Lib.index], by simp⟩
    · have hp : ([32] : Bs).isPrefixOf (a :: l) = false := by simp [List.isPrefixOf, Ne.symm ha]
      have ht : (a :: l).takeWhile (· != 32) = a :: l.takeWhile (· != 32) := by rw [List.takeWhile_cons, if_pos (by simpa using ha)]
      rcases ih with ⟨e, h⟩ | ⟨e, h⟩
      · refine .inl ⟨?_, by simp [h, Ne.symm ha]⟩
        rw [Lib.index, hp, e]; simp
      · refine .inr ⟨?_, by simp [h]⟩
        rw [Lib.index, hp, e, ht, List.length_cons]
        rw [if_neg (by simp), if_neg (by simp)]; omega
theorem tag_eq (l : Bs) : tagT l = tagR l := by
  unfold tagT tagR Lib.cut
  rcases index_one l with ⟨e, h⟩ | ⟨e, h⟩
  · have z : ¬ (0 : Int) ≤ -1 := by decide
    rw [e]
    simp only [if_neg z, h, false_and, if_false, Bool.false_eq_true]
  · have ht : l.take (l.takeWhile (· != 32)).length = l.takeWhile (· != 32) := (List.prefix_iff_eq_take.1 (List.takeWhile_prefix _)).symm
    have z : (0 : Int) ≤ (((l.takeWhile (· != 32)).length : Nat) : Int) := by omega
    rw [e]
    simp only [if_pos z, Int.toNat_natCast, ht, h, true_and]
end Go.Proofs.YtgmfhldfdnnafaaGreatDoor
namespace Go.Proofs.YtgmfhldfdnnafaaGreatDoor
open Go.RowKit
open Pl (Bs numOk numN)
set_option linter.unusedSimpArgs false
set_option linter.unusedVariables false
theorem data_at (s : ByteArray) (k : Nat) (h : k < s.size) : s.data[k]! = s[k] := by
  rw [getElem!_pos s.data k h]; rfl
/-- what the document's literal is, off the last brace's place -/
def lineR (s : ByteArray) : Option Nat :=
  if 3 ≤ s.size ∧ (bs s).getLast? = some 125 then
    (if Lib.lastIndexByte s 123 < 0 then none else countB (((bs s).take (s.size - 1)).drop ((Lib.lastIndexByte s 123).toNat + 1)) 100000)
  else none
/-- the place does not change where the last byte is no '{' -/
theorem last_idx_take (l : Bs) (c : Int) : ∀ k : Nat, k ≤ l.length → ∀ m : Bs, Lib.lastIdx (str (l ++ m)) c k = Lib.lastIdx (str l) c k
  | 0, _, _ => rfl
  | k + 1, h, m => by
    have e : (str (l ++ m)).data[k]! = (str l).data[k]! := by
      rw [data_at _ _ (by rw [str_size]; simp; omega), data_at _ _ (by rw [str_size]; omega)]
      show (l ++ m)[k]'_ = l[k]'_
      exact List.getElem_append_left (by omega)
    rw [Lib.lastIdx, Lib.lastIdx, e, last_idx_take l c k (by omega) m]
end Go.Proofs.YtgmfhldfdnnafaaGreatDoor
namespace Go.Proofs.YtgmfhldfdnnafaaGreatDoor
open Go.RowKit
open Pl (Bs numOk numN)
set_option linter.unusedSimpArgs false
set_option linter.unusedVariables false
/-- a count, or -1 -/
def litI : Option Nat → Int
  | none => -1
  | some n => n
theorem refCount_walk (l : Bs) (m : Nat) (hl : l.length ≤ 1000000) (w : World) :
    Calls Tryz.prog 21 #[.string (str l), .int .i64 (m : Int)] w fun e w' => e = .returned (.int .i64 (litI (countB l m))) ∧ w = w' := by
  have K := Lib.hid (refNumber_walk (str l) w (by rw [str_size]; omega))
  by_cases h0 : l = [48]
  · subst h0
    have HV := Lib.hid (show countB [48] m = some 0 by rw [countB, if_pos rfl])
    have e48 : ((str [48]).toList == [48]) = true := by rw [Lib.toList_data]; rfl
    go_enter Tryz.func21, Tryz.ntmps21
    go_wp2
    go_ret
    exact ⟨by rw [HV.out]; rfl, rfl⟩
  · have h0'' : ((str l).toList == [48]) = false := by
      rw [Lib.toList_data]; simpa [str] using h0
    rw [bs_str] at K
    have HT := Lib.hid (show countB l m = if numOk l = true ∧ numN l ≤ m then some (numN l) else none by rw [countB, if_neg h0])
    have HZ := Lib.hid (fun (h : numOk l = false) => Pl.numN_zero l h)
    have HP := Lib.hid (fun (h : numOk l = true) => Pl.numN_pos l h)
    clear h0
    cases hok : numOk l with
    | false =>
      have hz := HZ.out hok
      have HV := Lib.hid (show countB l m = none by rw [HT.out, if_neg (by simp [hok])])
      rw [hz] at K
      clear hok hz
      go_enter Tryz.func21, Tryz.ntmps21
      go_wp2_with fail
      refine K.out.mono ?_
      rintro e w1 ⟨rfl, rfl⟩
      go_wp2
      go_ret
      exact ⟨by rw [HV.out]; rfl, rfl⟩
    | true =>
      have hp : 0 < numN l := by have := HP.out hok; omega
      by_cases hm : numN l ≤ m
      · have HV := Lib.hid (show countB l m = some (numN l) by rw [HT.out, if_pos ⟨hok, hm⟩])
        clear hok HT HZ HP
        generalize numN l = n at *
        have g0 : ((n : Int) == 0) = false := beq_eq_false_iff_ne.2 (by omega)
        have g1 : ¬ (m : Int) < (n : Int) := by omega
        go_enter Tryz.func21, Tryz.ntmps21
        go_wp2_with fail
        refine K.out.mono ?_
        rintro e w1 ⟨rfl, rfl⟩
        go_wp2
        go_ret
        exact ⟨by rw [HV.out]; rfl, rfl⟩
      · have HV := Lib.hid (show countB l m = none by rw [HT.out, if_neg (fun h => hm h.2)])
        clear hok HT HZ HP
        generalize numN l = n at *
        have g0 : ((n : Int) == 0) = false := beq_eq_false_iff_ne.2 (by omega)
        have g1 : (m : Int) < (n : Int) := by omega
        go_enter Tryz.func21, Tryz.ntmps21
        go_wp2_with fail
        refine K.out.mono ?_
        rintro e w1 ⟨rfl, rfl⟩
        go_wp2
        go_ret
        exact ⟨by rw [HV.out]; rfl, rfl⟩
end Go.Proofs.YtgmfhldfdnnafaaGreatDoor
namespace Go.Proofs.YtgmfhldfdnnafaaGreatDoor
open Go.RowKit
open Pl (Bs numOk numN)
set_option linter.unusedSimpArgs false
set_option linter.unusedVariables false
theorem last_bs (s : ByteArray) (h : 0 < s.size) : (bs s).getLast? = some (s[s.size - 1]'(by omega)) := by
  rw [List.getLast?_eq_getElem?, bs_size, List.getElem?_eq_getElem (by rw [bs_size]; omega), at_bs s (s.size - 1) (by omega)]
set_option maxHeartbeats 2000000 in
set_option maxRecDepth 100000 in
theorem refLit_short (s : ByteArray) (w : World) (h : s.size < 3) :
    Calls Tryz.prog 9 #[.string s] w fun e w' => e = .returned (.int .i64 (litI (lineR s))) ∧ w = w' := by
  have HV := Lib.hid (show lineR s = none by rw [lineR, if_neg (fun x => by omega)])
  have g : (s.size : Int) < 3 := by omega
  go_enter Tryz.func9, Tryz.ntmps9
  go_wp2
  go_ret
  exact ⟨by rw [HV.out]; rfl, rfl⟩
set_option maxHeartbeats 2000000 in
set_option maxRecDepth 100000 in
theorem refLit_open (s : ByteArray) (w : World) (h : 3 ≤ s.size) (hs : s.size ≤ 1000000) (hb : ¬ ((s[s.size - 1]'(by omega)).toNat : Int) = 125) :
    Calls Tryz.prog 9 #[.string s] w fun e w' => e = .returned (.int .i64 (litI (lineR s))) ∧ w = w' := by
  have HV := Lib.hid (show lineR s = none by
    rw [lineR, if_neg]
    rintro ⟨_, x⟩
    rw [last_bs s (by omega)] at x
    exact hb ((byte_eq _ 125 (by decide)).1 (Option.some.inj x)))
  have g : ¬ (s.size : Int) < 3 := by omega
  have g1 : IntKind.i64.wrap ((s.size : Int) - 1) = ((s.size - 1 : Nat) : Int) := by rw [IntWalk.i64_in _ (by omega)]; omega
  have g2 : (((s[s.size - 1]'(by omega)).toNat : Int) == 125) = false := beq_eq_false_iff_ne.2 hb
  have g3 : s.size - 1 < s.size := by omega
  go_enter Tryz.func9, Tryz.ntmps9
  go_wp2
  go_ret
  exact ⟨by rw [HV.out]; rfl, rfl⟩
end Go.Proofs.YtgmfhldfdnnafaaGreatDoor
namespace Go.Proofs.YtgmfhldfdnnafaaGreatDoor
open Go.RowKit
open Pl (Bs numOk numN)
set_option linter.unusedSimpArgs false
set_option linter.unusedVariables false
set_option maxHeartbeats 4000000 in
set_option maxRecDepth 100000 in
theorem refLit_loop (s : ByteArray) (w : World) (h : 3 ≤ s.size) (hs : s.size ≤ 1000000) (hb : ((s[s.size - 1]'(by omega)).toNat : Int) = 125) :
    Calls Tryz.prog 9 #[.string s] w fun e w' => e = .returned (.int .i64 (litI (lineR s))) ∧ w = w' := by
  have hL : (bs s).getLast? = some 125 := by rw [last_bs s (by omega)]; exact congrArg some ((byte_eq _ 125 (by decide)).2 hb)
  have HR := Lib.hid (show lineR s = if Lib.lastIndexByte s 123 < 0 then none else countB (((bs s).take (s.size - 1)).drop ((Lib.lastIndexByte s 123).toNat + 1)) 100000 by rw [lineR, if_pos ⟨h, hL⟩])
  have H0 := Lib.hid (show Lib.lastIndexByte s 123 = Lib.lastIdx s 123 (s.size - 1 + 1) by rw [show s.size - 1 + 1 = s.size by omega]; rfl)
  have g : ¬ (s.size : Int) < 3 := by omega
  have g1 : IntKind.i64.wrap ((s.size : Int) - 1) = ((s.size - 1 : Nat) : Int) := by rw [IntWalk.i64_in _ (by omega)]; omega
  have g2 : (((s[s.size - 1]'(by omega)).toNat : Int) == 125) = true := beq_iff_eq.2 hb
  have g3 : s.size - 1 < s.size := by omega
  clear hL hb
  go_enter Tryz.func9, Tryz.ntmps9
  go_wp2
  go_loop [3] (fun i => ∃ k : Nat, k < s.size ∧ i = .int .i64 k ∧ Hid (Lib.lastIndexByte s 123 = Lib.lastIdx s 123 (k + 1))) (fun i => (intOf i).toNat)
  case atStart => exact ⟨s.size - 1, g3, rfl, H0⟩
  case round =>
    obtain ⟨k, hk, rfl, HA⟩ := hrel
    have hd := data_at s k hk
    by_cases h3 : (s[k].toNat : Int) = 123
    · have e3 : ((s[k].toNat : Int) == 123) = true := beq_iff_eq.2 h3
      have HK := Lib.hid (show Lib.lastIndexByte s 123 = (k : Int) by rw [HA.out, Lib.lastIdx_hit s 123 k (by rw [hd]; exact h3)])
      have HV := Lib.hid (show lineR s = countB (((bs s).take (s.size - 1)).drop (k + 1)) 100000 by rw [HR.out, HK.out, if_neg (by omega), Int.toNat_natCast])
      have hk2 : k + 1 ≤ s.size - 1 := by
        by_cases hz : k = s.size - 1
        · subst hz; rw [beq_iff_eq] at g2; omega
        · omega
      have hk3 : ((k + 1 : Nat) : Int) ≤ ((s.size - 1 : Nat) : Int) := by omega
      have w1 : IntKind.i64.wrap ((k : Int) + 1) = ((k + 1 : Nat) : Int) := by rw [IntWalk.i64_in _ (by omega)]; omega
      have HX := Lib.hid (show s.extract (k + 1) (s.size - 1) = str (((bs s).take (s.size - 1)).drop (k + 1)) from bs_inj (by rw [bs_str]; simp [bs, List.extract_eq_take_drop, List.drop_take]))
      have K := Lib.hid (fun W => refCount_walk (((bs s).take (s.size - 1)).drop (k + 1)) 100000 (by rw [List.length_drop, List.length_take, bs_size]; omega) W)
      clear hd h3 HA HR H0
      by_cases h0 : k = 0
      · have hp : ¬ (0 : Int) < (k : Int) := by omega
        clear h0
        go_wp2_with fail
        refine Calls.mono (by rw [HX.out]; exact K.out _) ?_
        rintro e w' ⟨rfl, rfl⟩
        go_wp2
        go_ret
        exact ⟨by rw [HV.out]; rfl, rfl⟩
      · have hp : (0 : Int) < (k : Int) := by omega
        go_wp2_with fail
        refine Calls.mono (by rw [HX.out]; exact K.out _) ?_
        rintro e w' ⟨rfl, rfl⟩
        go_wp2
        go_ret
        exact ⟨by rw [HV.out]; rfl, rfl⟩
    · have e3 : ((s[k].toNat : Int) == 123) = false := beq_eq_false_iff_ne.2 h3
      have HM := Lib.hid (HA.out.trans (Lib.lastIdx_miss s 123 k (by rw [hd]; exact h3)))
      clear hd h3
      by_cases h0 : k = 0
      · subst h0
        have HV := Lib.hid (show lineR s = none by rw [HR.out, if_pos (by rw [HM.out]; exact (by decide : (-1 : Int) < 0))])
        go_wp2
        go_ret
        exact ⟨by rw [HV.out]; rfl, rfl⟩
      · have hp : (0 : Int) < (k : Int) := by omega
        have w1 : IntKind.i64.wrap ((k : Int) - 1) = ((k - 1 : Nat) : Int) := by rw [IntWalk.i64_in _ (by omega)]; omega
        have HN := Lib.hid (show Lib.lastIndexByte s 123 = Lib.lastIdx s 123 (k - 1 + 1) by rw [show k - 1 + 1 = k by omega]; exact HM.out)
        go_wp2
        go_round
        case rel => exact ⟨k - 1, by omega, rfl, HN⟩
        case measure => simp [intOf]; omega
end Go.Proofs.YtgmfhldfdnnafaaGreatDoor
namespace Go.Proofs.YtgmfhldfdnnafaaGreatDoor
open Go.RowKit
open Pl (Bs numOk numN)
set_option linter.unusedSimpArgs false
set_option linter.unusedVariables false
theorem suffix_last (l : Bs) : Lib.hasSuffix l [125] = true ↔ ∃ X, l = X ++ [125] := by
  rw [Lib.hasSuffix, List.isSuffixOf_iff_suffix]
  constructor
  · rintro ⟨X, e⟩; exact ⟨X, e.symm⟩
  · rintro ⟨X, e⟩; exact ⟨X, e.symm⟩
theorem trim_last (X : Bs) : Lib.trimSuffix (X ++ [125]) [125] = X := by
  rw [Lib.trimSuffix, if_pos ((suffix_last _).2 ⟨X, rfl⟩)]
  simp
theorem at_last (X : Bs) : Lib.lastIndexByte (str (X ++ [125])) 123 = Lib.lastIndexByte (str X) 123 := by
  show Lib.lastIdx (str (X ++ [125])) 123 (str (X ++ [125])).size = Lib.lastIdx (str X) 123 (str X).size
  rw [str_size, str_size, List.length_append, List.length_singleton, Lib.lastIdx_miss, last_idx_take X 123 X.length (Nat.le_refl _)]
  rw [data_at _ _ (by rw [str_size]; simp)]
  have e : ∀ h : X.length < (str (X ++ [125])).size, (str (X ++ [125]))[X.length] = 125 := fun h => by
    have e2 := at_bs (str (X ++ [125])) X.length h
    rw [← e2]
    have e3 : (X ++ [125])[X.length]'(by simp) = 125 := by simp
    exact e3
  rw [e]; decide
theorem lineR_str (X : Bs) : lineR (str (X ++ [125])) = litB (X ++ [125]) := by
  have hs : (str (X ++ [125])).size = X.length + 1 := by rw [str_size]; simp
  unfold lineR litB litAt
  rw [if_pos ((suffix_last _).2 ⟨X, rfl⟩), trim_last, at_last, hs, bs_str]
  have ht : (X ++ [125]).take (X.length + 1 - 1) = X := by simp
  rw [ht]
  by_cases h : 3 ≤ X.length + 1
  · rw [if_pos ⟨h, by simp⟩]
  · rw [if_neg (fun x => h x.1)]
    by_cases hn : Lib.lastIndexByte (str X) 123 < 0
    · rw [if_pos hn]
    · rw [if_neg hn]
      have : X.drop ((Lib.lastIndexByte (str X) 123).toNat + 1) = [] := List.drop_eq_nil_of_le (by omega)
      rw [this]; rfl
theorem lit_no (l : Bs) (h : Lib.hasSuffix l [125] = false) : litB l = none := by unfold litB; rw [h]; rfl
theorem lineR_eq (s : ByteArray) : lineR s = litB (bs s) := by
  by_cases h : Lib.hasSuffix (bs s) [125] = true
  · obtain ⟨X, e⟩ := (suffix_last _).1 h
    have := lineR_str X
    rw [← e] at this
    exact this
  · rw [lit_no _ (Bool.eq_false_iff.2 h), lineR, if_neg]
    rintro ⟨_, x⟩
    obtain ⟨X, e⟩ := List.getLast?_eq_some_iff.1 x
    exact h ((suffix_last _).2 ⟨X, e⟩)
theorem refLit_walk (s : ByteArray) (w : World) (hs : s.size ≤ 1000000) :
    Calls Tryz.prog 9 #[.string s] w fun e w' => e = .returned (.int .i64 (litI (litB (bs s)))) ∧ w = w' := by
  rw [← lineR_eq]
  by_cases h : s.size < 3
  · exact refLit_short s w h
  · by_cases hb : ((s[s.size - 1]'(by omega)).toNat : Int) = 125
    · exact refLit_loop s w (by omega) hs hb
    · exact refLit_open s w (by omega) hs hb
end Go.Proofs.YtgmfhldfdnnafaaGreatDoor
namespace Go.Proofs.YtgmfhldfdnnafaaGreatDoor
open Go.RowKit
open Pl (Bs numOk numN)
set_option linter.unusedSimpArgs false
set_option linter.unusedVariables false
/-- what the laws need of the package's variables, now and later -/
def EnvW (G : Glob) (w : World) : Prop := 21 ≤ w.heap.size ∧ ∀ W, Below w.heap.size w W → ∀ B, 20 ≤ B → B < W.heap.size → EnvI G W B
theorem EnvW.now {G : Glob} {w : World} (h : EnvW G w) : EnvI G w 20 := h.2 w (Below.refl _ _) 20 (Nat.le_refl _) h.1
theorem EnvW.then {G : Glob} {w w1 : World} (h : EnvW G w) (hB : Below w.heap.size w w1) : EnvW G w1 :=
  ⟨Nat.le_trans h.1 hB.size, fun W hW B h1 h2 => h.2 W (hB.trans (hW.mono hB.size)) B h1 h2⟩
theorem alive21 (G : Glob) (w : World) (h : EnvW G w) : Calls Tryz.prog 7 #[] w fun e w' => e = .returned (.bool true) ∧ Below w.heap.size w w' :=
  alive21_walk G w (by have := h.1; omega) (fun W hW B h1 h2 => h.2 W hW B (by have := h.1; omega) h2)
theorem str_of (s : ByteArray) : str (bs s) = s := rfl
set_option maxHeartbeats 4000000 in
set_option maxRecDepth 100000 in
theorem imapLines_walk (G : Glob) (s : ByteArray) (w : World) (hs : s.size ≤ 140737488351232) (hE : EnvW G w) :
    Calls Tryz.prog 3 #[.string s] w fun e w' => e = .returned (.bool true) ∧ Below w.heap.size w w' := by
  have HAl := Lib.hid (alive21 G w hE)
  have HE := Lib.hid hE
  clear hE
  by_cases hz : s.size ≤ 5000
  · have hl : (bs s).length ≤ 1000000 := by rw [bs_size]; omega
    have KL := Lib.hid (fun W (h : EnvW G W) => Literal_walk G 20 (bs s) hl W h.now)
    have KR := Lib.hid (fun W => refLit_walk s W (by omega))
    have KT := Lib.hid (fun W (h : EnvW G W) => Tag_walk (bs s) G.max hl W h.now.max)
    have KQ := Lib.hid (fun W => refTag_in s W (by omega))
    rw [← tag_eq] at KQ
    rw [str_of] at KL KT
    generalize str (tagT (bs s)) = T at *
    have HB0 := Lib.hid (Below.refl w.heap.size w)
    cases hb : litB (bs s) with
    | none =>
      rw [hb] at KL KR
      have e1 : litI none = -1 := rfl
      have e2 : (((none : Option Nat).getD 0 : Nat) : Int) = 0 := rfl
      have e3 : (none : Option Nat).isSome = false := rfl
      rw [e1] at KR
      rw [e2, e3] at KL
      clear e1 e2 e3 hb hl
      go_enter Tryz.func3, Tryz.ntmps3
      go_wp2_with fail
      refine HAl.out.mono ?_
      rintro e w1 ⟨rfl, hB1⟩
      have HB1 := Lib.hid hB1
      have HE1 := Lib.hid (HE.out.then hB1)
      clear hB1
      go_wp2_with fail
      refine (KL.out w1 HE1.out).mono ?_
      rintro e w2 ⟨rfl, hB2⟩
      have HB2 := Lib.hid (below_then HB1.out hB2)
      have HE2 := Lib.hid (HE1.out.then hB2)
      clear hB2
      go_wp2_with fail
      refine (KR.out w2).mono ?_
      rintro e w3 ⟨rfl, rfl⟩
      go_wp2_with fail
      refine (KT.out w2 HE2.out).mono ?_
      rintro e w3 ⟨rfl, hB3⟩
      have HB3 := Lib.hid (below_then HB2.out hB3)
      clear hB3
      go_wp2_with fail
      refine (KQ.out w3).mono ?_
      rintro e w4 ⟨rfl, rfl⟩
      go_wp2
      go_ret
      exact ⟨rfl, HB3.out⟩
    | some n =>
      rw [hb] at KL KR
      have e1 : litI (some n) = (n : Int) := rfl
      have e2 : (((some n : Option Nat).getD 0 : Nat) : Int) = (n : Int) := rfl
      have e3 : (some n : Option Nat).isSome = true := rfl
      rw [e1] at KR
      rw [e2, e3] at KL
      clear e1 e2 e3 hb hl
      have hn : (0 : Int) ≤ (n : Int) := by omega
      go_enter Tryz.func3, Tryz.ntmps3
      go_wp2_with fail
      refine HAl.out.mono ?_
      rintro e w1 ⟨rfl, hB1⟩
      have HB1 := Lib.hid hB1
      have HE1 := Lib.hid (HE.out.then hB1)
      clear hB1
      go_wp2_with fail
      refine (KL.out w1 HE1.out).mono ?_
      rintro e w2 ⟨rfl, hB2⟩
      have HB2 := Lib.hid (below_then HB1.out hB2)
      have HE2 := Lib.hid (HE1.out.then hB2)
      clear hB2
      go_wp2_with fail
      refine (KR.out w2).mono ?_
      rintro e w3 ⟨rfl, rfl⟩
      go_wp2_with fail
      refine (KT.out w2 HE2.out).mono ?_
      rintro e w3 ⟨rfl, hB3⟩
      have HB3 := Lib.hid (below_then HB2.out hB3)
      clear hB3
      go_wp2_with fail
      refine (KQ.out w3).mono ?_
      rintro e w4 ⟨rfl, rfl⟩
      go_wp2
      go_ret
      exact ⟨rfl, HB3.out⟩
  · go_enter Tryz.func3, Tryz.ntmps3
    go_wp2_with fail
    refine HAl.out.mono ?_
    rintro e w1 ⟨rfl, hB1⟩
    have HB1 := Lib.hid hB1
    clear hB1
    go_wp2
    go_ret
    exact ⟨rfl, HB1.out⟩
end Go.Proofs.YtgmfhldfdnnafaaGreatDoor
namespace Go.Proofs.YtgmfhldfdnnafaaGreatDoor
open Go Go.RowKit
set_option linter.unusedVariables false
/-- the wrap with a further condition, the world's shape kept -/
theorem returns_and_shaped {H : Type} {enc : TypeId × Value → H} {a : Assume} {C : Checked} {os : Os} {f : FuncId} {fn : Func} {s : ChangeSpec} {conds : List PathCond} {apart fresh handsOn again : Bool} {X : World → Array Value → Prop}
    (hX : ∀ (w w' : World) (args : Array Value), w.heap = w'.heap → X w args → X w' args)
    (own : ownKnob C.prog.godebug = none) (started : os.Started) (noInit : C.prog.inits.idxOf? f = none) (hfn : C.prog.funcs[f]? = some fn)
    (witness : ∃ (w : World) (tape : Tape) (i : Input), w.os = os ∧ (w.forCall tape i).Shaped C.prog ∧ i.vars = [] ∧ Input.okWide C.prog (w.forCall tape i) .any w.heap.size f i ∧
      ((s.pre enc C.prog fn conds apart (w.forCall tape i).memory i.args ∧ X (w.forCall tape i).memory i.args) ∧ sizedMet enc C.prog fn (OpenSpec.ofChange s) apart (w.forCall tape i).memory i.args) ∧ a.holds C.prog (lone (Frame.enter C.prog f i.args .normal) [] (w.forCall tape i)))
    (contract : ∀ (W : World) (base : Nat) (args : Array Value) (ds gs : List (DataW H)) (before : List MemPlace),
      (∀ (j : Nat) t v, fn.params[j]? = some t → args[j]? = some v → Value.okWide C.prog W .any base t v) →
      DataW.Whole enc C.prog fn.params.toList s.vars apart W args.toList ds gs before →
      conds.all (PathCond.test C.prog ⟨fn.params.toList, ds, s.plain.varTypes C.prog, gs⟩) = true →
      (DataW.weightsEach C.prog (fn.params.toList ++ s.plain.varTypes C.prog) (ds ++ gs)).all (· ≤ reachBytes) = true → X W args → W.ShapedOpen C.prog →
      a.holds C.prog (lone (Frame.enter C.prog f args .normal) [] W) →
      Calls C.prog f args W fun e W' => ∃ v, e = .returned v ∧ s.post enc C.prog fn apart fresh handsOn again W args v W') :
    ReturnsInHanded a C os f .any (fun w args => (s.pre enc C.prog fn conds apart w args ∧ X w args) ∧ sizedMet enc C.prog fn (OpenSpec.ofChange s) apart w args) (s.post enc C.prog fn apart fresh handsOn again) := by
  refine returnsInHanded_of_calls own started noInit witness ?_
  intro w tape i _ hsh _ hok hpre hholds
  obtain ⟨_, _, _, fn', hfn', _, _, _, _, hval⟩ := hok
  have e : fn' = fn := Option.some.inj (hfn'.symm.trans hfn)
  subst e
  obtain ⟨⟨⟨ds, gs, before, hw, hc⟩, hx⟩, hz⟩ := hpre
  have hw' := DataW.Whole.of_heap (w' := w.forCall tape i) (by rfl) hw
  refine (contract (w.forCall tape i) w.heap.size i.args ds gs before hval hw' hc (hz.weights hw) (hX _ _ _ (by rfl) hx) hsh hholds).mono fun e W' ⟨v, he, hp⟩ => ?_
  subst he
  exact ChangeSpec.post_blind hp
theorem max_of {W : World} (h : W.ShapedOpen Tryz.prog) : ∃ m, W.cell? ⟨13, 0, none⟩ = some (.int .i64 m) :=
  cell_of_shapedOpen_int h (t := 3) (zero := #[.int .i64 0]) (of_decide_eq_true (by kernel_rfl)) (by kernel_rfl) rfl (by kernel_rfl) (by kernel_rfl) Tryz.underlying3
theorem room_of {W : World} (h : W.ShapedOpen Tryz.prog) : 21 ≤ W.heap.size := by
  obtain ⟨o, o0, e, _⟩ := h.2 20 (of_decide_eq_true (by kernel_rfl)) (of_decide_eq_true (by kernel_rfl))
  exact (Array.getElem?_eq_some_iff.1 e).1
theorem env_of {W : World} {l : List (String × DataW Unit)} {x1 x2 : List UInt8} (h : laidMet Tryz.prog l W) (i j : Nat) (h1 : l[i]? = some ("postbag/api.ErrRange", .iface "*errors.errorString" (.ptr (.agg [.lit (.string x1)])))) (h2 : l[j]? = some ("postbag/api.ErrForm", .iface "*errors.errorString" (.ptr (.agg [.lit (.string x2)])))) (hs : W.ShapedOpen Tryz.prog) : ∃ G, EnvW G W := by
  obtain ⟨a0, c0, _⟩ := sent_get h i h1 errTypes (g := 1) (by kernel_rfl) (by kernel_rfl)
  obtain ⟨a1, c1, _⟩ := sent_get h j h2 errTypes (g := 0) (by kernel_rfl) (by kernel_rfl)
  obtain ⟨m, hm⟩ := max_of hs
  have hz := room_of hs
  refine ⟨⟨.iface 200 (.pointer (some a1)), .iface 200 (.pointer (some a0)), m⟩, hz, fun W' hB B h20 hlt => ⟨?_, ?_, ?_, h20, hlt, ⟨_, _, rfl⟩, ⟨_, _, rfl⟩⟩⟩
  · exact (hB.cell (p := ⟨0, 0, none⟩) (Nat.lt_of_lt_of_le (by decide) hz)).trans c1
  · exact (hB.cell (p := ⟨1, 0, none⟩) (Nat.lt_of_lt_of_le (by decide) hz)).trans c0
  · exact (hB.cell (p := ⟨13, 0, none⟩) (Nat.lt_of_lt_of_le (by decide) hz)).trans hm
end Go.Proofs.YtgmfhldfdnnafaaGreatDoor
